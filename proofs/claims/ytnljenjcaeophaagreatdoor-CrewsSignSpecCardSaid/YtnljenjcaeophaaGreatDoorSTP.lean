/-
  Joined texts.
-/
import Derived.Test.YtnljenjcaeophaaGreatDoorSTJ
import Derived.Test.YtnljenjcaeophaaGreatDoorSTE
import Derived.Test.YtnljenjcaeophaaGreatDoorS9
import Derived.Test.YtnljenjcaeophaaGreatDoorSAB
set_option maxRecDepth 10000
set_option maxHeartbeats 4000000
set_option linter.unusedVariables false
set_option linter.unusedSimpArgs false
set_option linter.unusedSectionVars false
namespace Go.Proofs.YtnljenjcaeophaaGreatDoor
open Go.Xe Go.RowKit
def hshL (f : Nat → Bool → Dg) : Nat → List Dg
 | 0 => []
 | j + 1 => hshL f j ++ [f j false, f j true]
theorem hshL_len (f : Nat → Bool → Dg) : ∀ j, (hshL f j).length = 2 * j
 | 0 => rfl
 | j + 1 => by rw [hshL, List.length_append, hshL_len f j]; simp; omega
theorem hshL_flat (f : Nat → Bool → Dg) : ∀ j, (hshL f j).flatten = pubL f j
 | 0 => rfl
 | j + 1 => by rw [hshL, List.flatten_append, hshL_flat f j, pubL]; simp
theorem hshL_32 {f : Nat → Bool → Dg} (h : ∀ j b, (f j b).length = 32) : ∀ j, all32 (hshL f j)
 | 0 => fun d hd => by cases hd
 | j + 1 => fun d hd => by
  rcases List.mem_append.1 hd with hd | hd
  ·exact hshL_32 h j d hd
  ·simp at hd
   rcases hd with rfl | rfl
   ·exact h _ _
   ·exact h _ _
theorem hshL_one (f : Nat → Bool → Dg) : tagB (tB "one") (hshL f 64).flatten = pubB f := by rw [hshL_flat]; rfl
theorem set64 {a b : Dg} (ha : a.length = 32) (hb : b.length = 32) (Z : List AV) (hZ : Z.length = 64) : setL (setL Z 0 ((bys a).map .d)) 32 ((bys b).map .d) = (bys a).map .d ++ (bys b).map .d := by
 have la : ((bys a).map AV.d).length = 32 := by rw [List.length_map, bys_len, ha]
 have lb : ((bys b).map AV.d).length = 32 := by rw [List.length_map, bys_len, hb]
 have e : setL Z 0 ((bys a).map AV.d) = (bys a).map .d ++ Z.drop 32 := by
  rw [setL_eq _ _ _ (by omega), List.take_zero, List.nil_append, la]
 rw [e, setL_eq _ _ _ (by simp [la, lb, hZ]), lb, List.take_left' la, List.drop_of_length_le (by simp [bys_len, ha, hZ]), List.append_nil]
theorem refValid_ok (seed : List UInt8) (m u : Int) : Fn0 Tryz.prog 28 [keyD seed m u] (.v (.bool (keyV seed m u))) := by
 refine Fun.of_wp (pn := noPn) Tryz.tab Tryz.func28 rfl fun β0 => ?_
 simp only [Tryz.f28]
 repeat(first|apply wG|(apply wR;simp -dsimp [keyD, slB])|refine aI ?_)
 refine WP.ret (finQ.retE ?_)
 simp -dsimp
 refine leqB ?_
 rw [Bool.eq_iff_iff, keyV, decide_eq_true_iff]
 simp
 omega
def bI (b : Bool) : Int := if b = true then 1 else 0
theorem refSecret_ok (hsum : ∀ b : List UInt8, b.length ≤ 100000 → Fn0 Tryz.prog 190 [slB b] (dD (sumB b))) (seed : List UInt8) (hs : seed.length ≤ 1000) (m u : Int) (i : Nat) (hi : i < 65536) (j : Nat) (hj : j < 64) (b : Bool) :
  Fn0 Tryz.prog 125 [keyD seed m u, .v (.int .i64 i), .v (.int .i64 j), .v (.int .i64 (bI b))] (dD (secretB seed i j b)) := by
 have h183 := refTwo_ok i hi
 have l2 : (twoB i).length = 2 := rfl
 have e1 : IntKind.u8.wrap (j : Int) = ((UInt8.ofNat j).toNat : Int) := by rw [IntKind.wrap_u8, UInt8.toNat_ofNat']; omega
 have e2 : IntKind.u8.wrap (bI b) = (((if b = true then 1 else 0 : UInt8)).toNat : Int) := by cases b <;> decide
 have ho : (secretB seed i j b).length = 32 := tagB_len _ _
 rw [secretB] at ho ⊢
 generalize (if b = true then 1 else 0 : UInt8) = b1 at *
 generalize UInt8.ofNat j = j1 at *
 generalize twoB i = tw at *
 have ht := refTag_ok hsum ⟨#[115, 101, 99, 114, 101, 116]⟩ (by decide) (seed ++ (tw ++ [j1, b1])) (by simp; omega)
 rw [show (⟨#[115, 101, 99, 114, 101, 116]⟩ : ByteArray).data.toList = tB "secret" by decide +kernel] at ht
 have hlen : (seed ++ (tw ++ [j1, b1])).length = seed.length + 4 := by simp; omega
 rw [slB, hlen] at ht
 have eb : bys (seed ++ (tw ++ [j1, b1])) = bys seed ++ (bys tw ++ [D.v (.int .u8 (j1.toNat : Int)), D.v (.int .u8 (b1.toNat : Int))]) := by rw [bys, bys, bys, List.map_append, List.map_append]; rfl
 rw [eb] at ht
 generalize tagB (tB "secret") (seed ++ (tw ++ [j1, b1])) = r at *
 have htr : Fun Tryz.prog 129 [.d (.v (.string ⟨#[115, 101, 99, 114, 101, 116]⟩)), .row 1000] [(1000, .row 5 1 (seed.length + 4) ((bys seed ++ (bys tw ++ [D.v (.int .u8 (j1.toNat : Int)), D.v (.int .u8 (b1.toNat : Int))])).map .d))] (.d (dD r)) [] fun _ => False := Fun.ofRow 1000 (T := 5) (cs := bys seed ++ (bys tw ++ [D.v (.int .u8 (j1.toNat : Int)), D.v (.int .u8 (b1.toNat : Int))])) (args' := [.d (.v (.string ⟨#[115, 101, 99, 114, 101, 116]⟩)), .row 1000]) (bi' := [(1000, .row 5 1 (seed.length + 4) ((bys seed ++ (bys tw ++ [D.v (.int .u8 (j1.toNat : Int)), D.v (.int .u8 (b1.toNat : Int))])).map .d))]) ht rfl rfl trivial
 refine Fun.of_wp (pn := noPn) Tryz.tab Tryz.func125 rfl fun β0 => ?_
 simp only [Tryz.f125]
 repeat(first|apply wG|(apply wR;simp -dsimp [keyD, slB])|refine aI ?_)
 refine vcStop.call0 Tryz.body183 h183 rfl rfl (by simp) ?_
 simp -dsimp [slB]
 repeat(first|apply wG|(apply wR;simp -dsimp [slB, bys_len, l2, e1, e2])|refine aI ?_)
 refine vcStop.call Tryz.body129 (htr) (rl [(1000, 23)]) rfl rfl (by simp [l2, BoxLeq]) (CallOk.of (by simp [l2, BoxLeq]) rfl (by first | rfl | (simp [l2, BoxLeq]; done)) (by simp [l2, BoxLeq]) (by simp [l2, BoxLeq])) (fun _ h => h.elim) (fun ⟨_, h⟩ => h.elim) (fun ⟨_, h⟩ => h.elim) (by simp [l2, BoxLeq]) ?_
 simp -dsimp [dD]
 refine And.intro ⟨ho, fun a h => bysD_one h⟩ ?_
 repeat(first|apply wG|(apply wR;simp -dsimp [bys_len, ho])|refine aI ?_)
 refine WP.ret (finQ.retE ?_)
 simp -dsimp [setL_whole, bys_len, ho, bysA_take]
 exact Leq.aggD _
theorem hshK_32 (seed : List UInt8) (i : Nat) (j : Nat) (b : Bool) : (keyH seed i j b).length = 32 := tagB_len _ _
abbrev kyB (seed : List UInt8) (m u : Int) (i : Nat) : Bxs := [(1, .cells 76 [.d (slB seed), .d (.v (.int .i64 m)), .d (.v (.int .i64 u))]), (500, .row 102 32 i ((dgL (pubsB seed i)).map .d))]
abbrev kyS (seed : List UInt8) (m u : Int) (i : Nat) : St := mkS 38 [(1, .ptr 1 0), (3, .row 500), (4, .d (.v (.int .i64 i)))] (kyB seed m u i)
abbrev kyT (seed : List UInt8) (m u : Int) (i j : Nat) : St := mkS 38 [(1, .ptr 1 0), (3, .row 500), (4, .d (.v (.int .i64 i))), (5, .row 501), (6, .d (.v (.int .i64 j)))] (kyB seed m u i ++ [(501, .row 102 32 (2 * j) ((dgL (hshL (keyH seed i) j)).map .d))])
theorem refKeys_ok (hsum : ∀ b : List UInt8, b.length ≤ 100000 → Fn0 Tryz.prog 190 [slB b] (dD (sumB b))) (seed : List UInt8) (hs : seed.length ≤ 1000) (m : Nat) (hm : m ≤ 4096) (u : Int) : Fn0 Tryz.prog 122 [keyD seed m u] (slG (pubsB seed m)) := by
 refine Fun.of_wp (pn := noPn) Tryz.tab Tryz.func122 rfl fun β0 => ?_
 simp only [Tryz.f122]
 repeat(first|apply wG|(apply wR;simp -dsimp [keyD, slB])|refine aI ?_)
 refine WP.loopWk (fun q S => ∃ i : Nat, q = m - i ∧ i ≤ m ∧ S = kyS seed m u i) m (S0 := kyS seed m u 0) (Wk.go [] 7 500 (by decide) (by simp) (by simp) (by simp [slB, pubsB, dgL])) ⟨0, rfl, by omega, rfl⟩ ?_
 rintro _ _ ⟨i, rfl, hi, rfl⟩
 simp -dsimp
 repeat(first|apply wG|(apply wR;simp -dsimp)|refine aI ?_)
 by_cases him : i < m
 ·refine cT (by simp; omega) ?_
  refine WP.skip ?_
  have e1 : IntKind.i64.wrap ((i : Int) + 1) = ((i + 1 : Nat) : Int) := by rw [IntWalk.i64_in _ (by omega)]; omega
  have h32 := hshL_32 (hshK_32 seed i)
  have lh := hshL_len (keyH seed i)
  have hdl := dgL_len (pubsB_32 seed i)
  have hpl := pubsB_len seed i
  simp -dsimp [slB]
  repeat(first|apply wG|(apply wR;simp -dsimp [slB])|refine aI ?_)
  refine WP.loopWk (fun q S => ∃ j : Nat, q = 64 - j ∧ j ≤ 64 ∧ S = kyT seed m u i j) 64 (S0 := kyT seed m u i 0) (Wk.go [] 14 501 (by decide) (by simp) (by simp) (by simp [slB, hshL, dgL])) ⟨0, rfl, by omega, rfl⟩ ?_
  rintro _ _ ⟨j, rfl, hj, rfl⟩
  simp -dsimp
  repeat(first|apply wG|(apply wR;simp -dsimp)|refine aI ?_)
  by_cases hj64 : j < 64
  ·refine cT (by simp; omega) ?_
   refine WP.skip ?_
   have e2 : IntKind.i64.wrap ((j : Int) + 1) = ((j + 1 : Nat) : Int) := by rw [IntWalk.i64_in _ (by omega)]; omega
   have k0 := refSecret_ok hsum seed hs m u i (by omega) j hj64 false
   have k1 := refSecret_ok hsum seed hs m u i (by omega) j hj64 true
   have l0 : (secretB seed i j false).length = 32 := tagB_len _ _
   have l1 : (secretB seed i j true).length = 32 := tagB_len _ _
   have o0 := refHash_ok hsum (secretB seed i j false) l0
   have o1 := refHash_ok hsum (secretB seed i j true) l1
   have hnx : hshL (keyH seed i) (j + 1) = hshL (keyH seed i) j ++ [openB (secretB seed i j false), openB (secretB seed i j true)] := rfl
   have p0 : (openB (secretB seed i j false)).length = 32 := tagB_len _ _
   have p1 : (openB (secretB seed i j true)).length = 32 := tagB_len _ _
   have lhj := lh j
   have ldj := dgL_len (h32 j)
   rw [show bI false = 0 from rfl] at k0
   rw [show bI true = 1 from rfl] at k1
   generalize openB (secretB seed i j false) = q0 at *
   generalize openB (secretB seed i j true) = q1 at *
   generalize secretB seed i j false = r0 at *
   generalize secretB seed i j true = r1 at *
   generalize hshL (keyH seed i) j = H at *
   have hsn : dgL (H ++ [q0, q1]) = dgL H ++ (bys q0 ++ bys q1) := by rw [dgL_append, dgL, dgL, dgL, List.append_nil]
   simp -dsimp [slB]
   repeat(first|apply wG|(apply wR;simp -dsimp [slB])|refine aI ?_)
   refine vcStop.call0 Tryz.body125 k0 rfl rfl (by simp [keyD, slB]) ?_
   simp -dsimp
   repeat(first|apply wG|(apply wR;simp -dsimp)|refine aI ?_)
   refine vcStop.call0L Tryz.body126 o0 rfl rfl (And.intro (.refl _) trivial) ?_
   simp -dsimp
   repeat(first|apply wG|(apply wR;simp -dsimp [slB])|refine aI ?_)
   refine vcStop.call0 Tryz.body125 k1 rfl rfl (by simp [keyD, slB]) ?_
   simp -dsimp
   repeat(first|apply wG|(apply wR;simp -dsimp)|refine aI ?_)
   refine vcStop.call0L Tryz.body126 o1 rfl rfl (And.intro (.refl _) trivial) ?_
   simp -dsimp [dD, bys_len, p0, p1, setL_length, set64 p0 p1]
   refine And.intro ⟨fun a h => bysD_one h, fun a h => bysD_one h⟩ ?_
   repeat(first|apply wG|(apply wR;simp -dsimp)|refine aI ?_)
   refine loopW.next (kyT seed m u i (j + 1)) (Wk.go [30] 31 501 (by decide) (by simp) (by simp [e2]) (by simp [slB, hnx, hsn]; try omega)) (64 - (j + 1)) (by omega) ⟨j + 1, rfl, by omega, rfl⟩
  ·refine cF (by simp; omega) ?_
   refine WP.exit ?_
   obtain rfl : j = 64 := by omega
   have hon := refOne_ok hsum (hshL (keyH seed i) 64) (h32 64) (by rw [lh]; omega)
   rw [hshL_one, slG, show (hshL (keyH seed i) 64).length = 128 from lh 64] at hon
   have lp := pubB_len (keyH seed i)
   have hsu := pubsB_succ seed i
   have honr : Fun Tryz.prog 137 [.row 1000] [(1000, .row 102 32 128 ((dgL (hshL (keyH seed i) 64)).map .d))] (.d (dD (pubB (keyH seed i)))) [] fun _ => False := Fun.ofRow 1000 (T := 102) (cs := dgL (hshL (keyH seed i) 64)) (args' := [.row 1000]) (bi' := [(1000, .row 102 32 128 ((dgL (hshL (keyH seed i) 64)).map .d))]) hon rfl rfl trivial
   generalize pubB (keyH seed i) = P at *
   generalize hshL (keyH seed i) 64 = H at *
   simp -dsimp [slB]
   repeat(first|apply wG|(apply wR;simp -dsimp)|refine aI ?_)
   refine vcStop.call Tryz.body137 (honr) (rl [(1000, 501)]) rfl rfl (by simp [BoxLeq]) (CallOk.of (by simp [BoxLeq]) rfl (by first | rfl | (simp [BoxLeq]; done)) (by simp [BoxLeq]) (by simp [BoxLeq])) (fun _ h => h.elim) (fun ⟨_, h⟩ => h.elim) (fun ⟨_, h⟩ => h.elim) (by simp [BoxLeq]) ?_
   simp -dsimp [dD, setL_whole, bys_len, lp]
   refine And.intro (fun a h => bysD_one h) ?_
   repeat(first|apply wG|(apply wR;simp -dsimp [setL_whole, bys_len, lp])|refine aI ?_)
   refine loopW.next (kyS seed m u (i + 1)) (Wk.go [35] 36 500 (by decide) (by simp) (by simp [e1]) (by simp [slB, hsu, dgL_snoc])) (m - (i + 1)) (by omega) ⟨i + 1, rfl, by omega, rfl⟩
 ·refine cF (by simp; omega) ?_
  refine WP.exit ?_
  obtain rfl : i = m := by omega
  simp -dsimp
  repeat(first|apply wG|(apply wR;simp -dsimp)|refine aI ?_)
  refine WP.ret (finQ.retWE (Wk.freeze (k := 500) (T := 102) (sz := 32) (n := i) (ds := dgL (pubsB seed i)) (by simp)) ?_)
  simp -dsimp [slG, pubsB_len]
end Go.Proofs.YtnljenjcaeophaaGreatDoor
