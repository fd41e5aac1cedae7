/-
  Joined texts.
-/
import Derived.Test.YtnljenjcaeophaaGreatDoorS0
import Derived.Test.YtnljenjcaeophaaGreatDoorS9
import Derived.Test.YtnljenjcaeophaaGreatDoorSG
import Derived.Test.YtnljenjcaeophaaGreatDoorSM
set_option maxRecDepth 10000
set_option maxHeartbeats 4000000
set_option linter.unusedVariables false
set_option linter.unusedSimpArgs false
set_option linter.unusedSectionVars false
namespace Go.Proofs.YtnljenjcaeophaaGreatDoor
open Go.Xe Go.RowKit
theorem openedB_32 (seed : List UInt8) (i : Nat) (x : Nat → Bool) : ∀ n, all32 (openedB seed i x n)
 | 0 => fun d hd => by cases hd
 | n + 1 => fun d hd => by
  rcases List.mem_append.1 hd with hd | hd
  ·exact openedB_32 seed i x n d hd
  ·rw [List.mem_singleton] at hd; subst hd; exact tagB_len _ _
theorem closedB_32 (seed : List UInt8) (i : Nat) (x : Nat → Bool) : ∀ n, all32 (closedB seed i x n)
 | 0 => fun d hd => by cases hd
 | n + 1 => fun d hd => by
  rcases List.mem_append.1 hd with hd | hd
  ·exact closedB_32 seed i x n d hd
  ·rw [List.mem_singleton] at hd; subst hd; exact tagB_len _ _
theorem path_32 : ∀ (N : Nat) (l : List Dg) (i : Nat), l.length ≤ N → all32 (pathB l i)
 | 0, l, i, h => by rw [pathB_1 l i (by omega)]; exact fun _ h => by cases h
 | N + 1, l, i, h => by
  by_cases h1 : l.length ≤ 1
  ·rw [pathB_1 l i h1]; exact fun _ h => by cases h
  ·have hk := halfN_lt' h1
   have hp := halfN_pos l.length
   rw [pathB_2 l i (by omega)]
   split
   ·intro d hd
    rcases List.mem_append.1 hd with hd | hd
    ·exact path_32 N _ _ (by rw [List.length_take]; omega) d hd
    ·rw [List.mem_singleton] at hd; subst hd; exact treeB_len _
   ·intro d hd
    rcases List.mem_append.1 hd with hd | hd
    ·exact path_32 N _ _ (by rw [List.length_drop]; omega) d hd
    ·rw [List.mem_singleton] at hd; subst hd; exact treeB_len _
theorem boD_gE (f : List Bool) (i : Nat) (h : i < f.length) : ((boD f)[i]?).getD D.any = .v (.bool (f.getD i false)) := by
 simp [boD, List.getD_eq_getElem?_getD, h]
def kbB (seed : List UInt8) (m : Nat) (i : Nat) (msg : List UInt8) : Nat → Bool := bitB (treeB (pubsB seed m)) i msg
def sgnC (seed : List UInt8) (m : Nat) (i : Nat) (msg : List UInt8) : List D := sigC i (openedB seed i (kbB seed m i msg) 64) (closedB seed i (kbB seed m i msg) 64) (pathB (pubsB seed m) i)
abbrev zsC : List D := [.v (.int .i64 0), .v (.slice none 0 0), .v (.slice none 0 0), .v (.slice none 0 0)]
abbrev siS (seed : List UInt8) (m : Nat) (u : Int) (i : Nat) (f : Nat → Bool) (x : List Bool) (pa : List Dg) (j : Nat) : St :=
 mkS 77 [(6, .ptr 6 0), (9, .ptr 9 0), (51, .d (bitsD x)), (52, .d (.v (.int .i64 j)))]
  [(6, .cells 68 [.d (.v (.int .i64 i)), .row 500, .row 501, .d (slG pa)]), (9, .cells 183 [.d (slB seed), .d (.v (.int .i64 i))]), (500, .row 102 32 j ((dgL (openedB seed i f j)).map .d)), (501, .row 102 32 j ((dgL (closedB seed i f j)).map .d))]
theorem sign_ok (seed : List UInt8) (hs : seed.length ≤ 1000) (m : Nat) (u : Int) (i : Nat) (him : i < m) (hv : keyV seed m u = true) (msg : List UInt8) (hm : msg.length ≤ 65536) :
  Fn0 Tryz.prog 70 [keyD seed m u, .v (.int .i64 i), slB msg] (.tup [.agg (sgnC seed m i msg), .v (.int .i64 0)]) := by
 have h18 := valid2_ok seed m u
 rw [hv] at h18
 have hm4 : m ≤ 4096 := by simp only [keyV, decide_eq_true_eq] at hv; omega
 have h20 := publics_ok seed hs m hm4 u
 have hpl := pubsB_len seed m
 have h32 := pubsB_32 seed m
 have h38 := path_ok (pubsB seed m) h32 (by omega) i (by omega)
 have h19 := tree_ok (pubsB seed m) (by omega) h32
 have lT := treeB_len (pubsB seed m)
 have h39 := signed_ok (treeB (pubsB seed m)) lT i (by omega) msg hm
 have lx := sgnB_len (treeB (pubsB seed m)) i msg
 have hxj : ∀ j, j < 64 → (sgnB (treeB (pubsB seed m)) i msg).getD j false = kbB seed m i msg j := fun j hj => by
  rw [sgnB, List.getD_eq_getElem?_getD, List.getElem?_map, List.getElem?_range hj]; rfl
 unfold sgnC
 generalize kbB seed m i msg = f at *
 generalize sgnB (treeB (pubsB seed m)) i msg = x at *
 generalize treeB (pubsB seed m) = T at *
 generalize pathB (pubsB seed m) i = pa at *
 generalize pubsB seed m = pb at *
 refine Fun.of_wp (pn := noPn) Tryz.tab Tryz.func70 rfl fun β0 => ?_
 simp only [Tryz.f70]
 repeat(first|apply wG|(apply wR;simp -dsimp [keyD, slB])|refine aI ?_)
 refine vcStop.call0 Tryz.body108 h18 rfl rfl (by simp [keyD, slB]) ?_
 simp -dsimp
 repeat(first|apply wG|(apply wR;simp -dsimp)|refine aI ?_)
 refine cF (by simp) ?_
 repeat(first|apply wG|(apply wR;simp -dsimp [slB])|refine aI ?_)
 refine cF (by simp; omega) ?_
 repeat(first|apply wG|(apply wR;simp -dsimp)|refine aI ?_)
 refine cF (by simp; omega) ?_
 refine WP.skip ?_
 simp -dsimp
 repeat(first|apply wG|(apply wR;simp -dsimp)|refine aI ?_)
 refine vcStop.call0 Tryz.body110 h20 rfl rfl (by simp [keyD, slB]) ?_
 simp -dsimp
 repeat(first|apply wG|(apply wR;simp -dsimp)|refine aI ?_)
 refine vcStop.call0 Tryz.body112 h38 rfl rfl (by simp [slG]) ?_
 simp -dsimp [slG]
 repeat(first|apply wG|(apply wR;simp -dsimp [slG])|refine aI ?_)
 refine vcStop.call0 Tryz.body109 h19 rfl rfl (by simp [slG]) ?_
 simp -dsimp
 repeat(first|apply wG|(apply wR;simp -dsimp)|refine aI ?_)
 refine vcStop.call0 Tryz.body113 h39 rfl rfl (by simp [dD, slB]) ?_
 simp -dsimp
 repeat(first|apply wG|(apply wR;simp -dsimp)|refine aI ?_)
 have hlo : ∀ j, j ≤ 64 → (dgL (openedB seed i f j)).length = j * 32 := fun j _ => by rw [dgL_len (openedB_32 seed i f j), openedB_len]
 have hlc : ∀ j, j ≤ 64 → (dgL (closedB seed i f j)).length = j * 32 := fun j _ => by rw [dgL_len (closedB_32 seed i f j), closedB_len]
 refine WP.loopWk (fun q S => ∃ j : Nat, q = 64 - j ∧ j ≤ 64 ∧ S = siS seed m u i f x pa j) 64 (S0 := siS seed m u i f x pa 0) ((Wk.nilCell 6 1 500 102 32 (by simp; exact ⟨rfl, rfl⟩) rfl (by simp)).trans ((Wk.nilCell 6 2 501 102 32 (by simp; exact ⟨rfl, rfl⟩) rfl (by simp)).trans (Wk.lessE [] (by simp) (by simp [slB, slG, openedB, closedB, dgL])))) ⟨0, rfl, by omega, rfl⟩ ?_
 rintro _ _ ⟨j, rfl, hj, rfl⟩
 simp -dsimp
 repeat(first|apply wG|(apply wR;simp -dsimp)|refine aI ?_)
 by_cases hj64 : j < 64
 ·refine cT (by simp; omega) ?_
  refine WP.skip ?_
  have e1 : IntKind.i64.wrap ((j : Int) + 1) = ((j + 1 : Nat) : Int) := by rw [IntWalk.i64_in _ (by omega)]; omega
  have ha := boD_at x j (by omega)
  have hg := boD_gE x j (by omega)
  rw [hxj j hj64] at ha hg
  have h40 := secret_ok seed hs i (by omega) j hj64 (f j)
  have h37 := hash_ok seed hs i (by omega) j hj64 (!f j)
  have l40 : (secretB seed i j (f j)).length = 32 := tagB_len _ _
  have l37 : (keyH seed i j (!f j)).length = 32 := tagB_len _ _
  have ho1 : openedB seed i f (j + 1) = openedB seed i f j ++ [secretB seed i j (f j)] := rfl
  have hc1 : closedB seed i f (j + 1) = closedB seed i f j ++ [keyH seed i j (!f j)] := rfl
  have hlo1 := hlo j hj
  have hlc1 := hlc j hj
  generalize secretB seed i j (f j) = sc at *
  generalize keyH seed i j (!f j) = hc at *
  generalize f j = b at *
  simp -dsimp [slB, slG]
  repeat(first|apply wG|(apply wR;simp -dsimp [bitsD, ha, hg, boD_len, lx, slB, slG])|refine aI ?_)
  refine vcStop.call0 Tryz.body114 h40 rfl rfl (by simp [onD, slB, hg]) ?_
  simp -dsimp [dD, setL_whole, bys_len, l40]
  refine And.intro (fun a h => bysD_one h) ?_
  repeat(first|apply wG|(apply wR;simp -dsimp [setL_whole, bys_len, l40, hg])|refine aI ?_)
  refine vcStop.call0 Tryz.body115 h37 rfl rfl (by simp [onD, slB, hg]) ?_
  simp -dsimp [dD, setL_whole, bys_len, l37]
  refine And.intro (fun a h => bysD_one h) ?_
  repeat(first|apply wG|(apply wR;simp -dsimp [setL_whole, bys_len, l37, hg])|refine aI ?_)
  refine loopW.next (siS seed m u i f x pa (j + 1)) (Wk.go2 [62, 72] 63 500 73 501 (by decide) (by decide) (by simp [bitsD]) (by simp [bitsD]) (by simp [bitsD, e1]) (by simp [slB, slG, ho1, hc1, dgL_snoc])) (64 - (j + 1)) (by omega) ⟨j + 1, rfl, by omega, rfl⟩
 ·refine cF (by simp; omega) ?_
  refine WP.exit ?_
  obtain rfl : j = 64 := by omega
  simp -dsimp [slG]
  repeat(first|apply wG|(apply wR;simp -dsimp [slG])|refine aI ?_)
  have lo := openedB_len seed i f 64
  have lc := closedB_len seed i f 64
  generalize openedB seed i f 64 = op at *
  generalize closedB seed i f 64 = cl at *
  refine WP.ret (finQ.retWE ((Wk.freeze (k := 500) (T := 102) (sz := 32) (n := 64) (ds := dgL op) (by simp)).trans (Wk.freeze (k := 501) (T := 102) (sz := 32) (n := 64) (ds := dgL cl) (by simp))) ?_)
  simp -dsimp
  rw [sigC, slG, slG, slG, lo, lc]
  exact tupA [.v (.int .i64 i), .sl 32 (dgL op) 64 false, .sl 32 (dgL cl) 64 false, .sl 32 (dgL pa) pa.length false] _
theorem signN_ok (seed : List UInt8) (m u : Int) (i : Int) (hi : 0 ≤ i) (hno : keyV seed m u = true → m ≤ i) (msg : List UInt8) (hm : msg.length ≤ 65536) :
  Fn0 Tryz.prog 70 [keyD seed m u, .v (.int .i64 i), slB msg] (.tup [.agg zsC, .v (.int .i64 40)]) := by
 have h18 := valid2_ok seed m u
 refine Fun.of_wp (pn := noPn) Tryz.tab Tryz.func70 rfl fun β0 => ?_
 simp only [Tryz.f70]
 repeat(first|apply wG|(apply wR;simp -dsimp [keyD, slB])|refine aI ?_)
 refine vcStop.call0 Tryz.body108 h18 rfl rfl (by simp [keyD, slB]) ?_
 simp -dsimp
 repeat(first|apply wG|(apply wR;simp -dsimp)|refine aI ?_)
 by_cases hv : keyV seed m u = true
 ·have hmi := hno hv
  refine cF (by simp [hv]) ?_
  repeat(first|apply wG|(apply wR;simp -dsimp [slB])|refine aI ?_)
  refine cF (by simp; omega) ?_
  repeat(first|apply wG|(apply wR;simp -dsimp)|refine aI ?_)
  refine cT (by simp; omega) ?_
  repeat(first|apply wG|(apply wR;simp -dsimp)|refine aI ?_)
  refine WP.ret (finQ.retE ?_)
  simp -dsimp
 ·refine cT (by simp [hv]) ?_
  repeat(first|apply wG|(apply wR;simp -dsimp)|refine aI ?_)
  refine WP.ret (finQ.retE ?_)
  simp -dsimp
theorem set61 (Z A : List AV) (hZ : Z.length = 61) (hA : A.length = 57) (a b c d : AV) : ((((setL Z 0 A).set 57 a).set 58 b).set 59 c).set 60 d = A ++ [a, b, c, d] := by
 rw [setL_mid _ _ _ (by omega), hA]
 obtain ⟨w, x, y, z, e⟩ : ∃ w x y z, Z.drop (0 + 57) = [w, x, y, z] := by
  have h : (Z.drop (0 + 57)).length = 4 := by rw [List.length_drop]; omega
  match Z.drop (0 + 57), h with
  | [w, x, y, z], _ => exact ⟨w, x, y, z, rfl⟩
 rw [e, List.take_zero, List.nil_append]
 simp [List.set_append, hA]
def sgnR (seed : List UInt8) (m u : Int) (f : Nat → Int) : List D × Int :=
 if (numF f).2 = true then
  if keyV seed m u = true ∧ f 1 - 1 < m then (fcs f 0 57 ++ sgnC seed m.toNat (f 1 - 1).toNat (msgB f), 0) else (fcs f0 0 57 ++ zsC, 40)
 else (fcs f0 0 57 ++ zsC, 120)
theorem crwSign_ok (seed : List UInt8) (hs : seed.length ≤ 1000) (m u : Int) (f : Nat → Int) (hf : fOk f) :
  Fn0 Tryz.prog 29 [keyD seed m u, fD f] (.tup [.agg (sgnR seed m u f).1, .v (.int .i64 (sgnR seed m u f).2)]) := by
 have h10 := check_ok f hf
 have hl57 := fcs_len57 f
 refine Fun.of_wp (pn := noPn) Tryz.tab Tryz.func29 rfl fun β0 => ?_
 simp only [Tryz.f29]
 repeat(first|apply wG|(apply wR;simp -dsimp [keyD, slB, fD])|refine aI ?_)
 refine vcStop.call0L Tryz.body69 h10 rfl rfl (And.intro (by simp [fD]; try exact Leq.aggD _) trivial) ?_
 simp -dsimp
 repeat(first|apply wG|(apply wR;simp -dsimp)|refine aI ?_)
 unfold sgnR
 by_cases hv : (numF f).2 = true
 ·rw [if_pos hv]
  obtain ⟨_, hf1, hf1'⟩ := num_hd hv
  refine cF (by simp [hv]) ?_
  refine WP.skip ?_
  have e1 : IntKind.i64.wrap (f 1 - 1) = f 1 - 1 := IntWalk.i64_in _ (by omega)
  have hmsg := message_ok f hf
  have hml := msgB_len f
  simp -dsimp
  repeat(first|apply wG|(apply wR;simp -dsimp [e1])|refine aI ?_)
  refine vcStop.call0L Tryz.body71 hmsg rfl rfl (And.intro (by simp [fD]; try exact Leq.aggD _) trivial) ?_
  simp -dsimp
  repeat(first|apply wG|(apply wR;simp -dsimp [e1])|refine aI ?_)
  by_cases hk : keyV seed m u = true ∧ f 1 - 1 < m
  ·rw [if_pos hk]
   obtain ⟨hk1, hk2⟩ := hk
   obtain ⟨M, rfl⟩ : ∃ M : Nat, m = M := ⟨m.toNat, by omega⟩
   obtain ⟨N, hN⟩ : ∃ N : Nat, f 1 - 1 = N := ⟨(f 1 - 1).toNat, by omega⟩
   rw [hN, Int.toNat_natCast, Int.toNat_natCast]
   have h21 := sign_ok seed hs M u N (by omega) hk1 (msgB f) (by omega)
   refine vcStop.call0L Tryz.body70 h21 rfl rfl (And.intro (by simp [keyD, slB]; try exact Leq.aggD [.sl 1 (bys seed) seed.length false, .v (.int .i64 M), .v (.int .i64 u)]) (And.intro (by simp [hN]) (And.intro (by simp [slB]) trivial))) ?_
   simp -dsimp [sgnC, sigC, slG]
   repeat(first|apply wG|(apply wR;simp -dsimp [sgnC, sigC, slG])|refine aI ?_)
   refine cF (by simp) ?_
   refine WP.skip ?_
   have lo := openedB_len seed N (kbB seed M N (msgB f)) 64
   have lc := closedB_len seed N (kbB seed M N (msgB f)) 64
   unfold sgnC
   generalize openedB seed N (kbB seed M N (msgB f)) 64 = op at *
   generalize closedB seed N (kbB seed M N (msgB f)) 64 = cl at *
   generalize pathB (pubsB seed M) N = pa at *
   simp -dsimp
   repeat(first|apply wG|(apply wR;simp -dsimp [setL_length, set61, hl57])|refine aI ?_)
   refine And.intro (fun c h => ?_) ?_
   ·rcases h with ⟨a, ha, rfl⟩ | rfl | rfl | rfl | rfl
    ·exact fcs_side ha
    all_goals rfl
   refine WP.ret (finQ.retE ?_)
   have ht := tupA (fcs f 0 57 ++ sigC N op cl pa) (.v (.int .i64 0))
   rw [List.map_append] at ht
   have h61 : List.take 61 ((fcs f 0 57).map AV.d ++ [AV.d (D.v (Value.int IntKind.i64 ↑N)), AV.d (D.sl 32 (dgL op) op.length false), AV.d (D.sl 32 (dgL cl) cl.length false), AV.d (D.sl 32 (dgL pa) pa.length false)]) = (fcs f 0 57).map AV.d ++ [AV.d (D.v (Value.int IntKind.i64 ↑N)), AV.d (D.sl 32 (dgL op) op.length false), AV.d (D.sl 32 (dgL cl) cl.length false), AV.d (D.sl 32 (dgL pa) pa.length false)] := List.take_of_length_le (by simp [hl57])
   simp -dsimp [h61]
   exact ht
  ·rw [if_neg hk]
   have h21 := signN_ok seed m u (f 1 - 1) (by omega) (fun h => by
    by_cases hlt : f 1 - 1 < m
    ·exact absurd ⟨h, hlt⟩ hk
    ·omega) (msgB f) (by omega)
   refine vcStop.call0L Tryz.body70 h21 rfl rfl (And.intro (by simp [keyD, slB]; try exact Leq.aggD [.sl 1 (bys seed) seed.length false, .v (.int .i64 m), .v (.int .i64 u)]) (And.intro (by simp) (And.intro (by simp [slB]) trivial))) ?_
   simp -dsimp
   repeat(first|apply wG|(apply wR;simp -dsimp)|refine aI ?_)
   refine cT (by simp) ?_
   repeat(first|apply wG|(apply wR;simp -dsimp)|refine aI ?_)
   refine WP.ret (finQ.retE ?_)
   simp -dsimp
   exact tupA (fcs f0 0 57 ++ zsC) _
 ·rw [if_neg hv]
  refine cT (by simp [hv]) ?_
  repeat(first|apply wG|(apply wR;simp -dsimp)|refine aI ?_)
  refine WP.ret (finQ.retE ?_)
  simp -dsimp [hv]
  exact tupA (fcs f0 0 57 ++ zsC) _
def unDgs (c : List D) (n : Nat) : List Dg := (List.range n).map fun i => ((c.drop (i * 32)).take 32).map unBD
theorem unDgs_dgL {l : List Dg} (h : all32 l) : unDgs (dgL l) l.length = l := by
 refine digA_ext (by simp [unDgs]) fun i hi => ?_
 have hi : i < l.length := by simpa [unDgs] using hi
 rw [digA, List.getD_eq_getElem?_getD, unDgs, List.getElem?_map, List.getElem?_range hi, Option.map_some, Option.getD_some, dgL_at h i hi]
 exact map_unBD _
def sgK (s : List D) : Int := match s with
 | .v (.int _ k) :: _ => k
 | _ => 0
def sgDg (s : List D) (i : Nat) : List Dg := match s[i]? with
 | some (.sl _ c n _) => unDgs c n
 | _ => []
def sgT (p : Sg) : Prop := ∃ k op cl pa, p.2 = sigC k op cl pa ∧ sigG k op cl pa
def vfyS (l : List Crw) (p : Sg) : Int := vfyE l p.1 (sgK p.2) (sgDg p.2 1) (sgDg p.2 2) (sgDg p.2 3)
theorem vfyS_eq {l : List Crw} {p : Sg} {k : Int} {op cl pa : List Dg} (e : p.2 = sigC k op cl pa) (h : sigG k op cl pa) : vfyS l p = vfyE l p.1 k op cl pa := by
 rw [vfyS, e]
 simp only [sigC, slG, sgK, sgDg, List.getElem?_cons_succ, List.getElem?_cons_zero]
 rw [unDgs_dgL h.ho, unDgs_dgL h.hc, unDgs_dgL h.hp]
theorem crwVerifyS_ok (l : List Crw) (hl : ∀ c ∈ l, crOk c) (hn : l.length ≤ 1000000000000) (p : Sg) (hf : fOk p.1) (hp : sgT p) : Fn0 Tryz.prog 35 [crwD l, sgV p] (.v (.int .i64 (vfyS l p))) := by
 obtain ⟨k, op, cl, pa, e, h⟩ := hp
 rw [vfyS_eq e h, sgV, sgc, e]
 exact crwVerify_ok l hl hn p.1 hf k op cl pa h
theorem sgT_ok {p : Sg} (hf : fOk p.1) (h : sgT p) : sgOk p := by
 obtain ⟨k, op, cl, pa, e, _⟩ := h
 refine ⟨hf, by rw [e]; rfl, fun d hd => ?_⟩
 rw [e] at hd
 exact sigC_one hd
theorem pla_okD {r : R2} (h1 : isI r.1) (h2 : isI r.2) : OkD Tryz.τ 3 154 [.v (.int .i64 r.1), .v (.int .i64 r.2)] := by
 have h : ∀ i, isI ((fun i => if i = 55 then r.1 else if i = 56 then r.2 else 0 : Nat → Int) i) := fun i => by
  dsimp only
  split
  ·exact h1
  ·split
   ·exact h2
   ·exact isI0
 exact fit_ok h 3 154 55 fit120
theorem pla_lits (a b : R2) : decide (a = b) = true ↔ litsD [.v (.int .i64 a.1), .v (.int .i64 a.2)] = litsD [.v (.int .i64 b.1), .v (.int .i64 b.2)] := by
 rw [decide_eq_true_iff]
 constructor
 ·rintro rfl; rfl
 ·intro h
  simp [litsD, litD] at h
  exact Prod.ext h.1 h.2
theorem Tryz.gdPl : Tryz.prog.eqGuardType Tryz.prog.depth 154 = false := by kernel_rfl
theorem stPl : (match Tryz.prog.underlying 154 with | some (.struct _) | some (.array _ _) => true | _ => false) = true := by rw [Tryz.underlying154]
def fkE (l : List Crw) (q : Sg × Sg) : Int :=
 if vfyS l q.1 ≠ 0 then vfyS l q.1 else if vfyS l q.2 ≠ 0 then vfyS l q.2 else if refS q.1 = refS q.2 ∧ cmpF q.1.1 q.2.1 < 0 then 0 else 130
theorem setL_122 (Z A B : List AV) (hZ : Z.length = 122) (hA : A.length = 61) (hB : B.length = 61) : setL (setL Z 0 A) 61 B = A ++ B := by
 rw [setL_mid A Z 0 (by omega), setL_mid _ _ _ (by simp; omega)]
 simp only [List.take_zero, List.nil_append, Nat.zero_add, hA, hB]
 rw [List.take_left' hA, List.drop_of_length_le (by simp; omega), List.append_nil]
abbrev fkSt (l : List Crw) (q : Sg × Sg) (i : Nat) (e : Int) : St :=
 mkS 43 [(0, .d (crwD l)), (3, .ptr 3 0), (4, .d (.v (.int .i64 e))), (11, .row 500), (12, .d (.v (.int .i64 2))), (13, .d (.v (.int .i64 i)))] [(3, .cells 90 ((fkc q).map .d)), (500, .row 70 61 2 ((fkc q).map .d))]
theorem fork_ok (l : List Crw) (hl : ∀ c ∈ l, crOk c) (hn : l.length ≤ 1000000000000) (q : Sg × Sg) (hf1 : fOk q.1.1) (hf2 : fOk q.2.1) (h1 : sgT q.1) (h2 : sgT q.2) :
  Fn0 Tryz.prog 42 [crwD l, .agg (fkc q)] (.v (.int .i64 (fkE l q))) := by
 have ho1 := sgT_ok hf1 h1
 have ho2 := sgT_ok hf2 h2
 have hv1 := crwVerifyS_ok l hl hn q.1 hf1 h1
 have hv2 := crwVerifyS_ok l hl hn q.2 hf2 h2
 have hlen := fkc_len ho1 ho2
 have hone := fkc_one ho1 ho2
 have l1 := sgc_len ho1
 have l2 := sgc_len ho2
 have a1 : List.take 61 ((fkc q).map AV.d) = (sgc q.1).map .d := by rw [fkc, List.map_append, List.take_left' (by simp [l1])]
 have a2 : List.take 61 (List.drop 61 ((fkc q).map AV.d)) = (sgc q.2).map .d := by
  rw [fkc, List.map_append, List.drop_left' (by simp [l1]), List.take_of_length_le (by simp [l2])]
 have s1 := sgc_oneD ho1
 have s2 := sgc_oneD ho2
 refine Fun.of_wp (pn := noPn) Tryz.tab Tryz.func42 rfl fun β0 => ?_
 simp only [Tryz.f42]
 have b12 : List.map AV.d (sgc q.1) ++ List.map AV.d (sgc q.2) = (fkc q).map .d := by rw [fkc, List.map_append]
 have l1t : List.take 61 ((sgc q.1).map AV.d) = (sgc q.1).map .d := List.take_of_length_le (by simp [l1])
 have l2t : List.take 61 ((sgc q.2).map AV.d) = (sgc q.2).map .d := List.take_of_length_le (by simp [l2])
 repeat(first|apply wG|(apply wR;simp -dsimp [hlen, crwD, a1, a2, l1, l2, setL_122, setL_length, b12])|refine aI ?_)
 repeat(first|apply wG|(apply wR;simp -dsimp [l1, l2])|refine aI ?_)
 refine WP.loopWk (fun k S => ∃ i : Nat, k = 2 - i ∧ i ≤ 2 ∧ ((0 < i → vfyS l q.1 = 0) ∧ (1 < i → vfyS l q.2 = 0)) ∧ S = fkSt l q i 0) 2 (S0 := fkSt l q 0 0) (Wk.go [] 11 500 (by decide) (by simp [crwD]) (by simp [crwD]) (by simp)) ⟨0, rfl, by omega, ⟨fun h => by omega, fun h => by omega⟩, rfl⟩ ?_
 rintro _ _ ⟨i, rfl, hi, ⟨hz1, hz2⟩, rfl⟩
 simp -dsimp [crwD]
 repeat(first|apply wG|(apply wR;simp -dsimp)|refine aI ?_)
 by_cases hi2 : i < 2
 ·refine cT (by simp; omega) ?_
  refine WP.skip ?_
  have hi' : i = 0 ∨ i = 1 := by omega
  rcases hi' with rfl | rfl
  ·simp -dsimp
   repeat(first|apply wG|(apply wR;simp -dsimp [a1, hlen, setL_length, setL_whole, l1, l1t])|refine aI ?_)
   refine vcStop.call0L Tryz.body35 hv1 rfl rfl (And.intro (by simp [crwD]) (And.intro (by simp [l1t]; try exact Leq.aggD _) trivial)) ?_
   simp -dsimp
   repeat(first|apply wG|(apply wR;simp -dsimp)|refine aI ?_)
   by_cases hz : vfyS l q.1 = 0
   ·refine cF (by simp [hz]) ?_
    refine WP.skip ?_
    simp -dsimp
    repeat(first|apply wG|(apply wR;simp -dsimp)|refine aI ?_)
    refine loopW.next (fkSt l q 1 0) (Wk.lessE [6] (by simp [crwD, wrS, hz]) (by simp)) 1 (by omega) ⟨1, rfl, by omega, ⟨fun _ => hz, fun h => by omega⟩, rfl⟩
   ·refine cT (by simp [hz]) ?_
    repeat(first|apply wG|(apply wR;simp -dsimp)|refine aI ?_)
    refine WP.ret (finQ.retE ?_)
    simp -dsimp [fkE, hz]
  ·simp -dsimp
   repeat(first|apply wG|(apply wR;simp -dsimp [a2, hlen, setL_length, setL_whole, l2, l2t])|refine aI ?_)
   refine vcStop.call0L Tryz.body35 hv2 rfl rfl (And.intro (by simp [crwD]) (And.intro (by simp [l2t]; try exact Leq.aggD _) trivial)) ?_
   simp -dsimp
   repeat(first|apply wG|(apply wR;simp -dsimp)|refine aI ?_)
   by_cases hz : vfyS l q.2 = 0
   ·refine cF (by simp [hz]) ?_
    refine WP.skip ?_
    simp -dsimp
    repeat(first|apply wG|(apply wR;simp -dsimp)|refine aI ?_)
    refine loopW.next (fkSt l q 2 0) (Wk.lessE [6] (by simp [crwD, wrS, hz]) (by simp)) 0 (by omega) ⟨2, rfl, by omega, ⟨fun _ => hz1 (by omega), fun _ => hz⟩, rfl⟩
   ·refine cT (by simp [hz]) ?_
    repeat(first|apply wG|(apply wR;simp -dsimp)|refine aI ?_)
    refine WP.ret (finQ.retE ?_)
    simp -dsimp [fkE, hz1 (by omega), hz]
 ·refine cF (by simp; omega) ?_
  refine WP.exit ?_
  obtain rfl : i = 2 := by omega
  have z1 := hz1 (by omega)
  have z2 := hz2 (by omega)
  simp -dsimp
  have c1 : List.take 57 ((fkc q).map AV.d) = (fcs q.1.1 0 57).map .d := by
   rw [fkc, List.map_append, List.take_append_of_le_length (by simp [l1]), sgc_57]
  have c2 : List.take 57 (List.drop 61 ((fkc q).map AV.d)) = (fcs q.2.1 0 57).map .d := by
   rw [fkc, List.map_append, List.drop_left' (by simp [l1]), sgc_57]
  have hcm := factsCompare_ok q.1.1 q.2.1 hf1 hf2
  have hp1 := placeOf_ok q.1.1
  have hp2 := placeOf_ok q.2.1
  have hfk : fkE l q = if refS q.1 = refS q.2 ∧ cmpF q.1.1 q.2.1 < 0 then 0 else 130 := by
   rw [fkE, if_neg (by simp [z1]), if_neg (by simp [z2])]
  rw [hfk]
  repeat(first|apply wG|(apply wR;simp -dsimp [c1, c2, hlen])|refine aI ?_)
  refine vcStop.call0L Tryz.body93 hp1 rfl rfl (And.intro (by simp [c1, fD]; try exact Leq.aggD _) trivial) ?_
  simp -dsimp
  repeat(first|apply wG|(apply wR;simp -dsimp [c1, c2, hlen])|refine aI ?_)
  refine vcStop.call0L Tryz.body93 hp2 rfl rfl (And.intro (by simp [c2, fD]; try exact Leq.aggD _) trivial) ?_
  simp -dsimp
  repeat(first|apply wG|(apply wR;simp -dsimp [c1, c2, hlen])|refine aI ?_)
  refine vcStop.eqS Tryz.tab gokP noarrP rfl (.inr rfl) (m := 5) (by omega) Tryz.key120 (by decide) Tryz.gdPl stPl (cs := [.v (.int .i64 (q.1.1 0)), .v (.int .i64 (q.1.1 1))]) (es := [.v (.int .i64 (q.2.1 0)), .v (.int .i64 (q.2.1 1))]) (.refl _) (.refl _) (pla_okD (r := (q.1.1 0, q.1.1 1)) (hf1.1 0) (hf1.1 1)) (pla_okD (r := (q.2.1 0, q.2.1 1)) (hf2.1 0) (hf2.1 1)) (pla_lits (q.1.1 0, q.1.1 1) (q.2.1 0, q.2.1 1)) ?_
  by_cases ha : q.1.1 0 = q.2.1 0
  ·by_cases hb : q.1.1 1 = q.2.1 1
   ·have hrr : refS q.1 = refS q.2 := by simp only [refS, refF, ha, hb]
    simp -dsimp [eqRes, ha, hb]
    repeat(first|apply wG|(apply wR;simp -dsimp [c1, c2, hlen])|refine aI ?_)
    refine vcStopG.call0L Tryz.body39 (fun _ => hcm) rfl (fun _ => rfl) (fun _ => And.intro (by simp [c1, fD]; try exact Leq.aggD _) (And.intro (by simp [c2, fD]; try exact Leq.aggD _) trivial)) ?_
    simp -dsimp
    repeat(first|apply wG|(apply wR;simp -dsimp)|refine aI ?_)
    by_cases hc : cmpF q.1.1 q.2.1 < 0
    ·rw [if_pos ⟨hrr, hc⟩]
     refine cF (by simp; omega) ?_
     refine WP.skip ?_
     simp -dsimp
     repeat(first|apply wG|(apply wR;simp -dsimp)|refine aI ?_)
     refine WP.ret (finQ.retE ?_)
     simp -dsimp
    ·rw [if_neg fun h => hc h.2]
     refine cT (by simp; omega) ?_
     repeat(first|apply wG|(apply wR;simp -dsimp)|refine aI ?_)
     refine WP.ret (finQ.retE ?_)
     simp -dsimp
   ·simp -dsimp [eqRes, hb]
    repeat(first|apply wG|(apply wR;simp -dsimp [c1, c2, hlen])|refine aI ?_)
    refine vcStopG.skip (.d (.v (.int .i64 0))) ?_
    simp -dsimp
    repeat(first|apply wG|(apply wR;simp -dsimp)|refine aI ?_)
    refine cT (by simp) ?_
    repeat(first|apply wG|(apply wR;simp -dsimp)|refine aI ?_)
    rw [if_neg fun h => hb (by have := h.1; simp only [refS, refF, Prod.mk.injEq] at this; exact this.2)]
    refine WP.ret (finQ.retE ?_)
    simp -dsimp
  ·simp -dsimp [eqRes, ha]
   repeat(first|apply wG|(apply wR;simp -dsimp [c1, c2, hlen])|refine aI ?_)
   refine vcStopG.skip (.d (.v (.int .i64 0))) ?_
   simp -dsimp
   repeat(first|apply wG|(apply wR;simp -dsimp)|refine aI ?_)
   refine cT (by simp) ?_
   repeat(first|apply wG|(apply wR;simp -dsimp)|refine aI ?_)
   rw [if_neg fun h => ha (by have := h.1; simp only [refS, refF, Prod.mk.injEq] at this; exact this.1)]
   refine WP.ret (finQ.retE ?_)
   simp -dsimp
theorem short13_ok (c n t : Int) : Fn0 Tryz.prog 67 [.v (.int .i64 c), .v (.int .i64 n), .v (.int .i64 t)] (fD (shF c n t)) := by
 refine Fun.of_wp (pn := noPn) Tryz.tab Tryz.func67 rfl fun β0 => ?_
 simp only [Tryz.f67]
 repeat(first|apply wG|(apply wR;simp -dsimp)|refine aI ?_)
 refine WP.ret (finQ.retE ?_)
 simp -dsimp
 exact Leq.aggD (fcs (shF c n t) 0 57)
theorem sgcT_sig {p : Sg} (h : sgOk p) : List.take 4 (List.drop 57 (sgc p)) = p.2 := by
 rw [sgc, List.drop_left' (fcs_len57 _), List.take_of_length_le (by rw [h.2.1]; omega)]
def few4 (seed : List UInt8) (m : Int) : Bool := decide (m ≤ 2 ∧ seed.length ≤ 100)
theorem few4_ok (seed : List UInt8) (m u : Int) : Fn0 Tryz.prog 27 [keyD seed m u, .sl 1 [] 0 false] (.v (.bool (few4 seed m))) := by
 refine Fun.of_wp (pn := noPn) Tryz.tab Tryz.func27 rfl fun β0 => ?_
 simp only [Tryz.f27]
 repeat(first|apply wG|(apply wR;simp -dsimp [keyD, slB])|refine aI ?_)
 refine WP.ret (finQ.retE ?_)
 simp -dsimp
 refine leqB ?_
 rw [Bool.eq_iff_iff, few4, decide_eq_true_iff]
 simp
 omega
end Go.Proofs.YtnljenjcaeophaaGreatDoor
namespace Go.Proofs.YtnljenjcaeophaaGreatDoor
open Go.Xe Go.RowKit
theorem crwSignX_ok (seed : List UInt8) (m u : Int) (hk : ¬ keyV seed m u = true) (f : Nat → Int) (hf : fOk f) :
  Fn0 Tryz.prog 29 [keyD seed m u, fD f] (.tup [.agg (sgnR seed m u f).1, .v (.int .i64 (sgnR seed m u f).2)]) := by
 have h10 := check_ok f hf
 refine Fun.of_wp (pn := noPn) Tryz.tab Tryz.func29 rfl fun β0 => ?_
 simp only [Tryz.f29]
 repeat(first|apply wG|(apply wR;simp -dsimp [keyD, slB, fD])|refine aI ?_)
 refine vcStop.call0L Tryz.body69 h10 rfl rfl (And.intro (by simp [fD]; try exact Leq.aggD _) trivial) ?_
 simp -dsimp
 repeat(first|apply wG|(apply wR;simp -dsimp)|refine aI ?_)
 unfold sgnR
 by_cases hv : (numF f).2 = true
 ·rw [if_pos hv, if_neg fun h => hk h.1]
  obtain ⟨_, hf1, hf1'⟩ := num_hd hv
  refine cF (by simp [hv]) ?_
  refine WP.skip ?_
  have e1 : IntKind.i64.wrap (f 1 - 1) = f 1 - 1 := IntWalk.i64_in _ (by omega)
  have hmsg := message_ok f hf
  have hml := msgB_len f
  simp -dsimp
  repeat(first|apply wG|(apply wR;simp -dsimp [e1])|refine aI ?_)
  refine vcStop.call0L Tryz.body71 hmsg rfl rfl (And.intro (by simp [fD]; try exact Leq.aggD _) trivial) ?_
  simp -dsimp
  repeat(first|apply wG|(apply wR;simp -dsimp [e1])|refine aI ?_)
  have h21 := signN_ok seed m u (f 1 - 1) (by omega) (fun h => absurd h hk) (msgB f) (by omega)
  refine vcStop.call0L Tryz.body70 h21 rfl rfl (And.intro (by simp [keyD, slB]; try exact Leq.aggD [.sl 1 (bys seed) seed.length false, .v (.int .i64 m), .v (.int .i64 u)]) (And.intro (by simp) (And.intro (by simp [slB]) trivial))) ?_
  simp -dsimp
  repeat(first|apply wG|(apply wR;simp -dsimp)|refine aI ?_)
  refine cT (by simp) ?_
  repeat(first|apply wG|(apply wR;simp -dsimp)|refine aI ?_)
  refine WP.ret (finQ.retE ?_)
  simp -dsimp
  exact tupA (fcs f0 0 57 ++ zsC) _
 ·rw [if_neg hv]
  refine cT (by simp [hv]) ?_
  repeat(first|apply wG|(apply wR;simp -dsimp)|refine aI ?_)
  refine WP.ret (finQ.retE ?_)
  simp -dsimp [hv]
  exact tupA (fcs f0 0 57 ++ zsC) _
end Go.Proofs.YtnljenjcaeophaaGreatDoor
