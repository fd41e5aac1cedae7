/-
  Joined texts.
-/
import Derived.Test.YtnljenjcaeophaaGreatDoorSTJ
import Derived.Test.YtnljenjcaeophaaGreatDoorSAB
import Derived.Test.YtnljenjcaeophaaGreatDoorSTP
import Derived.Test.YtnljenjcaeophaaGreatDoorSTN
import Derived.Test.YtnljenjcaeophaaGreatDoorSAD
import Derived.Test.YtnljenjcaeophaaGreatDoorSXa
set_option maxRecDepth 10000
set_option maxHeartbeats 4000000
set_option linter.unusedVariables false
set_option linter.unusedSimpArgs false
set_option linter.unusedSectionVars false
namespace Go.Proofs.YtnljenjcaeophaaGreatDoor
open Go.Xe Go.RowKit
theorem refTree_N (hsum : ∀ b : List UInt8, b.length ≤ 100000 → Fn0 Tryz.prog 190 [slB b] (dD (sumB b))) : ∀ (N : Nat) (l : List Dg), l.length ≤ N → all32 l → 1 ≤ l.length → l.length ≤ 65536 →
  Fn0 Tryz.prog 124 [slG l] (dD (treeB l)) := by
 intro N
 induction N with
 | zero => intro l h1 h2 h3; omega
 | succ N ih =>
  intro l hf hl h1 hn
  have lz : z32.length = 32 := rfl
  have hlf := treeB_len l
  have lC := dgL_len hl
  by_cases hn1 : l.length ≤ 1
  ·obtain ⟨d, rfl⟩ : ∃ d, l = [d] := List.length_eq_one_iff.1 (by omega)
   have hd : d.length = 32 := hl d (by simp)
   have ht := refTag_ok hsum ⟨#[108, 101, 97, 102]⟩ (by decide) d (by omega)
   rw [show (⟨#[108, 101, 97, 102]⟩ : ByteArray).data.toList = tB "leaf" by decide +kernel, show tagB (tB "leaf") d = leafB d from rfl] at ht
   rw [treeB_1] at hlf ⊢
   have e1 : dgL [d] = bys d := by rw [dgL, dgL, List.append_nil]
   generalize leafB d = r at *
   refine Fun.of_wp (pn := noPn) Tryz.tab Tryz.func124 rfl fun β0 => ?_
   simp only [Tryz.f124]
   repeat(first|apply wG|(apply wR;simp -dsimp [slG])|refine aI ?_)
   refine cF (by simp) ?_
   refine WP.skip ?_
   simp -dsimp
   repeat(first|apply wG|(apply wR;simp -dsimp [slG])|refine aI ?_)
   refine cT (by simp) ?_
   repeat(first|apply wG|(apply wR;simp -dsimp [slG, e1])|refine aI ?_)
   refine vcStop.sliceIp Tryz.tab rfl rfl rfl rfl (by simp [e1, bys_len, hd]) (by decide) rfl ?_
   simp -dsimp [bys_t32, hd]
   repeat(first|apply wG|(apply wR;simp -dsimp [bys_len, hd])|refine aI ?_)
   refine vcStop.call0 Tryz.body129 ht rfl rfl (by simp [slB, hd]) ?_
   simp -dsimp [dD]
   refine And.intro ⟨hlf, fun a h => bysD_one h⟩ ?_
   repeat(first|apply wG|(apply wR;simp -dsimp [bys_len, hlf])|refine aI ?_)
   refine WP.ret (finQ.retE ?_)
   simp -dsimp [setL_whole, bys_len, hlf, bysA_take]
   exact Leq.aggD _
  ·have k1 := halfN_pos l.length
   have k2 := halfN_lt l.length (by omega)
   have hh := refHalf_ok l.length h1 hn
   rw [treeB_2 l (by omega)] at hlf ⊢
   generalize halfN l.length = k at *
   have lt : (l.take k).length = k := by rw [List.length_take]; omega
   have ld : (l.drop k).length = l.length - k := List.length_drop
   have ht := ih (l.take k) (by rw [lt]; omega) (all32_take hl k) (by rw [lt]; omega) (by rw [lt]; omega)
   have hd := ih (l.drop k) (by rw [ld]; omega) (all32_drop hl k) (by rw [ld]; omega) (by rw [ld]; omega)
   have l1 := treeB_len (l.take k)
   have l2 := treeB_len (l.drop k)
   have hno := refNode_ok hsum (treeB (l.take k)) (treeB (l.drop k)) l1 l2
   have e1 := dgL_take k hl
   have e2 := dgL_drop k hl
   have e5 : ((l.length : Int) - (k : Int)).toNat = l.length - k := by omega
   have e6 : List.take ((l.length - k) * 32) (dgL (l.drop k)) = dgL (l.drop k) := List.take_of_length_le (by rw [dgL_len (all32_drop hl k), ld]; omega)
   generalize nodeB (treeB (l.take k)) (treeB (l.drop k)) = r at *
   generalize treeB (l.take k) = a at *
   generalize treeB (l.drop k) = b at *
   have hne : l ≠ [] := by rintro rfl; simp at k2
   refine Fun.of_wp (pn := noPn) Tryz.tab Tryz.func124 rfl fun β0 => ?_
   simp only [Tryz.f124]
   repeat(first|apply wG|(apply wR;simp -dsimp [slG])|refine aI ?_)
   refine cF (by simp [hne]) ?_
   refine WP.skip ?_
   simp -dsimp
   repeat(first|apply wG|(apply wR;simp -dsimp [slG])|refine aI ?_)
   refine cF (by simp; omega) ?_
   refine WP.skip ?_
   simp -dsimp
   repeat(first|apply wG|(apply wR;simp -dsimp [slG])|refine aI ?_)
   refine vcStop.call0 Tryz.body184 hh rfl rfl (by simp) ?_
   simp -dsimp
   repeat(first|apply wG|(apply wR;simp -dsimp [slG])|refine aI ?_)
   refine vcStop.call0 Tryz.body124 ht rfl rfl (by simp [slG, e1, lt]) ?_
   simp -dsimp
   repeat(first|apply wG|(apply wR;simp -dsimp [slG])|refine aI ?_)
   refine vcStop.call0 Tryz.body124 hd rfl rfl (by simp [slG, e2, ld, e5, e6]) ?_
   simp -dsimp
   repeat(first|apply wG|(apply wR;simp -dsimp)|refine aI ?_)
   refine vcStop.call0L Tryz.body185 hno rfl rfl (And.intro (.refl _) (And.intro (.refl _) trivial)) ?_
   simp -dsimp [dD]
   refine And.intro ⟨hlf, fun a h => bysD_one h⟩ ?_
   repeat(first|apply wG|(apply wR;simp -dsimp [bys_len, hlf])|refine aI ?_)
   refine WP.ret (finQ.retE ?_)
   simp -dsimp [setL_whole, bys_len, hlf, bysA_take]
   exact Leq.aggD _
theorem refTree_ok (hsum : ∀ b : List UInt8, b.length ≤ 100000 → Fn0 Tryz.prog 190 [slB b] (dD (sumB b))) (l : List Dg) (hl : all32 l) (h1 : 1 ≤ l.length) (hn : l.length ≤ 65536) : Fn0 Tryz.prog 124 [slG l] (dD (treeB l)) := refTree_N hsum l.length l (Nat.le_refl _) hl h1 hn
theorem refPath_N (hsum : ∀ b : List UInt8, b.length ≤ 100000 → Fn0 Tryz.prog 190 [slB b] (dD (sumB b))) : ∀ (N : Nat) (l : List Dg) (i : Nat), l.length ≤ N → all32 l → i < l.length → l.length ≤ 65536 →
  Fun Tryz.prog 186 [.d (slG l), .d (.v (.int .i64 i))] [] (.row 0) [(0, .row 102 32 (pathB l i).length ((dgL (pathB l i)).map .d))] fun _ => False := by
 intro N
 induction N with
 | zero => intro l i h1 h2 h3; omega
 | succ N ih =>
  intro l i hf hl hi hn
  have lC := dgL_len hl
  by_cases hn1 : l.length ≤ 1
  ·rw [pathB_1 l i hn1]
   refine Fun.of_wp (pn := noPn) Tryz.tab Tryz.func186 rfl fun β0 => ?_
   simp only [Tryz.f186]
   repeat(first|apply wG|(apply wR;simp -dsimp [slG])|refine aI ?_)
   refine cT (by simp; omega) ?_
   repeat(first|apply wG|(apply wR;simp -dsimp)|refine aI ?_)
   refine WP.ret (finQ.retWE (S' := mkS 40 [(4, .row 0)] [(0, .row 102 32 0 [])]) (Wk.go [] 9 0 (by decide) (by simp) (by simp) (by simp)) ?_)
   simp -dsimp [dgL]
  ·have k1 := halfN_pos l.length
   have k2 := halfN_lt l.length (by omega)
   have hh := refHalf_ok l.length (by omega) hn
   have hp2 := pathB_2 l i (by omega)
   have h32 := path_32 l.length l i (Nat.le_refl _)
   generalize halfN l.length = k at *
   have lt : (l.take k).length = k := by rw [List.length_take]; omega
   have ld : (l.drop k).length = l.length - k := List.length_drop
   have e1 := dgL_take k hl
   have e2 := dgL_drop k hl
   have e5 : ((l.length : Int) - (k : Int)).toNat = l.length - k := by omega
   have e6 : List.take ((l.length - k) * 32) (dgL (l.drop k)) = dgL (l.drop k) := List.take_of_length_le (by rw [dgL_len (all32_drop hl k), ld]; omega)
   have l1 := treeB_len (l.take k)
   have l2 := treeB_len (l.drop k)
   have ht1 := refTree_ok hsum (l.take k) (all32_take hl k) (by rw [lt]; omega) (by rw [lt]; omega)
   have ht2 := refTree_ok hsum (l.drop k) (all32_drop hl k) (by rw [ld]; omega) (by rw [ld]; omega)
   by_cases hik : i < k
   ·rw [if_pos hik] at hp2
    have hr := ih (l.take k) i (by rw [lt]; omega) (all32_take hl k) (by rw [lt]; omega) (by rw [lt]; omega)
    have hpl : (pathB l i).length = (pathB (l.take k) i).length + 1 := by rw [hp2]; simp
    have hpd : dgL (pathB l i) = dgL (pathB (l.take k) i) ++ bys (treeB (l.drop k)) := by rw [hp2, dgL_snoc]
    have hq32 := path_32 l.length (l.take k) i (by rw [lt]; omega)
    have lq := dgL_len hq32
    have hql : (pathB (l.take k) i).length ≤ 65536 := by
     rw [(path_up _ (l.take k) i (Nat.le_refl _) (by rw [lt]; omega)).1]
     have := dirB_len (l.take k).length i (l.take k).length (Nat.le_refl _)
     omega
    rw [hpl, hpd]
    generalize pathB (l.take k) i = q at *
    generalize treeB (l.drop k) = b at *
    refine Fun.of_wp (pn := noPn) Tryz.tab Tryz.func186 rfl fun β0 => ?_
    simp only [Tryz.f186]
    repeat(first|apply wG|(apply wR;simp -dsimp [slG])|refine aI ?_)
    refine cF (by simp; omega) ?_
    refine WP.skip ?_
    simp -dsimp
    repeat(first|apply wG|(apply wR;simp -dsimp [slG])|refine aI ?_)
    refine vcStop.call0 Tryz.body184 hh rfl rfl (by simp) ?_
    simp -dsimp
    repeat(first|apply wG|(apply wR;simp -dsimp [slG])|refine aI ?_)
    refine cT (by simp; omega) ?_
    repeat(first|apply wG|(apply wR;simp -dsimp [slG, e1, lt])|refine aI ?_)
    refine vcStop.call Tryz.body186 (hr) (rl [(0, 700)]) rfl rfl (by simp [slG, e1, lt, BoxLeq]) (CallOk.of (by simp [slG, e1, lt, BoxLeq]) rfl (by first | rfl | (simp [slG, e1, lt, BoxLeq]; done)) (by simp [slG, e1, lt, BoxLeq]) (by simp [slG, e1, lt, BoxLeq])) (fun _ h => h.elim) (fun ⟨_, h⟩ => h.elim) (fun ⟨_, h⟩ => h.elim) (by simp [slG, e1, lt, BoxLeq]) ?_
    simp -dsimp
    repeat(first|apply wG|(apply wR;simp -dsimp [slG])|refine aI ?_)
    refine vcStop.call0 Tryz.body124 ht2 rfl rfl (by simp [slG, e2, ld, e5, e6]) ?_
    simp -dsimp [dD, setL_whole, bys_len, l2]
    refine And.intro (fun a h => bysD_one h) ?_
    repeat(first|apply wG|(apply wR;simp -dsimp)|refine aI ?_)
    refine WP.ret (finQ.retWE (S' := mkS 40 [(4, .row 0)] [(0, .row 102 32 (q.length + 1) ((dgL q ++ bys b).map .d))]) (Wk.go [25] 26 0 (by decide) (by simp) (by simp) (by simp)) ?_)
    simp -dsimp
   ·rw [if_neg hik] at hp2
    have hr := ih (l.drop k) (i - k) (by rw [ld]; omega) (all32_drop hl k) (by rw [ld]; omega) (by rw [ld]; omega)
    have hpl : (pathB l i).length = (pathB (l.drop k) (i - k)).length + 1 := by rw [hp2]; simp
    have hpd : dgL (pathB l i) = dgL (pathB (l.drop k) (i - k)) ++ bys (treeB (l.take k)) := by rw [hp2, dgL_snoc]
    have hq32 := path_32 l.length (l.drop k) (i - k) (by rw [ld]; omega)
    have lq := dgL_len hq32
    have e7 : IntKind.i64.wrap ((i : Int) - k) = ((i - k : Nat) : Int) := by rw [IntWalk.i64_in _ (by omega)]; omega
    have hql : (pathB (l.drop k) (i - k)).length ≤ 65536 := by
     rw [(path_up _ (l.drop k) (i - k) (Nat.le_refl _) (by rw [ld]; omega)).1]
     have := dirB_len (l.drop k).length (i - k) (l.drop k).length (Nat.le_refl _)
     omega
    rw [hpl, hpd]
    generalize pathB (l.drop k) (i - k) = q at *
    generalize treeB (l.take k) = b at *
    refine Fun.of_wp (pn := noPn) Tryz.tab Tryz.func186 rfl fun β0 => ?_
    simp only [Tryz.f186]
    repeat(first|apply wG|(apply wR;simp -dsimp [slG])|refine aI ?_)
    refine cF (by simp; omega) ?_
    refine WP.skip ?_
    simp -dsimp
    repeat(first|apply wG|(apply wR;simp -dsimp [slG])|refine aI ?_)
    refine vcStop.call0 Tryz.body184 hh rfl rfl (by simp) ?_
    simp -dsimp
    repeat(first|apply wG|(apply wR;simp -dsimp [slG])|refine aI ?_)
    refine cF (by simp; omega) ?_
    refine WP.skip ?_
    simp -dsimp
    repeat(first|apply wG|(apply wR;simp -dsimp [slG, e2, ld, e5, e6, e7])|refine aI ?_)
    refine vcStop.call Tryz.body186 (hr) (rl [(0, 700)]) rfl rfl (by simp [slG, e2, ld, e5, e6, e7, BoxLeq]) (CallOk.of (by simp [slG, e2, ld, e5, e6, e7, BoxLeq]) rfl (by first | rfl | (simp [slG, e2, ld, e5, e6, e7, BoxLeq]; done)) (by simp [slG, e2, ld, e5, e6, e7, BoxLeq]) (by simp [slG, e2, ld, e5, e6, e7, BoxLeq])) (fun _ h => h.elim) (fun ⟨_, h⟩ => h.elim) (fun ⟨_, h⟩ => h.elim) (by simp [slG, e2, ld, e5, e6, e7, BoxLeq]) ?_
    simp -dsimp
    repeat(first|apply wG|(apply wR;simp -dsimp [slG])|refine aI ?_)
    refine vcStop.call0 Tryz.body124 ht1 rfl rfl (by simp [slG, e1, lt]) ?_
    simp -dsimp [dD, setL_whole, bys_len, l1]
    refine And.intro (fun a h => bysD_one h) ?_
    repeat(first|apply wG|(apply wR;simp -dsimp)|refine aI ?_)
    refine WP.ret (finQ.retWE (S' := mkS 40 [(4, .row 0)] [(0, .row 102 32 (q.length + 1) ((dgL q ++ bys b).map .d))]) (Wk.go [38] 39 0 (by decide) (by simp) (by simp) (by simp)) ?_)
    simp -dsimp
theorem refPath_ok (hsum : ∀ b : List UInt8, b.length ≤ 100000 → Fn0 Tryz.prog 190 [slB b] (dD (sumB b))) (l : List Dg) (hl : all32 l) (hn : l.length ≤ 65536) (i : Nat) (hi : i < l.length) : Fn0 Tryz.prog 127 [slG l, .v (.int .i64 i)] (.tup [slG (pathB l i), .v (.int .i64 0)]) := by
 have hr := refPath_N hsum l.length l i (Nat.le_refl _) hl hi hn
 generalize pathB l i = q at *
 refine Fun.of_wp (pn := noPn) Tryz.tab Tryz.func127 rfl fun β0 => ?_
 simp only [Tryz.f127]
 repeat(first|apply wG|(apply wR;simp -dsimp [slG])|refine aI ?_)
 refine cF (by simp; omega) ?_
 refine WP.skip ?_
 simp -dsimp
 repeat(first|apply wG|(apply wR;simp -dsimp [slG])|refine aI ?_)
 refine vcStop.call Tryz.body186 (hr) (rl [(0, 700)]) rfl rfl (by simp [slG, BoxLeq]) (CallOk.of (by simp [slG, BoxLeq]) rfl (by first | rfl | (simp [slG, BoxLeq]; done)) (by simp [slG, BoxLeq]) (by simp [slG, BoxLeq])) (fun _ h => h.elim) (fun ⟨_, h⟩ => h.elim) (fun ⟨_, h⟩ => h.elim) (by simp [slG, BoxLeq]) ?_
 simp -dsimp
 repeat(first|apply wG|(apply wR;simp -dsimp)|refine aI ?_)
 refine WP.ret (finQ.retWE (Wk.freeze (k := 700) (T := 102) (sz := 32) (n := q.length) (ds := dgL q) (by simp)) ?_)
 simp -dsimp [slG]
abbrev rsS (seed : List UInt8) (m u : Int) (i : Nat) (f : Nat → Bool) (x : List Bool) (pb : List Dg) (j : Nat) : St :=
 mkS 77 [(1, .d (.v (.int .i64 i))), (3, .ptr 3 0), (6, .ptr 6 0), (8, .d (slG pb)), (9, .ptr 9 0), (10, .d (.sl 1 (boD x) 64 false)), (11, .d (.v (.int .i64 j)))]
  [(3, .cells 76 [.d (slB seed), .d (.v (.int .i64 m)), .d (.v (.int .i64 u))]), (6, .cells 68 (zsC.map .d)), (9, .cells 68 [.d (.v (.int .i64 i)), .row 500, .row 501, .d (.v (.slice none 0 0))]), (500, .row 102 32 j ((dgL (openedB seed i f j)).map .d)), (501, .row 102 32 j ((dgL (closedB seed i f j)).map .d))]
theorem refSign4_ok (hsum : ∀ b : List UInt8, b.length ≤ 100000 → Fn0 Tryz.prog 190 [slB b] (dD (sumB b))) (seed : List UInt8) (hs : seed.length ≤ 1000) (m : Nat) (u : Int) (i : Nat) (him : i < m) (hv : keyV seed m u = true) (msg : List UInt8) (hm : msg.length ≤ 65536) :
  Fn0 Tryz.prog 73 [keyD seed m u, .v (.int .i64 i), slB msg] (.tup [.agg (sgnC seed m i msg), .v (.int .i64 0)]) := by
 have h18 := refValid_ok seed m u
 rw [hv] at h18
 have hm4 : m ≤ 4096 := by simp only [keyV, decide_eq_true_eq] at hv; omega
 have h20 := refKeys_ok hsum seed hs m hm4 u
 have hpl := pubsB_len seed m
 have h32 := pubsB_32 seed m
 have h38 := refPath_ok hsum (pubsB seed m) h32 (by omega) i (by omega)
 have h19 := refTree_ok hsum (pubsB seed m) h32 (by omega) (by omega)
 have lT := treeB_len (pubsB seed m)
 have h39 := refBits_ok hsum (treeB (pubsB seed m)) lT i (by omega) msg hm
 have lx := sgnB_len (treeB (pubsB seed m)) i msg
 have hxj : ∀ j, j < 64 → (sgnB (treeB (pubsB seed m)) i msg).getD j false = kbB seed m i msg j := fun j hj => by
  rw [sgnB, List.getD_eq_getElem?_getD, List.getElem?_map, List.getElem?_range hj]; rfl
 unfold sgnC
 generalize kbB seed m i msg = f at *
 generalize sgnB (treeB (pubsB seed m)) i msg = x at *
 generalize treeB (pubsB seed m) = T at *
 generalize pathB (pubsB seed m) i = pa at *
 generalize pubsB seed m = pb at *
 have w0 : IntKind.i64.wrap 0 = 0 := by decide
 have w1 : IntKind.i64.wrap 1 = 1 := by decide
 refine Fun.of_wp (pn := noPn) Tryz.tab Tryz.func73 rfl fun β0 => ?_
 simp only [Tryz.f73]
 repeat(first|apply wG|(apply wR;simp -dsimp [keyD, slB])|refine aI ?_)
 refine vcStop.call0 Tryz.body28 h18 rfl rfl (by simp [keyD, slB]) ?_
 simp -dsimp
 repeat(first|apply wG|(apply wR;simp -dsimp)|refine aI ?_)
 refine cF (by simp) ?_
 refine WP.skip ?_
 simp -dsimp
 repeat(first|apply wG|(apply wR;simp -dsimp [slB])|refine aI ?_)
 refine cF (by simp; omega) ?_
 refine WP.skip ?_
 simp -dsimp
 repeat(first|apply wG|(apply wR;simp -dsimp)|refine aI ?_)
 refine cF (by simp; omega) ?_
 refine WP.skip ?_
 simp -dsimp
 repeat(first|apply wG|(apply wR;simp -dsimp)|refine aI ?_)
 refine vcStop.call0 Tryz.body122 h20 rfl rfl (by simp [keyD, slB]) ?_
 simp -dsimp
 repeat(first|apply wG|(apply wR;simp -dsimp [slG])|refine aI ?_)
 refine vcStop.call0 Tryz.body124 h19 rfl rfl (by simp [slG]) ?_
 simp -dsimp
 repeat(first|apply wG|(apply wR;simp -dsimp)|refine aI ?_)
 refine vcStop.call0L Tryz.body123 h39 rfl rfl (And.intro (.refl _) (And.intro (by simp) (And.intro (by simp [slB]) trivial))) ?_
 simp -dsimp
 repeat(first|apply wG|(apply wR;simp -dsimp)|refine aI ?_)
 have hlo : ∀ j, j ≤ 64 → (dgL (openedB seed i f j)).length = j * 32 := fun j _ => by rw [dgL_len (openedB_32 seed i f j), openedB_len]
 have hlc : ∀ j, j ≤ 64 → (dgL (closedB seed i f j)).length = j * 32 := fun j _ => by rw [dgL_len (closedB_32 seed i f j), closedB_len]
 refine WP.loopWk (fun q S => ∃ j : Nat, q = 64 - j ∧ j ≤ 64 ∧ S = rsS seed m u i f x pb j) 64 (S0 := rsS seed m u i f x pb 0) ((Wk.nilCell 9 1 500 102 32 (by simp; exact ⟨rfl, rfl⟩) rfl (by simp)).trans ((Wk.nilCell 9 2 501 102 32 (by simp; exact ⟨rfl, rfl⟩) rfl (by simp)).trans (Wk.lessE [] (by simp [slG]) (by simp [slB, openedB, closedB, dgL])))) ⟨0, rfl, by omega, rfl⟩ ?_
 rintro _ _ ⟨j, rfl, hj, rfl⟩
 simp -dsimp
 repeat(first|apply wG|(apply wR;simp -dsimp)|refine aI ?_)
 by_cases hj64 : j < 64
 ·refine cT (by simp; omega) ?_
  refine WP.skip ?_
  have e1 : IntKind.i64.wrap ((j : Int) + 1) = ((j + 1 : Nat) : Int) := by rw [IntWalk.i64_in _ (by omega)]; omega
  have ha := boD_at x j (by omega)
  have hg := boD_gE x j (by omega)
  rw [hxj j hj64] at ha hg
  have h40 := refSecret_ok hsum seed hs m u i (by omega) j hj64 (f j)
  have h41 := refSecret_ok hsum seed hs m u i (by omega) j hj64 (!f j)
  have l40 : (secretB seed i j (f j)).length = 32 := tagB_len _ _
  have l41 : (secretB seed i j (!f j)).length = 32 := tagB_len _ _
  have h37 := refHash_ok hsum (secretB seed i j (!f j)) l41
  have l37 : (keyH seed i j (!f j)).length = 32 := tagB_len _ _
  rw [show openB (secretB seed i j (!f j)) = keyH seed i j (!f j) from rfl] at h37
  have ho1 : openedB seed i f (j + 1) = openedB seed i f j ++ [secretB seed i j (f j)] := rfl
  have hc1 : closedB seed i f (j + 1) = closedB seed i f j ++ [keyH seed i j (!f j)] := rfl
  have hlo1 := hlo j hj
  have hlc1 := hlc j hj
  generalize secretB seed i j (f j) = sc at *
  generalize keyH seed i j (!f j) = hc at *
  generalize secretB seed i j (!f j) = sd at *
  generalize f j = b at *
  simp -dsimp [slB]
  repeat(first|apply wG|(apply wR;simp -dsimp [ha, hg, boD_len, lx, hj64, slB])|refine aI ?_)
  cases b with
  | true =>
   rw [show bI true = 1 from rfl] at h40
   rw [show bI (!true) = 0 from rfl] at h41
   refine cT (by simp) ?_
   repeat(first|apply wG|(apply wR;simp -dsimp [slB])|refine aI ?_)
   refine vcStop.call0 Tryz.body125 h40 rfl rfl (by simp [keyD, slB]) ?_
   simp -dsimp [dD, setL_whole, bys_len, l40]
   refine And.intro (fun a h => bysD_one h) ?_
   repeat(first|apply wG|(apply wR;simp -dsimp [setL_whole, bys_len, l40, slB, w0, w1])|refine aI ?_)
   refine vcStop.call0 Tryz.body125 h41 rfl rfl (by simp [keyD, slB, w0, w1]) ?_
   simp -dsimp
   repeat(first|apply wG|(apply wR;simp -dsimp)|refine aI ?_)
   refine vcStop.call0L Tryz.body126 h37 rfl rfl (And.intro (.refl _) trivial) ?_
   simp -dsimp [dD, setL_whole, bys_len, l37]
   refine And.intro (fun a h => bysD_one h) ?_
   repeat(first|apply wG|(apply wR;simp -dsimp [setL_whole, bys_len, l37])|refine aI ?_)
   refine loopW.next (rsS seed m u i f x pb (j + 1)) (Wk.go2 [54, 66] 55 500 67 501 (by decide) (by decide) (by simp [slG]) (by simp [slG]) (by simp [slG, e1]) (by simp [slB, ho1, hc1, dgL_snoc])) (64 - (j + 1)) (by omega) ⟨j + 1, rfl, by omega, rfl⟩
  | false =>
   rw [show bI false = 0 from rfl] at h40
   rw [show bI (!false) = 1 from rfl] at h41
   refine cF (by simp) ?_
   refine WP.skip ?_
   simp -dsimp
   repeat(first|apply wG|(apply wR;simp -dsimp [slB])|refine aI ?_)
   refine vcStop.call0 Tryz.body125 h40 rfl rfl (by simp [keyD, slB]) ?_
   simp -dsimp [dD, setL_whole, bys_len, l40]
   refine And.intro (fun a h => bysD_one h) ?_
   repeat(first|apply wG|(apply wR;simp -dsimp [setL_whole, bys_len, l40, slB, w0, w1])|refine aI ?_)
   refine vcStop.call0 Tryz.body125 h41 rfl rfl (by simp [keyD, slB, w0, w1]) ?_
   simp -dsimp
   repeat(first|apply wG|(apply wR;simp -dsimp)|refine aI ?_)
   refine vcStop.call0L Tryz.body126 h37 rfl rfl (And.intro (.refl _) trivial) ?_
   simp -dsimp [dD, setL_whole, bys_len, l37]
   refine And.intro (fun a h => bysD_one h) ?_
   repeat(first|apply wG|(apply wR;simp -dsimp [setL_whole, bys_len, l37])|refine aI ?_)
   refine loopW.next (rsS seed m u i f x pb (j + 1)) (Wk.go2 [54, 66] 55 500 67 501 (by decide) (by decide) (by simp [slG]) (by simp [slG]) (by simp [slG, e1]) (by simp [slB, ho1, hc1, dgL_snoc])) (64 - (j + 1)) (by omega) ⟨j + 1, rfl, by omega, rfl⟩
 ·refine cF (by simp; omega) ?_
  refine WP.exit ?_
  obtain rfl : j = 64 := by omega
  have lo := openedB_len seed i f 64
  have lc := closedB_len seed i f 64
  generalize openedB seed i f 64 = op at *
  generalize closedB seed i f 64 = cl at *
  refine WP.weak ((Wk.freeze (k := 500) (T := 102) (sz := 32) (n := 64) (ds := dgL op) (by simp)).trans (Wk.freeze (k := 501) (T := 102) (sz := 32) (n := 64) (ds := dgL cl) (by simp))) ?_
  simp -dsimp [slG]
  repeat(first|apply wG|(apply wR;simp -dsimp [slG])|refine aI ?_)
  refine vcStop.call0 Tryz.body127 h38 rfl rfl (by simp [slG]) ?_
  simp -dsimp [slG]
  repeat(first|apply wG|(apply wR;simp -dsimp [slG])|refine aI ?_)
  refine WP.ret (finQ.retE ?_)
  simp -dsimp
  rw [sigC, slG, slG, slG, lo, lc]
  exact tupA [.v (.int .i64 i), .sl 32 (dgL op) 64 false, .sl 32 (dgL cl) 64 false, .sl 32 (dgL pa) pa.length false] _
theorem refSignN_ok (seed : List UInt8) (m u : Int) (i : Int) (hi : 0 ≤ i) (hno : keyV seed m u = true → m ≤ i) (msg : List UInt8) (hm : msg.length ≤ 65536) :
  Fn0 Tryz.prog 73 [keyD seed m u, .v (.int .i64 i), slB msg] (.tup [.agg zsC, .v (.int .i64 40)]) := by
 have h18 := refValid_ok seed m u
 refine Fun.of_wp (pn := noPn) Tryz.tab Tryz.func73 rfl fun β0 => ?_
 simp only [Tryz.f73]
 repeat(first|apply wG|(apply wR;simp -dsimp [keyD, slB])|refine aI ?_)
 refine vcStop.call0 Tryz.body28 h18 rfl rfl (by simp [keyD, slB]) ?_
 simp -dsimp
 repeat(first|apply wG|(apply wR;simp -dsimp)|refine aI ?_)
 by_cases hv : keyV seed m u = true
 ·have hmi := hno hv
  refine cF (by simp [hv]) ?_
  refine WP.skip ?_
  simp -dsimp
  repeat(first|apply wG|(apply wR;simp -dsimp [slB])|refine aI ?_)
  refine cF (by simp; omega) ?_
  refine WP.skip ?_
  simp -dsimp
  repeat(first|apply wG|(apply wR;simp -dsimp)|refine aI ?_)
  refine cT (by simp; omega) ?_
  repeat(first|apply wG|(apply wR;simp -dsimp)|refine aI ?_)
  refine WP.ret (finQ.retE ?_)
  simp -dsimp
 ·refine cT (by simp [hv]) ?_
  repeat(first|apply wG|(apply wR;simp -dsimp)|refine aI ?_)
  refine WP.ret (finQ.retE ?_)
  simp -dsimp
set_option maxHeartbeats 1000000 in
theorem refSign13_ok (seed : List UInt8) (m u : Int) (f : Nat → Int) (hf : fOk f) :
  Fn0 Tryz.prog 30 [keyD seed m u, fD f] (.tup [.agg (sgnR seed m u f).1, .v (.int .i64 (sgnR seed m u f).2)]) := by
 have h72 := refCheck_ok f hf
 rw [← (num_chk hf).1] at h72
 have hl57 := fcs_len57 f
 refine Fun.of_wp (pn := noPn) Tryz.tab Tryz.func30 rfl fun β0 => ?_
 simp only [Tryz.f30]
 repeat(first|apply wG|(apply wR;simp -dsimp [keyD, slB, fD])|refine aI ?_)
 refine vcStop.call0L Tryz.body72 h72 rfl rfl (And.intro (by simp [fD]; try exact Leq.aggD _) trivial) ?_
 simp -dsimp
 repeat(first|apply wG|(apply wR;simp -dsimp)|refine aI ?_)
 unfold sgnR
 by_cases hv : (numF f).2 = true
 ·rw [if_pos hv]
  obtain ⟨_, hf1, hf1'⟩ := num_hd hv
  refine cF (by simp [hv]) ?_
  refine WP.skip ?_
  have e1 : IntKind.i64.wrap (f 1 - 1) = f 1 - 1 := IntWalk.i64_in _ (by omega)
  have hmsg := refMsg_ok refSum_ok f hf
  have hml := msgB_len f
  simp -dsimp
  repeat(first|apply wG|(apply wR;simp -dsimp [e1])|refine aI ?_)
  refine vcStop.call0L Tryz.body74 hmsg rfl rfl (And.intro (by simp [fD]; try exact Leq.aggD _) trivial) ?_
  simp -dsimp
  repeat(first|apply wG|(apply wR;simp -dsimp [e1])|refine aI ?_)
  by_cases hk : keyV seed m u = true ∧ f 1 - 1 < m
  ·rw [if_pos hk]
   obtain ⟨hk1, hk2⟩ := hk
   obtain ⟨M, rfl⟩ : ∃ M : Nat, m = M := ⟨m.toNat, by omega⟩
   obtain ⟨N, hN⟩ : ∃ N : Nat, f 1 - 1 = N := ⟨(f 1 - 1).toNat, by omega⟩
   rw [hN, Int.toNat_natCast, Int.toNat_natCast]
   have hs : seed.length ≤ 1000 := by simp only [keyV, decide_eq_true_eq] at hk1; omega
   have h21 := refSign4_ok refSum_ok seed hs M u N (by omega) hk1 (msgB f) (by omega)
   refine vcStop.call0L Tryz.body73 h21 rfl rfl (And.intro (by simp [keyD, slB]; try exact Leq.aggD [.sl 1 (bys seed) seed.length false, .v (.int .i64 M), .v (.int .i64 u)]) (And.intro (by simp [hN]) (And.intro (by simp [slB]) trivial))) ?_
   simp -dsimp [sgnC, sigC, slG]
   repeat(first|apply wG|(apply wR;simp -dsimp [sgnC, sigC, slG])|refine aI ?_)
   refine cF (by simp) ?_
   refine WP.skip ?_
   have lo := openedB_len seed N (kbB seed M N (msgB f)) 64
   have lc := closedB_len seed N (kbB seed M N (msgB f)) 64
   unfold sgnC
   generalize openedB seed N (kbB seed M N (msgB f)) 64 = op at *
   generalize closedB seed N (kbB seed M N (msgB f)) 64 = cl at *
   generalize pathB (pubsB seed M) N = pa at *
   clear h72 hmsg hml e1 h21
   have t57 : List.take 57 ((fcs f 0 57).map AV.d) = (fcs f 0 57).map .d := List.take_of_length_le (by rw [List.length_map, hl57]; exact Nat.le_refl _)
   simp -dsimp
   refine WP.seq ?_
   refine WP.region Tryz.tab ?_
   simp -dsimp [hl57, t57, setL_length, set61]
   refine And.intro (fun a h => fcs_side h) ?_
   refine And.intro (fun c h => ?_) ?_
   ·rcases h with ⟨a, ha, rfl⟩ | rfl | rfl | rfl | rfl
    ·exact fcs_side ha
    all_goals rfl
   refine WP.ret (finQ.retE ?_)
   have ht := tupA (fcs f 0 57 ++ sigC N op cl pa) (.v (.int .i64 0))
   rw [List.map_append] at ht
   have h61 : List.take 61 ((fcs f 0 57).map AV.d ++ [AV.d (D.v (Value.int IntKind.i64 ↑N)), AV.d (D.sl 32 (dgL op) op.length false), AV.d (D.sl 32 (dgL cl) cl.length false), AV.d (D.sl 32 (dgL pa) pa.length false)]) = (fcs f 0 57).map AV.d ++ [AV.d (D.v (Value.int IntKind.i64 ↑N)), AV.d (D.sl 32 (dgL op) op.length false), AV.d (D.sl 32 (dgL cl) cl.length false), AV.d (D.sl 32 (dgL pa) pa.length false)] := List.take_of_length_le (by simp [hl57])
   simp -dsimp [h61]
   exact ht
  ·rw [if_neg hk]
   have h21 := refSignN_ok seed m u (f 1 - 1) (by omega) (fun h => by
    by_cases hlt : f 1 - 1 < m
    ·exact absurd ⟨h, hlt⟩ hk
    ·omega) (msgB f) (by omega)
   refine vcStop.call0L Tryz.body73 h21 rfl rfl (And.intro (by simp [keyD, slB]; try exact Leq.aggD [.sl 1 (bys seed) seed.length false, .v (.int .i64 m), .v (.int .i64 u)]) (And.intro (by simp) (And.intro (by simp [slB]) trivial))) ?_
   simp -dsimp
   repeat(first|apply wG|(apply wR;simp -dsimp)|refine aI ?_)
   refine cT (by simp) ?_
   repeat(first|apply wG|(apply wR;simp -dsimp)|refine aI ?_)
   refine WP.ret (finQ.retE ?_)
   simp -dsimp
   exact tupA (fcs f0 0 57 ++ zsC) _
 ·rw [if_neg hv]
  refine cT (by simp [hv]) ?_
  repeat(first|apply wG|(apply wR;simp -dsimp)|refine aI ?_)
  refine WP.ret (finQ.retE ?_)
  simp -dsimp [hv]
  exact tupA (fcs f0 0 57 ++ zsC) _
/-! ### data that say more, in structs -/
theorem LeqL.data : ∀ {a b : List D}, DLes a b → LeqL (a.map .d) (b.map .d)
 | [], [], _ => trivial
 | _ :: _, _ :: _, h => ⟨Leq.data h.1, LeqL.data h.2⟩
 | [], _ :: _, h => h.elim
 | _ :: _, [], h => h.elim
theorem Leq.ofTup (l : List D) : Leq (.d (.tup l)) (.tup (l.map .d)) := fun w I β v hv => by
 rw [DenA, Den] at hv; obtain ⟨vs, e, hd⟩ := hv; exact ⟨vs, e, .of_dens hd⟩
theorem DLe.of {d d' : D} (h : Leq (.d d) (.d d')) : DLe d d' := fun w I v hv => by
 have k := h w I (fun _ => .bool false) v (by rw [DenA]; exact hv)
 rw [DenA] at k
 exact k
theorem DLe.agg {a b : List D} (h : DLes a b) : DLe (.agg a) (.agg b) := DLe.of ((Leq.ofAgg a).trans ((Leq.agg (LeqL.data h)).trans (Leq.aggD b)))
theorem DLe.tup {a b : List D} (h : DLes a b) : DLe (.tup a) (.tup b) := DLe.of ((Leq.ofTup a).trans ((Leq.tup (LeqL.data h)).trans (Leq.tupD b)))
def sgnP (seed : List UInt8) (m u : Int) (f : Nat → Int) : Sg × Int :=
 if (numF f).2 = true then
  if keyV seed m u = true ∧ f 1 - 1 < m then ((f, sgnC seed m.toNat (f 1 - 1).toNat (msgB f)), 0) else ((f0, sigC 0 [] [] []), 40)
 else ((f0, sigC 0 [] [] []), 120)
theorem sgn_zero : DLes (fcs f0 0 57 ++ zsC) (sgc (f0, sigC 0 [] [] [])) := DLes.append (DLes.refl _) ⟨DLe.refl _, DLe.nil 32, DLe.nil 32, DLe.nil 32, trivial⟩
theorem sgn_le (seed : List UInt8) (m u : Int) (f : Nat → Int) : DLe (.tup [.agg (sgnR seed m u f).1, .v (.int .i64 (sgnR seed m u f).2)]) (.tup [sgV (sgnP seed m u f).1, .v (.int .i64 (sgnP seed m u f).2)]) := by
 unfold sgnR sgnP
 by_cases hv : (numF f).2 = true
 ·rw [if_pos hv, if_pos hv]
  by_cases hk : keyV seed m u = true ∧ f 1 - 1 < m
  ·rw [if_pos hk, if_pos hk]
   exact DLe.refl _
  ·rw [if_neg hk, if_neg hk]
   exact DLe.tup ⟨DLe.agg sgn_zero, DLe.refl _, trivial⟩
 ·rw [if_neg hv, if_neg hv]
  exact DLe.tup ⟨DLe.agg sgn_zero, DLe.refl _, trivial⟩
theorem sgnP_ok (seed : List UInt8) (m u : Int) (f : Nat → Int) (hf : fOk f) : fOk (sgnP seed m u f).1.1 ∧ sgT (sgnP seed m u f).1 := by
 have hz : sgT ((f0, sigC 0 [] [] []) : Sg) := ⟨0, [], [], [], rfl, ⟨(by unfold isI; decide), (fun _ h => by cases h), (fun _ h => by cases h), (fun _ h => by cases h), Nat.zero_le _, Nat.zero_le _, Nat.zero_le _⟩⟩
 unfold sgnP
 by_cases hv : (numF f).2 = true
 ·rw [if_pos hv]
  by_cases hk : keyV seed m u = true ∧ f 1 - 1 < m
  ·rw [if_pos hk]
   obtain ⟨_, hf1, hf1'⟩ := num_hd hv
   obtain ⟨hk1, hk2⟩ := hk
   have hm : m ≤ 4096 := by simp only [keyV, decide_eq_true_eq] at hk1; omega
   exact ⟨hf, ⟨_, _, _, _, rfl, sig_sgn seed m.toNat _ _ (by omega) (by omega)⟩⟩
  ·rw [if_neg hk]
   exact ⟨f0_ok, hz⟩
 ·rw [if_neg hv]
  exact ⟨f0_ok, hz⟩
set_option maxHeartbeats 2000000 in
theorem law_sign (seed : List UInt8) (m u : Int) (f : Nat → Int) (hf : fOk f) : Fn0 Tryz.prog 6 [keyD seed m u, fD f] (.v (.bool true)) := by
 have hl57 := fcs_len57 f
 have hfe := few4_ok seed m u
 have hva := refValid_ok seed m u
 have h30 : Fn0 Tryz.prog 30 [keyD seed m u, fD f] (.tup [sgV (sgnP seed m u f).1, .v (.int .i64 (sgnP seed m u f).2)]) := Fun.res (refSign13_ok seed m u f hf) (Leq.data (sgn_le seed m u f)) (by simp [subB])
 obtain ⟨of, oT⟩ := sgnP_ok seed m u f hf
 have h29 : (seed.length ≤ 1000 ∨ ¬ keyV seed m u = true) → Fn0 Tryz.prog 29 [keyD seed m u, fD f] (.tup [sgV (sgnP seed m u f).1, .v (.int .i64 (sgnP seed m u f).2)]) := fun h => by
  rcases h with h | h
  ·exact Fun.res (crwSign_ok seed h m u f hf) (Leq.data (sgn_le seed m u f)) (by simp [subB])
  ·exact Fun.res (crwSignX_ok seed m u h f hf) (Leq.data (sgn_le seed m u f)) (by simp [subB])
 generalize sgnP seed m u f = R at *
 obtain ⟨p, e⟩ := R
 simp only at of oT h29 h30
 have hpo := sgT_ok of oT
 have lp := sgc_len hpo
 have tp := sgc_tm hpo
 obtain ⟨r, hr, hrt⟩ := sameSgU_ok p p hpo hpo oT oT
 rw [hrt rfl] at hr
 clear hrt
 refine Fun.of_wp (pn := noPn) Tryz.tab Tryz.func6 rfl fun β0 => ?_
 simp only [Tryz.f6]
 repeat(first|apply wG|(apply wR;simp -dsimp [keyD, slB, fD])|refine aI ?_)
 refine vcStop.call0 Tryz.body26 sane13_ok rfl rfl (by simp) ?_
 simp -dsimp
 repeat(first|apply wG|(apply wR;simp -dsimp)|refine aI ?_)
 refine cF (by simp) ?_
 refine WP.skip ?_
 simp -dsimp
 repeat(first|apply wG|(apply wR;simp -dsimp)|refine aI ?_)
 refine vcStop.call0L Tryz.body27 hfe rfl rfl (And.intro (by simp [keyD, slB]; try exact Leq.aggD [.sl 1 (bys seed) seed.length false, .v (.int .i64 m), .v (.int .i64 u)]) (And.intro (Leq.nil 1) trivial)) ?_
 simp -dsimp
 repeat(first|apply wG|(apply wR;simp -dsimp)|refine aI ?_)
 cases hfw : few4 seed m with
 | true =>
  obtain ⟨hm2, hs⟩ : m ≤ 2 ∧ seed.length ≤ 100 := by simpa [few4] using hfw
  have h29' := h29 (.inl (by omega))
  simp -dsimp
  repeat(first|apply wG|(apply wR;simp -dsimp)|refine aI ?_)
  refine vcStopG.skip (.d (.v (.bool false))) ?_
  simp -dsimp
  repeat(first|apply wG|(apply wR;simp -dsimp)|refine aI ?_)
  refine cF (by simp) ?_
  refine WP.skip ?_
  simp -dsimp
  repeat(first|apply wG|(apply wR;simp -dsimp)|refine aI ?_)
  refine vcStop.call0L Tryz.body29 h29' rfl rfl (And.intro (by simp [keyD, slB]; try exact Leq.aggD [.sl 1 (bys seed) seed.length false, .v (.int .i64 m), .v (.int .i64 u)]) (And.intro (by simp [fD]; try exact Leq.aggD _) trivial)) ?_
  simp -dsimp [sgV, setL_whole, lp]
  refine And.intro (fun a h => sgc_oneD hpo a h) ?_
  repeat(first|apply wG|(apply wR;simp -dsimp [setL_whole, lp])|refine aI ?_)
  refine vcStop.call0L Tryz.body30 h30 rfl rfl (And.intro (by simp [keyD, slB]; try exact Leq.aggD [.sl 1 (bys seed) seed.length false, .v (.int .i64 m), .v (.int .i64 u)]) (And.intro (by simp [fD]; try exact Leq.aggD _) trivial)) ?_
  simp -dsimp [sgV, setL_whole, lp]
  refine And.intro (fun a h => sgc_oneD hpo a h) ?_
  repeat(first|apply wG|(apply wR;simp -dsimp [setL_whole, lp, tp])|refine aI ?_)
  refine vcStopG.call0L Tryz.body31 (fun _ => hr) rfl (fun _ => rfl) (fun _ => And.intro (by simp [lp, tp, sgV]; try exact Leq.aggD _) (And.intro (by simp [lp, tp, sgV]; try exact Leq.aggD _) trivial)) ?_
  simp -dsimp
  repeat(first|apply wG|(apply wR;simp -dsimp)|refine aI ?_)
  refine WP.ret (finQ.retE ?_)
  simp -dsimp
 | false =>
  simp -dsimp
  repeat(first|apply wG|(apply wR;simp -dsimp)|refine aI ?_)
  refine vcStopG.call0L Tryz.body28 (fun _ => hva) rfl (fun _ => rfl) (fun _ => And.intro (by simp [keyD, slB]; try exact Leq.aggD [.sl 1 (bys seed) seed.length false, .v (.int .i64 m), .v (.int .i64 u)]) trivial) ?_
  simp -dsimp
  repeat(first|apply wG|(apply wR;simp -dsimp)|refine aI ?_)
  by_cases hk : keyV seed m u = true
  ·refine cT (by simp [hk]) ?_
   repeat(first|apply wG|(apply wR;simp -dsimp)|refine aI ?_)
   refine WP.ret (finQ.retE ?_)
   simp -dsimp
  ·refine cF (by simp [hk]) ?_
   refine WP.skip ?_
   have h29' := h29 (.inr hk)
   simp -dsimp
   repeat(first|apply wG|(apply wR;simp -dsimp)|refine aI ?_)
   refine vcStop.call0L Tryz.body29 h29' rfl rfl (And.intro (by simp [keyD, slB]; try exact Leq.aggD [.sl 1 (bys seed) seed.length false, .v (.int .i64 m), .v (.int .i64 u)]) (And.intro (by simp [fD]; try exact Leq.aggD _) trivial)) ?_
   simp -dsimp [sgV, setL_whole, lp]
   refine And.intro (fun a h => sgc_oneD hpo a h) ?_
   repeat(first|apply wG|(apply wR;simp -dsimp [setL_whole, lp])|refine aI ?_)
   refine vcStop.call0L Tryz.body30 h30 rfl rfl (And.intro (by simp [keyD, slB]; try exact Leq.aggD [.sl 1 (bys seed) seed.length false, .v (.int .i64 m), .v (.int .i64 u)]) (And.intro (by simp [fD]; try exact Leq.aggD _) trivial)) ?_
   simp -dsimp [sgV, setL_whole, lp]
   refine And.intro (fun a h => sgc_oneD hpo a h) ?_
   repeat(first|apply wG|(apply wR;simp -dsimp [setL_whole, lp, tp])|refine aI ?_)
   refine vcStopG.call0L Tryz.body31 (fun _ => hr) rfl (fun _ => rfl) (fun _ => And.intro (by simp [lp, tp, sgV]; try exact Leq.aggD _) (And.intro (by simp [lp, tp, sgV]; try exact Leq.aggD _) trivial)) ?_
   simp -dsimp
   repeat(first|apply wG|(apply wR;simp -dsimp)|refine aI ?_)
   refine WP.ret (finQ.retE ?_)
   simp -dsimp
end Go.Proofs.YtnljenjcaeophaaGreatDoor
