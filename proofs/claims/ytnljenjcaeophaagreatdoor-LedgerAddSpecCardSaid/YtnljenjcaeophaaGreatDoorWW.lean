/-
  Joined texts.
-/
import Derived.Test.YtnljenjcaeophaaGreatDoorWY
set_option maxRecDepth 10000
set_option maxHeartbeats 4000000
set_option linter.unusedVariables false
set_option linter.unusedSimpArgs false
set_option linter.unusedSectionVars false
namespace Go.Proofs.YtnljenjcaeophaaGreatDoor
open Go.Xe Go.RowKit
theorem oQ_ {e l : List F} {i j : Nat} (h : e.drop i = l.drop i) (hij : i ≤ j) : fat e j = fat l j := by
 have := congrArg (fun q => q[j - i]?) h
 simp only [List.getElem?_drop, show i + (j - i) = j by omega] at this
 unfold fat
 rw [List.getD_eq_getElem?_getD, List.getD_eq_getElem?_getD, this]
theorem qM_ : ∀ (xs cs : List AV) (off : Nat), (∀ c ∈ cs, ∃ d, c = .d d) → (∀ c ∈ xs, ∃ d, c = .d d) → ∀ c ∈ setL cs off xs, ∃ d, c = AV.d d
 | [], cs, off, h, _, c, hc => h c hc
 | x :: xs, cs, off, h, h2, c, hc => qM_ xs _ _ (fun c' hc' => by
   rcases List.mem_or_eq_of_mem_set hc' with h' | rfl
   ·exact h c' h'
   ·exact h2 _ (by simp)) (fun c' hc' => h2 c' (by simp [hc'])) c hc
theorem nu_ {k : Nat} : ∀ {l : List AV}, (∀ c ∈ l, ∃ d, c = .d d) → am_ k l = false
 | [], _ => rfl
 | c :: l, h => by
  obtain ⟨d, rfl⟩ := h c (by simp)
  rw [am_, nu_ fun c' h' => h c' (by simp [h'])]
  rfl
theorem lD_ (k : Nat) (ds : List D) (off n : Nat) : am_ k (setL (ds.map .d) off (List.replicate n (.d .any))) = false :=
 nu_ (qM_ _ _ _ (fun c h => by obtain ⟨d, _, rfl⟩ := List.mem_map.1 h; exact ⟨d, rfl⟩) fun c h => ⟨_, List.eq_of_mem_replicate h⟩)
@[simp] def cB : Box := .cells 92 [.d kK_]
@[simp] def rB (l : List F) : Box := .row 65 57 l.length ((fsC l).map .d)
abbrev eqA : AV := .fn (.func 207) [] [.ptr 1001 0]
theorem p6_ (l : List F) (hl : l.length ≤ 14) (hv : ∀ f ∈ l, fOk f) : Fun Tryz.prog 206 [.row 1000, eqA] [(1000, rB l), (1001, cB)] (.row 0) [(1001, cB), (0, rB (cmpt l))] fun _ => False := by
 refine ac_ (pn := ap_) aa_ Tryz.func206 rfl fun β0 => ?_
 simp only [Tryz.f206]
 repeat(first|apply wG|(apply wR;simp -dsimp)|refine aI ?_)
 refine WP.cond (b := decide (l.length < 2)) (by simp; omega) (fun hb => ?_) (fun hb => ?_)
 ·have hb := of_decide_eq_true hb
  have e : cmpt l = l := by rw [cmpt, o6_ _ (Nat.le_refl _) (fun j h1 h2 => by omega), List.take_length]
  rw [e]
  repeat(first|apply wG|(apply wR;simp -dsimp)|refine aI ?_)
  refine WP.ret (an_ (S' := mkS 66 [(4, .row 0)] [(1001, cB), (0, rB l)]) (Wk.go [] 1000 0 (by decide) (by simp) (by simp) (by simp)) ?_)
  simp -dsimp
 have hb := of_decide_eq_false hb
 refine WP.skip ?_
 simp -dsimp
 repeat(first|apply wG|(apply wR;simp -dsimp)|refine aI ?_)
 refine ak_ (fun m S => ∃ k, 1 ≤ k ∧ k + m = l.length ∧ (∀ j, 1 ≤ j → j < k → aE_ (fat l j) (fat l (j - 1)) ≠ 0) ∧ S = mkS 66 [(0, .row 1000), (1, eqA), (5, .d (.v (.int .i64 k)))] [(1000, rB l), (1001, cB)]) (l.length - 1)
  (S0 := mkS 66 [(0, .row 1000), (1, eqA), (5, .d (.v (.int .i64 1)))] [(1000, rB l), (1001, cB)]) (ae_ [] (by simp) (by simp)) ⟨1, Nat.le_refl _, by omega, fun j h1 h2 => by omega, rfl⟩ ?_
 rintro m _ ⟨k, hk1, hkm, hne, rfl⟩
 simp -dsimp
 repeat(first|apply wG|(apply wR;simp -dsimp)|refine aI ?_)
 by_cases hkn : k < l.length
 ·refine cT (by simp; omega) ?_
  refine WP.skip ?_
  simp -dsimp
  have e1 : IntKind.i64.wrap ((k : Int) - 1) = ((k - 1 : Nat) : Int) := by rw [IntWalk.i64_in _ (by omega)]; omega
  have e2 : IntKind.i64.wrap ((k : Int) + 1) = ((k + 1 : Nat) : Int) := by rw [IntWalk.i64_in _ (by omega)]; omega
  have a1 := km_ (l := l) (i := k) hkn
  have a2 := km_ (l := l) (i := k - 1) (by omega)
  have vk := hv _ (dn_ hkn)
  have vk1 := hv _ (dn_ (show k - 1 < l.length by omega))
  repeat(first|apply wG|(apply wR;simp -dsimp [e1, a1, a2, fsC_len])|refine aI ?_)
  refine vcStop.call gz_ (oS_ (fat l k) (fat l (k - 1)) vk vk1) (rl [(1000, 1001)]) rfl rfl (by simp [BoxLeq]) (aj_ (by simp [BoxLeq]) rfl (by first | rfl | (simp [BoxLeq]; done)) (by simp [BoxLeq]) (by simp [BoxLeq])) (fun _ h => h.elim) (fun ⟨_, h⟩ => h.elim) (fun ⟨_, h⟩ => h.elim) (by simp [BoxLeq]) ?_
  simp -dsimp
  repeat(first|apply wG|(apply wR;simp -dsimp)|refine aI ?_)
  refine WP.cond (b := decide (aE_ (fat l k) (fat l (k - 1)) = 0)) (by simp) (fun hc => ?_) (fun hc => ?_)
  ·have hc := of_decide_eq_true hc
   have hk0 : cN l k = l.take k := o6_ k (by omega) hne
   have hk1' : cN l (k + 1) = l.take k := by rw [cN, hk0, if_neg (by rintro (h | h); omega; exact h hc), List.append_nil]
   repeat(first|apply wG|(apply wR;simp -dsimp)|refine aI ?_)
   refine bv_ aa_ (k := 1000) rfl rfl rfl rfl rfl hkn rfl ?_
   simp -dsimp
   repeat(first|apply wG|(apply wR;simp -dsimp)|refine aI ?_)
   refine ak_ (fun m S => ∃ e q p, e.length = l.length ∧ 1 ≤ q ∧ k + q + m = l.length ∧ p = (cN l (k + q)).length ∧ e.take p = cN l (k + q) ∧ e.drop (k + q - 1) = l.drop (k + q - 1) ∧ p ≤ k + q - 1 ∧
     S = mkS 66 [(0, .row 1000), (1, eqA), (5, .d (.v (.int .i64 (p : Nat)))), (6, .rsl 1000 (k * 57) (l.length - k)), (7, .d (.v (.int .i64 (q : Nat))))] [(1000, .row 65 57 l.length ((fsC e).map .d)), (1001, cB)]) (l.length - k - 1)
    (S0 := mkS 66 [(0, .row 1000), (1, eqA), (5, .d (.v (.int .i64 (k : Nat)))), (6, .rsl 1000 (k * 57) (l.length - k)), (7, .d (.v (.int .i64 1)))] [(1000, .row 65 57 l.length ((fsC l).map .d)), (1001, cB)]) (ae_ [] (by simp) (by simp))
    ⟨l, 1, k, rfl, Nat.le_refl _, by omega, by rw [hk1', List.length_take]; omega, hk1'.symm, rfl, by omega, rfl⟩ ?_
   rintro m2 _ ⟨e, q, p, hel, hq1, hqm, hp, het, hed, hpq, rfl⟩
   simp -dsimp
   repeat(first|apply wG|(apply wR;simp -dsimp)|refine aI ?_)
   by_cases hqn : k + q < l.length
   ·refine cT (by simp; omega) ?_
    refine WP.skip ?_
    simp -dsimp
    have e3 : IntKind.i64.wrap ((q : Int) - 1) = ((q - 1 : Nat) : Int) := by rw [IntWalk.i64_in _ (by omega)]; omega
    have e4 : IntKind.i64.wrap ((q : Int) + 1) = ((q + 1 : Nat) : Int) := by rw [IntWalk.i64_in _ (by omega)]; omega
    have e5 : IntKind.i64.wrap ((p : Int) + 1) = ((p + 1 : Nat) : Int) := by rw [IntWalk.i64_in _ (by omega)]; omega
    have f1 : fat e (k + q) = fat l (k + q) := oQ_ hed (by omega)
    have f2 : fat e (k + q - 1) = fat l (k + q - 1) := oQ_ hed (by omega)
    have b1 : (((fsC e).map AV.d).drop (k * 57 + q * 57)).take 57 = (fcs (fat l (k + q)) 0 57).map .d := by
     rw [← f1, ← km_ (by omega), Nat.add_mul]
    have b2 : (((fsC e).map AV.d).drop (k * 57 + (q - 1) * 57)).take 57 = (fcs (fat l (k + q - 1)) 0 57).map .d := by
     rw [← f2, ← km_ (by omega), ← Nat.add_mul, show k + (q - 1) = k + q - 1 by omega]
    have v1 := hv _ (dn_ hqn)
    have v2 := hv _ (dn_ (show k + q - 1 < l.length by omega))
    repeat(first|apply wG|(apply wR;simp -dsimp [e3, b1, b2, fsC_len, hel])|refine aI ?_)
    refine vcStop.call gz_ (oS_ (fat l (k + q)) (fat l (k + q - 1)) v1 v2) (rl [(1000, 1001)]) rfl rfl (by simp [BoxLeq]) (aj_ (by simp [BoxLeq]) rfl (by first | rfl | (simp [BoxLeq]; done)) (by simp [BoxLeq]) (by simp [BoxLeq])) (fun _ h => h.elim) (fun ⟨_, h⟩ => h.elim) (fun ⟨_, h⟩ => h.elim) (by simp [BoxLeq]) ?_
    simp -dsimp
    repeat(first|apply wG|(apply wR;simp -dsimp)|refine aI ?_)
    refine WP.cond (b := !decide (aE_ (fat l (k + q)) (fat l (k + q - 1)) = 0)) (by simp) (fun hd => ?_) (fun hd => ?_)
    ·have hd : ¬ aE_ (fat l (k + q)) (fat l (k + q - 1)) = 0 := by simpa using hd
     have hn : cN l (k + (q + 1)) = cN l (k + q) ++ [fat l (k + q)] := by
      rw [show k + (q + 1) = (k + q) + 1 by omega, cN, if_pos (.inr hd)]
     repeat(first|apply wG|(apply wR;simp -dsimp [b1, fsC_len, hel])|refine aI ?_)
     refine And.intro ⟨by omega, fun _ h => fcs_side h⟩ ?_
     repeat(first|apply wG|(apply wR;simp -dsimp)|refine aI ?_)
     have hs := kk_ (l := e) (i := p) (by omega) (fat l (k + q))
     refine ah_ (mkS 66 [(0, .row 1000), (1, eqA), (5, .d (.v (.int .i64 ((p + 1 : Nat) : Int)))), (6, .rsl 1000 (k * 57) (l.length - k)), (7, .d (.v (.int .i64 ((q + 1 : Nat) : Int))))] [(1000, .row 65 57 l.length ((fsC (e.set p (fat l (k + q)))).map .d)), (1001, cB)])
      (ae_ [] (by simp [e4, e5]) (by simp [hs])) (m2 - 1) (by omega) ⟨e.set p (fat l (k + q)), q + 1, p + 1, by simp [hel], by omega, by omega, by rw [hn, List.length_append, ← hp]; rfl, by rw [take_set (by omega), het, hn], ?_, by omega, rfl⟩
     rw [List.drop_set_of_lt (by omega)]
     have := congrArg (List.drop 1) hed
     rw [List.drop_drop, List.drop_drop] at this
     rw [show k + (q + 1) - 1 = k + q - 1 + 1 by omega]
     exact this
    ·have hd : aE_ (fat l (k + q)) (fat l (k + q - 1)) = 0 := by simpa using hd
     have hn : cN l (k + (q + 1)) = cN l (k + q) := by
      rw [show k + (q + 1) = (k + q) + 1 by omega, cN, if_neg (by rintro (h | h); omega; exact h hd), List.append_nil]
     refine WP.skip ?_
     simp -dsimp
     repeat(first|apply wG|(apply wR;simp -dsimp)|refine aI ?_)
     refine ah_ (mkS 66 [(0, .row 1000), (1, eqA), (5, .d (.v (.int .i64 (p : Nat)))), (6, .rsl 1000 (k * 57) (l.length - k)), (7, .d (.v (.int .i64 ((q + 1 : Nat) : Int))))] [(1000, .row 65 57 l.length ((fsC e).map .d)), (1001, cB)])
      (ae_ [] (by simp [e4]) (by simp)) (m2 - 1) (by omega) ⟨e, q + 1, p, hel, by omega, by omega, by rw [hn, hp], by rw [hn, het], ?_, by omega, rfl⟩
     have := congrArg (List.drop 1) hed
     rw [List.drop_drop, List.drop_drop] at this
     rw [show k + (q + 1) - 1 = k + q - 1 + 1 by omega]
     exact this
   ·have hqe : k + q = l.length := by omega
    refine cF (by simp; omega) ?_
    refine WP.exit ?_
    simp -dsimp
    repeat(first|apply wG|(apply wR;simp -dsimp)|refine aI ?_)
    refine bv_ aa_ (k := 1000) rfl rfl rfl rfl rfl (m := p) (by omega) rfl ?_
    simp -dsimp
    refine du_ aa_ rfl rfl rfl rfl rfl rfl (by simp [fsC_len, hel]; omega) (by omega) ?_
    simp -dsimp
    repeat(first|apply wG|(apply wR;simp -dsimp)|refine aI ?_)
    refine bw_ aa_ (j := 1000) (k := 500) (m := p) rfl rfl rfl rfl rfl (by omega) (by omega) rfl (by simp; exact lD_ _ _ _ _) ?_
    simp -dsimp
    repeat(first|apply wG|(apply wR;simp -dsimp)|refine aI ?_)
    have hq : cN l (k + q) = cmpt l := by rw [hqe]; rfl
    have hfin : List.take (p * 57) (setL (List.map AV.d (fsC e)) (p * 57) (List.replicate ((l.length - p) * 57) (AV.d D.any))) = (fsC (cmpt l)).map .d := by
     rw [c0_ _ _ _ (by rw [List.length_map, fsC_len, List.length_replicate, hel]; omega), List.append_assoc, List.take_append, List.take_take, Nat.min_self, ← List.map_take, kj_, het, hq]
     have : (List.map AV.d (fsC (cmpt l))).length = p * 57 := by rw [List.length_map, fsC_len, hp, hq]
     rw [this, Nat.sub_self, List.take_zero, List.append_nil]
    have hpl : (cmpt l).length = p := by rw [← hq, hp]
    refine WP.ret (an_ (S' := mkS 66 [(4, .row 0)] [(1001, cB), (0, rB (cmpt l))]) (Wk.go [] 500 0 (by decide) (by simp [hfin]) (by simp) (by simp [hfin, hpl])) ?_)
    simp -dsimp
  ·have hc : ¬ aE_ (fat l k) (fat l (k - 1)) = 0 := of_decide_eq_false hc
   refine WP.skip ?_
   simp -dsimp
   repeat(first|apply wG|(apply wR;simp -dsimp)|refine aI ?_)
   refine ah_ (mkS 66 [(0, .row 1000), (1, eqA), (5, .d (.v (.int .i64 ((k + 1 : Nat) : Int))))] [(1000, rB l), (1001, cB)]) (ae_ [] (by simp [e2]) (by simp)) (m - 1) (by omega) ⟨k + 1, by omega, by omega, fun j h1 h2 => ?_, rfl⟩
   by_cases hjk : j = k
   ·subst hjk; exact hc
   ·exact hne j h1 (by omega)
 ·have hke : k = l.length := by omega
  refine cF (by simp; omega) ?_
  refine WP.exit ?_
  simp -dsimp
  repeat(first|apply wG|(apply wR;simp -dsimp)|refine aI ?_)
  have e : cmpt l = l := by rw [cmpt, o6_ _ (Nat.le_refl _) (fun j h1 h2 => hne j h1 (by omega)), List.take_length]
  rw [e]
  refine WP.ret (an_ (S' := mkS 66 [(4, .row 0)] [(1001, cB), (0, rB l)]) (Wk.go [] 1000 0 (by decide) (by simp) (by simp) (by simp)) ?_)
  simp -dsimp
abbrev nilD : D := .v (.slice none 0 0)
def setF (l : List Fk) : List F := cmpt ((er_ l).map (·.1))
theorem kW_ (l : List Fk) : (er_ l).length = l.length := oE_ _ _
theorem pJ_ : Fun Tryz.prog 277 [.d nilD, .d (.v (.int .i64 0)), .d (.v (.int .i64 0)), .d kK_] [] (.tup []) [] fun _ => False := by
 refine ac_ (pn := ap_) aa_ Tryz.func277 rfl fun β0 => ?_
 simp only [Tryz.f277]
 repeat(first|apply wG|(apply wR;simp -dsimp)|refine aI ?_)
 refine ak_ (fun m S => S = mkS 53 [(2, .d (.v (.int .i64 0))), (8, .d (.v (.int .i64 1)))] []) 1
  (S0 := mkS 53 [(2, .d (.v (.int .i64 0))), (8, .d (.v (.int .i64 1)))] []) (ae_ [] (by simp [show IntKind.i64.wrap 1 = 1 by decide]) (by simp)) rfl ?_
 rintro _ _ rfl
 simp -dsimp
 repeat(first|apply wG|(apply wR;simp -dsimp)|refine aI ?_)
 refine cF (by simp) ?_
 refine WP.exit ?_
 simp -dsimp
 refine aF_ (S' := mkS 53 [] []) (ae_ [] (by simp) (by simp)) ?_
 simp -dsimp
theorem pl_ : Fun Tryz.prog 257 [.d nilD, .d (.v (.int .i64 0)), .d kK_] [] (.tup []) [] fun _ => False := by
 refine ac_ (pn := ap_) aa_ Tryz.func257 rfl fun β0 => ?_
 simp only [Tryz.f257]
 repeat(first|apply wG|(apply wR;simp -dsimp)|refine aI ?_)
 refine ak_ (fun m S => S = mkS 63 [(0, .d nilD), (1, .d (.v (.int .i64 0))), (2, .d kK_), (6, .d (.v (.int .i64 20))), (7, .d (.v (.int .i64 0))), (8, .d (.v (.int .i64 20)))] []) 1
  (S0 := mkS 63 [(0, .d nilD), (1, .d (.v (.int .i64 0))), (2, .d kK_), (6, .d (.v (.int .i64 20))), (7, .d (.v (.int .i64 0))), (8, .d (.v (.int .i64 20)))] []) (ae_ [] (by simp) (by simp)) rfl ?_
 rintro _ _ rfl
 simp -dsimp
 repeat(first|apply wG|(apply wR;simp -dsimp)|refine aI ?_)
 refine cF (by simp) ?_
 refine WP.exit ?_
 simp -dsimp
 repeat(first|apply wG|(apply wR;simp -dsimp)|refine aI ?_)
 refine vcStop.call gm_ (pJ_) (rl []) rfl rfl (by simp [BoxLeq]) (aj_ (by simp [BoxLeq]) rfl (by first | rfl | (simp [BoxLeq]; done)) (by simp [BoxLeq]) (by simp [BoxLeq])) (fun _ h => h.elim) (fun ⟨_, h⟩ => h.elim) (fun ⟨_, h⟩ => h.elim) (by simp [BoxLeq]) ?_
 simp -dsimp
 repeat(first|apply wG|(apply wR;simp -dsimp)|refine aI ?_)
 refine ak_ (fun m S => S = mkS 63 [(0, .d nilD), (1, .d (.v (.int .i64 0))), (2, .d kK_), (6, .d (.v (.int .i64 20)))] []) 1
  (S0 := mkS 63 [(0, .d nilD), (1, .d (.v (.int .i64 0))), (2, .d kK_), (6, .d (.v (.int .i64 20)))] []) (ae_ [] (by simp) (by simp)) rfl ?_
 rintro _ _ rfl
 simp -dsimp
 repeat(first|apply wG|(apply wR;simp -dsimp)|refine aI ?_)
 refine cF (by simp) ?_
 refine WP.exit ?_
 simp -dsimp
 refine aF_ (S' := mkS 63 [] []) (ae_ [] (by simp) (by simp)) ?_
 simp -dsimp
theorem iE_ : Fun Tryz.prog 205 [.d nilD, .d kK_] [] (.tup []) [] fun _ => False := by
 refine ac_ (pn := ap_) aa_ Tryz.func205 rfl fun β0 => ?_
 simp only [Tryz.f205]
 repeat(first|apply wG|(apply wR;simp -dsimp)|refine aI ?_)
 refine vcStop.call gp_ (pl_) (rl []) rfl rfl (by simp [BoxLeq]) (aj_ (by simp [BoxLeq]) rfl (by first | rfl | (simp [BoxLeq]; done)) (by simp [BoxLeq]) (by simp [BoxLeq])) (fun _ h => h.elim) (fun ⟨_, h⟩ => h.elim) (fun ⟨_, h⟩ => h.elim) (by simp [BoxLeq]) ?_
 simp -dsimp
 refine aF_ (S' := mkS 9 [] []) (ae_ [] (by simp) (by simp)) ?_
 simp -dsimp
theorem nD_ : Fun Tryz.prog 206 [.d nilD, eqA] [(1001, cB)] (.d nilD) [(1001, cB)] fun _ => False := by
 refine ac_ (pn := ap_) aa_ Tryz.func206 rfl fun β0 => ?_
 simp only [Tryz.f206]
 repeat(first|apply wG|(apply wR;simp -dsimp)|refine aI ?_)
 refine cT (by simp) ?_
 repeat(first|apply wG|(apply wR;simp -dsimp)|refine aI ?_)
 refine WP.ret (ab_ ?_)
 simp -dsimp
theorem vk_ : Fn0 Tryz.prog 159 [nilD, kK_] nilD := by
 refine ac_ (pn := ap_) aa_ Tryz.func159 rfl fun β0 => ?_
 simp only [Tryz.f159]
 repeat(first|apply wG|(apply wR;simp -dsimp)|refine aI ?_)
 refine ad_ gC_ sg_ rfl rfl (by simp) ?_
 simp -dsimp
 repeat(first|apply wG|(apply wR;simp -dsimp)|refine aI ?_)
 refine vcStop.call gB_ (iE_) (rl []) rfl rfl (by simp [BoxLeq]) (aj_ (by simp [BoxLeq]) rfl (by first | rfl | (simp [BoxLeq]; done)) (by simp [BoxLeq]) (by simp [BoxLeq])) (fun _ h => h.elim) (fun ⟨_, h⟩ => h.elim) (fun ⟨_, h⟩ => h.elim) (by simp [BoxLeq]) ?_
 simp -dsimp
 repeat(first|apply wG|(apply wR;simp -dsimp)|refine aI ?_)
 refine vcStop.call gA_ (nD_) (rl [(1001, 3)]) rfl rfl (by simp [BoxLeq]) (aj_ (by simp [BoxLeq]) rfl (by first | rfl | (simp [BoxLeq]; done)) (by simp [BoxLeq]) (by simp [BoxLeq])) (fun _ h => h.elim) (fun ⟨_, h⟩ => h.elim) (fun ⟨_, h⟩ => h.elim) (by simp [BoxLeq]) ?_
 simp -dsimp
 repeat(first|apply wG|(apply wR;simp -dsimp)|refine aI ?_)
 refine WP.ret (ab_ ?_)
 simp -dsimp
theorem w5_ (l : List Fk) (h0 : 0 < l.length) (hl : l.length ≤ 14) : Fun Tryz.prog 159 [.row 1000, .d kK_] [(1000, rB (l.map (·.1)))] (.row 0) [(1000, rB (l.map (·.1))), (0, rB (setF l))] fun _ => False := by
 have hk := kW_ l
 refine ac_ (pn := ap_) aa_ Tryz.func159 rfl fun β0 => ?_
 simp only [Tryz.f159]
 repeat(first|apply wG|(apply wR;simp -dsimp)|refine aI ?_)
 refine vcStop.call gC_ (sf_ (l.map (·.1)) (by simpa using h0) (by simpa using hl)) (rl [(0, 600)]) rfl rfl (by simp [BoxLeq]) (aj_ (by simp [BoxLeq]) rfl (by first | rfl | (simp [BoxLeq]; done)) (by simp [BoxLeq]) (by simp [BoxLeq])) (fun _ h => h.elim) (fun ⟨_, h⟩ => h.elim) (fun ⟨_, h⟩ => h.elim) (by simp [BoxLeq]) ?_
 simp -dsimp
 repeat(first|apply wG|(apply wR;simp -dsimp)|refine aI ?_)
 refine vcStop.call gB_ (jF_ l hl) (rl [(1000, 600)]) rfl rfl (by simp [BoxLeq]) (aj_ (by simp [BoxLeq]) rfl (by first | rfl | (simp [BoxLeq]; done)) (by simp [BoxLeq]) (by simp [BoxLeq])) (fun _ h => h.elim) (fun ⟨_, h⟩ => h.elim) (fun ⟨_, h⟩ => h.elim) (by simp [BoxLeq]) ?_
 simp -dsimp
 repeat(first|apply wG|(apply wR;simp -dsimp)|refine aI ?_)
 refine vcStop.call gA_ (p6_ ((er_ l).map (·.1)) (by simp; omega) (fun f hf => by obtain ⟨x, _, rfl⟩ := List.mem_map.1 hf; exact x.2)) (rl [(1000, 600), (1001, 3), (0, 700)]) rfl rfl (by simp [hk, BoxLeq]) (aj_ (by simp [hk, BoxLeq]) rfl (by first | rfl | (simp [hk, BoxLeq]; done)) (by simp [hk, BoxLeq]) (by simp [hk, BoxLeq])) (fun _ h => h.elim) (fun ⟨_, h⟩ => h.elim) (fun ⟨_, h⟩ => h.elim) (by simp [hk, BoxLeq]) ?_
 simp -dsimp
 repeat(first|apply wG|(apply wR;simp -dsimp)|refine aI ?_)
 refine WP.ret (an_ (S' := mkS 13 [(4, .row 0)] [(1000, rB (l.map (·.1))), (0, rB (setF l))]) (Wk.go [] 700 0 (by decide) (by simp) (by simp) (by simp [setF])) ?_)
 simp -dsimp
abbrev Sg := F × List D
def sgC (l : List Sg) : List D := l.flatMap fun p => fcs p.1 0 57 ++ p.2
def sgOk (p : Sg) : Prop := fOk p.1 ∧ p.2.length = 4 ∧ ∀ d ∈ p.2, oneD d = true
@[simp] def sgD (l : List Sg) (b : Bool) : D := .sl 61 (sgC l) l.length b
@[simp] def lgD (l : List Sg) (b : Bool) : D := .agg [sgD l b]
@[simp] def slF (l : List F) : D := .sl 57 (fsC l) l.length false
theorem a7_ (a b : List Sg) : sgC (a ++ b) = sgC a ++ sgC b := by simp [sgC]
theorem sgC_len : ∀ {l : List Sg}, (∀ p ∈ l, sgOk p) → (sgC l).length = l.length * 61
 | [], _ => rfl
 | p :: l, h => by
  have e : sgC (p :: l) = (fcs p.1 0 57 ++ p.2) ++ sgC l := rfl
  rw [e, List.length_append, List.length_append, aq_, (h p (by simp)).2.1, sgC_len fun q hq => h q (by simp [hq]), List.length_cons]
  omega
theorem up_ {l1 l2 : List Sg} {p : Sg} (h : ∀ q ∈ l1 ++ p :: l2, sgOk q) : ((sgC (l1 ++ p :: l2)).drop (l1.length * 61)).take 61 = fcs p.1 0 57 ++ p.2 := by
 have e : sgC (p :: l2) = (fcs p.1 0 57 ++ p.2) ++ sgC l2 := rfl
 have h1 : (sgC l1).length = l1.length * 61 := sgC_len fun q hq => h q (by simp [hq])
 have h2 : (fcs p.1 0 57 ++ p.2).length = 61 := by rw [List.length_append, aq_, (h p (by simp)).2.1]
 rw [a7_, e, ← h1, List.drop_left, List.take_append, h2, Nat.sub_self, List.take_zero, List.append_nil, List.take_of_length_le (by omega)]
def vF (l : List Sg) : List F := (l.map (·.1)).filter fun f => (numF f).2
theorem qr_ (a b : List Sg) : vF (a ++ b) = vF a ++ vF b := by simp [vF]
open Classical in
noncomputable def kOf (f : F) : Fk := if h : fOk f then ⟨f, h⟩ else default
theorem np_ : ∀ {l : List F}, (∀ f ∈ l, fOk f) → (l.map kOf).map (·.1) = l
 | [], _ => rfl
 | f :: l, h => by
  rw [List.map_cons, List.map_cons, np_ fun g hg => h g (by simp [hg])]
  congr 1
  rw [kOf, dif_pos (h f (by simp))]
noncomputable def valL (l : List Sg) : List F := setF ((vF l).map kOf)
theorem s8_ : setF [] = [] := by
 have : er_ [] = [] := List.eq_nil_of_length_eq_zero (by rw [kW_]; rfl)
 rw [setF, this]
 rfl
theorem qq_ (l : List Sg) : (vF l).length ≤ l.length := by
 have := List.length_filter_le (fun f : F => (numF f).2) (l.map (·.1))
 rw [List.length_map] at this
 exact this
def vS (l : List Sg) (b : Bool) (i : Nat) : List F → St
 | [] => mkS 25 [(3, .d nilD), (7, .d (sgD l b)), (8, .d (.v (.int .i64 l.length))), (9, .d (.v (.int .i64 (i : Nat))))] []
 | f :: r => mkS 25 [(3, .row 505), (7, .d (sgD l b)), (8, .d (.v (.int .i64 l.length))), (9, .d (.v (.int .i64 (i : Nat))))] [(505, rB (f :: r))]
@[simp] theorem AJ_ {p : Sg} (h : sgOk p) : ∀ d ∈ p.2, oneD d = true := h.2.2
theorem oe_ (l : List Sg) (b : Bool) (hl : l.length ≤ 14) (hv : ∀ p ∈ l, sgOk p) : Fn0 Tryz.prog 100 [lgD l b] (slF (valL l)) := by
 refine ac_ (pn := ap_) aa_ Tryz.func100 rfl fun β0 => ?_
 simp only [Tryz.f100]
 repeat(first|apply wG|(apply wR;simp -dsimp)|refine aI ?_)
 refine ak_ (fun m S => ∃ l1 l2, l = l1 ++ l2 ∧ m = l2.length ∧ S = vS l b l1.length (vF l1)) l.length (S0 := vS l b 0 []) (ae_ [] (by simp [vS]) (by simp [vS])) ⟨[], l, rfl, rfl, rfl⟩ ?_
 rintro _ _ ⟨l1, l2, hl12, rfl, rfl⟩
 cases l2 with
 | nil =>
  simp only [List.append_nil] at hl12
  subst hl12
  have hvo : ∀ f ∈ vF l, fOk f := fun f hf => by
   obtain ⟨hf, _⟩ := List.mem_filter.1 hf
   obtain ⟨p, hp, rfl⟩ := List.mem_map.1 hf
   exact (hv p hp).1
  have hvl := qq_ l
  cases hvf : vF l with
  | nil =>
   have hV : valL l = [] := by rw [valL, hvf]; exact s8_
   rw [vS]
   simp -dsimp
   repeat(first|apply wG|(apply wR;simp -dsimp)|refine aI ?_)
   refine cF (by simp) ?_
   refine WP.exit ?_
   simp -dsimp
   repeat(first|apply wG|(apply wR;simp -dsimp)|refine aI ?_)
   refine ad_ gL_ vk_ rfl rfl (by simp) ?_
   simp -dsimp
   repeat(first|apply wG|(apply wR;simp -dsimp)|refine aI ?_)
   refine WP.ret (an_ ((ae_ [] (S' := mkS 25 [(2, .d nilD)] []) (by simp) (by simp)).trans ((b1_ 2 500 65 57 (by simp) (by simp)).trans (Wk.freeze (k := 500) (T := 65) (sz := 57) (n := 0) (ds := []) (by simp)))) ?_)
   simp -dsimp [hV]
  | cons f r =>
   have hset := w5_ ((vF l).map kOf) (by rw [List.length_map, hvf]; simp) (by rw [List.length_map]; omega)
   rw [np_ hvo, hvf] at hset
   have hV : valL l = setF ((f :: r).map kOf) := by rw [valL, hvf]
   generalize setF ((f :: r).map kOf) = V at hset hV
   rw [vS]
   simp -dsimp
   repeat(first|apply wG|(apply wR;simp -dsimp)|refine aI ?_)
   refine cF (by simp) ?_
   refine WP.exit ?_
   simp -dsimp
   repeat(first|apply wG|(apply wR;simp -dsimp)|refine aI ?_)
   refine vcStop.call gL_ (hset) (rl [(1000, 505), (0, 600)]) rfl rfl (by simp [BoxLeq]) (aj_ (by simp [BoxLeq]) rfl (by first | rfl | (simp [BoxLeq]; done)) (by simp [BoxLeq]) (by simp [BoxLeq])) (fun _ h => h.elim) (fun ⟨_, h⟩ => h.elim) (fun ⟨_, h⟩ => h.elim) (by simp [BoxLeq]) ?_
   simp -dsimp
   repeat(first|apply wG|(apply wR;simp -dsimp)|refine aI ?_)
   rw [hV]
   refine WP.ret (an_ ((ae_ [505] (S' := mkS 25 [(2, .row 600)] [(600, rB V)]) (by simp) (by simp)).trans (Wk.freeze (k := 600) (T := 65) (sz := 57) (n := V.length) (ds := fsC V) (by simp))) ?_)
   simp -dsimp
 | cons p l2 =>
  have hll : l.length = l1.length + (l2.length + 1) := by rw [hl12]; simp
  have e1 : IntKind.i64.wrap ((l1.length : Int) + 1) = (l1.length : Int) + 1 := IntWalk.i64_in _ (by omega)
  have hp := hv p (by rw [hl12]; simp)
  have h1 := up_ (l1 := l1) (p := p) (l2 := l2) (by rw [← hl12]; exact hv)
  rw [← hl12] at h1
  have hc := ks_ p.1 hp.1
  have h57 : List.take 57 (List.take 61 (List.map AV.d (fcs p.1 0 57) ++ List.map AV.d p.2)) = (fcs p.1 0 57).map .d := by
   rw [List.take_take, ← List.map_append, ← List.map_take, List.take_append, aq_, List.take_of_length_le (by rw [aq_]; omega)]
   simp
  have hds : ∀ c ∈ List.take 61 (List.map AV.d (fcs p.1 0 57) ++ List.map AV.d p.2), ∃ d, c = AV.d d := fun c h => by
   rw [← List.map_append] at h
   obtain ⟨d, hd, rfl⟩ := List.mem_map.1 (List.mem_of_mem_take h)
   exact ⟨d, rfl⟩
  have hL : ∀ k, am_ k (List.take 61 (List.map AV.d (fcs p.1 0 57) ++ List.map AV.d p.2)) = false := fun k => nu_ hds
  have hone : ∀ c ∈ List.take 61 (List.map AV.d (fcs p.1 0 57) ++ List.map AV.d p.2), oneA c = true := fun c h => by
   rw [← List.map_append] at h
   obtain ⟨d, hd, rfl⟩ := List.mem_map.1 (List.mem_of_mem_take h)
   rcases List.mem_append.1 hd with hd | hd
   ·exact fcs_side hd
   ·exact hp.2.2 d hd
  have hn : vF (l1 ++ [p]) = vF l1 ++ if (numF p.1).2 = true then [p.1] else [] := by
   rw [qr_]; congr 1
   simp only [vF, List.map_cons, List.map_nil, List.filter_cons, List.filter_nil]
  cases hvf : vF l1 with
  | nil =>
   rw [vS]
   simp -dsimp
   repeat(first|apply wG|(apply wR;simp -dsimp)|refine aI ?_)
   refine cT (by simp; omega) ?_
   refine WP.skip ?_
   simp -dsimp
   refine WP.seq (WP.block ?_)
   repeat(first|apply wG|(apply wR;simp -dsimp [h1, hp.2.1, h57])|refine aI ?_)
   refine ad_ dh_ hc rfl rfl (by simp [fD]) ?_
   simp -dsimp
   repeat(first|apply wG|(apply wR;simp -dsimp)|refine aI ?_)
   refine WP.cond (b := (numF p.1).2) (by cases (numF p.1).2 <;> simp) (fun hq => ?_) (fun hq => ?_)
   ·rw [if_pos hq, hvf, List.nil_append] at hn
    have hS : vS l b (l1 ++ [p]).length (vF (l1 ++ [p])) = mkS 25 [(3, .row 505), (7, .d (sgD l b)), (8, .d (.v (.int .i64 l.length))), (9, .d (.v (.int .i64 ((l1 ++ [p]).length : Nat))))] [(505, rB [p.1])] := by rw [hn]; rfl
    repeat(first|apply wG|(apply wR;simp -dsimp [hp.2.1, h57, hL])|refine aI ?_)
    refine ah_ (mkS 25 [(3, .row 505), (7, .d (sgD l b)), (8, .d (.v (.int .i64 l.length))), (9, .d (.v (.int .i64 ((l1 ++ [p]).length : Nat))))] [(505, rB [p.1])]) (Wk.go [5, 20] 21 505 (by decide) (by simp) (by simp [e1]) (by simp [fsC])) l2.length (by simp) ⟨l1 ++ [p], l2, by simp [hl12], rfl, hS.symm⟩
   ·rw [if_neg (by simp [hq]), List.append_nil, hvf] at hn
    have hS : vS l b (l1 ++ [p]).length (vF (l1 ++ [p])) = mkS 25 [(3, .d nilD), (7, .d (sgD l b)), (8, .d (.v (.int .i64 l.length))), (9, .d (.v (.int .i64 ((l1 ++ [p]).length : Nat))))] [] := by rw [hn]; rfl
    refine WP.skip ?_
    simp -dsimp
    repeat(first|apply wG|(apply wR;simp -dsimp)|refine aI ?_)
    refine ah_ (mkS 25 [(3, .d nilD), (7, .d (sgD l b)), (8, .d (.v (.int .i64 l.length))), (9, .d (.v (.int .i64 ((l1 ++ [p]).length : Nat))))] []) (ae_ [5] (by simp [e1]) (by simp)) l2.length (by simp) ⟨l1 ++ [p], l2, by simp [hl12], rfl, hS.symm⟩
  | cons f r =>
   rw [vS]
   simp -dsimp
   repeat(first|apply wG|(apply wR;simp -dsimp)|refine aI ?_)
   refine cT (by simp; omega) ?_
   refine WP.skip ?_
   simp -dsimp
   refine WP.seq (WP.block ?_)
   repeat(first|apply wG|(apply wR;simp -dsimp [h1, hp.2.1, h57])|refine aI ?_)
   refine ad_ dh_ hc rfl rfl (by simp [fD]) ?_
   simp -dsimp
   repeat(first|apply wG|(apply wR;simp -dsimp)|refine aI ?_)
   refine WP.cond (b := (numF p.1).2) (by cases (numF p.1).2 <;> simp) (fun hq => ?_) (fun hq => ?_)
   ·rw [if_pos hq, hvf] at hn
    have hS : vS l b (l1 ++ [p]).length (vF (l1 ++ [p])) = mkS 25 [(3, .row 505), (7, .d (sgD l b)), (8, .d (.v (.int .i64 l.length))), (9, .d (.v (.int .i64 ((l1 ++ [p]).length : Nat))))] [(505, rB (f :: r ++ [p.1]))] := by rw [hn]; rfl
    have hrl := qq_ l1
    rw [hvf, List.length_cons] at hrl
    repeat(first|apply wG|(apply wR;simp -dsimp [hp.2.1, h57, hL])|refine aI ?_)
    refine ah_ (mkS 25 [(3, .row 505), (7, .d (sgD l b)), (8, .d (.v (.int .i64 l.length))), (9, .d (.v (.int .i64 ((l1 ++ [p]).length : Nat))))] [(505, rB (f :: r ++ [p.1]))]) (Wk.go [5, 20, 505] 21 505 (by decide) (by simp) (by simp [e1]) (by simp [fsC])) l2.length (by simp) ⟨l1 ++ [p], l2, by simp [hl12], rfl, hS.symm⟩
   ·rw [if_neg (by simp [hq]), List.append_nil, hvf] at hn
    have hS : vS l b (l1 ++ [p]).length (vF (l1 ++ [p])) = mkS 25 [(3, .row 505), (7, .d (sgD l b)), (8, .d (.v (.int .i64 l.length))), (9, .d (.v (.int .i64 ((l1 ++ [p]).length : Nat))))] [(505, rB (f :: r))] := by rw [hn]; rfl
    refine WP.skip ?_
    simp -dsimp
    repeat(first|apply wG|(apply wR;simp -dsimp)|refine aI ?_)
    refine ah_ (mkS 25 [(3, .row 505), (7, .d (sgD l b)), (8, .d (.v (.int .i64 l.length))), (9, .d (.v (.int .i64 ((l1 ++ [p]).length : Nat))))] [(505, rB (f :: r))]) (ae_ [5] (by simp [e1]) (by simp)) l2.length (by simp) ⟨l1 ++ [p], l2, by simp [hl12], rfl, hS.symm⟩
end Go.Proofs.YtnljenjcaeophaaGreatDoor
