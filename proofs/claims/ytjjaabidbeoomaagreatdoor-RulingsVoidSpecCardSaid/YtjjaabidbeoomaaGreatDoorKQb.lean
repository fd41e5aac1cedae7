/-
  Rows of facts: copied, each once (of the library's functions at facts).
-/
import Derived.Test.YtjjaabidbeoomaaGreatDoorKKp
import Derived.Test.YtjjaabidbeoomaaGreatDoorKF
import Derived.Test.YtjjaabidbeoomaaGreatDoorKEngZi
import Derived.Test.YtjjaabidbeoomaaGreatDoorK8
set_option linter.unusedSectionVars false
set_option linter.unusedSimpArgs false
set_option linter.unusedVariables false
namespace Go.Proofs.YtjjaabidbeoomaaGreatDoor
open Go.Xe Go.RowKit

/-- A fact whose cells are numbers within their kind. -/
abbrev Fk := {f : Nat → Int // fOk f}
theorem fOk0 : fOk f0 := ⟨fun _ => isI0, .inl rfl, fun _ _ => rfl⟩
instance : Inhabited Fk := ⟨⟨f0, fOk0⟩⟩
def fval (f : Nat → Int) (i : Nat) : Value := if i = 54 then .bool (decide (f 54 = 1)) else .int .i64 (f i)
def fvs (x : Fk) : List Value := (List.range' 0 57).map (fval x.1)
theorem fvs_fcs (x : Fk) : (fvs x).map D.v = fcs x.1 0 57 := by
  rw [fvs, fcs, List.map_map]
  refine List.map_congr_left fun i _ => ?_
  show D.v (fval x.1 i) = fcell x.1 i
  unfold fval fcell
  split <;> rfl
theorem rowV_fsC : ∀ l : List Fk, rowV fvs l = (fsC (l.map (·.1))).map .d
  | [] => rfl
  | x :: l => by
    have h := rowV_fsC l
    unfold rowV at *
    rw [List.flatMap_cons, List.map_append, h, List.map_cons, fsC_cons, List.map_append, ← fvs_fcs, List.map_map]
    rfl
def cmpK (x y : Fk) : Int := cmpF x.1 y.1
theorem ltK (x y : Fk) : Go.Proofs.ltOf cmpK x y = decide (cmpF x.1 y.1 < 0) := rfl
theorem swo_cmp : Go.Sort.SWO (Go.Proofs.ltOf cmpK) := by
  have h := cmp_fact
  constructor
  · intro x
    have := h.anti x.1 x.1
    rw [ltK, decide_eq_false_iff_not]
    omega
  · intro x y z h1 h2
    rw [ltK, decide_eq_true_eq] at *
    have a := h.trans x.1 y.1 z.1 (by omega) (by omega)
    by_cases e : cmpF x.1 z.1 = 0
    · have b := h.same x.1 z.1 y.1 e
      have c := h.anti z.1 y.1
      omega
    · omega
  · intro x y z h1 h2
    rw [ltK, decide_eq_false_iff_not] at *
    have a := h.anti x.1 y.1
    have b := h.anti y.1 z.1
    have c := h.trans z.1 y.1 x.1 (by omega) (by omega)
    have d := h.anti x.1 z.1
    omega
abbrev cmpD : D := .v (.func (.func 29) #[] #[])
@[simp] theorem Leq_fD (f : F) : Leq (.agg ((fcs f 0 57).map .d)) (.d (fD f)) ↔ True := ⟨fun _ => trivial, fun _ => Leq.aggD _⟩
theorem eqCmp_ok (f g : F) (hf : fOk f) (hg : fOk g) : Fun Tryz.prog 43 [.d (fD f), .d (fD g), .ptr 1000 0] [(1000, .cells 77 [.d cmpD])] (.d (.v (.bool (decide (cmpF f g = 0))))) [(1000, .cells 77 [.d cmpD])] fun _ => False := by
  refine Fun.of_wp (pn := noPn) Tryz.tab Tryz.func43 rfl fun β0 => ?_
  simp only [Tryz.f43]
  simp only [fD]
  repeat (first | refine wS ?_ | refine wB ?_ | ((first | refine wR ?_ | refine wD ?_); simp -dsimp) | refine aI ?_)
  refine vcStop.call0 Tryz.body29 (factsCompare_ok f g hf hg) rfl rfl (by simp [fD]) ?_
  simp -dsimp
  repeat (first | refine wS ?_ | refine wB ?_ | ((first | refine wR ?_ | refine wD ?_); simp -dsimp) | refine aI ?_)
  refine WP.ret (finQ.retE ?_)
  simp -dsimp
@[simp] theorem fsC_any (k : Nat) (l : List F) : AV.hasL k ((fsC l).map .d) = false := by
  induction fsC l with
  | nil => rfl
  | cons c cs ih => rw [List.map_cons, AV.hasL, ih]; rfl
theorem clone_row (l : List F) (h0 : 0 < l.length) (hl : l.length ≤ 1000) : Fun Tryz.prog 40 [.row 1000] [(1000, .row 62 57 l.length ((fsC l).map .d))] (.row 0) [(1000, .row 62 57 l.length ((fsC l).map .d)), (0, .row 62 57 l.length ((fsC l).map .d))] fun _ => False := by
  refine Fun.of_wp (pn := noPn) Tryz.tab Tryz.func40 rfl fun β0 => ?_
  simp only [Tryz.f40]
  repeat (first | refine wS ?_ | refine wB ?_ | ((first | refine wR ?_ | refine wD ?_); simp -dsimp) | refine aI ?_)
  refine vcStop.eqNilRow Tryz.tab rfl rfl rfl rfl rfl h0 ?_
  simp -dsimp
  repeat (first | refine wS ?_ | refine wB ?_ | ((first | refine wR ?_ | refine wD ?_); simp -dsimp) | refine aI ?_)
  refine WP.cond (b := false) (by simp) (fun h => by cases h) (fun _ => ?_)
  refine WP.skip ?_
  simp -dsimp
  repeat (first | refine wS ?_ | refine wB ?_ | ((first | refine wR ?_ | refine wD ?_); simp -dsimp) | refine aI ?_)
  refine And.intro ⟨fsC_len l, by omega⟩ ?_
  refine WP.ret (finQ.retWE (S' := mkS 8 [(2, .row 0)] [(1000, .row 62 57 l.length ((fsC l).map .d)), (0, .row 62 57 l.length ((fsC l).map .d))]) (Wk.go [] 7 0 (by decide) (by simp) (by simp) (by simp)) ?_)
  simp -dsimp
theorem clone_nil : Fn0 Tryz.prog 40 [.v (.slice none 0 0)] (.v (.slice none 0 0)) := by
  refine Fun.of_wp (pn := noPn) Tryz.tab Tryz.func40 rfl fun β0 => ?_
  simp only [Tryz.f40]
  repeat (first | refine wS ?_ | refine wB ?_ | ((first | refine wR ?_ | refine wD ?_); simp -dsimp) | refine aI ?_)
  refine vcStop.eqNilNil Tryz.tab rfl rfl rfl rfl ?_
  simp -dsimp
  repeat (first | refine wS ?_ | refine wB ?_ | ((first | refine wR ?_ | refine wD ?_); simp -dsimp) | refine aI ?_)
  refine WP.cond (b := true) (by simp) (fun _ => ?_) (fun h => by cases h)
  repeat (first | refine wS ?_ | refine wB ?_ | ((first | refine wR ?_ | refine wD ?_); simp -dsimp) | refine aI ?_)
  refine WP.ret (finQ.retE ?_)
  simp -dsimp
abbrev nilD : D := .v (.slice none 0 0)
theorem fat_drop {e l : List F} {i j : Nat} (h : e.drop i = l.drop i) (hij : i ≤ j) : fat e j = fat l j := by
  have := congrArg (fun q => q[j - i]?) h
  simp only [List.getElem?_drop, show i + (j - i) = j by omega] at this
  unfold fat
  rw [List.getD_eq_getElem?_getD, List.getD_eq_getElem?_getD, this]
theorem setL_ds : ∀ (xs cs : List AV) (off : Nat), (∀ c ∈ cs, ∃ d, c = .d d) → (∀ c ∈ xs, ∃ d, c = .d d) → ∀ c ∈ setL cs off xs, ∃ d, c = AV.d d
  | [], cs, off, h, _, c, hc => h c hc
  | x :: xs, cs, off, h, h2, c, hc => setL_ds xs _ _ (fun c' hc' => by
      rcases List.mem_or_eq_of_mem_set hc' with h' | rfl
      · exact h c' h'
      · exact h2 _ (by simp)) (fun c' hc' => h2 c' (by simp [hc'])) c hc
theorem hasL_ds {k : Nat} : ∀ {l : List AV}, (∀ c ∈ l, ∃ d, c = .d d) → AV.hasL k l = false
  | [], _ => rfl
  | c :: l, h => by
    obtain ⟨d, rfl⟩ := h c (by simp)
    rw [AV.hasL, hasL_ds fun c' h' => h c' (by simp [h'])]
    rfl
theorem hasL_setL (k : Nat) (ds : List D) (off n : Nat) : AV.hasL k (setL (ds.map .d) off (List.replicate n (.d .any))) = false :=
  hasL_ds (setL_ds _ _ _ (fun c h => by obtain ⟨d, _, rfl⟩ := List.mem_map.1 h; exact ⟨d, rfl⟩) fun c h => ⟨_, List.eq_of_mem_replicate h⟩)
@[simp] def cB : Box := .cells 77 [.d cmpD]
@[simp] def rB (l : List F) : Box := .row 62 57 l.length ((fsC l).map .d)
abbrev eqA : AV := .fn (.func 43) [] [.ptr 1001 0]
set_option maxRecDepth 10000 in
set_option maxHeartbeats 4000000 in
theorem compact_ok (l : List F) (hl : l.length ≤ 1000) (hv : ∀ f ∈ l, fOk f) : Fun Tryz.prog 42 [.row 1000, eqA] [(1000, rB l), (1001, cB)] (.row 0) [(1001, cB), (0, rB (cmpt l))] fun _ => False := by
  refine Fun.of_wp (pn := noPn) Tryz.tab Tryz.func42 rfl fun β0 => ?_
  simp only [Tryz.f42]
  repeat (first | refine wS ?_ | refine wB ?_ | ((first | refine wR ?_ | refine wD ?_); simp -dsimp) | refine aI ?_)
  refine WP.cond (b := decide (l.length < 2)) (by simp; omega) (fun hb => ?_) (fun hb => ?_)
  · have hb := of_decide_eq_true hb
    have e : cmpt l = l := by rw [cmpt, cN_all _ (Nat.le_refl _) (fun j h1 h2 => by omega), List.take_length]
    rw [e]
    repeat (first | refine wS ?_ | refine wB ?_ | ((first | refine wR ?_ | refine wD ?_); simp -dsimp) | refine aI ?_)
    refine WP.ret (finQ.retWE (S' := mkS 66 [(4, .row 0)] [(1001, cB), (0, rB l)]) (Wk.go [] 1000 0 (by decide) (by simp) (by simp) (by simp)) ?_)
    simp -dsimp
  have hb := of_decide_eq_false hb
  refine WP.skip ?_
  simp -dsimp
  repeat (first | refine wS ?_ | refine wB ?_ | ((first | refine wR ?_ | refine wD ?_); simp -dsimp) | refine aI ?_)
  refine WP.loopWk (fun m S => ∃ k, 1 ≤ k ∧ k + m = l.length ∧ (∀ j, 1 ≤ j → j < k → cmpF (fat l j) (fat l (j - 1)) ≠ 0) ∧ S = mkS 66 [(0, .row 1000), (1, eqA), (5, .d (.v (.int .i64 k)))] [(1000, rB l), (1001, cB)]) (l.length - 1)
    (S0 := mkS 66 [(0, .row 1000), (1, eqA), (5, .d (.v (.int .i64 1)))] [(1000, rB l), (1001, cB)]) (Wk.lessE [] (by simp) (by simp)) ⟨1, Nat.le_refl _, by omega, fun j h1 h2 => by omega, rfl⟩ ?_
  rintro m _ ⟨k, hk1, hkm, hne, rfl⟩
  simp -dsimp
  repeat (first | refine wS ?_ | refine wB ?_ | ((first | refine wR ?_ | refine wD ?_); simp -dsimp) | refine aI ?_)
  by_cases hkn : k < l.length
  · refine WP.cond (b := true) (by simp; omega) (fun _ => ?_) (fun h => by cases h)
    refine WP.skip ?_
    simp -dsimp
    have e1 : IntKind.i64.wrap ((k : Int) - 1) = ((k - 1 : Nat) : Int) := by rw [IntWalk.i64_in _ (by omega)]; omega
    have e2 : IntKind.i64.wrap ((k : Int) + 1) = ((k + 1 : Nat) : Int) := by rw [IntWalk.i64_in _ (by omega)]; omega
    have a1 := fsC_atA (l := l) (i := k) hkn
    have a2 := fsC_atA (l := l) (i := k - 1) (by omega)
    have vk := hv _ (fat_in hkn)
    have vk1 := hv _ (fat_in (show k - 1 < l.length by omega))
    repeat (first | refine wS ?_ | refine wB ?_ | ((first | refine wR ?_ | refine wD ?_); simp -dsimp [e1, a1, a2, fsC_len]) | refine aI ?_)
    refine vcStop.call Tryz.body43 (eqCmp_ok (fat l k) (fat l (k - 1)) vk vk1) (rl [(1000, 1001)]) rfl rfl (by simp [BoxLeq]) (CallOk.of (by simp [BoxLeq]) rfl (by first | rfl | (simp [BoxLeq]; done)) (by simp [BoxLeq]) (by simp [BoxLeq])) (fun _ h => h.elim) (fun ⟨_, h⟩ => h.elim) (fun ⟨_, h⟩ => h.elim) (by simp [BoxLeq]) ?_
    simp -dsimp
    repeat (first | refine wS ?_ | refine wB ?_ | ((first | refine wR ?_ | refine wD ?_); simp -dsimp) | refine aI ?_)
    refine WP.cond (b := decide (cmpF (fat l k) (fat l (k - 1)) = 0)) (by simp) (fun hc => ?_) (fun hc => ?_)
    · have hc := of_decide_eq_true hc
      have hk0 : cN l k = l.take k := cN_all k (by omega) hne
      have hk1' : cN l (k + 1) = l.take k := by rw [cN, hk0, if_neg (by rintro (h | h); omega; exact h hc), List.append_nil]
      repeat (first | refine wS ?_ | refine wB ?_ | ((first | refine wR ?_ | refine wD ?_); simp -dsimp) | refine aI ?_)
      refine vcStop.sliceSub Tryz.tab (k := 1000) rfl rfl rfl rfl rfl hkn rfl ?_
      simp -dsimp
      repeat (first | refine wS ?_ | refine wB ?_ | ((first | refine wR ?_ | refine wD ?_); simp -dsimp) | refine aI ?_)
      refine WP.loopWk (fun m S => ∃ e q p, e.length = l.length ∧ 1 ≤ q ∧ k + q + m = l.length ∧ p = (cN l (k + q)).length ∧ e.take p = cN l (k + q) ∧ e.drop (k + q - 1) = l.drop (k + q - 1) ∧ p ≤ k + q - 1 ∧
          S = mkS 66 [(0, .row 1000), (1, eqA), (5, .d (.v (.int .i64 (p : Nat)))), (6, .rsl 1000 (k * 57) (l.length - k)), (7, .d (.v (.int .i64 (q : Nat))))] [(1000, .row 62 57 l.length ((fsC e).map .d)), (1001, cB)]) (l.length - k - 1)
        (S0 := mkS 66 [(0, .row 1000), (1, eqA), (5, .d (.v (.int .i64 (k : Nat)))), (6, .rsl 1000 (k * 57) (l.length - k)), (7, .d (.v (.int .i64 1)))] [(1000, .row 62 57 l.length ((fsC l).map .d)), (1001, cB)]) (Wk.lessE [] (by simp) (by simp))
        ⟨l, 1, k, rfl, Nat.le_refl _, by omega, by rw [hk1', List.length_take]; omega, hk1'.symm, rfl, by omega, rfl⟩ ?_
      rintro m2 _ ⟨e, q, p, hel, hq1, hqm, hp, het, hed, hpq, rfl⟩
      simp -dsimp
      repeat (first | refine wS ?_ | refine wB ?_ | ((first | refine wR ?_ | refine wD ?_); simp -dsimp) | refine aI ?_)
      by_cases hqn : k + q < l.length
      · refine WP.cond (b := true) (by simp; omega) (fun _ => ?_) (fun h => by cases h)
        refine WP.skip ?_
        simp -dsimp
        have e3 : IntKind.i64.wrap ((q : Int) - 1) = ((q - 1 : Nat) : Int) := by rw [IntWalk.i64_in _ (by omega)]; omega
        have e4 : IntKind.i64.wrap ((q : Int) + 1) = ((q + 1 : Nat) : Int) := by rw [IntWalk.i64_in _ (by omega)]; omega
        have e5 : IntKind.i64.wrap ((p : Int) + 1) = ((p + 1 : Nat) : Int) := by rw [IntWalk.i64_in _ (by omega)]; omega
        have f1 : fat e (k + q) = fat l (k + q) := fat_drop hed (by omega)
        have f2 : fat e (k + q - 1) = fat l (k + q - 1) := fat_drop hed (by omega)
        have b1 : (((fsC e).map AV.d).drop (k * 57 + q * 57)).take 57 = (fcs (fat l (k + q)) 0 57).map .d := by
          rw [← f1, ← fsC_atA (by omega), Nat.add_mul]
        have b2 : (((fsC e).map AV.d).drop (k * 57 + (q - 1) * 57)).take 57 = (fcs (fat l (k + q - 1)) 0 57).map .d := by
          rw [← f2, ← fsC_atA (by omega), ← Nat.add_mul, show k + (q - 1) = k + q - 1 by omega]
        have v1 := hv _ (fat_in hqn)
        have v2 := hv _ (fat_in (show k + q - 1 < l.length by omega))
        repeat (first | refine wS ?_ | refine wB ?_ | ((first | refine wR ?_ | refine wD ?_); simp -dsimp [e3, b1, b2, fsC_len, hel]) | refine aI ?_)
        refine vcStop.call Tryz.body43 (eqCmp_ok (fat l (k + q)) (fat l (k + q - 1)) v1 v2) (rl [(1000, 1001)]) rfl rfl (by simp [BoxLeq]) (CallOk.of (by simp [BoxLeq]) rfl (by first | rfl | (simp [BoxLeq]; done)) (by simp [BoxLeq]) (by simp [BoxLeq])) (fun _ h => h.elim) (fun ⟨_, h⟩ => h.elim) (fun ⟨_, h⟩ => h.elim) (by simp [BoxLeq]) ?_
        simp -dsimp
        repeat (first | refine wS ?_ | refine wB ?_ | ((first | refine wR ?_ | refine wD ?_); simp -dsimp) | refine aI ?_)
        refine WP.cond (b := !decide (cmpF (fat l (k + q)) (fat l (k + q - 1)) = 0)) (by simp) (fun hd => ?_) (fun hd => ?_)
        · have hd : ¬ cmpF (fat l (k + q)) (fat l (k + q - 1)) = 0 := by simpa using hd
          have hn : cN l (k + (q + 1)) = cN l (k + q) ++ [fat l (k + q)] := by
            rw [show k + (q + 1) = (k + q) + 1 by omega, cN, if_pos (.inr hd)]
          repeat (first | refine wS ?_ | refine wB ?_ | ((first | refine wR ?_ | refine wD ?_); simp -dsimp [b1, fsC_len, hel]) | refine aI ?_)
          refine And.intro ⟨by omega, fun _ h => fcs_side h⟩ ?_
          repeat (first | refine wS ?_ | refine wB ?_ | ((first | refine wR ?_ | refine wD ?_); simp -dsimp) | refine aI ?_)
          have hs := fsC_set (l := e) (i := p) (by omega) (fat l (k + q))
          refine loopW.next (mkS 66 [(0, .row 1000), (1, eqA), (5, .d (.v (.int .i64 ((p + 1 : Nat) : Int)))), (6, .rsl 1000 (k * 57) (l.length - k)), (7, .d (.v (.int .i64 ((q + 1 : Nat) : Int))))] [(1000, .row 62 57 l.length ((fsC (e.set p (fat l (k + q)))).map .d)), (1001, cB)])
            (Wk.lessE [] (by simp [e4, e5]) (by simp [hs])) (m2 - 1) (by omega) ⟨e.set p (fat l (k + q)), q + 1, p + 1, by simp [hel], by omega, by omega, by rw [hn, List.length_append, ← hp]; rfl, by rw [take_set (by omega), het, hn], ?_, by omega, rfl⟩
          rw [List.drop_set_of_lt (by omega)]
          have := congrArg (List.drop 1) hed
          rw [List.drop_drop, List.drop_drop] at this
          rw [show k + (q + 1) - 1 = k + q - 1 + 1 by omega]
          exact this
        · have hd : cmpF (fat l (k + q)) (fat l (k + q - 1)) = 0 := by simpa using hd
          have hn : cN l (k + (q + 1)) = cN l (k + q) := by
            rw [show k + (q + 1) = (k + q) + 1 by omega, cN, if_neg (by rintro (h | h); omega; exact h hd), List.append_nil]
          refine WP.skip ?_
          simp -dsimp
          repeat (first | refine wS ?_ | refine wB ?_ | ((first | refine wR ?_ | refine wD ?_); simp -dsimp) | refine aI ?_)
          refine loopW.next (mkS 66 [(0, .row 1000), (1, eqA), (5, .d (.v (.int .i64 (p : Nat)))), (6, .rsl 1000 (k * 57) (l.length - k)), (7, .d (.v (.int .i64 ((q + 1 : Nat) : Int))))] [(1000, .row 62 57 l.length ((fsC e).map .d)), (1001, cB)])
            (Wk.lessE [] (by simp [e4]) (by simp)) (m2 - 1) (by omega) ⟨e, q + 1, p, hel, by omega, by omega, by rw [hn, hp], by rw [hn, het], ?_, by omega, rfl⟩
          have := congrArg (List.drop 1) hed
          rw [List.drop_drop, List.drop_drop] at this
          rw [show k + (q + 1) - 1 = k + q - 1 + 1 by omega]
          exact this
      · have hqe : k + q = l.length := by omega
        refine WP.cond (b := false) (by simp; omega) (fun h => by cases h) (fun _ => ?_)
        refine WP.exit ?_
        simp -dsimp
        repeat (first | refine wS ?_ | refine wB ?_ | ((first | refine wR ?_ | refine wD ?_); simp -dsimp) | refine aI ?_)
        refine vcStop.sliceSub Tryz.tab (k := 1000) rfl rfl rfl rfl rfl (m := p) (by omega) rfl ?_
        simp -dsimp
        refine vcStop.clearSub Tryz.tab rfl rfl rfl rfl rfl rfl (by simp [fsC_len, hel]; omega) (by omega) ?_
        simp -dsimp
        repeat (first | refine wS ?_ | refine wB ?_ | ((first | refine wR ?_ | refine wD ?_); simp -dsimp) | refine aI ?_)
        refine vcStop.sliceRow Tryz.tab (j := 1000) (k := 500) (m := p) rfl rfl rfl rfl rfl (by omega) (by omega) rfl (by simp; exact hasL_setL _ _ _ _) ?_
        simp -dsimp
        repeat (first | refine wS ?_ | refine wB ?_ | ((first | refine wR ?_ | refine wD ?_); simp -dsimp) | refine aI ?_)
        have hq : cN l (k + q) = cmpt l := by rw [hqe]; rfl
        have hfin : List.take (p * 57) (setL (List.map AV.d (fsC e)) (p * 57) (List.replicate ((l.length - p) * 57) (AV.d D.any))) = (fsC (cmpt l)).map .d := by
          rw [setL_eq _ _ _ (by rw [List.length_map, fsC_len, List.length_replicate, hel]; omega), List.append_assoc, List.take_append, List.take_take, Nat.min_self, ← List.map_take, fsC_take, het, hq]
          have : (List.map AV.d (fsC (cmpt l))).length = p * 57 := by rw [List.length_map, fsC_len, hp, hq]
          rw [this, Nat.sub_self, List.take_zero, List.append_nil]
        have hpl : (cmpt l).length = p := by rw [← hq, hp]
        refine WP.ret (finQ.retWE (S' := mkS 66 [(4, .row 0)] [(1001, cB), (0, rB (cmpt l))]) (Wk.go [] 500 0 (by decide) (by simp [hfin]) (by simp) (by simp [hfin, hpl])) ?_)
        simp -dsimp
    · have hc : ¬ cmpF (fat l k) (fat l (k - 1)) = 0 := of_decide_eq_false hc
      refine WP.skip ?_
      simp -dsimp
      repeat (first | refine wS ?_ | refine wB ?_ | ((first | refine wR ?_ | refine wD ?_); simp -dsimp) | refine aI ?_)
      refine loopW.next (mkS 66 [(0, .row 1000), (1, eqA), (5, .d (.v (.int .i64 ((k + 1 : Nat) : Int))))] [(1000, rB l), (1001, cB)]) (Wk.lessE [] (by simp [e2]) (by simp)) (m - 1) (by omega) ⟨k + 1, by omega, by omega, fun j h1 h2 => ?_, rfl⟩
      by_cases hjk : j = k
      · subst hjk; exact hc
      · exact hne j h1 (by omega)
  · have hke : k = l.length := by omega
    refine WP.cond (b := false) (by simp; omega) (fun h => by cases h) (fun _ => ?_)
    refine WP.exit ?_
    simp -dsimp
    repeat (first | refine wS ?_ | refine wB ?_ | ((first | refine wR ?_ | refine wD ?_); simp -dsimp) | refine aI ?_)
    have e : cmpt l = l := by rw [cmpt, cN_all _ (Nat.le_refl _) (fun j h1 h2 => hne j h1 (by omega)), List.take_length]
    rw [e]
    refine WP.ret (finQ.retWE (S' := mkS 66 [(4, .row 0)] [(1001, cB), (0, rB l)]) (Wk.go [] 1000 0 (by decide) (by simp) (by simp) (by simp)) ?_)
    simp -dsimp
theorem compact_nil : Fun Tryz.prog 42 [.d nilD, eqA] [(1001, cB)] (.d nilD) [(1001, cB)] fun _ => False := by
  refine Fun.of_wp (pn := noPn) Tryz.tab Tryz.func42 rfl fun β0 => ?_
  simp only [Tryz.f42]
  repeat (first | refine wS ?_ | refine wB ?_ | ((first | refine wR ?_ | refine wD ?_); simp -dsimp) | refine aI ?_)
  refine WP.cond (b := true) (by simp) (fun _ => ?_) (fun h => by cases h)
  repeat (first | refine wS ?_ | refine wB ?_ | ((first | refine wR ?_ | refine wD ?_); simp -dsimp) | refine aI ?_)
  refine WP.ret (finQ.retE ?_)
  simp -dsimp
end Go.Proofs.YtjjaabidbeoomaaGreatDoor
