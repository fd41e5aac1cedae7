/-
  Rulings: the reference's canonical list.
-/
import Derived.Test.YtjjaabidbeoomaaGreatDoorKJ
set_option linter.unusedSectionVars false
set_option linter.unusedSimpArgs false
set_option linter.unusedVariables false
namespace Go.Proofs.YtjjaabidbeoomaaGreatDoor
open Go.Xe Go.RowKit

theorem fat_ok {c : List F} (hv : ∀ f ∈ c, fOk f) (i : Nat) : fOk (fat c i) := by
  by_cases h : i < c.length
  · exact hv _ (fat_in h)
  · have : fat c i = f0 := by rw [fat, List.getD_eq_getElem?_getD, List.getElem?_eq_none (by omega)]; rfl
    rw [this]; exact ⟨fun _ => isI0, .inl rfl, fun _ _ => rfl⟩
theorem ref_cmpZ (f g : F) (hf : fOk f) (hg : fOk g) : refCmp f g = cmpF f g := by rw [refCmp, cmpF, enc_ref hf, enc_ref hg]
def cnS (l C : List F) (i n : Nat) : St :=
  mkS 68 [(0, .d (slF l)), (3, .d (slF C)), (4, .d (.v (.int .i64 (i : Nat)))), (5, .d (.v (.int .i64 (n : Nat))))] []
def coS (l C : List F) (i : Nat) : St :=
  mkS 68 [(0, .d (slF l)), (3, .d (slF C)), (4, .d (.v (.int .i64 (i : Nat))))] []
theorem insC_at (C : List F) (f : F) {n : Nat} (hn : n = (C.takeWhile (lessP f)).length) : insC C f = if (decide (n < C.length) && eqF (fat C n) f) = true then C else C.take n ++ [f] ++ C.drop n := by subst hn; rfl
set_option maxRecDepth 10000 in
set_option maxHeartbeats 4000000 in
theorem canon_ok (l : List F) (hl : l.length ≤ 100) (hv : ∀ f ∈ l, fOk f) : Fn0 Tryz.prog 22 [slF l] (slF (canF l)) := by
  rw [← canR_eq hv]
  refine Fun.of_wp (pn := noPn) Tryz.tab Tryz.func22 rfl fun β0 => ?_
  simp only [Tryz.f22]
  refine WP.seq ?_
  refine WP.region Tryz.tab ?_
  simp -dsimp
  repeat refine aI ?_
  refine WP.seq ?_
  refine WP.region Tryz.tab ?_
  simp -dsimp
  repeat refine aI ?_
  refine WP.weak (Wk.trans (Wk.lessE [] (S' := mkS 68 [(0, .d (slF l)), (3, .row 6)] [(6, rB [])]) (by simp) (by simp [fsC0])) (Wk.trans (Wk.freeze (k := 6) (T := 62) (sz := 57) (n := 0) (ds := fsC []) (by simp)) (Wk.lessE [] (S' := mkS 68 [(0, .d (slF l)), (3, .d (slF []))] []) (by simp) (by simp)))) ?_
  repeat (first | refine wS ?_ | refine wB ?_ | ((first | refine wR ?_ | refine wD ?_); simp -dsimp) | refine aI ?_)
  refine WP.loopWk (fun m S => ∃ i, i + m = l.length ∧ S = coS l (canR (l.take i)) i) l.length (S0 := coS l [] 0) (Wk.lessE [] (by simp [coS]) (by simp [coS])) ⟨0, by omega, rfl⟩ ?_
  rintro m _ ⟨i, him, rfl⟩
  by_cases hi : i < l.length
  · have h1 := fsC_at hi
    have htk := take_fat hi
    have hf := hv _ (fat_in hi)
    have hC := canR_in hv i
    have hCl : (canR (l.take i)).length ≤ i := by
      have := canR_len (l.take i) []
      rw [List.length_take] at this
      simp only [canR]
      simp at this
      omega
    have e1 : IntKind.i64.wrap ((i : Int) + 1) = ((i + 1 : Nat) : Int) := by rw [IntWalk.i64_in _ (by omega)]; omega
    generalize fat l i = f at h1 htk hf
    have hsn := canR_snoc (l.take i) f
    rw [← htk] at hsn
    have hc := refCheck_ok f hf
    rw [← (num_chk hf).1] at hc
    generalize canR (l.take i) = C at hC hCl hsn
    rw [coS]
    simp -dsimp
    repeat (first | refine wS ?_ | refine wB ?_ | ((first | refine wR ?_ | refine wD ?_); simp -dsimp) | refine aI ?_)
    refine WP.cond (b := true) (by simp; omega) (fun _ => ?_) (fun h => by cases h)
    refine WP.skip ?_
    simp -dsimp
    refine WP.seq (WP.block ?_)
    repeat (first | refine wS ?_ | refine wB ?_ | ((first | refine wR ?_ | refine wD ?_); simp -dsimp [h1]) | refine aI ?_)
    refine vcStop.call0 Tryz.body33 hc rfl rfl (by simp [fD]) ?_
    simp -dsimp
    repeat (first | refine wS ?_ | refine wB ?_ | ((first | refine wR ?_ | refine wD ?_); simp -dsimp) | refine aI ?_)
    refine WP.cond (b := !(numF f).2) (by cases (numF f).2 <;> simp) (fun hq => ?_) (fun hq => ?_)
    · have hq : (numF f).2 = false := by simpa using hq
      rw [insV, if_neg (by simp [hq])] at hsn
      refine WP.exit ?_
      simp -dsimp
      repeat (first | refine wS ?_ | refine wB ?_ | ((first | refine wR ?_ | refine wD ?_); simp -dsimp) | refine aI ?_)
      refine loopW.next (coS l (canR (l.take (i + 1))) (i + 1)) (Wk.lessE [] (by simp [coS, e1, hsn]) (by simp [coS])) (m - 1) (by omega) ⟨i + 1, by omega, rfl⟩
    have hq : (numF f).2 = true := by simpa using hq
    rw [insV, if_pos hq] at hsn
    refine WP.skip ?_
    simp -dsimp
    repeat (first | refine wS ?_ | refine wB ?_ | ((first | refine wR ?_ | refine wD ?_); simp -dsimp) | refine aI ?_)
    obtain ⟨t1, t2, t3⟩ := tw_split f C
    have hin := insC_at C f rfl
    generalize hT : (C.takeWhile (lessP f)).length = T at t1 t2 t3 hin
    clear hT
    refine WP.loopWk (fun m S => ∃ n, n + m = T ∧ S = cnS l C i n) T (S0 := cnS l C i 0) (Wk.lessE [] (by simp [cnS]) (by simp [cnS])) ⟨0, by omega, rfl⟩ ?_
    rintro m2 _ ⟨n, hnm, rfl⟩
    have hg := fat_ok (fun g hg => (hC g hg).1) n
    have hcm := refCompare_ok (fat C n) f hg hf
    rw [ref_cmpZ _ _ hg hf] at hcm
    have e2 : IntKind.i64.wrap ((n : Int) + 1) = ((n + 1 : Nat) : Int) := by rw [IntWalk.i64_in _ (by omega)]; omega
    rw [cnS]
    simp -dsimp
    have hmin : n < C.length → 57 ≤ min 57 ((fsC C).length - n * 57) := fun h => by rw [fsC_len]; omega
    repeat (first | refine wS ?_ | refine wB ?_ | ((first | refine wR ?_ | refine wD ?_); simp -dsimp [h1]) | refine aI ?_)
    refine vcStopG.call0 Tryz.body34 (fun _ => hcm) rfl (fun _ => rfl) (fun hg => by have h3 := fsC_at (l := C) (i := n) (by simpa using hg); simp [fD, h3, hg]) ?_
    simp -dsimp
    repeat (first | refine wS ?_ | refine wB ?_ | ((first | refine wR ?_ | refine wD ?_); simp -dsimp) | refine aI ?_)
    by_cases hnT : n < T
    · have hnC : n < C.length := by omega
      have hlt : cmpF (fat C n) f < 0 := t1 _ (by rw [fat, getD_at hnC]; exact List.mem_take_iff_getElem.2 ⟨n, by omega, rfl⟩)
      refine WP.cond (b := true) (by simp [hnC, hlt]) (fun _ => ?_) (fun h => by cases h)
      refine WP.skip ?_
      simp -dsimp
      repeat (first | refine wS ?_ | refine wB ?_ | ((first | refine wR ?_ | refine wD ?_); simp -dsimp) | refine aI ?_)
      refine loopW.next (cnS l C i (n + 1)) (Wk.lessE [] (by simp [cnS, e2]) (by simp [cnS])) (m2 - 1) (by omega) ⟨n + 1, by omega, rfl⟩
    have hnT : n = T := by omega
    subst hnT
    have hnl : (decide (n < C.length) && decide (cmpF (fat C n) f < 0)) = false := by
      by_cases h : n < C.length
      · have := t3 h
        rw [fat, getD_at h]
        simp [this]
      · simp [h]
    refine WP.cond (b := false) (by rw [← hnl]; simp) (fun h => by cases h) (fun _ => ?_)
    refine WP.exit ?_
    simp -dsimp
    repeat (first | refine wS ?_ | refine wB ?_ | ((first | refine wR ?_ | refine wD ?_); simp -dsimp [h1]) | refine aI ?_)
    refine vcStopG.eqS Tryz.tab gokF noarrF rfl (.inl rfl) (m := 5) (by omega) Tryz.key47 (by decide) Tryz.gd47 st47 (cs := fcs (fat C n) 0 57) (es := fcs f 0 57) (fun hg => by have h3 := fsC_at (l := C) (i := n) (by simpa using hg); simp [h3, hg]) (fun hg => by simp [hg]) (okF hg.1) (okF hf.1) (r := eqF (fat C n) f) (lits_iff hg hf) ?_
    simp -dsimp [eqRes]
    repeat (first | refine wS ?_ | refine wB ?_ | ((first | refine wR ?_ | refine wD ?_); simp -dsimp) | refine aI ?_)
    refine WP.cond (b := decide (n < C.length) && eqF (fat C n) f) (by simp) (fun hb => ?_) (fun hb => ?_)
    · rw [if_pos hb] at hin
      rw [hin] at hsn
      refine WP.exit ?_
      simp -dsimp
      repeat (first | refine wS ?_ | refine wB ?_ | ((first | refine wR ?_ | refine wD ?_); simp -dsimp) | refine aI ?_)
      refine loopW.next (coS l (canR (l.take (i + 1))) (i + 1)) (Wk.lessE [] (by simp [coS, e1, hsn]) (by simp [coS])) (m - 1) (by omega) ⟨i + 1, by omega, rfl⟩
    rw [if_neg (by rw [hb]; simp)] at hin
    rw [hin] at hsn
    have c1 : ((C.length : Int) - (n : Nat)).toNat = C.length - n := by omega
    have c2 : List.take ((C.length - n) * 57) (List.drop (n * 57) (fsC C)) = fsC (C.drop n) := by
      rw [fsC_dropL]
      exact List.take_of_length_le (by rw [fsC_len, List.length_drop]; exact Nat.le_refl _)
    have c3 := fsC_takeL C n
    have c4 : min ((C.length - n) * 57) ((fsC C).length - n * 57) = (C.length - n) * 57 := by rw [fsC_len]; omega
    have c5 : min (n * 57) (fsC C).length = n * 57 := by rw [fsC_len]; omega
    have c6 : (fsC (C.drop n)).length = (C.length - n) * 57 := by rw [fsC_len, List.length_drop]
    have c7 : (fsC (C.take n)).length = n * 57 := by rw [fsC_len, List.length_take, Nat.min_eq_left (by omega)]
    have hX : (fsC (C.take n)).map AV.d ++ ((fcs f 0 57).map .d ++ (fsC (C.drop n)).map .d) = (fsC (canR (l.take (i + 1)))).map .d := by
      rw [hsn, fsC_append, fsC_append, List.map_append, List.map_append, List.append_assoc]
      simp [fsC]
    have hXl : (canR (l.take (i + 1))).length = n + 1 + (C.length - n) := by rw [hsn]; simp; omega
    refine WP.skip ?_
    simp -dsimp
    repeat (first | refine wS ?_ | refine wB ?_ | ((first | refine wR ?_ | refine wD ?_); simp -dsimp [h1, c1, c2, c3, c4, c5, c6, c7]) | refine aI ?_)
    refine loopW.next (coS l (canR (l.take (i + 1))) (i + 1)) (Wk.trans (Wk.lessE [] (S' := mkS 68 [(0, .d (slF l)), (3, .row 66), (4, .d (.v (.int .i64 ((i + 1 : Nat) : Int))))] [(66, rB (canR (l.take (i + 1))))]) (by simp [e1]) (by simp [hX, hXl])) (Wk.trans (Wk.freeze (k := 66) (T := 62) (sz := 57) (n := (canR (l.take (i + 1))).length) (ds := fsC (canR (l.take (i + 1)))) (by simp)) (Wk.lessE [] (by simp [coS]) (by simp [coS])))) (m - 1) (by omega) ⟨i + 1, by omega, rfl⟩
  have hil : i = l.length := by omega
  subst hil
  rw [List.take_length]
  rw [coS]
  simp -dsimp
  repeat (first | refine wS ?_ | refine wB ?_ | ((first | refine wR ?_ | refine wD ?_); simp -dsimp) | refine aI ?_)
  refine WP.cond (b := false) (by simp) (fun h => by cases h) (fun _ => ?_)
  refine WP.exit ?_
  simp -dsimp
  repeat (first | refine wS ?_ | refine wB ?_ | ((first | refine wR ?_ | refine wD ?_); simp -dsimp) | refine aI ?_)
  refine WP.ret (finQ.retE ?_)
  simp -dsimp
end Go.Proofs.YtjjaabidbeoomaaGreatDoor
