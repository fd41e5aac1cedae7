/-
  Evidence: the reference's less, has, met, last.
-/
import Derived.Test.YtpamincphlfhlaaGreatDoorLUr
import Derived.Test.YtpamincphlfhlaaGreatDoorLQ
import Derived.Test.YtpamincphlfhlaaGreatDoorLN
set_option linter.unusedSectionVars false
set_option linter.unusedSimpArgs false
set_option linter.unusedVariables false
namespace Go.Proofs.YtpamincphlfhlaaGreatDoor
open Go.Xe Go.RowKit

theorem less_ok (a b : R2) : Fn0 Tryz.prog 75 [rfD a, rfD b] (.v (.bool (decide (ltR a b)))) := by
  have h : decide (ltR a b) = (decide (a.1 < b.1) || (decide (a.1 = b.1) && decide (a.2 < b.2))) := by
    rw [Bool.eq_iff_iff, decide_eq_true_iff]
    simp [ltR]
  rw [h]
  refine Fun.of_wp (pn := noPn) Tryz.tab Tryz.func75 rfl fun β0 => ?_
  simp only [Tryz.f75]
  repeat (first | apply wS | apply wB | ((first | apply wR | apply wD); simp -dsimp) | refine aI ?_)
  refine WP.ret (finQ.retE ?_)
  simp -dsimp
abbrev hasS (B : List F) (f : F) (i : Nat) : St := mkS 18 [(0, .d (slF B)), (3, .ptr 3 0), (5, .d (.v (.int .i64 i)))] [(3, .cells 63 ((fcs f 0 57).map .d))]
set_option maxRecDepth 10000 in
theorem has_ok (B : List F) (f : F) (hB : ∀ g ∈ B, fOk g) (hf : fOk f) (hn : B.length ≤ 1000) : Fn0 Tryz.prog 45 [slF B, fD f] (.v (.bool (hasF B f))) := by
  refine Fun.of_wp (pn := noPn) Tryz.tab Tryz.func45 rfl fun β0 => ?_
  simp only [Tryz.f45]
  rw [fD]
  repeat (first | apply wS | apply wB | ((first | apply wR | apply wD); simp -dsimp) | refine aI ?_)
  refine WP.loopWk (fun m S => ∃ i : Nat, m = B.length - i ∧ i ≤ B.length ∧ hasF (B.take i) f = false ∧ S = hasS B f i) B.length (S0 := hasS B f 0) (Wk.lessE [] (by simp) (by simp)) ⟨0, rfl, by omega, rfl, rfl⟩ ?_
  rintro m _ ⟨i, rfl, hi, hno, rfl⟩
  simp -dsimp
  repeat (first | apply wS | apply wB | ((first | apply wR | apply wD); simp -dsimp) | refine aI ?_)
  by_cases hil : i < B.length
  · have hat := fsC_at hil
    have lB := fsC_len B
    have hg := hB B[i] (List.getElem_mem hil)
    have e1 : IntKind.i64.wrap ((i : Int) + 1) = ((i + 1 : Nat) : Int) := by rw [IntWalk.i64_in _ (by omega)]; omega
    have hfa : fat B i = B[i] := by simp [fat, hil]
    have htk : hasF (B.take (i + 1)) f = (hasF (B.take i) f || eqF B[i] f) := by
      rw [hasF, List.take_succ_eq_append_getElem hil, List.any_append]
      simp [hasF]
    have hall : hasF B f = true ∨ eqF B[i] f = false := by
      cases he : eqF B[i] f with
      | false => exact .inr rfl
      | true => exact .inl (by rw [hasF, List.any_eq_true]; exact ⟨B[i], List.getElem_mem hil, he⟩)
    rw [hfa] at hat
    generalize B[i] = g at hat hg htk hall
    refine cT (by simp; omega) ?_
    refine WP.skip ?_
    simp -dsimp
    repeat (first | apply wS | apply wB | ((first | apply wR | apply wD); simp -dsimp [hat]) | refine aI ?_)
    refine vcStop.eqS Tryz.tab gokF noarrF rfl (.inl rfl) (m := 5) (by omega) Tryz.key47 (by decide) Tryz.gd47 st47 (cs := fcs g 0 57) (es := fcs f 0 57) (by simp) (by simp) (okF hg.1) (okF hf.1) (lits_iff hg hf) ?_
    simp -dsimp [eqRes]
    repeat (first | apply wS | apply wB | ((first | apply wR | apply wD); simp -dsimp) | refine aI ?_)
    cases he : eqF g f with
    | true =>
      have ht : hasF B f = true := hall.resolve_right (by rw [he]; simp)
      refine cT (by simp [he]) ?_
      repeat (first | apply wS | apply wB | ((first | apply wR | apply wD); simp -dsimp) | refine aI ?_)
      refine WP.ret (finQ.retE ?_)
      simp -dsimp [ht]
    | false =>
      refine cF (by simp [he]) ?_
      refine WP.skip ?_
      simp -dsimp
      repeat (first | apply wS | apply wB | ((first | apply wR | apply wD); simp -dsimp) | refine aI ?_)
      refine loopW.next (hasS B f (i + 1)) (Wk.lessE [] (by simp [e1]) (by simp)) (B.length - (i + 1)) (by omega) ⟨i + 1, rfl, by omega, by rw [htk, hno, he]; rfl, rfl⟩
  · have hx : hasF B f = false := by rw [← List.take_of_length_le (l := B) (i := i) (by omega)]; exact hno
    refine cF (by simp; omega) ?_
    refine WP.exit ?_
    simp -dsimp
    repeat (first | apply wS | apply wB | ((first | apply wR | apply wD); simp -dsimp) | refine aI ?_)
    refine WP.ret (finQ.retE ?_)
    simp -dsimp [hx]
abbrev metS (B : List F) (r : R2) (i : Nat) : St := mkS 19 [(0, .d (slF B)), (3, .ptr 3 0), (5, .d (.v (.int .i64 i)))] [(3, .cells 39 [.d (.v (.int .i64 r.1)), .d (.v (.int .i64 r.2))])]
set_option maxRecDepth 10000 in
theorem met_ok (B : List F) (r : R2) (hB : ∀ g ∈ B, fOk g) (h1 : isI r.1) (h2 : isI r.2) (hn : B.length ≤ 1000) : Fn0 Tryz.prog 48 [slF B, rfD r] (.v (.bool (decide (r ∈ B.map refF)))) := by
  generalize hd : decide (r ∈ B.map refF) = d
  refine Fun.of_wp (pn := noPn) Tryz.tab Tryz.func48 rfl fun β0 => ?_
  simp only [Tryz.f48]
  repeat (first | apply wS | apply wB | ((first | apply wR | apply wD); simp -dsimp) | refine aI ?_)
  refine WP.loopWk (fun m S => ∃ i : Nat, m = B.length - i ∧ i ≤ B.length ∧ (∀ f ∈ B.take i, refF f ≠ r) ∧ S = metS B r i) B.length (S0 := metS B r 0) (Wk.lessE [] (by simp) (by simp)) ⟨0, rfl, by omega, by simp, rfl⟩ ?_
  rintro m _ ⟨i, rfl, hi, hno, rfl⟩
  simp -dsimp
  repeat (first | apply wS | apply wB | ((first | apply wR | apply wD); simp -dsimp) | refine aI ?_)
  by_cases hil : i < B.length
  · have hat := fsC_at hil
    have lB := fsC_len B
    have hm := List.getElem_mem hil
    have hg := hB B[i] hm
    have e1 : IntKind.i64.wrap ((i : Int) + 1) = ((i + 1 : Nat) : Int) := by rw [IntWalk.i64_in _ (by omega)]; omega
    have hfa : fat B i = B[i] := by simp [fat, hil]
    have htk : B.take (i + 1) = B.take i ++ [B[i]] := List.take_succ_eq_append_getElem hil
    rw [hfa] at hat
    generalize B[i] = g at hat hg htk hm
    have hof := refOf2_ok g
    refine cT (by simp; omega) ?_
    refine WP.skip ?_
    simp -dsimp
    repeat (first | apply wS | apply wB | ((first | apply wR | apply wD); simp -dsimp [hat]) | refine aI ?_)
    refine vcStop.call0L Tryz.body23 hof rfl rfl (And.intro (by simp [fD]) trivial) ?_
    simp -dsimp
    repeat (first | apply wS | apply wB | ((first | apply wR | apply wD); simp -dsimp) | refine aI ?_)
    refine vcStop.eqS Tryz.tab gokF noarrF rfl (.inl rfl) (m := 5) (by omega) Tryz.key52 (by decide) Tryz.gd39r st39r (cs := [.v (.int .i64 (refF g).1), .v (.int .i64 (refF g).2)]) (es := [.v (.int .i64 r.1), .v (.int .i64 r.2)]) (by simp [refF]) (by simp) (ref_okD (hg.1 0) (hg.1 1)) (ref_okD h1 h2) (ref_lits (refF g) r) ?_
    simp -dsimp [eqRes]
    repeat (first | apply wS | apply wB | ((first | apply wR | apply wD); simp -dsimp) | refine aI ?_)
    by_cases he : refF g = r
    · have ht : d = true := by
        rw [← hd, decide_eq_true_iff]; exact List.mem_map.2 ⟨g, hm, he⟩
      refine cT (by simp [he]) ?_
      repeat (first | apply wS | apply wB | ((first | apply wR | apply wD); simp -dsimp) | refine aI ?_)
      refine WP.ret (finQ.retE ?_)
      simp -dsimp [ht]
    · refine cF (by simp [he]) ?_
      refine WP.skip ?_
      simp -dsimp
      repeat (first | apply wS | apply wB | ((first | apply wR | apply wD); simp -dsimp) | refine aI ?_)
      refine loopW.next (metS B r (i + 1)) (Wk.lessE [] (by simp [e1]) (by simp)) (B.length - (i + 1)) (by omega) ⟨i + 1, rfl, by omega, fun f hf => ?_, rfl⟩
      rw [htk] at hf
      rcases List.mem_append.1 hf with hf | hf
      · exact hno f hf
      · rw [List.mem_singleton.1 hf]; exact he
  · have hx : d = false := by
      rw [List.take_of_length_le (by omega)] at hno
      rw [← hd, decide_eq_false_iff_not]
      rintro hm
      obtain ⟨f, hf, e⟩ := List.mem_map.1 hm
      exact hno f hf e
    refine cF (by simp; omega) ?_
    refine WP.exit ?_
    simp -dsimp
    repeat (first | apply wS | apply wB | ((first | apply wR | apply wD); simp -dsimp) | refine aI ?_)
    refine WP.ret (finQ.retE ?_)
    simp -dsimp [hx]
abbrev lstS (B : List F) (c q : Int) (i : Nat) : St := mkS 28 [(0, .d (slF B)), (1, .d (.v (.int .i64 c))), (5, .d (.v (.int .i64 q))), (6, .d (.v (.int .i64 i)))] []
set_option maxRecDepth 10000 in
theorem last_ok (B : List F) (c : Int) (hB : ∀ g ∈ B, fOk g) (hn : B.length ≤ 1000) : Fn0 Tryz.prog 47 [slF B, .v (.int .i64 c)] (.v (.int .i64 (lastN c B 0))) := by
  refine Fun.of_wp (pn := noPn) Tryz.tab Tryz.func47 rfl fun β0 => ?_
  simp only [Tryz.f47]
  repeat (first | apply wS | apply wB | ((first | apply wR | apply wD); simp -dsimp) | refine aI ?_)
  refine WP.loopWk (fun m S => ∃ i : Nat, m = B.length - i ∧ i ≤ B.length ∧ S = lstS B c (lastN c (B.take i) 0) i) B.length (S0 := lstS B c (lastN c (B.take 0) 0) 0) (Wk.lessE [] (by simp [lastN]) (by simp)) ⟨0, rfl, by omega, rfl⟩ ?_
  rintro m _ ⟨i, rfl, hi, rfl⟩
  simp -dsimp
  repeat (first | apply wS | apply wB | ((first | apply wR | apply wD); simp -dsimp) | refine aI ?_)
  by_cases hil : i < B.length
  · have hat := fsC_at hil
    have lB := fsC_len B
    have hg := hB B[i] (List.getElem_mem hil)
    have e1 : IntKind.i64.wrap ((i : Int) + 1) = ((i + 1 : Nat) : Int) := by rw [IntWalk.i64_in _ (by omega)]; omega
    have hfa : fat B i = B[i] := by simp [fat, hil]
    have htk : lastN c (B.take (i + 1)) 0 = if B[i] 0 = c ∧ lastN c (B.take i) 0 < B[i] 1 then B[i] 1 else lastN c (B.take i) 0 := by
      rw [List.take_succ_eq_append_getElem hil, lastN_snoc]
    rw [hfa] at hat
    generalize B[i] = g at hat hg htk
    generalize lastN c (B.take i) 0 = q at htk
    refine cT (by simp; omega) ?_
    refine WP.skip ?_
    simp -dsimp
    repeat (first | apply wS | apply wB | ((first | apply wR | apply wD); simp -dsimp [hat]) | refine aI ?_)
    by_cases hc : g 0 = c
    · have hmx : lastN c (B.take (i + 1)) 0 = max q (g 1) := by
        rw [htk]
        split
        · rename_i h; omega
        · rename_i h; simp only [hc, true_and] at h; omega
      refine cT (by simp [hc]) ?_
      repeat (first | apply wS | apply wB | ((first | apply wR | apply wD); simp -dsimp [hat]) | refine aI ?_)
      refine loopW.next (lstS B c (lastN c (B.take (i + 1)) 0) (i + 1)) (Wk.lessE [] (by simp [e1, hmx]) (by simp)) (B.length - (i + 1)) (by omega) ⟨i + 1, rfl, by omega, rfl⟩
    · rw [if_neg fun h => hc h.1] at htk
      refine cF (by simp [hc]) ?_
      refine WP.skip ?_
      simp -dsimp
      repeat (first | apply wS | apply wB | ((first | apply wR | apply wD); simp -dsimp) | refine aI ?_)
      refine loopW.next (lstS B c (lastN c (B.take (i + 1)) 0) (i + 1)) (Wk.lessE [] (by simp [e1, htk]) (by simp)) (B.length - (i + 1)) (by omega) ⟨i + 1, rfl, by omega, rfl⟩
  · have hx : B.take i = B := List.take_of_length_le (by omega)
    rw [hx]
    refine cF (by simp; omega) ?_
    refine WP.exit ?_
    simp -dsimp
    repeat (first | apply wS | apply wB | ((first | apply wR | apply wD); simp -dsimp) | refine aI ?_)
    refine WP.ret (finQ.retE ?_)
    simp -dsimp
end Go.Proofs.YtpamincphlfhlaaGreatDoor
