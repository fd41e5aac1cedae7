/-
  Evidence: the reference's with: one more reference, in order, each once.
-/
import Derived.Test.YtpamincphlfhlaaGreatDoorLUt
set_option linter.unusedSectionVars false
set_option linter.unusedSimpArgs false
set_option linter.unusedVariables false
namespace Go.Proofs.YtpamincphlfhlaaGreatDoor
open Go.Xe Go.RowKit

theorem insR_split (r : R2) : ∀ (l1 l2 : List R2), (∀ s ∈ l1, ltR s r) → insR r (l1 ++ l2) = l1 ++ insR r l2
  | [], _, _ => rfl
  | s :: l1, l2, h => by
    rw [List.cons_append, insR, if_pos (h s (by simp)), insR_split r l1 l2 fun t ht => h t (by simp [ht])]
    rfl
abbrev wiS (x : List R2) (r : R2) (i : Nat) : St := mkS 45 [(0, .d (slR x)), (3, .ptr 3 0), (5, .d (.v (.int .i64 i)))] [(3, .cells 39 [.d (.v (.int .i64 r.1)), .d (.v (.int .i64 r.2))])]
set_option maxRecDepth 10000 in
set_option maxHeartbeats 4000000 in
theorem with_ok (x : List R2) (r : R2) (hx : ∀ s ∈ x, isI s.1 ∧ isI s.2) (h1 : isI r.1) (h2 : isI r.2) (hn : x.length ≤ 100000) : Fn0 Tryz.prog 46 [slR x, rfD r] (slR (insR r x)) := by
  refine Fun.of_wp (pn := noPn) Tryz.tab Tryz.func46 rfl fun β0 => ?_
  simp only [Tryz.f46]
  repeat (first | apply wS | apply wB | ((first | apply wR | apply wD); simp -dsimp) | refine aI ?_)
  refine WP.loopWk (fun m S => ∃ l1 l2, x = l1 ++ l2 ∧ m = l2.length ∧ (∀ s ∈ l1, ltR s r) ∧ S = wiS x r l1.length) x.length (S0 := wiS x r 0) (Wk.lessE [] (by simp) (by simp)) ⟨[], x, rfl, rfl, by simp, rfl⟩ ?_
  rintro m _ ⟨l1, l2, hx12, rfl, hlt, rfl⟩
  have lx := rfC_len x
  have l1' := rfC_len l1
  have l2' := rfC_len l2
  have hxl : x.length = l1.length + l2.length := by rw [hx12]; simp
  have hC : rfC x = rfC l1 ++ rfC l2 := by rw [hx12, rfC_append]
  have hdr : List.take ((x.length - l1.length) * 2) (List.drop (l1.length * 2) ((rfC x).map AV.d)) = (rfC l2).map .d := by
    rw [hC, List.map_append, List.drop_left' (by rw [List.length_map, l1']), List.take_of_length_le (by rw [List.length_map, l2']; omega)]
  have htk : List.take (l1.length * 2) ((rfC x).map AV.d) = (rfC l1).map .d := by
    rw [hC, List.map_append, List.take_left' (by rw [List.length_map, l1'])]
  have hins : (l2 = [] ∨ ∃ s t, l2 = s :: t ∧ ¬ ltR s r ∧ s ≠ r) → insR r x = l1 ++ r :: l2 := fun h => by
    rw [hx12, insR_split r l1 l2 hlt]
    rcases h with rfl | ⟨s, t, rfl, h1, h2⟩
    · rfl
    · rw [insR, if_neg h1, if_neg h2]
  simp -dsimp
  cases l2 with
  | nil =>
    have hil : ¬ l1.length < x.length := by simp at hxl; omega
    have hi0 : insR r x = l1 ++ [r] := hins (.inl rfl)
    repeat (first | apply wS | apply wB | ((first | apply wR | apply wD); simp -dsimp [hil]) | refine aI ?_)
    refine vcStopG.call0L Tryz.body75 (fun _ => less_ok r r) rfl (fun _ => rfl) (fun h => by simp at h) ?_
    simp -dsimp [hil]
    repeat (first | apply wS | apply wB | ((first | apply wR | apply wD); simp -dsimp [hil]) | refine aI ?_)
    refine cF (by simp) ?_
    refine WP.exit ?_
    simp -dsimp [hil]
    repeat (first | apply wS | apply wB | ((first | apply wR | apply wD); simp -dsimp [hil]) | refine aI ?_)
    refine vcStopG.eqS Tryz.tab gokF noarrF rfl (.inl rfl) (m := 5) (by omega) Tryz.key52 (by decide) Tryz.gd39r st39r (cs := [.v (.int .i64 r.1), .v (.int .i64 r.2)]) (es := [.v (.int .i64 r.1), .v (.int .i64 r.2)]) (fun h => by simp at h) (fun h => by simp at h) (ref_okD h1 h2) (ref_okD h1 h2) (ref_lits r r) ?_
    simp -dsimp [eqRes, hil]
    repeat (first | apply wS | apply wB | ((first | apply wR | apply wD); simp -dsimp [hil]) | refine aI ?_)
    refine cF (by simp) ?_
    refine WP.skip ?_
    simp -dsimp [htk, hdr]
    repeat (first | apply wS | apply wB | ((first | apply wR | apply wD); simp -dsimp [htk, hdr]) | refine aI ?_)
    have hR : List.map AV.d (rfC l1) ++ AV.d (.v (.int .i64 r.1)) :: AV.d (.v (.int .i64 r.2)) :: List.map AV.d (rfC []) = (rfC (insR r x)).map .d := by
      rw [hi0, rfC_append, List.map_append]; rfl
    have hlen : l1.length + 1 + (x.length - l1.length) = (insR r x).length := by rw [hi0, hxl]; first | (simp; done) | (simp; omega)
    rw [hR, hlen]
    refine WP.ret (finQ.retWE (S' := mkS 45 [(4, .d (slR (insR r x)))] []) (Wk.trans (Wk.lessE [3, 39] (S' := mkS 45 [(4, .row 44)] [(44, .row 39 2 (insR r x).length ((rfC (insR r x)).map .d))]) (by simp) (by simp)) (Wk.trans (Wk.freeze (k := 44) (T := 39) (sz := 2) (n := (insR r x).length) (ds := rfC (insR r x)) (by simp)) (Wk.lessE [] (by simp) (by simp)))) ?_)
    simp -dsimp
  | cons s l2 =>
    have hil : l1.length < x.length := by simp at hxl; omega
    have hat := rfC_at (x := x) hil
    have hre : x[l1.length] = s := by simp [hx12]
    obtain ⟨s1, s2⟩ := hx x[l1.length] (List.getElem_mem hil)
    rw [hre] at hat s1 s2
    repeat (first | apply wS | apply wB | ((first | apply wR | apply wD); simp -dsimp [hat, hil]) | refine aI ?_)
    refine vcStopG.call0L Tryz.body75 (fun _ => less_ok s r) rfl (fun _ => rfl) (fun _ => And.intro (by simp) (And.intro (by simp) trivial)) ?_
    simp -dsimp
    repeat (first | apply wS | apply wB | ((first | apply wR | apply wD); simp -dsimp) | refine aI ?_)
    by_cases hsr : ltR s r
    · have e1 : IntKind.i64.wrap ((l1.length : Int) + 1) = ((l1 ++ [s]).length : Nat) := by rw [IntWalk.i64_in _ (by omega)]; simp
      refine cT (by simp [hsr]) ?_
      refine WP.skip ?_
      simp -dsimp
      repeat (first | apply wS | apply wB | ((first | apply wR | apply wD); simp -dsimp) | refine aI ?_)
      refine loopW.next (wiS x r (l1 ++ [s]).length) (Wk.lessE [] (by simp [e1]) (by simp)) l2.length (by simp) ⟨l1 ++ [s], l2, by simp [hx12], rfl, fun t ht => ?_, rfl⟩
      rcases List.mem_append.1 ht with ht | ht
      · exact hlt t ht
      · rw [List.mem_singleton.1 ht]; exact hsr
    · refine cF (by simp [hsr]) ?_
      refine WP.exit ?_
      simp -dsimp
      repeat (first | apply wS | apply wB | ((first | apply wR | apply wD); simp -dsimp [hat, hil]) | refine aI ?_)
      refine vcStopG.eqS Tryz.tab gokF noarrF rfl (.inl rfl) (m := 5) (by omega) Tryz.key52 (by decide) Tryz.gd39r st39r (cs := [.v (.int .i64 s.1), .v (.int .i64 s.2)]) (es := [.v (.int .i64 r.1), .v (.int .i64 r.2)]) (fun h => by simp) (fun h => by simp) (ref_okD s1 s2) (ref_okD h1 h2) (ref_lits s r) ?_
      simp -dsimp [eqRes]
      repeat (first | apply wS | apply wB | ((first | apply wR | apply wD); simp -dsimp) | refine aI ?_)
      by_cases he : s = r
      · have hi0 : insR r x = x := by
          rw [hx12, insR_split r l1 _ hlt, insR, if_neg hsr, if_pos he]
        refine cT (by simp [he]) ?_
        repeat (first | apply wS | apply wB | ((first | apply wR | apply wD); simp -dsimp) | refine aI ?_)
        refine WP.ret (finQ.retE ?_)
        simp -dsimp [hi0]
      · have hi0 := hins (.inr ⟨s, l2, rfl, hsr, he⟩)
        refine cF (by simp [he]) ?_
        refine WP.skip ?_
        simp -dsimp [htk, hdr]
        repeat (first | apply wS | apply wB | ((first | apply wR | apply wD); simp -dsimp [htk, hdr]) | refine aI ?_)
        have hR : List.map AV.d (rfC l1) ++ AV.d (.v (.int .i64 r.1)) :: AV.d (.v (.int .i64 r.2)) :: List.map AV.d (rfC (s :: l2)) = (rfC (insR r x)).map .d := by
          rw [hi0, rfC_append, List.map_append]; rfl
        have hlen : l1.length + 1 + (x.length - l1.length) = (insR r x).length := by rw [hi0, hxl]; first | (simp; done) | (simp; omega)
        rw [hR, hlen]
        refine WP.ret (finQ.retWE (S' := mkS 45 [(4, .d (slR (insR r x)))] []) (Wk.trans (Wk.lessE [3, 39] (S' := mkS 45 [(4, .row 44)] [(44, .row 39 2 (insR r x).length ((rfC (insR r x)).map .d))]) (by simp) (by simp)) (Wk.trans (Wk.freeze (k := 44) (T := 39) (sz := 2) (n := (insR r x).length) (ds := rfC (insR r x)) (by simp)) (Wk.lessE [] (by simp) (by simp)))) ?_)
        simp -dsimp
end Go.Proofs.YtpamincphlfhlaaGreatDoor
