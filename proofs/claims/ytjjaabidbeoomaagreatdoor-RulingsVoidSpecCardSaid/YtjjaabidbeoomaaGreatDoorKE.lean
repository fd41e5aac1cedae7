/-
  Joined texts.
-/
import Derived.Test.YtjjaabidbeoomaaGreatDoorKD
import Derived.Test.YtjjaabidbeoomaaGreatDoorKC
import Derived.Test.YtjjaabidbeoomaaGreatDoorKQk
set_option linter.unusedVariables false
set_option linter.unusedSimpArgs false
set_option linter.unusedSectionVars false
/-
  The reference: the same rulings, the same references, the same reports, of lists that are the same.
-/
set_option linter.unusedSimpArgs false
set_option linter.unusedVariables false
namespace Go.Proofs.YtjjaabidbeoomaaGreatDoor
open Go.Xe Go.RowKit

theorem prt_drop (a k : Nat) {l : List F} {i : Nat} (h : i < l.length) : (prt a k l).drop (i * k) = fcs l[i] a k ++ prt a k (l.drop (i + 1)) := by
  have e : l = l.take i ++ l[i] :: l.drop (i + 1) := by rw [← List.drop_eq_getElem_cons h, List.take_append_drop]
  have h1 : prt a k l = prt a k (l.take i) ++ prt a k (l[i] :: l.drop (i + 1)) := by rw [← prt_append, ← e]
  rw [h1, List.drop_append_of_le_length (by rw [prt_len, List.length_take, Nat.min_eq_left (by omega)]; exact Nat.le_refl _), List.drop_eq_nil_of_le (by rw [prt_len, List.length_take, Nat.min_eq_left (by omega)]; exact Nat.le_refl _)]
  rfl
theorem prt_at (a k : Nat) {l : List F} {i : Nat} (h : i < l.length) : ((prt a k l).drop (i * k)).take k = fcs l[i] a k := by
  rw [prt_drop a k h, List.take_append_of_le_length (by simp)]
  simp
theorem stN43 : (match Tryz.prog.underlying 25 with | some (.struct _) | some (.array _ _) => true | _ => false) = true := by kernel_rfl
theorem keyN43 : Tryz.prog.keyTypeAt 5 25 = true := by kernel_rfl
theorem gdN43 : Tryz.prog.eqGuardType Tryz.prog.depth 25 = false := by kernel_rfl
set_option maxRecDepth 10000 in
set_option maxHeartbeats 4000000 in
theorem same43_ok (l : List F) (hl : l.length ≤ 1000) (hv : ∀ f ∈ l, fOk f) : Fn0 Tryz.prog 8 [.sl 6 (prt 47 6 l) l.length false, .sl 6 (prt 47 6 l) l.length false] (.v (.bool true)) := by
  refine Fun.of_wp (pn := noPn) Tryz.tab Tryz.func8 rfl fun β0 => ?_
  simp only [Tryz.f8]
  repeat (first | refine wS ?_ | refine wB ?_ | ((first | refine wR ?_ | refine wD ?_); simp -dsimp) | refine aI ?_)
  refine WP.cond (b := false) (by simp) (fun h => by cases h) (fun _ => ?_)
  refine WP.skip ?_
  simp -dsimp
  repeat (first | refine wS ?_ | refine wB ?_ | ((first | refine wR ?_ | refine wD ?_); simp -dsimp) | refine aI ?_)
  refine WP.loopWk (fun m S => ∃ i, i + m = l.length ∧ S = mkS 26 [(0, .d (.sl 6 (prt 47 6 l) l.length false)), (1, .d (.sl 6 (prt 47 6 l) l.length false)), (5, .d (.v (.int .i64 (i : Nat))))] []) l.length (S0 := mkS 26 [(0, .d (.sl 6 (prt 47 6 l) l.length false)), (1, .d (.sl 6 (prt 47 6 l) l.length false)), (5, .d (.v (.int .i64 0)))] []) (Wk.lessE [] (by simp) (by simp)) ⟨0, by omega, rfl⟩ ?_
  rintro m _ ⟨i, him, rfl⟩
  simp -dsimp
  repeat (first | refine wS ?_ | refine wB ?_ | ((first | refine wR ?_ | refine wD ?_); simp -dsimp) | refine aI ?_)
  by_cases hi : i < l.length
  · have h1 := prt_at 47 6 hi
    have hf := hv _ (List.getElem_mem hi)
    generalize l[i] = f at h1 hf
    have e1 : IntKind.i64.wrap ((i : Int) + 1) = ((i + 1 : Nat) : Int) := by rw [IntWalk.i64_in _ (by omega)]; omega
    refine WP.cond (b := true) (by simp; omega) (fun _ => ?_) (fun h => by cases h)
    refine WP.skip ?_
    simp -dsimp
    refine WP.seq (WP.block ?_)
    repeat (first | refine wS ?_ | refine wB ?_ | ((first | refine wR ?_ | refine wD ?_); simp -dsimp [h1]) | refine aI ?_)
    refine vcStop.eqS Tryz.tab gokF noarrF rfl (.inr rfl) (m := 5) (by omega) keyN43 (by decide) gdN43 stN43 (cs := fcs f 47 6) (es := fcs f 47 6) (by simp [h1]) (by simp [h1]) (fit_ok hf.1 3 25 47 (by decide)) (fit_ok hf.1 3 25 47 (by decide)) (r := true) (by simp) ?_
    simp -dsimp
    repeat (first | refine wS ?_ | refine wB ?_ | ((first | refine wR ?_ | refine wD ?_); simp -dsimp) | refine aI ?_)
    refine WP.cond (b := false) (by simp [eqRes]) (fun h => by cases h) (fun _ => ?_)
    refine WP.skip ?_
    simp -dsimp
    repeat (first | refine wS ?_ | refine wB ?_ | ((first | refine wR ?_ | refine wD ?_); simp -dsimp) | refine aI ?_)
    refine loopW.next (mkS 26 [(0, .d (.sl 6 (prt 47 6 l) l.length false)), (1, .d (.sl 6 (prt 47 6 l) l.length false)), (5, .d (.v (.int .i64 ((i + 1 : Nat) : Int))))] []) (Wk.lessE [] (by simp [e1]) (by simp)) (m - 1) (by omega) ⟨i + 1, by omega, rfl⟩
  · refine WP.cond (b := false) (by simp; omega) (fun h => by cases h) (fun _ => ?_)
    refine WP.exit ?_
    simp -dsimp
    repeat (first | refine wS ?_ | refine wB ?_ | ((first | refine wR ?_ | refine wD ?_); simp -dsimp) | refine aI ?_)
    refine WP.ret (finQ.retE ?_)
    simp -dsimp
theorem stN47 : (match Tryz.prog.underlying 60 with | some (.struct _) | some (.array _ _) => true | _ => false) = true := by kernel_rfl
theorem keyN47 : Tryz.prog.keyTypeAt 5 60 = true := by kernel_rfl
theorem gdN47 : Tryz.prog.eqGuardType Tryz.prog.depth 60 = false := by kernel_rfl
set_option maxRecDepth 10000 in
set_option maxHeartbeats 4000000 in
theorem same47_ok (l : List F) (hl : l.length ≤ 1000) (hv : ∀ f ∈ l, fOk f) : Fn0 Tryz.prog 13 [.sl 2 (prt 0 2 l) l.length false, .sl 2 (prt 0 2 l) l.length false] (.v (.bool true)) := by
  refine Fun.of_wp (pn := noPn) Tryz.tab Tryz.func13 rfl fun β0 => ?_
  simp only [Tryz.f13]
  repeat (first | refine wS ?_ | refine wB ?_ | ((first | refine wR ?_ | refine wD ?_); simp -dsimp) | refine aI ?_)
  refine WP.cond (b := false) (by simp) (fun h => by cases h) (fun _ => ?_)
  refine WP.skip ?_
  simp -dsimp
  repeat (first | refine wS ?_ | refine wB ?_ | ((first | refine wR ?_ | refine wD ?_); simp -dsimp) | refine aI ?_)
  refine WP.loopWk (fun m S => ∃ i, i + m = l.length ∧ S = mkS 26 [(0, .d (.sl 2 (prt 0 2 l) l.length false)), (1, .d (.sl 2 (prt 0 2 l) l.length false)), (5, .d (.v (.int .i64 (i : Nat))))] []) l.length (S0 := mkS 26 [(0, .d (.sl 2 (prt 0 2 l) l.length false)), (1, .d (.sl 2 (prt 0 2 l) l.length false)), (5, .d (.v (.int .i64 0)))] []) (Wk.lessE [] (by simp) (by simp)) ⟨0, by omega, rfl⟩ ?_
  rintro m _ ⟨i, him, rfl⟩
  simp -dsimp
  repeat (first | refine wS ?_ | refine wB ?_ | ((first | refine wR ?_ | refine wD ?_); simp -dsimp) | refine aI ?_)
  by_cases hi : i < l.length
  · have h1 := prt_at 0 2 hi
    have hf := hv _ (List.getElem_mem hi)
    generalize l[i] = f at h1 hf
    have e1 : IntKind.i64.wrap ((i : Int) + 1) = ((i + 1 : Nat) : Int) := by rw [IntWalk.i64_in _ (by omega)]; omega
    refine WP.cond (b := true) (by simp; omega) (fun _ => ?_) (fun h => by cases h)
    refine WP.skip ?_
    simp -dsimp
    refine WP.seq (WP.block ?_)
    repeat (first | refine wS ?_ | refine wB ?_ | ((first | refine wR ?_ | refine wD ?_); simp -dsimp [h1]) | refine aI ?_)
    refine vcStop.eqS Tryz.tab gokF noarrF rfl (.inr rfl) (m := 5) (by omega) keyN47 (by decide) gdN47 stN47 (cs := fcs f 0 2) (es := fcs f 0 2) (by simp [h1]) (by simp [h1]) (fit_ok hf.1 3 60 0 (by decide)) (fit_ok hf.1 3 60 0 (by decide)) (r := true) (by simp) ?_
    simp -dsimp
    repeat (first | refine wS ?_ | refine wB ?_ | ((first | refine wR ?_ | refine wD ?_); simp -dsimp) | refine aI ?_)
    refine WP.cond (b := false) (by simp [eqRes]) (fun h => by cases h) (fun _ => ?_)
    refine WP.skip ?_
    simp -dsimp
    repeat (first | refine wS ?_ | refine wB ?_ | ((first | refine wR ?_ | refine wD ?_); simp -dsimp) | refine aI ?_)
    refine loopW.next (mkS 26 [(0, .d (.sl 2 (prt 0 2 l) l.length false)), (1, .d (.sl 2 (prt 0 2 l) l.length false)), (5, .d (.v (.int .i64 ((i + 1 : Nat) : Int))))] []) (Wk.lessE [] (by simp [e1]) (by simp)) (m - 1) (by omega) ⟨i + 1, by omega, rfl⟩
  · refine WP.cond (b := false) (by simp; omega) (fun h => by cases h) (fun _ => ?_)
    refine WP.exit ?_
    simp -dsimp
    repeat (first | refine wS ?_ | refine wB ?_ | ((first | refine wR ?_ | refine wD ?_); simp -dsimp) | refine aI ?_)
    refine WP.ret (finQ.retE ?_)
    simp -dsimp
theorem stN39 : (match Tryz.prog.underlying 54 with | some (.struct _) | some (.array _ _) => true | _ => false) = true := by kernel_rfl
theorem keyN39 : Tryz.prog.keyTypeAt 5 54 = true := by kernel_rfl
theorem gdN39 : Tryz.prog.eqGuardType Tryz.prog.depth 54 = false := by kernel_rfl
set_option maxRecDepth 10000 in
set_option maxHeartbeats 4000000 in
theorem same39_ok (l : List F) (hl : l.length ≤ 1000) (hv : ∀ f ∈ l, fOk f) : Fn0 Tryz.prog 16 [.sl 4 (prt 39 4 l) l.length false, .sl 4 (prt 39 4 l) l.length false] (.v (.bool true)) := by
  refine Fun.of_wp (pn := noPn) Tryz.tab Tryz.func16 rfl fun β0 => ?_
  simp only [Tryz.f16]
  repeat (first | refine wS ?_ | refine wB ?_ | ((first | refine wR ?_ | refine wD ?_); simp -dsimp) | refine aI ?_)
  refine WP.cond (b := false) (by simp) (fun h => by cases h) (fun _ => ?_)
  refine WP.skip ?_
  simp -dsimp
  repeat (first | refine wS ?_ | refine wB ?_ | ((first | refine wR ?_ | refine wD ?_); simp -dsimp) | refine aI ?_)
  refine WP.loopWk (fun m S => ∃ i, i + m = l.length ∧ S = mkS 26 [(0, .d (.sl 4 (prt 39 4 l) l.length false)), (1, .d (.sl 4 (prt 39 4 l) l.length false)), (5, .d (.v (.int .i64 (i : Nat))))] []) l.length (S0 := mkS 26 [(0, .d (.sl 4 (prt 39 4 l) l.length false)), (1, .d (.sl 4 (prt 39 4 l) l.length false)), (5, .d (.v (.int .i64 0)))] []) (Wk.lessE [] (by simp) (by simp)) ⟨0, by omega, rfl⟩ ?_
  rintro m _ ⟨i, him, rfl⟩
  simp -dsimp
  repeat (first | refine wS ?_ | refine wB ?_ | ((first | refine wR ?_ | refine wD ?_); simp -dsimp) | refine aI ?_)
  by_cases hi : i < l.length
  · have h1 := prt_at 39 4 hi
    have hf := hv _ (List.getElem_mem hi)
    generalize l[i] = f at h1 hf
    have e1 : IntKind.i64.wrap ((i : Int) + 1) = ((i + 1 : Nat) : Int) := by rw [IntWalk.i64_in _ (by omega)]; omega
    refine WP.cond (b := true) (by simp; omega) (fun _ => ?_) (fun h => by cases h)
    refine WP.skip ?_
    simp -dsimp
    refine WP.seq (WP.block ?_)
    repeat (first | refine wS ?_ | refine wB ?_ | ((first | refine wR ?_ | refine wD ?_); simp -dsimp [h1]) | refine aI ?_)
    refine vcStop.eqS Tryz.tab gokF noarrF rfl (.inr rfl) (m := 5) (by omega) keyN39 (by decide) gdN39 stN39 (cs := fcs f 39 4) (es := fcs f 39 4) (by simp [h1]) (by simp [h1]) (fit_ok hf.1 3 54 39 (by decide)) (fit_ok hf.1 3 54 39 (by decide)) (r := true) (by simp) ?_
    simp -dsimp
    repeat (first | refine wS ?_ | refine wB ?_ | ((first | refine wR ?_ | refine wD ?_); simp -dsimp) | refine aI ?_)
    refine WP.cond (b := false) (by simp [eqRes]) (fun h => by cases h) (fun _ => ?_)
    refine WP.skip ?_
    simp -dsimp
    repeat (first | refine wS ?_ | refine wB ?_ | ((first | refine wR ?_ | refine wD ?_); simp -dsimp) | refine aI ?_)
    refine loopW.next (mkS 26 [(0, .d (.sl 4 (prt 39 4 l) l.length false)), (1, .d (.sl 4 (prt 39 4 l) l.length false)), (5, .d (.v (.int .i64 ((i + 1 : Nat) : Int))))] []) (Wk.lessE [] (by simp [e1]) (by simp)) (m - 1) (by omega) ⟨i + 1, by omega, rfl⟩
  · refine WP.cond (b := false) (by simp; omega) (fun h => by cases h) (fun _ => ?_)
    refine WP.exit ?_
    simp -dsimp
    repeat (first | refine wS ?_ | refine wB ?_ | ((first | refine wR ?_ | refine wD ?_); simp -dsimp) | refine aI ?_)
    refine WP.ret (finQ.retE ?_)
    simp -dsimp
end Go.Proofs.YtjjaabidbeoomaaGreatDoor

/-
  Rulings: the chapter's examples, in plain lists.
-/
set_option linter.unusedSimpArgs false
set_option linter.unusedVariables false
namespace Go.Proofs.YtjjaabidbeoomaaGreatDoor
open Go.Xe Go.RowKit

def ruF (a b c : Int) : F := fun i => if i = 1 then a else if i = 2 then a else if i = 3 then 10 else if i = 47 then 7 else if i = 48 then b else if i = 49 then c else 0
def apF : F := fun i => if i = 1 then 4 else if i = 2 then 4 else if i = 3 then 11 else if i = 53 then 7 else if i = 54 then 1 else 0
def rpF : F := fun i => if i = 1 then 5 else if i = 2 then 5 else if i = 3 then 8 else if i = 39 then 9 else if i = 40 then 3 else 0
abbrev rA : F := ruF 1 1 1
abbrev rB2 : F := ruF 2 1 2
abbrev rC : F := ruF 3 2 2
theorem isI_s {x : Int} (h1 : -1000 ≤ x) (h2 : x ≤ 1000) : isI x := ⟨by omega, by omega⟩
theorem ruF_ok {a b c : Int} (h1 : isI a) (h2 : isI b) (h3 : isI c) : fOk (ruF a b c) := by
  refine ⟨fun i => ?_, .inl rfl, fun i hi => ?_⟩
  · unfold ruF
    repeat' split
    all_goals first | assumption | exact isI_s (by decide) (by decide)
  · unfold ruF
    repeat rw [if_neg (by omega)]
theorem apF_ok : fOk apF := by
  refine ⟨fun i => ?_, .inr rfl, fun i hi => ?_⟩
  · unfold apF
    repeat' split
    all_goals exact isI_s (by decide) (by decide)
  · unfold apF
    repeat rw [if_neg (by omega)]
theorem rpF_ok : fOk rpF := by
  refine ⟨fun i => ?_, .inl rfl, fun i hi => ?_⟩
  · unfold rpF
    repeat' split
    all_goals exact isI_s (by decide) (by decide)
  · unfold rpF
    repeat rw [if_neg (by omega)]
theorem rA_ok : fOk rA := ruF_ok (isI_s (by decide) (by decide)) (isI_s (by decide) (by decide)) (isI_s (by decide) (by decide))
theorem rB2_ok : fOk rB2 := ruF_ok (isI_s (by decide) (by decide)) (isI_s (by decide) (by decide)) (isI_s (by decide) (by decide))
theorem rC_ok : fOk rC := ruF_ok (isI_s (by decide) (by decide)) (isI_s (by decide) (by decide)) (isI_s (by decide) (by decide))
theorem rA_num : (numF rA).2 = true := by decide
theorem rB2_num : (numF rB2).2 = true := by decide
theorem rC_num : (numF rC).2 = true := by decide
theorem apF_num : (numF apF).2 = true := by decide
theorem rpF_num : (numF rpF).2 = true := by decide
theorem cmp_hd {f g : F} (h : headC f g = -1) : cmpF f g < 0 := by rw [cmpF, h, if_neg (by decide)]; decide
theorem lt_ab : cmpF rA rB2 < 0 := cmp_hd (by decide)
theorem lt_ap : cmpF rA apF < 0 := cmp_hd (by decide)
theorem lt_ac : cmpF rA rC < 0 := cmp_hd (by decide)
theorem lt_cp : cmpF rC apF < 0 := cmp_hd (by decide)
theorem lt_ar : cmpF rA rpF < 0 := cmp_hd (by decide)
theorem canF_of {l c : List F} (hv : ∀ f ∈ l, fOk f) (h : Canon l c) : canF l = c := (canF_ok hv).unique h
theorem canF_two {a b x y : F} (ha : fOk a) (hb : fOk b) (na : (numF a).2 = true) (nb : (numF b).2 = true) (hlt : cmpF a b < 0) (h : (x = a ∧ y = b) ∨ (x = b ∧ y = a)) : canF [x, y] = [a, b] := by
  refine canF_of (fun f hf => ?_) ⟨List.Pairwise.cons (fun g hg => by rw [List.mem_singleton] at hg; subst hg; exact hlt) (List.pairwise_singleton _ _), fun f => ?_⟩
  · rcases h with ⟨rfl, rfl⟩ | ⟨rfl, rfl⟩ <;> simp only [List.mem_cons, List.not_mem_nil, or_false] at hf <;> rcases hf with rfl | rfl <;> assumption
  · rcases h with ⟨rfl, rfl⟩ | ⟨rfl, rfl⟩ <;> simp only [List.mem_cons, List.not_mem_nil, or_false] <;> constructor
    · rintro (rfl | rfl) <;> simp [na, nb]
    · exact fun h => h.1
    · rintro (rfl | rfl) <;> simp [na, nb]
    · exact fun h => h.1.symm
theorem can1 : canF [rA, apF] = [rA, apF] := canF_two rA_ok apF_ok rA_num apF_num lt_ap (.inl ⟨rfl, rfl⟩)
theorem can2 : canF [apF, rC, rA] = [rA, rC, apF] := by
  refine canF_of (fun f hf => ?_) ⟨List.Pairwise.cons (fun g hg => ?_) (List.Pairwise.cons (fun g hg => ?_) (List.pairwise_singleton _ _)), fun f => ?_⟩
  · simp only [List.mem_cons, List.not_mem_nil, or_false] at hf
    rcases hf with rfl | rfl | rfl
    · exact apF_ok
    · exact rC_ok
    · exact rA_ok
  · simp only [List.mem_cons, List.not_mem_nil, or_false] at hg
    rcases hg with rfl | rfl
    · exact lt_ac
    · exact lt_ap
  · rw [List.mem_singleton] at hg; subst hg; exact lt_cp
  · simp only [List.mem_cons, List.not_mem_nil, or_false]
    constructor
    · rintro (rfl | rfl | rfl) <;> simp [rA_num, rC_num, apF_num]
    · rintro ⟨rfl | rfl | rfl, _⟩ <;> simp
theorem can3 : canF [rB2, rA] = [rA, rB2] := canF_two rA_ok rB2_ok rA_num rB2_num lt_ab (.inr ⟨rfl, rfl⟩)
theorem can5 : canF [rpF, rA] = [rA, rpF] := canF_two rA_ok rpF_ok rA_num rpF_num lt_ar (.inr ⟨rfl, rfl⟩)
theorem can6 : canF [rA, rpF] = [rA, rpF] := canF_two rA_ok rpF_ok rA_num rpF_num lt_ar (.inl ⟨rfl, rfl⟩)
theorem can7 : canF [apF] = [apF] := by
  refine canF_of (fun f hf => by rw [List.mem_singleton] at hf; subst hf; exact apF_ok) ⟨List.pairwise_singleton _ _, fun f => ?_⟩
  simp only [List.mem_singleton]
  exact ⟨fun h => ⟨h, by rw [h]; exact apF_num⟩, fun h => h.1⟩
theorem of1 : forceO (fileOf (canF [rA, apF]) 7) = none := by rw [can1]; rfl
theorem of2 : forceO (fileOf (canF [apF, rC, rA]) 7) = some rC := by rw [can2]; rfl
theorem of3 : forceO (fileOf (canF [rB2, rA]) 7) = some rA := by rw [can3]; rfl
theorem ext4 : extN (canF [rB2, rA]) (casesL (canF [rB2, rA])) = [rB2] := by rw [can3]; rfl
theorem void4 : voidL (canF [rB2, rA]) = [rB2] := by
  rw [voidL, ext4]
  obtain ⟨h1, h2, _⟩ := setF_canon (l := [rB2]) fun f hf => by rw [List.mem_singleton] at hf; subst hf; exact ⟨rB2_ok, rB2_num⟩
  exact asc_eq h1 (List.pairwise_singleton _ _) h2
theorem rep5 : repO (canF [rpF, rA]) = [rpF] := by rw [can5]; rfl
theorem sus6 : susB (fileOf (canF [rA, apF]) 7) = true := by rw [can1]; rfl
theorem all7 : allO (canF [rA, rpF]) = [rA] := by rw [can6]; rfl
theorem sus8 : susB (fileOf (canF [apF]) 7) = false := by rw [can7]; rfl
end Go.Proofs.YtjjaabidbeoomaaGreatDoor
