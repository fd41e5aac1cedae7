/-
  Joined texts.
-/
import Derived.Test.YtjjaabidbeoomaaGreatDoorKQf
set_option linter.unusedVariables false
set_option linter.unusedSimpArgs false
set_option linter.unusedSectionVars false
/-
  Rulings: whether a file is suspended, and its ruling in force.
-/
set_option linter.unusedSimpArgs false
set_option linter.unusedVariables false
namespace Go.Proofs.YtjjaabidbeoomaaGreatDoor
open Go.Xe Go.RowKit

theorem fsC0 : fsC [] = [] := rfl
theorem wr1 : IntKind.i64.wrap 1 = 1 := by decide
theorem wr0 : IntKind.i64.wrap 0 = 0 := by decide
theorem fsC_hd (f : F) (r : List F) : (fsC (f :: r)).take 57 = fcs f 0 57 := by
  rw [show fsC (f :: r) = fcs f 0 57 ++ fsC r from rfl, List.take_append_of_le_length (by simp)]
  simp
theorem fsC_hdA (f : F) (r : List F) : ((fsC (f :: r)).map AV.d).take 57 = (fcs f 0 57).map .d := by rw [← List.map_take, fsC_hd]
theorem fsC_min (f : F) (r : List F) : min 57 (fsC (f :: r)).length = 57 := by rw [fsC_len, List.length_cons]; omega
/-- A ruling's cells. -/
def ruD (f : F) : D := .agg (fcs f 47 6)
abbrev z6 : List D := [.v (.int .i64 0), .v (.int .i64 0), .v (.int .i64 0), .v (.int .i64 0), .v (.int .i64 0), .v (.int .i64 0)]
def ru0 : D := .agg z6
abbrev flD (n : Int) (r1 r2 rp : List F) (ap : Bool) : D := .ip [.v (.int .i64 n), nilD, .sl 57 (fsC r1) r1.length false, .sl 57 (fsC r2) r2.length false, .sl 4 (repC rp) rp.length false, .v (.bool ap)]
theorem susp_g (n : Int) (r1 r2 rp : List F) (ap : Bool) : Fn0 Tryz.prog 26 [flD n r1 r2 rp ap] (.v (.bool (ap && (decide (0 < r1.length) && decide (r2.length = 0))))) := by
  refine Fun.of_wp (pn := noPn) Tryz.tab Tryz.func26 rfl fun β0 => ?_
  simp only [Tryz.f26]
  repeat (first | refine wS ?_ | refine wB ?_ | ((first | refine wR ?_ | refine wD ?_); simp -dsimp) | refine aI ?_)
  refine WP.ret (finQ.retE ?_)
  simp -dsimp [Bool.and_assoc, List.length_pos_iff]
theorem susp_ok (c : List F) (n : Int) : Fn0 Tryz.prog 26 [fpD c n] (.v (.bool (susB (fileOf c n)))) := susp_g n _ _ _ _
def forceD (o : Option F) : D := match o with
  | some f => .tup [ruD f, .v (.bool true)]
  | none => .tup [ru0, .v (.bool false)]
set_option maxRecDepth 10000 in
set_option maxHeartbeats 4000000 in
theorem force_g (n : Int) (r1 r2 rp : List F) (ap : Bool) (h1 : r1.length ≤ 100) (h2 : r2.length ≤ 100) : Fn0 Tryz.prog 21 [flD n r1 r2 rp ap] (forceD (if (ap && (decide (0 < r1.length) && decide (r2.length = 0))) = true then none else match r2.head? with
    | some f => some f
    | none => r1.head?)) := by
  have hs := susp_g n r1 r2 rp ap
  generalize hbb : (ap && (decide (0 < r1.length) && decide (r2.length = 0))) = bb at hs
  refine Fun.of_wp (pn := noPn) Tryz.tab Tryz.func21 rfl fun β0 => ?_
  simp only [Tryz.f21]
  repeat (first | refine wS ?_ | refine wB ?_ | ((first | refine wR ?_ | refine wD ?_); simp -dsimp) | refine aI ?_)
  refine vcStop.call0 Tryz.body26 hs rfl rfl (by simp) ?_
  simp -dsimp
  repeat (first | refine wS ?_ | refine wB ?_ | ((first | refine wR ?_ | refine wD ?_); simp -dsimp) | refine aI ?_)
  refine WP.cond (b := bb) (by simp) (fun hb => ?_) (fun hb => ?_)
  · rw [if_pos hb, forceD]
    repeat (first | refine wS ?_ | refine wB ?_ | ((first | refine wR ?_ | refine wD ?_); simp -dsimp) | refine aI ?_)
    refine WP.ret (finQ.retE ?_)
    simp -dsimp [ru0]
  · rw [if_neg (by simp [hb])]
    refine WP.skip ?_
    simp -dsimp
    repeat (first | refine wS ?_ | refine wB ?_ | ((first | refine wR ?_ | refine wD ?_); simp -dsimp) | refine aI ?_)
    refine WP.loopWk (fun m S => (m = 2 ∨ (m = 1 ∧ r2 = []) ∨ (m = 0 ∧ r2 = [] ∧ r1 = [])) ∧ S = mkS 27 [(0, .d (flD n r1 r2 rp ap)), (2, .ptr 2 0), (4, .d (.v (.int .i64 (m : Nat))))] [(2, .cells 25 (z6.map .d))]) 2
      (S0 := mkS 27 [(0, .d (flD n r1 r2 rp ap)), (2, .ptr 2 0), (4, .d (.v (.int .i64 2)))] [(2, .cells 25 (z6.map .d))]) (Wk.lessE [] (by simp) (by simp [z6])) ⟨.inl rfl, rfl⟩ ?_
    rintro m _ ⟨hm, rfl⟩
    rw [flD]
    simp -dsimp
    repeat (first | refine wS ?_ | refine wB ?_ | ((first | refine wR ?_ | refine wD ?_); simp -dsimp) | refine aI ?_)
    refine WP.cond (b := decide (0 < m)) (by simp) (fun hp => ?_) (fun hp => ?_)
    · refine WP.skip ?_
      simp -dsimp
      rcases hm with rfl | ⟨rfl, hr⟩ | ⟨rfl, _, _⟩
      · cases r2 with
        | cons f r =>
          have hr2 : r.length + 1 ≤ 100 := h2
          repeat (first | refine wS ?_ | refine wB ?_ | ((first | refine wR ?_ | refine wD ?_); simp -dsimp) | refine aI ?_)
          refine WP.cond (b := true) (by simp) (fun _ => ?_) (fun h => by cases h)
          repeat (first | refine wS ?_ | refine wB ?_ | ((first | refine wR ?_ | refine wD ?_); simp -dsimp [fsC_hd, fsC_hdA, fsC_min]) | refine aI ?_)
          refine WP.ret (finQ.retE ?_)
          simp -dsimp [forceD, ruD]
        | nil =>
          repeat (first | refine wS ?_ | refine wB ?_ | ((first | refine wR ?_ | refine wD ?_); simp -dsimp) | refine aI ?_)
          refine WP.cond (b := false) (by simp) (fun h => by cases h) (fun _ => ?_)
          refine WP.skip ?_
          simp -dsimp
          repeat (first | refine wS ?_ | refine wB ?_ | ((first | refine wR ?_ | refine wD ?_); simp -dsimp) | refine aI ?_)
          refine loopW.next (mkS 27 [(0, .d (flD n r1 [] rp ap)), (2, .ptr 2 0), (4, .d (.v (.int .i64 1)))] [(2, .cells 25 (z6.map .d))]) (Wk.lessE [] (by simp [flD, fsC0, wr1, wr0]) (by simp)) 1 (by simp) ⟨.inr (.inl ⟨rfl, rfl⟩), rfl⟩
      · subst hr
        cases r1 with
        | cons f r =>
          have hr1 : r.length + 1 ≤ 100 := h1
          repeat (first | refine wS ?_ | refine wB ?_ | ((first | refine wR ?_ | refine wD ?_); simp -dsimp) | refine aI ?_)
          refine WP.cond (b := true) (by simp) (fun _ => ?_) (fun h => by cases h)
          repeat (first | refine wS ?_ | refine wB ?_ | ((first | refine wR ?_ | refine wD ?_); simp -dsimp [fsC_hd, fsC_hdA, fsC_min]) | refine aI ?_)
          refine WP.ret (finQ.retE ?_)
          simp -dsimp [forceD, ruD]
        | nil =>
          repeat (first | refine wS ?_ | refine wB ?_ | ((first | refine wR ?_ | refine wD ?_); simp -dsimp) | refine aI ?_)
          refine WP.cond (b := false) (by simp) (fun h => by cases h) (fun _ => ?_)
          refine WP.skip ?_
          simp -dsimp
          repeat (first | refine wS ?_ | refine wB ?_ | ((first | refine wR ?_ | refine wD ?_); simp -dsimp) | refine aI ?_)
          refine loopW.next (mkS 27 [(0, .d (flD n [] [] rp ap)), (2, .ptr 2 0), (4, .d (.v (.int .i64 0)))] [(2, .cells 25 (z6.map .d))]) (Wk.lessE [] (by simp [flD, fsC0, wr1, wr0]) (by simp)) 0 (by simp) ⟨.inr (.inr ⟨rfl, rfl, rfl⟩), rfl⟩
      · cases hp
    · have hp := of_decide_eq_false hp
      obtain ⟨rfl, rfl, rfl⟩ : m = 0 ∧ r2 = [] ∧ r1 = [] := by
        rcases hm with h | ⟨h, _⟩ | h
        · omega
        · omega
        · exact h
      refine WP.exit ?_
      simp -dsimp
      repeat (first | refine wS ?_ | refine wB ?_ | ((first | refine wR ?_ | refine wD ?_); simp -dsimp) | refine aI ?_)
      refine WP.ret (finQ.retE ?_)
      simp -dsimp [forceD, ru0]
theorem force_ok (c : List F) (n : Int) (hl : c.length ≤ 100) : Fn0 Tryz.prog 21 [fpD c n] (forceD (forceO (fileOf c n))) :=
  force_g n _ _ (c.filter (isRep n)) (c.any (isApp n)) (Nat.le_trans (List.length_filter_le _ _) hl) (Nat.le_trans (List.length_filter_le _ _) hl)
end Go.Proofs.YtjjaabidbeoomaaGreatDoor

/-
  Rulings: a case's file.
-/
set_option linter.unusedSimpArgs false
set_option linter.unusedVariables false
namespace Go.Proofs.YtjjaabidbeoomaaGreatDoor
open Go.Xe Go.RowKit

/-- Where a number stands. -/
def idxN (n : Int) : List Int → Nat → Int
  | [], _ => -1
  | m :: l, k => if m = n then k else idxN n l (k + 1)
theorem isN_ok (c : List F) (n m : Int) : Fun Tryz.prog 32 [.d (fpD c n), .ptr 1000 0] [(1000, .cells 3 [.d (.v (.int .i64 m))])] (.d (.v (.bool (decide (n = m))))) [(1000, .cells 3 [.d (.v (.int .i64 m))])] fun _ => False := by
  refine Fun.of_wp (pn := noPn) Tryz.tab Tryz.func32 rfl fun β0 => ?_
  simp only [Tryz.f32]
  simp only [fpD, fileC]
  repeat (first | refine wS ?_ | refine wB ?_ | ((first | refine wR ?_ | refine wD ?_); simp -dsimp) | refine aI ?_)
  refine WP.ret (finQ.retE ?_)
  simp -dsimp
theorem idxN_some (c : List F) (n : Int) : ∀ (l : List Int) (k : Nat), n ∈ l → ∃ l1 l2, l = l1 ++ n :: l2 ∧ idxN n l k = k + l1.length
  | [], _, h => by cases h
  | m :: l, k, h => by
    by_cases e : m = n
    · subst e; exact ⟨[], l, rfl, by simp [idxN]⟩
    · rcases List.mem_cons.1 h with h | h
      · exact absurd h.symm e
      · obtain ⟨l1, l2, rfl, h2⟩ := idxN_some c n l (k + 1) h
        exact ⟨m :: l1, l2, rfl, by rw [idxN, if_neg e, h2]; simp; omega⟩
theorem idxN_none (n : Int) : ∀ (l : List Int) (k : Nat), n ∉ l → idxN n l k = -1
  | [], _, _ => rfl
  | m :: l, k, h => by rw [idxN, if_neg (fun e => h (by simp [e])), idxN_none n l (k + 1) (fun h' => h (by simp [h']))]
set_option maxRecDepth 10000 in
theorem indexP_ok (c : List F) (ns : List Int) (n : Int) (hl : ns.length ≤ 1000) : Fun Tryz.prog 31 [.d (.sl 1 (fpL c ns) ns.length false), .fn (.func 32) [] [.ptr 1000 0]] [(1000, .cells 3 [.d (.v (.int .i64 n))])] (.d (.v (.int .i64 (idxN n ns 0)))) [(1000, .cells 3 [.d (.v (.int .i64 n))])] fun _ => False := by
  refine Fun.of_wp (pn := noPn) Tryz.tab Tryz.func31 rfl fun β0 => ?_
  simp only [Tryz.f31]
  repeat (first | refine wS ?_ | refine wB ?_ | ((first | refine wR ?_ | refine wD ?_); simp -dsimp) | refine aI ?_)
  refine WP.loopWk (fun m S => ∃ l1 l2, ns = l1 ++ l2 ∧ m = l2.length ∧ idxN n ns 0 = idxN n l2 l1.length ∧ S = mkS 19 [(0, .d (.sl 1 (fpL c ns) ns.length false)), (1, .fn (.func 32) [] [.ptr 1000 0]), (6, .d (.sl 1 (fpL c ns) ns.length false)), (7, .d (.v (.int .i64 ns.length))), (8, .d (.v (.int .i64 l1.length)))] [(1000, .cells 3 [.d (.v (.int .i64 n))])]) ns.length
    (S0 := mkS 19 [(0, .d (.sl 1 (fpL c ns) ns.length false)), (1, .fn (.func 32) [] [.ptr 1000 0]), (6, .d (.sl 1 (fpL c ns) ns.length false)), (7, .d (.v (.int .i64 ns.length))), (8, .d (.v (.int .i64 0)))] [(1000, .cells 3 [.d (.v (.int .i64 n))])]) (Wk.lessE [] (by simp) (by simp)) ⟨[], ns, rfl, rfl, rfl, rfl⟩ ?_
  rintro _ _ ⟨l1, l2, hl12, rfl, hi, rfl⟩
  simp -dsimp
  repeat (first | refine wS ?_ | refine wB ?_ | ((first | refine wR ?_ | refine wD ?_); simp -dsimp) | refine aI ?_)
  cases l2 with
  | nil =>
    simp only [List.append_nil] at hl12
    subst hl12
    refine WP.cond (b := false) (by simp) (fun h => by cases h) (fun _ => ?_)
    refine WP.exit ?_
    simp -dsimp
    repeat (first | refine wS ?_ | refine wB ?_ | ((first | refine wR ?_ | refine wD ?_); simp -dsimp) | refine aI ?_)
    refine WP.ret (finQ.retE ?_)
    simp -dsimp [hi, idxN]
  | cons x l2 =>
    have hll : ns.length = l1.length + (l2.length + 1) := by rw [hl12]; simp
    have e1 : IntKind.i64.wrap ((l1.length : Int) + 1) = (l1.length : Int) + 1 := IntWalk.i64_in _ (by omega)
    have hil : l1.length < ns.length := by omega
    have h1 := fpL_at c hil
    have h2 := fpL_atA c hil
    have h3 := fpL_atL c hil
    have hx : ns[l1.length] = x := by rw [List.getElem_of_eq hl12]; simp
    rw [hx] at h1 h2 h3
    refine WP.cond (b := true) (by simp; omega) (fun _ => ?_) (fun h => by cases h)
    refine WP.skip ?_
    simp -dsimp
    refine WP.seq (WP.block ?_)
    repeat (first | refine wS ?_ | refine wB ?_ | ((first | refine wR ?_ | refine wD ?_); simp -dsimp [h1, h2, h3]) | refine aI ?_)
    refine vcStop.call Tryz.body32 (isN_ok c x n) (rl [(1000, 1000)]) rfl rfl (by simp [BoxLeq]) (CallOk.of (by simp [BoxLeq]) rfl (by first | rfl | (simp [BoxLeq]; done)) (by simp [BoxLeq]) (by simp [BoxLeq])) (fun _ h => h.elim) (fun ⟨_, h⟩ => h.elim) (fun ⟨_, h⟩ => h.elim) (by simp [BoxLeq]) ?_
    simp -dsimp
    repeat (first | refine wS ?_ | refine wB ?_ | ((first | refine wR ?_ | refine wD ?_); simp -dsimp) | refine aI ?_)
    refine WP.cond (b := decide (x = n)) (by simp) (fun hb => ?_) (fun hb => ?_)
    · have hb := of_decide_eq_true hb
      repeat (first | refine wS ?_ | refine wB ?_ | ((first | refine wR ?_ | refine wD ?_); simp -dsimp) | refine aI ?_)
      refine WP.ret (finQ.retE ?_)
      simp -dsimp [hi, idxN, hb]
    · have hb := of_decide_eq_false hb
      refine WP.skip ?_
      simp -dsimp
      repeat (first | refine wS ?_ | refine wB ?_ | ((first | refine wR ?_ | refine wD ?_); simp -dsimp) | refine aI ?_)
      refine loopW.next (mkS 19 [(0, .d (.sl 1 (fpL c ns) ns.length false)), (1, .fn (.func 32) [] [.ptr 1000 0]), (6, .d (.sl 1 (fpL c ns) ns.length false)), (7, .d (.v (.int .i64 ns.length))), (8, .d (.v (.int .i64 (l1 ++ [x]).length)))] [(1000, .cells 3 [.d (.v (.int .i64 n))])]) (Wk.lessE [] (by simp [e1]) (by simp)) l2.length (by simp) ⟨l1 ++ [x], l2, by simp [hl12], rfl, by rw [hi, idxN, if_neg hb]; simp, rfl⟩
end Go.Proofs.YtjjaabidbeoomaaGreatDoor
