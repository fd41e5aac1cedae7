import Derived.Test.YtnbanfpelgcmoaaCg
set_option linter.unusedSimpArgs false
set_option linter.unusedVariables false
namespace Go.Proofs.Ytnbanfpelgcmoaa
open Go.Xe Go.RowKit

mutual
/-- The parts of a value, counted as Few counts them. -/
def V.cnt : V → Int → Nat
  | .mk _ _ s l, d => if d < 0 ∨ 150 < l.length then 1000 else V.cntL l (d - 1) (1 + s.size / 200)
def V.cntL : List V → Int → Nat → Nat
  | [], _, acc => acc
  | v :: l, d, acc => if acc ≤ 1000 then V.cntL l d (acc + V.cnt v d) else acc
end
mutual
theorem V.cnt_le : ∀ (v : V) (d : Int), v.rng = true → -1 ≤ d → V.cnt v d ≤ 1000000000000 * (d + 2).toNat
  | .mk k n s l, d, hr, hd => by
    rw [V.cnt]
    split
    · have : 1 ≤ (d + 2).toNat := by omega
      have := Nat.mul_le_mul_left 1000000000000 this
      omega
    · rename_i h
      have hs := (V.rng_s hr).1
      have hl := V.cntL_le l (d - 1) (1 + s.size / 200) (V.rng_n hr).2 (by omega)
      have e : (d + 2).toNat = (d - 1 + 2).toNat + 1 := by omega
      rw [e, Nat.mul_add]
      omega
theorem V.cntL_le : ∀ (l : List V) (d : Int) (acc : Nat), V.rngL l = true → -1 ≤ d → V.cntL l d acc ≤ max acc (1000 + 1000000000000 * (d + 2).toNat)
  | [], d, acc, _, _ => by rw [V.cntL]; omega
  | v :: l, d, acc, hr, hd => by
    rw [V.rngL, Bool.and_eq_true] at hr
    rw [V.cntL]
    split
    · have h1 := V.cnt_le v d hr.1 hd
      have h2 := V.cntL_le l d (acc + V.cnt v d) hr.2 hd
      omega
    · omega
end

set_option maxRecDepth 10000 in
set_option maxHeartbeats 4000000 in
theorem f36_N : ∀ (N : Nat) (v : V) (d : Int), v.sz ≤ N → v.rng = true → -1 ≤ d → d ≤ 20 → Fn0 Try.prog 36 [v.d, .v (.int .i64 d)] (.v (.int .i64 (V.cnt v d))) := by
  intro N
  induction N with
  | zero => rintro ⟨k, n, s, l⟩ _ hN; rw [V.sz] at hN; omega
  | succ N ih =>
    rintro ⟨k, n, s, l⟩ d hN hr hd hd2
    have hs := (V.rng_s hr).1
    have hrl := (V.rng_n hr).2
    refine Fun.of_wp (pn := noPn) Try.tab Try.func36 rfl fun β0 => ?_
    simp only [Try.f36]
    rw [V.d, V.cells]
    refine WP.len' (.tmp 0) 3 rfl fun hl => ?_
    have hm : maxLen = 9223372036854775807 := rfl
    rw [hm] at hl
    have e1 : IntKind.i64.wrap ((s.size : Int) / 200) = (s.size : Int) / 200 := IntWalk.i64_in _ (by omega)
    have e2 : IntKind.i64.wrap (1 + (s.size : Int) / 200) = 1 + (s.size : Int) / 200 := IntWalk.i64_in _ (by omega)
    repeat (first | refine WP.seq ?_ | refine WP.block ?_ | (refine WP.region Try.tab ?_; simp -dsimp [e1, e2]) | (refine WP.draw Try.tab Try.mixed ?_; simp -dsimp [e1, e2]) | refine And.intro (by first | rfl | omega | decide | (simp; done) | (simp; omega) | (intros; simp_all; done)) ?_)
    refine WP.cond (b := decide (d < 0 ∨ 150 < l.length)) (by simp [show (150 < (l.length : Int)) ↔ 150 < l.length by omega]) (fun hb => ?_) (fun hb => ?_)
    · have hb := of_decide_eq_true hb
      repeat (first | refine WP.seq ?_ | refine WP.block ?_ | (refine WP.region Try.tab ?_; simp -dsimp) | (refine WP.draw Try.tab Try.mixed ?_; simp -dsimp) | refine And.intro (by first | rfl | omega | decide | (simp; done) | (simp; omega) | (intros; simp_all; done)) ?_)
      refine WP.ret (finQ.ret ?_)
      simp -dsimp [V.cnt, hb]
    have hb := of_decide_eq_false hb
    have hc : V.cnt (.mk k n s l) d = V.cntL l (d - 1) (1 + s.size / 200) := by rw [V.cnt, if_neg hb]
    rw [hc]
    have hbd := V.cntL_le l (d - 1) (1 + s.size / 200) hrl (by omega)
    refine WP.skip ?_
    simp -dsimp
    repeat (first | refine WP.seq ?_ | refine WP.block ?_ | (refine WP.region Try.tab ?_; simp -dsimp) | (refine WP.draw Try.tab Try.mixed ?_; simp -dsimp) | refine And.intro (by first | rfl | omega | decide | (simp; done) | (simp; omega) | (intros; simp_all; done)) ?_)
    have e3 : IntKind.i64.wrap (d - 1) = d - 1 := IntWalk.i64_in _ (by omega)
    refine WP.loopWk (fun m S => ∃ l1 l2 acc, l = l1 ++ l2 ∧ m = l2.length ∧ acc ≤ 100000000000000 ∧ V.cntL l (d - 1) (1 + s.size / 200) = V.cntL l2 (d - 1) acc ∧ S = mkS 42 [(1, .d (.v (.int .i64 d))), (2, .ptr 2 0), (5, .d (.v (.int .i64 (acc : Nat)))), (6, .d (.v (.int .i64 l1.length)))] [(2, bV k n s l)]) l.length
        (S0 := mkS 42 [(1, .d (.v (.int .i64 d))), (2, .ptr 2 0), (5, .d (.v (.int .i64 (1 + s.size / 200 : Nat)))), (6, .d (.v (.int .i64 0)))] [(2, bV k n s l)]) (Wk.lessE [] (by simp) (by simp)) ⟨[], l, 1 + s.size / 200, rfl, rfl, by omega, rfl, by simp⟩ ?_
    rintro _ _ ⟨l1, l2, acc, hl12, rfl, hacc, hcl, rfl⟩
    simp -dsimp
    repeat (first | refine WP.seq ?_ | refine WP.block ?_ | (refine WP.region Try.tab ?_; simp -dsimp) | (refine WP.draw Try.tab Try.mixed ?_; simp -dsimp) | refine And.intro (by first | rfl | omega | decide | (simp; done) | (simp; omega) | (intros; simp_all; done)) ?_)
    cases l2 with
    | nil =>
      simp only [List.append_nil] at hl12
      subst hl12
      refine WP.cond (b := false) (by simp) (fun h => by cases h) (fun _ => ?_)
      refine WP.exit ?_
      simp -dsimp
      repeat (first | refine WP.seq ?_ | refine WP.block ?_ | (refine WP.region Try.tab ?_; simp -dsimp) | (refine WP.draw Try.tab Try.mixed ?_; simp -dsimp) | refine And.intro (by first | rfl | omega | decide | (simp; done) | (simp; omega) | (intros; simp_all; done)) ?_)
      refine WP.ret (finQ.ret ?_)
      simp -dsimp [hcl, V.cntL]
    | cons v l2 =>
      have hll : l.length = l1.length + (l2.length + 1) := by rw [hl12]; simp
      refine WP.cond (b := decide (acc ≤ 1000)) (by simp [show l1.length < l.length by omega, show ((acc : Int) ≤ 1000) ↔ acc ≤ 1000 by omega]) (fun hb => ?_) (fun hb => ?_)
      · have hb := of_decide_eq_true hb
        refine WP.skip ?_
        simp -dsimp
        refine WP.seq (WP.block ?_)
        have hv := V.cells_at l1 v l2
        rw [← hl12] at hv
        have hrv : v.rng = true := by rw [hl12, V.rngL_append, V.rngL] at hrl; simp only [Bool.and_eq_true] at hrl; exact hrl.2.1
        have hcv := ih v (d - 1) (V.sz_mem (by rw [hl12]; simp) hN) hrv (by omega) (by omega)
        have hle := V.cnt_le v (d - 1) hrv (by omega)
        obtain ⟨k1, n1, s1, lv⟩ := v
        rw [V.cells] at hv
        have e4 : IntKind.i64.wrap ((l1.length : Int) + 1) = (l1.length : Int) + 1 := IntWalk.i64_in _ (by omega)
        have e5 : IntKind.i64.wrap ((acc : Int) + (V.cnt (.mk k1 n1 s1 lv) (d - 1) : Nat)) = (acc : Int) + (V.cnt (.mk k1 n1 s1 lv) (d - 1) : Nat) := IntWalk.i64_in _ (by omega)
        repeat (first | refine WP.seq ?_ | refine WP.block ?_ | (refine WP.region Try.tab ?_; simp -dsimp [hv]) | (refine WP.draw Try.tab Try.mixed ?_; simp -dsimp [hv]) | refine And.intro (by first | rfl | omega | decide | (simp; done) | (simp; omega) | (intros; simp_all; done)) ?_)
        rw [e3]
        refine vcStop.call0 Try.body36 hcv rfl rfl (by simp [V.d, V.cells]) ?_
        simp -dsimp
        repeat (first | refine WP.seq ?_ | refine WP.block ?_ | (refine WP.region Try.tab ?_; simp -dsimp) | (refine WP.draw Try.tab Try.mixed ?_; simp -dsimp) | refine And.intro (by first | rfl | omega | decide | (simp; done) | (simp; omega) | (intros; simp_all; done)) ?_)
        refine loopW.next (mkS 42 [(1, .d (.v (.int .i64 d))), (2, .ptr 2 0), (5, .d (.v (.int .i64 (acc + V.cnt (.mk k1 n1 s1 lv) (d - 1) : Nat)))), (6, .d (.v (.int .i64 (l1 ++ [V.mk k1 n1 s1 lv]).length)))] [(2, bV k n s l)])
          (Wk.lessE [] (by simp [e4, e5]) (by simp)) l2.length (by simp) ⟨l1 ++ [.mk k1 n1 s1 lv], l2, _, by simp [hl12], rfl, by omega, by rw [hcl, V.cntL, if_pos hb], rfl⟩
      · have hb := of_decide_eq_false hb
        refine WP.exit ?_
        simp -dsimp
        repeat (first | refine WP.seq ?_ | refine WP.block ?_ | (refine WP.region Try.tab ?_; simp -dsimp) | (refine WP.draw Try.tab Try.mixed ?_; simp -dsimp) | refine And.intro (by first | rfl | omega | decide | (simp; done) | (simp; omega) | (intros; simp_all; done)) ?_)
        refine WP.ret (finQ.ret ?_)
        simp -dsimp [hcl, V.cntL, hb]

/-- Few parts, down to depth 20. -/
def V.few (v : V) : Bool := decide (V.cnt v 20 ≤ 200)

set_option maxRecDepth 10000 in
theorem f25_ok (v : V) (hr : v.rng = true) : Fn0 Try.prog 25 [v.d, .v (.int .i64 20)] (.v (.bool v.few)) := by
  have h36 := f36_N v.sz v 20 (Nat.le_refl _) hr (by omega) (by omega)
  refine Fun.of_wp (pn := noPn) Try.tab Try.func25 rfl fun β0 => ?_
  simp only [Try.f25]
  obtain ⟨k, n, s, l⟩ := v
  rw [V.d, V.cells]
  repeat (first | refine WP.seq ?_ | refine WP.block ?_ | (refine WP.region Try.tab ?_; simp -dsimp) | (refine WP.draw Try.tab Try.mixed ?_; simp -dsimp) | refine And.intro (by first | rfl | omega | decide | (simp; done) | (simp; omega) | (intros; simp_all; done)) ?_)
  refine vcStop.call0 Try.body36 h36 rfl rfl (by simp [V.d, V.cells]) ?_
  simp -dsimp
  repeat (first | refine WP.seq ?_ | refine WP.block ?_ | (refine WP.region Try.tab ?_; simp -dsimp) | (refine WP.draw Try.tab Try.mixed ?_; simp -dsimp) | refine And.intro (by first | rfl | omega | decide | (simp; done) | (simp; omega) | (intros; simp_all; done)) ?_)
  refine WP.ret (finQ.ret ?_)
  simp -dsimp [V.few, show ((V.cnt (.mk k n s l) 20 : Nat) : Int) ≤ 200 ↔ V.cnt (.mk k n s l) 20 ≤ 200 by omega]

set_option maxRecDepth 10000 in
set_option maxHeartbeats 4000000 in
theorem f11_ok (l : List V) (hr : V.rngL l = true) : Fn0 Try.prog 11 [slV l] (.v (.bool (l.all V.few))) := by
  refine Fun.of_wp (pn := noPn) Try.tab Try.func11 rfl fun β0 => ?_
  simp only [Try.f11]
  refine WP.len (.tmp 0) rfl fun hl => ?_
  have hm : maxLen = 9223372036854775807 := rfl
  rw [hm] at hl
  repeat (first | refine WP.seq ?_ | refine WP.block ?_ | (refine WP.region Try.tab ?_; simp -dsimp) | (refine WP.draw Try.tab Try.mixed ?_; simp -dsimp) | refine And.intro (by first | rfl | omega | decide | (simp; done) | (simp; omega) | (intros; simp_all; done)) ?_)
  refine WP.loopWk (fun m S => ∃ l1 l2, l = l1 ++ l2 ∧ m = l2.length ∧ l1.all V.few = true ∧ S = mkS 15 [(5, .d (slV l)), (6, .d (.v (.int .i64 l.length))), (7, .d (.v (.int .i64 l1.length)))] []) l.length
      (S0 := mkS 15 [(5, .d (slV l)), (6, .d (.v (.int .i64 l.length))), (7, .d (.v (.int .i64 0)))] []) (Wk.lessE [] (by simp) (by simp)) ⟨[], l, rfl, rfl, rfl, by simp⟩ ?_
  rintro _ _ ⟨l1, l2, hl12, rfl, h1, rfl⟩
  simp -dsimp
  repeat (first | refine WP.seq ?_ | refine WP.block ?_ | (refine WP.region Try.tab ?_; simp -dsimp) | (refine WP.draw Try.tab Try.mixed ?_; simp -dsimp) | refine And.intro (by first | rfl | omega | decide | (simp; done) | (simp; omega) | (intros; simp_all; done)) ?_)
  cases l2 with
  | nil =>
    simp only [List.append_nil] at hl12
    subst hl12
    refine WP.cond (b := false) (by simp) (fun h => by cases h) (fun _ => ?_)
    refine WP.exit ?_
    simp -dsimp
    repeat (first | refine WP.seq ?_ | refine WP.block ?_ | (refine WP.region Try.tab ?_; simp -dsimp) | (refine WP.draw Try.tab Try.mixed ?_; simp -dsimp) | refine And.intro (by first | rfl | omega | decide | (simp; done) | (simp; omega) | (intros; simp_all; done)) ?_)
    refine WP.ret (finQ.ret ?_)
    simp -dsimp only [h1]
    simp
  | cons v l2 =>
    have hll : l.length = l1.length + (l2.length + 1) := by rw [hl12]; simp
    refine WP.cond (b := true) (by simp; omega) (fun _ => ?_) (fun h => by cases h)
    refine WP.skip ?_
    simp -dsimp
    refine WP.seq (WP.block ?_)
    have hv := V.cells_at l1 v l2
    rw [← hl12] at hv
    have hrv : v.rng = true := by rw [hl12, V.rngL_append, V.rngL] at hr; simp only [Bool.and_eq_true] at hr; exact hr.2.1
    have h25 := f25_ok v hrv
    obtain ⟨k1, n1, s1, lv⟩ := v
    rw [V.cells] at hv
    have e4 : IntKind.i64.wrap ((l1.length : Int) + 1) = (l1.length : Int) + 1 := IntWalk.i64_in _ (by omega)
    repeat (first | refine WP.seq ?_ | refine WP.block ?_ | (refine WP.region Try.tab ?_; simp -dsimp [hv]) | (refine WP.draw Try.tab Try.mixed ?_; simp -dsimp [hv]) | refine And.intro (by first | rfl | omega | decide | (simp; done) | (simp; omega) | (intros; simp_all; done)) ?_)
    refine vcStop.call0 Try.body25 h25 rfl rfl (by simp [V.d, V.cells]) ?_
    simp -dsimp
    repeat (first | refine WP.seq ?_ | refine WP.block ?_ | (refine WP.region Try.tab ?_; simp -dsimp) | (refine WP.draw Try.tab Try.mixed ?_; simp -dsimp) | refine And.intro (by first | rfl | omega | decide | (simp; done) | (simp; omega) | (intros; simp_all; done)) ?_)
    refine WP.cond (b := !(V.few (.mk k1 n1 s1 lv))) (by simp) (fun hb => ?_) (fun hb => ?_)
    · simp only [Bool.not_eq_true'] at hb
      have : l.all V.few = false := by rw [hl12]; simp [hb]
      repeat (first | refine WP.seq ?_ | refine WP.block ?_ | (refine WP.region Try.tab ?_; simp -dsimp) | (refine WP.draw Try.tab Try.mixed ?_; simp -dsimp) | refine And.intro (by first | rfl | omega | decide | (simp; done) | (simp; omega) | (intros; simp_all; done)) ?_)
      refine WP.ret (finQ.ret ?_)
      rw [this]
      simp
    · simp only [Bool.not_eq_false'] at hb
      refine WP.skip ?_
      simp -dsimp
      repeat (first | refine WP.seq ?_ | refine WP.block ?_ | (refine WP.region Try.tab ?_; simp -dsimp) | (refine WP.draw Try.tab Try.mixed ?_; simp -dsimp) | refine And.intro (by first | rfl | omega | decide | (simp; done) | (simp; omega) | (intros; simp_all; done)) ?_)
      refine loopW.next (mkS 15 [(5, .d (slV l)), (6, .d (.v (.int .i64 l.length))), (7, .d (.v (.int .i64 (l1 ++ [V.mk k1 n1 s1 lv]).length)))] [])
        (Wk.lessE [] (by simp [e4]) (by simp)) l2.length (by simp) ⟨l1 ++ [.mk k1 n1 s1 lv], l2, by simp [hl12], rfl, by rw [List.all_append, h1]; simp [hb], rfl⟩
end Go.Proofs.Ytnbanfpelgcmoaa
