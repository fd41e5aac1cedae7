import Derived.Test.YtnbanfpelgcmoaaCe
set_option linter.unusedSimpArgs false
set_option linter.unusedVariables false
namespace Go.Proofs.Ytnbanfpelgcmoaa
open Go.Xe Go.RowKit

@[simp] theorem slB_eq (l : List UInt8) : slB l = .sl 1 (bys l) l.length false := rfl

set_option maxRecDepth 10000 in
theorem f14_ok (v : V) (hd : v.dep ≤ 1000000) (hr : v.rng = true) (hl : v.enc.length ≤ 1000000000) : Fn0 Try.prog 14 [v.d] (.tup [.v (.int .i64 v.encB.length), .v (.int .i64 v.chk)]) := by
  refine Fun.of_wp (pn := noPn) Try.tab Try.func14 rfl fun β0 => ?_
  simp only [Try.f14]
  obtain ⟨k, n, s, l⟩ := v
  rw [V.d, V.cells]
  repeat (first | refine WP.seq ?_ | refine WP.block ?_ | (refine WP.region Try.tab ?_; simp -dsimp) | (refine WP.draw Try.tab Try.mixed ?_; simp -dsimp) | refine And.intro (by first | rfl | omega | decide | (simp; done) | (simp; omega) | (intros; simp_all; done)) ?_)
  refine vcStop.call0 Try.body12 (f12_ok (.mk k n s l) hd hr hl) rfl rfl (by simp [V.d, V.cells]) ?_
  simp -dsimp
  repeat (first | refine WP.seq ?_ | refine WP.block ?_ | (refine WP.region Try.tab ?_; simp -dsimp) | (refine WP.draw Try.tab Try.mixed ?_; simp -dsimp) | refine And.intro (by first | rfl | omega | decide | (simp; done) | (simp; omega) | (intros; simp_all; done)) ?_)
  refine WP.ret (finQ.ret ?_)
  simp -dsimp

set_option maxRecDepth 10000 in
set_option maxHeartbeats 4000000 in
theorem f27_N : ∀ (N : Nat) (v : V), v.sz ≤ N → v.rng = true → v.enc.length ≤ 1000000000 → Fn0 Try.prog 27 [v.d] (slB v.enc) := by
  intro N
  induction N with
  | zero => rintro ⟨k, n, s, l⟩ hN; rw [V.sz] at hN; omega
  | succ N ih =>
    rintro ⟨k, n, s, l⟩ hN hrg hlen
    refine Fun.of_wp (pn := noPn) Try.tab Try.func27 rfl fun β0 => ?_
    simp only [Try.f27]
    rw [V.d, V.cells]
    refine WP.len' (.tmp 0) 3 rfl fun hl => ?_
    have hm : maxLen = 9223372036854775807 := rfl
    rw [hm] at hl
    have hI := (V.rng_n hrg).1
    repeat (first | refine WP.seq ?_ | refine WP.block ?_ | (refine WP.region Try.tab ?_; simp -dsimp) | (refine WP.draw Try.tab Try.mixed ?_; simp -dsimp) | refine And.intro (by first | rfl | omega | decide | (simp; done) | (simp; omega) | (intros; simp_all; done)) ?_)
    refine WP.cond (b := decide (k = 1)) (by simp) (fun hb => ?_) (fun hb => ?_)
    · have hb := of_decide_eq_true hb
      subst hb
      repeat (first | refine WP.seq ?_ | refine WP.block ?_ | (refine WP.region Try.tab ?_; simp -dsimp) | (refine WP.draw Try.tab Try.mixed ?_; simp -dsimp) | refine And.intro (by first | rfl | omega | decide | (simp; done) | (simp; omega) | (intros; simp_all; done)) ?_)
      refine vcStop.call0 Try.body43 (f43_ok hI) rfl rfl (by simp) ?_
      simp -dsimp
      repeat refine And.intro (by first | rfl | omega | decide | (simp; done) | (simp; omega) | (intros; simp_all; done)) ?_
      refine vcStop.call0 Try.body42 (f42_ok _ (zig_lt hI)) rfl rfl (by simp) ?_
      have := digs_len10 (zig_lt hI)
      simp -dsimp
      repeat (first | refine WP.seq ?_ | refine WP.block ?_ | (refine WP.region Try.tab ?_; simp -dsimp) | (refine WP.draw Try.tab Try.mixed ?_; simp -dsimp) | refine And.intro (by first | rfl | omega | decide | (simp; done) | (simp; omega) | (intros; simp_all; done)) ?_)
      refine WP.ret (finQ.retW (Wk.freeze (k := 14) (T := 5) (sz := 1) (ds := bys (1 :: digs (zig n))) (by simp; rfl)) ?_)
      simp [V.enc, Nat.add_comm, Nat.add_left_comm]
    have hk1 : ¬ k = 1 := of_decide_eq_false hb
    repeat (first | refine WP.seq ?_ | refine WP.block ?_ | (refine WP.region Try.tab ?_; simp -dsimp) | (refine WP.draw Try.tab Try.mixed ?_; simp -dsimp) | refine And.intro (by first | rfl | omega | decide | (simp; done) | (simp; omega) | (intros; simp_all; done)) ?_)
    refine WP.cond (b := decide (k = 2)) (by simp) (fun hb => ?_) (fun hb => ?_)
    · have hb := of_decide_eq_true hb
      subst hb
      have hx : s.size ≤ 1000000000 := by simp [V.enc] at hlen; omega
      have e1 : IntKind.u64.wrap (s.size : Int) = (s.size : Nat) := IntWalk.u64_in _ (by omega)
      repeat (first | refine WP.seq ?_ | refine WP.block ?_ | (refine WP.region Try.tab ?_; simp -dsimp) | (refine WP.draw Try.tab Try.mixed ?_; simp -dsimp) | refine And.intro (by first | rfl | omega | decide | (simp; done) | (simp; omega) | (intros; simp_all; done)) ?_)
      rw [e1]
      refine vcStop.call0 Try.body42 (f42_ok s.size (by unfold isU; omega)) rfl rfl (by simp) ?_
      have := digs_len10 (u := s.size) (by unfold isU; omega)
      simp -dsimp
      repeat (first | refine WP.seq ?_ | refine WP.block ?_ | (refine WP.region Try.tab ?_; simp -dsimp) | (refine WP.draw Try.tab Try.mixed ?_; simp -dsimp) | refine And.intro (by first | rfl | omega | decide | (simp; done) | (simp; omega) | (intros; simp_all; done)) ?_)
      refine WP.ret (finQ.retW (Wk.freeze (k := 26) (T := 5) (sz := 1) (ds := bys (2 :: (digs s.size ++ s.data.toList))) (by simp; rfl)) ?_)
      simp [V.enc, Nat.add_comm, Nat.add_left_comm]
    have hk2 : ¬ k = 2 := of_decide_eq_false hb
    have he : (V.mk k n s l).enc = 3 :: (digs l.length ++ V.encL l) := by simp [V.enc, hk1, hk2]
    have e1 : IntKind.u64.wrap (l.length : Int) = (l.length : Nat) := IntWalk.u64_in _ (by omega)
    have hd := digs_len10 (u := l.length) (by unfold isU; omega)
    have hlen' : 1 + (digs l.length).length + (V.encL l).length ≤ 1000000000 := by
      rw [he] at hlen; simp at hlen; omega
    have hrgl := (V.rng_n hrg).2
    refine WP.skip ?_
    simp -dsimp
    repeat (first | refine WP.seq ?_ | refine WP.block ?_ | (refine WP.region Try.tab ?_; simp -dsimp) | (refine WP.draw Try.tab Try.mixed ?_; simp -dsimp) | refine And.intro (by first | rfl | omega | decide | (simp; done) | (simp; omega) | (intros; simp_all; done)) ?_)
    rw [e1]
    refine vcStop.call0 Try.body42 (f42_ok l.length (by unfold isU; omega)) rfl rfl (by simp) ?_
    simp -dsimp
    repeat (first | refine WP.seq ?_ | refine WP.block ?_ | (refine WP.region Try.tab ?_; simp -dsimp) | (refine WP.draw Try.tab Try.mixed ?_; simp -dsimp) | refine And.intro (by first | rfl | omega | decide | (simp; done) | (simp; omega) | (intros; simp_all; done)) ?_)
    refine WP.loopWk (fun m S => ∃ l1 l2, l = l1 ++ l2 ∧ m = l2.length ∧ S = mkS 50 [(1, .ptr 1 0), (3, .row 500), (4, .d (.v (.int .i64 l1.length)))] [(1, bV k n s l), (500, rowB (3 :: (digs l.length ++ V.encL l1)))]) l.length
      (S0 := mkS 50 [(1, .ptr 1 0), (3, .row 500), (4, .d (.v (.int .i64 0)))] [(1, bV k n s l), (500, rowB (3 :: (digs l.length ++ V.encL [])))]) (Wk.go [] 33 500 (by decide) (by simp) (by simp) (by simp [V.encL]; omega)) ⟨[], l, rfl, rfl, by simp⟩ ?_
    rintro _ _ ⟨l1, l2, hl12, rfl, rfl⟩
    simp -dsimp
    repeat (first | refine WP.seq ?_ | refine WP.block ?_ | (refine WP.region Try.tab ?_; simp -dsimp) | (refine WP.draw Try.tab Try.mixed ?_; simp -dsimp) | refine And.intro (by first | rfl | omega | decide | (simp; done) | (simp; omega) | (intros; simp_all; done)) ?_)
    cases l2 with
    | nil =>
      simp only [List.append_nil] at hl12
      subst hl12
      refine WP.cond (b := false) (by simp) (fun h => by cases h) (fun _ => ?_)
      refine WP.exit ?_
      simp -dsimp
      repeat (first | refine WP.seq ?_ | refine WP.block ?_ | (refine WP.region Try.tab ?_; simp -dsimp) | (refine WP.draw Try.tab Try.mixed ?_; simp -dsimp) | refine And.intro (by first | rfl | omega | decide | (simp; done) | (simp; omega) | (intros; simp_all; done)) ?_)
      refine WP.ret (finQ.retW (Wk.freeze (k := 500) (T := 5) (sz := 1) (ds := bys (3 :: (digs l.length ++ V.encL l))) (by simp; rfl)) ?_)
      simp [he]
    | cons v l2 =>
      have hll : l.length = l1.length + (l2.length + 1) := by rw [hl12]; simp
      refine WP.cond (b := true) (by simp; omega) (fun _ => ?_) (fun h => by cases h)
      refine WP.skip ?_
      simp -dsimp
      refine WP.seq (WP.block ?_)
      have hv := V.cells_at l1 v l2
      rw [← hl12] at hv
      have hrgv : v.rng = true := by rw [hl12, V.rngL_append, V.rngL] at hrgl; simp only [Bool.and_eq_true] at hrgl; exact hrgl.2.1
      have hlv : 1 + (digs l.length).length + (V.encL l1).length + v.enc.length ≤ 1000000000 := by
        have : (V.encL l).length = (V.encL l1).length + (v.enc.length + (V.encL l2).length) := by rw [hl12, V.encL_append, V.encL]; simp
        omega
      obtain ⟨k', n', s', lv⟩ := v
      rw [V.cells] at hv
      have e2 : IntKind.i64.wrap ((l1.length : Int) + 1) = (l1.length : Int) + 1 := IntWalk.i64_in _ (by omega)
      repeat (first | refine WP.seq ?_ | refine WP.block ?_ | (refine WP.region Try.tab ?_; simp -dsimp [hv]) | (refine WP.draw Try.tab Try.mixed ?_; simp -dsimp [hv]) | refine And.intro (by first | rfl | omega | decide | (simp; done) | (simp; omega) | (intros; simp_all; done)) ?_)
      refine vcStop.call0 Try.body27 (ih (.mk k' n' s' lv) (V.sz_lt (by rw [← hl12]; exact hN)) hrgv (by omega)) rfl rfl (by simp [V.d, V.cells]) ?_
      simp -dsimp
      repeat (first | refine WP.seq ?_ | refine WP.block ?_ | (refine WP.region Try.tab ?_; simp -dsimp) | (refine WP.draw Try.tab Try.mixed ?_; simp -dsimp) | refine And.intro (by first | rfl | omega | decide | (simp; done) | (simp; omega) | (intros; simp_all; done)) ?_)
      refine loopW.next (mkS 50 [(1, .ptr 1 0), (3, .row 500), (4, .d (.v (.int .i64 (l1 ++ [V.mk k' n' s' lv]).length)))] [(1, bV k n s l), (500, rowB (3 :: (digs l.length ++ V.encL (l1 ++ [.mk k' n' s' lv]))))])
        (Wk.go [] 48 500 (by decide) (by simp) (by simp [e2]) (by simp [V.encL_append, V.encL]; omega)) l2.length (by simp) ⟨l1 ++ [.mk k' n' s' lv], l2, by simp [hl12], rfl, rfl⟩
theorem f27_ok (v : V) (h1 : v.rng = true) (h2 : v.enc.length ≤ 1000000000) : Fn0 Try.prog 27 [v.d] (slB v.enc) := f27_N v.sz v (Nat.le_refl _) h1 h2

set_option maxRecDepth 10000 in
theorem f13_ok (v : V) (hd : v.dep ≤ 1000000) (hr : v.rng = true) (hl : v.enc.length ≤ 1000000000) : Fn0 Try.prog 13 [v.d] (.tup [slB v.encB, .v (.int .i64 v.chk)]) := by
  refine Fun.of_wp (pn := noPn) Try.tab Try.func13 rfl fun β0 => ?_
  simp only [Try.f13]
  obtain ⟨k, n, s, l⟩ := v
  rw [V.d, V.cells]
  repeat (first | refine WP.seq ?_ | refine WP.block ?_ | (refine WP.region Try.tab ?_; simp -dsimp) | (refine WP.draw Try.tab Try.mixed ?_; simp -dsimp) | refine And.intro (by first | rfl | omega | decide | (simp; done) | (simp; omega) | (intros; simp_all; done)) ?_)
  refine vcStop.call0 Try.body17 (f17_ok (.mk k n s l) hd) rfl rfl (by simp [V.d, V.cells]) ?_
  simp -dsimp
  repeat (first | refine WP.seq ?_ | refine WP.block ?_ | (refine WP.region Try.tab ?_; simp -dsimp) | (refine WP.draw Try.tab Try.mixed ?_; simp -dsimp) | refine And.intro (by first | rfl | omega | decide | (simp; done) | (simp; omega) | (intros; simp_all; done)) ?_)
  refine WP.cond (b := !decide (V.chk (.mk k n s l) = 0)) (by simp) (fun hb => ?_) (fun hb => ?_)
  · have hb : ¬ V.chk (.mk k n s l) = 0 := by simpa using hb
    repeat (first | refine WP.seq ?_ | refine WP.block ?_ | (refine WP.region Try.tab ?_; simp -dsimp) | (refine WP.draw Try.tab Try.mixed ?_; simp -dsimp) | refine And.intro (by first | rfl | omega | decide | (simp; done) | (simp; omega) | (intros; simp_all; done)) ?_)
    refine WP.ret (finQ.ret ?_)
    simp -dsimp [V.encB, hb]
  have hb : V.chk (.mk k n s l) = 0 := by simpa using hb
  refine WP.skip ?_
  simp -dsimp
  repeat (first | refine WP.seq ?_ | refine WP.block ?_ | (refine WP.region Try.tab ?_; simp -dsimp) | (refine WP.draw Try.tab Try.mixed ?_; simp -dsimp) | refine And.intro (by first | rfl | omega | decide | (simp; done) | (simp; omega) | (intros; simp_all; done)) ?_)
  refine vcStop.call0 Try.body27 (f27_ok (.mk k n s l) hr hl) rfl rfl (by simp [V.d, V.cells]) ?_
  simp -dsimp
  repeat (first | refine WP.seq ?_ | refine WP.block ?_ | (refine WP.region Try.tab ?_; simp -dsimp) | (refine WP.draw Try.tab Try.mixed ?_; simp -dsimp) | refine And.intro (by first | rfl | omega | decide | (simp; done) | (simp; omega) | (intros; simp_all; done)) ?_)
  refine WP.ret (finQ.ret ?_)
  simp -dsimp [V.encB, hb]

set_option maxRecDepth 10000 in
theorem f15_ok (v : V) (hd : v.dep ≤ 1000000) (hr : v.rng = true) (hl : v.enc.length ≤ 1000000000) : Fn0 Try.prog 15 [v.d] (.tup [.v (.int .i64 v.encB.length), .v (.int .i64 v.chk)]) := by
  refine Fun.of_wp (pn := noPn) Try.tab Try.func15 rfl fun β0 => ?_
  simp only [Try.f15]
  obtain ⟨k, n, s, l⟩ := v
  rw [V.d, V.cells]
  repeat (first | refine WP.seq ?_ | refine WP.block ?_ | (refine WP.region Try.tab ?_; simp -dsimp) | (refine WP.draw Try.tab Try.mixed ?_; simp -dsimp) | refine And.intro (by first | rfl | omega | decide | (simp; done) | (simp; omega) | (intros; simp_all; done)) ?_)
  refine vcStop.call0 Try.body13 (f13_ok (.mk k n s l) hd hr hl) rfl rfl (by simp [V.d, V.cells]) ?_
  simp -dsimp
  repeat (first | refine WP.seq ?_ | refine WP.block ?_ | (refine WP.region Try.tab ?_; simp -dsimp) | (refine WP.draw Try.tab Try.mixed ?_; simp -dsimp) | refine And.intro (by first | rfl | omega | decide | (simp; done) | (simp; omega) | (intros; simp_all; done)) ?_)
  refine WP.ret (finQ.ret ?_)
  simp -dsimp
end Go.Proofs.Ytnbanfpelgcmoaa
