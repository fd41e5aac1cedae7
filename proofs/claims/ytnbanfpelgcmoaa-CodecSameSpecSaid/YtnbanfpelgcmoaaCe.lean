import Derived.Test.YtnbanfpelgcmoaaCd
set_option linter.unusedSimpArgs false
set_option linter.unusedVariables false
namespace Go.Proofs.Ytnbanfpelgcmoaa
open Go.Xe Go.RowKit

/-- The writer: its boxes. -/
@[simp] def wb (c : Nat) : Box := .cells 66 [.d (.v .nilFunc), .d (.v (.func (.func 37) #[] #[])), .d (.v (.func (.func 40) #[] #[])), .fn (.func 41) [] [.ptr c 0]]
@[simp] def wc (b : Nat) : Box := .cells 50 [.ptr b 0]

set_option maxRecDepth 10000 in
theorem f26_ok : Fun Try.prog 26 [] [] (.ptr 0 0) [(0, wb 1), (1, wc 0)] fun _ => False := by
  refine Fun.of_wp (pn := noPn) Try.tab Try.func26 rfl fun β0 => ?_
  simp only [Try.f26]
  repeat (first | refine WP.seq ?_ | refine WP.block ?_ | (refine WP.region Try.tab ?_; simp -dsimp) | (refine WP.draw Try.tab Try.mixed ?_; simp -dsimp) | refine And.intro (by first | rfl | omega | decide | (simp; done) | (simp; omega) | (intros; simp_all; done)) ?_)
  refine WP.ret (finQ.retW (S' := mkS 18 [(0, .ptr 0 0)] [(0, wb 1), (1, wc 0)]) (Wk.go [] 3 0 (by decide) (by simp) (by simp) (by simp [wb, wc])) ?_)
  simp

theorem V.ok_kind {k n : Int} {s : ByteArray} {l : List V} (h : V.ok (.mk k n s l) = true) : k = 1 ∨ k = 2 ∨ (k = 3 ∧ V.okL l = true) := by
  rw [V.ok] at h
  split at h
  · exact .inl ‹_›
  · split at h
    · exact .inr (.inl ‹_›)
    · split at h
      · simp only [Bool.and_eq_true] at h; exact .inr (.inr ⟨‹_›, h.2⟩)
      · cases h
theorem V.rng_s {k n : Int} {s : ByteArray} {l : List V} (h : V.rng (.mk k n s l) = true) : s.size ≤ 140737488355328 ∧ isI k := by
  rw [V.rng] at h
  simp only [Bool.and_eq_true, decide_eq_true_eq] at h
  exact ⟨h.1.1.2, h.1.1.1⟩
theorem V.rng_n {k n : Int} {s : ByteArray} {l : List V} (h : V.rng (.mk k n s l) = true) : isI n ∧ V.rngL l = true := by
  rw [V.rng] at h
  simp only [Bool.and_eq_true, decide_eq_true_eq] at h
  exact ⟨h.1.2, h.2⟩

set_option maxRecDepth 10000 in
set_option maxHeartbeats 4000000 in
theorem f41_N : ∀ (N : Nat) (n : Int) (s : ByteArray) (l : List V) (bs : List UInt8), (V.mk 3 n s l).sz ≤ N → V.okL l = true → V.rngL l = true → bs.length + (V.enc (.mk 3 n s l)).length ≤ 1000000000 →
    Fun Try.prog 41 [.row 1000, .d (V.mk 3 n s l).d, .ptr 1001 0] [(1000, rowB bs), (1001, wc 1002), (1002, wb 1001)] (.row 0) [(0, rowB (bs ++ V.enc (.mk 3 n s l))), (1001, wc 1002), (1002, wb 1001)] fun _ => False := by
  intro N
  induction N with
  | zero => intro n s l bs hN; rw [V.sz] at hN; omega
  | succ N ih =>
    intro n s l bs hN hok hrg hlen
    refine Fun.of_wp (pn := noPn) Try.tab Try.func41 rfl fun β0 => ?_
    simp only [Try.f41]
    rw [V.d, V.cells]
    simp -dsimp [rowB, wb, wc]
    refine WP.len' (.tmp 1) 3 rfl fun hl => ?_
    have hm : maxLen = 9223372036854775807 := rfl
    rw [hm] at hl
    have e1 : IntKind.u64.wrap (l.length : Int) = (l.length : Nat) := IntWalk.u64_in _ (by omega)
    have hd := digs_len10 (u := l.length) (by unfold isU; omega)
    have he : (V.mk 3 n s l).enc = 3 :: (digs l.length ++ V.encL l) := by simp [V.enc]
    have hlen' : bs.length + (1 + (digs l.length).length + (V.encL l).length) ≤ 1000000000 := by
      rw [he] at hlen; simp at hlen; omega
    repeat (first | refine WP.seq ?_ | refine WP.block ?_ | (refine WP.region Try.tab ?_; simp -dsimp) | (refine WP.draw Try.tab Try.mixed ?_; simp -dsimp) | refine And.intro (by first | rfl | omega | decide | (simp; done) | (simp; omega) | (intros; simp_all; done)) ?_)
    rw [e1]
    refine vcStop.call Try.body38 (f38_row (u := l.length) (by unfold isU; omega) (bs := bs ++ [3]) (by simp; omega)) (rl [(1000, 10), (0, 15)]) rfl rfl (by simp [rowB, BoxLeq]) (CallOk.of (by simp [rowB, BoxLeq]) rfl (by first | rfl | (simp [rowB, BoxLeq]; done)) (by simp [rowB, BoxLeq]) (by simp [rowB, BoxLeq])) (fun _ h => h.elim) (fun ⟨_, h⟩ => h.elim) (fun ⟨_, h⟩ => h.elim) (by simp [rowB, BoxLeq]) ?_
    simp -dsimp [rowB]
    repeat (first | refine WP.seq ?_ | refine WP.block ?_ | (refine WP.region Try.tab ?_; simp -dsimp) | (refine WP.draw Try.tab Try.mixed ?_; simp -dsimp) | refine And.intro (by first | rfl | omega | decide | (simp; done) | (simp; omega) | (intros; simp_all; done)) ?_)
    refine WP.loopWk (fun m S => ∃ l1 l2, l = l1 ++ l2 ∧ m = l2.length ∧ S = mkS 35 [(0, .row 500), (2, .ptr 1001 0), (17, .d (slV l)), (18, .d (.v (.int .i64 l.length))), (19, .d (.v (.int .i64 l1.length)))] [(500, rowB (bs ++ 3 :: (digs l.length ++ V.encL l1))), (1001, wc 1002), (1002, wb 1001)]) l.length
      (S0 := mkS 35 [(0, .row 500), (2, .ptr 1001 0), (17, .d (slV l)), (18, .d (.v (.int .i64 l.length))), (19, .d (.v (.int .i64 0)))] [(500, rowB (bs ++ 3 :: (digs l.length ++ V.encL []))), (1001, wc 1002), (1002, wb 1001)])
      (Wk.go [] 15 500 (by decide) (by simp) (by simp [slV]) (by simp [rowB, wb, wc, V.encL])) ⟨[], l, rfl, rfl, by simp⟩ ?_
    rintro _ _ ⟨l1, l2, hl12, rfl, rfl⟩
    simp -dsimp [slV]
    repeat (first | refine WP.seq ?_ | refine WP.block ?_ | (refine WP.region Try.tab ?_; simp -dsimp) | (refine WP.draw Try.tab Try.mixed ?_; simp -dsimp) | refine And.intro (by first | rfl | omega | decide | (simp; done) | (simp; omega) | (intros; simp_all; done)) ?_)
    cases l2 with
    | nil =>
      simp only [List.append_nil] at hl12
      subst hl12
      refine WP.cond (b := false) (by simp) (fun h => by cases h) (fun _ => ?_)
      refine WP.exit ?_
      simp -dsimp
      repeat (first | refine WP.seq ?_ | refine WP.block ?_ | (refine WP.region Try.tab ?_; simp -dsimp) | (refine WP.draw Try.tab Try.mixed ?_; simp -dsimp) | refine And.intro (by first | rfl | omega | decide | (simp; done) | (simp; omega) | (intros; simp_all; done)) ?_)
      refine WP.ret (finQ.retW (S' := mkS 35 [(5, .row 0)] [(0, rowB (bs ++ V.enc (.mk 3 n s l))), (1001, wc 1002), (1002, wb 1001)]) (Wk.go [] 500 0 (by decide) (by simp) (by simp) (by simp [rowB, wb, wc, he])) ?_)
      simp [wb, wc]
    | cons v l2 =>
      have hll : l.length = l1.length + (l2.length + 1) := by rw [hl12]; simp
      refine WP.cond (b := true) (by simp; omega) (fun _ => ?_) (fun h => by cases h)
      refine WP.skip ?_
      simp -dsimp
      refine WP.seq (WP.block ?_)
      have hv := V.cells_at l1 v l2
      rw [← hl12] at hv
      have hokv : v.ok = true := by rw [hl12, V.okL_append, V.okL] at hok; simp only [Bool.and_eq_true] at hok; exact hok.2.1
      have hrgv : v.rng = true := by rw [hl12, V.rngL_append, V.rngL] at hrg; simp only [Bool.and_eq_true] at hrg; exact hrg.2.1
      have hlv : bs.length + (1 + (digs l.length).length + (V.encL l1).length + v.enc.length) ≤ 1000000000 := by
        have : (V.encL l).length = (V.encL l1).length + (v.enc.length + (V.encL l2).length) := by rw [hl12, V.encL_append, V.encL]; simp
        omega
      obtain ⟨k, n', s', lv⟩ := v
      rw [V.cells] at hv
      have e2 : IntKind.i64.wrap ((l1.length : Int) + 1) = (l1.length : Int) + 1 := IntWalk.i64_in _ (by omega)
      have hI : ∀ (X : List UInt8), X = bs ++ 3 :: (digs l.length ++ V.encL l1) ++ V.enc (.mk k n' s' lv) → X = bs ++ 3 :: (digs l.length ++ V.encL (l1 ++ [.mk k n' s' lv])) := fun X hX => by rw [hX, V.encL_append, V.encL, V.encL]; simp
      rcases V.ok_kind hokv with rfl | rfl | ⟨rfl, hokl⟩
      · repeat (first | refine WP.seq ?_ | refine WP.block ?_ | (refine WP.region Try.tab ?_; simp -dsimp [hv]) | (refine WP.draw Try.tab Try.mixed ?_; simp -dsimp [hv]) | refine And.intro (by first | rfl | omega | decide | (simp; done) | (simp; omega) | (intros; simp_all; done)) ?_)
        have hx : (V.enc (.mk 1 n' s' lv)).length = 1 + (digs (zig n')).length := by simp [V.enc]; omega
        refine vcStop.call Try.body37 (f37_ok (V.rng_n hrgv).1 s' lv (bs := bs ++ 3 :: (digs l.length ++ V.encL l1)) (by simp; omega)) (rl [(1000, 500), (0, 32)]) rfl rfl (by simp [V.d, V.cells, BoxLeq]) (CallOk.of (by simp [V.d, V.cells, BoxLeq]) rfl (by first | rfl | (simp [V.d, V.cells, BoxLeq]; done)) (by simp [V.d, V.cells, BoxLeq]) (by simp [V.d, V.cells, BoxLeq])) (fun _ h => h.elim) (fun ⟨_, h⟩ => h.elim) (fun ⟨_, h⟩ => h.elim) (by simp [V.d, V.cells, BoxLeq]) ?_
        simp -dsimp
        repeat (first | refine WP.seq ?_ | refine WP.block ?_ | (refine WP.region Try.tab ?_; simp -dsimp) | (refine WP.draw Try.tab Try.mixed ?_; simp -dsimp) | refine And.intro (by first | rfl | omega | decide | (simp; done) | (simp; omega) | (intros; simp_all; done)) ?_)
        refine loopW.next (mkS 35 [(0, .row 500), (2, .ptr 1001 0), (17, .d (slV l)), (18, .d (.v (.int .i64 l.length))), (19, .d (.v (.int .i64 (l1 ++ [V.mk 1 n' s' lv]).length)))] [(500, rowB (bs ++ 3 :: (digs l.length ++ V.encL (l1 ++ [.mk 1 n' s' lv])))), (1001, wc 1002), (1002, wb 1001)])
          (Wk.go [] 32 500 (by decide) (by simp) (by simp [e2]) (by simp [V.encL_append, V.encL])) l2.length (by simp) ⟨l1 ++ [.mk 1 n' s' lv], l2, by simp [hl12], rfl, rfl⟩
      · repeat (first | refine WP.seq ?_ | refine WP.block ?_ | (refine WP.region Try.tab ?_; simp -dsimp [hv]) | (refine WP.draw Try.tab Try.mixed ?_; simp -dsimp [hv]) | refine And.intro (by first | rfl | omega | decide | (simp; done) | (simp; omega) | (intros; simp_all; done)) ?_)
        have hx : (V.enc (.mk 2 n' s' lv)).length = 1 + ((digs s'.size).length + s'.size) := by simp [V.enc]; omega
        refine vcStop.call Try.body40 (f40_ok n' s' lv (bs := bs ++ 3 :: (digs l.length ++ V.encL l1)) (by simp; omega)) (rl [(1000, 500), (0, 32)]) rfl rfl (by simp [V.d, V.cells, BoxLeq]) (CallOk.of (by simp [V.d, V.cells, BoxLeq]) rfl (by first | rfl | (simp [V.d, V.cells, BoxLeq]; done)) (by simp [V.d, V.cells, BoxLeq]) (by simp [V.d, V.cells, BoxLeq])) (fun _ h => h.elim) (fun ⟨_, h⟩ => h.elim) (fun ⟨_, h⟩ => h.elim) (by simp [V.d, V.cells, BoxLeq]) ?_
        simp -dsimp
        repeat (first | refine WP.seq ?_ | refine WP.block ?_ | (refine WP.region Try.tab ?_; simp -dsimp) | (refine WP.draw Try.tab Try.mixed ?_; simp -dsimp) | refine And.intro (by first | rfl | omega | decide | (simp; done) | (simp; omega) | (intros; simp_all; done)) ?_)
        refine loopW.next (mkS 35 [(0, .row 500), (2, .ptr 1001 0), (17, .d (slV l)), (18, .d (.v (.int .i64 l.length))), (19, .d (.v (.int .i64 (l1 ++ [V.mk 2 n' s' lv]).length)))] [(500, rowB (bs ++ 3 :: (digs l.length ++ V.encL (l1 ++ [.mk 2 n' s' lv])))), (1001, wc 1002), (1002, wb 1001)])
          (Wk.go [] 32 500 (by decide) (by simp) (by simp [e2]) (by simp [V.encL_append, V.encL])) l2.length (by simp) ⟨l1 ++ [.mk 2 n' s' lv], l2, by simp [hl12], rfl, rfl⟩
      · repeat (first | refine WP.seq ?_ | refine WP.block ?_ | (refine WP.region Try.tab ?_; simp -dsimp [hv]) | (refine WP.draw Try.tab Try.mixed ?_; simp -dsimp [hv]) | refine And.intro (by first | rfl | omega | decide | (simp; done) | (simp; omega) | (intros; simp_all; done)) ?_)
        refine vcStop.call Try.body41 (ih n' s' lv (bs ++ 3 :: (digs l.length ++ V.encL l1)) (V.sz_lt (by rw [← hl12]; exact hN)) hokl (V.rng_n hrgv).2 (by simp; omega)) (rl [(1000, 500), (0, 32)]) rfl rfl (by simp [V.d, V.cells, BoxLeq]) (CallOk.of (by simp [V.d, V.cells, BoxLeq]) rfl (by first | rfl | (simp [V.d, V.cells, BoxLeq]; done)) (by simp [V.d, V.cells, BoxLeq]) (by simp [V.d, V.cells, BoxLeq])) (fun _ h => h.elim) (fun ⟨_, h⟩ => h.elim) (fun ⟨_, h⟩ => h.elim) (by simp [V.d, V.cells, BoxLeq]) ?_
        simp -dsimp
        repeat (first | refine WP.seq ?_ | refine WP.block ?_ | (refine WP.region Try.tab ?_; simp -dsimp) | (refine WP.draw Try.tab Try.mixed ?_; simp -dsimp) | refine And.intro (by first | rfl | omega | decide | (simp; done) | (simp; omega) | (intros; simp_all; done)) ?_)
        refine loopW.next (mkS 35 [(0, .row 500), (2, .ptr 1001 0), (17, .d (slV l)), (18, .d (.v (.int .i64 l.length))), (19, .d (.v (.int .i64 (l1 ++ [V.mk 3 n' s' lv]).length)))] [(500, rowB (bs ++ 3 :: (digs l.length ++ V.encL (l1 ++ [.mk 3 n' s' lv])))), (1001, wc 1002), (1002, wb 1001)])
          (Wk.go [] 32 500 (by decide) (by simp) (by simp [e2]) (by simp [V.encL_append, V.encL])) l2.length (by simp) ⟨l1 ++ [.mk 3 n' s' lv], l2, by simp [hl12], rfl, rfl⟩
theorem f37_nil {n : Int} (h : isI n) (s : ByteArray) (l : List V) : Fun Try.prog 37 [.d (.v (.slice none 0 0)), .d (V.mk 1 n s l).d] [] (.row 0) [(0, rowB (V.mk 1 n s l).enc)] fun _ => False := by
  have := f37_ok h s l (bs := []) (by simp)
  exact Fun.nilRow (by simpa using this) rfl rfl (by simp) rfl
theorem f40_nil (n : Int) (s : ByteArray) (l : List V) (h : s.size ≤ 1000000000) : Fun Try.prog 40 [.d (.v (.slice none 0 0)), .d (V.mk 2 n s l).d] [] (.row 0) [(0, rowB (V.mk 2 n s l).enc)] fun _ => False := by
  have := f40_ok n s l (bs := []) (by simpa using h)
  exact Fun.nilRow (by simpa using this) rfl rfl (by simp) rfl
theorem f41_nil (n : Int) (s : ByteArray) (l : List V) (h1 : V.okL l = true) (h2 : V.rngL l = true) (h3 : (V.enc (.mk 3 n s l)).length ≤ 1000000000) :
    Fun Try.prog 41 [.d (.v (.slice none 0 0)), .d (V.mk 3 n s l).d, .ptr 1001 0] [(1001, wc 1002), (1002, wb 1001)] (.row 0) [(0, rowB (V.enc (.mk 3 n s l))), (1001, wc 1002), (1002, wb 1001)] fun _ => False := by
  have := f41_N _ n s l [] (Nat.le_refl _) h1 h2 (by simpa using h3)
  exact Fun.nilRow (by simpa using this) rfl (by simp) (by simp) rfl

/-- What Encode says. -/
def V.encB (v : V) : List UInt8 := if v.chk = 0 then v.enc else []
theorem V.chk_ok {v : V} (h : v.chk = 0) : v.ok = true := by
  rw [V.chk] at h
  split at h
  · assumption
  · cases h
theorem V.chk_val (v : V) : v.chk = 0 ∨ v.chk = 1 ∨ v.chk = 2 := by
  rw [V.chk]; split
  · split <;> simp
  · simp

set_option maxRecDepth 10000 in
set_option maxHeartbeats 4000000 in
theorem f12_ok (v : V) (hd : v.dep ≤ 1000000) (hr : v.rng = true) (hl : v.enc.length ≤ 1000000000) : Fn0 Try.prog 12 [v.d] (.tup [slB v.encB, .v (.int .i64 v.chk)]) := by
  refine Fun.of_wp (pn := noPn) Try.tab Try.func12 rfl fun β0 => ?_
  simp only [Try.f12]
  obtain ⟨k, n, s, l⟩ := v
  rw [V.d, V.cells]
  repeat (first | refine WP.seq ?_ | refine WP.block ?_ | (refine WP.region Try.tab ?_; simp -dsimp) | (refine WP.draw Try.tab Try.mixed ?_; simp -dsimp) | refine And.intro (by first | rfl | omega | decide | (simp; done) | (simp; omega) | (intros; simp_all; done)) ?_)
  refine vcStop.call0 Try.body16 (f16_ok (.mk k n s l) hd) rfl rfl (by simp [V.d, V.cells]) ?_
  simp -dsimp
  repeat (first | refine WP.seq ?_ | refine WP.block ?_ | (refine WP.region Try.tab ?_; simp -dsimp) | (refine WP.draw Try.tab Try.mixed ?_; simp -dsimp) | refine And.intro (by first | rfl | omega | decide | (simp; done) | (simp; omega) | (intros; simp_all; done)) ?_)
  refine WP.cond (b := !decide (V.chk (.mk k n s l) = 0)) (by simp) (fun hb => ?_) (fun hb => ?_)
  · have hb : ¬ V.chk (.mk k n s l) = 0 := by simpa using hb
    repeat (first | refine WP.seq ?_ | refine WP.block ?_ | (refine WP.region Try.tab ?_; simp -dsimp) | (refine WP.draw Try.tab Try.mixed ?_; simp -dsimp) | refine And.intro (by first | rfl | omega | decide | (simp; done) | (simp; omega) | (intros; simp_all; done)) ?_)
    refine WP.ret (finQ.ret ?_)
    simp -dsimp [V.encB, hb, slB]
  have hb : V.chk (.mk k n s l) = 0 := by simpa using hb
  refine WP.skip ?_
  simp -dsimp
  repeat (first | refine WP.seq ?_ | refine WP.block ?_ | (refine WP.region Try.tab ?_; simp -dsimp) | (refine WP.draw Try.tab Try.mixed ?_; simp -dsimp) | refine And.intro (by first | rfl | omega | decide | (simp; done) | (simp; omega) | (intros; simp_all; done)) ?_)
  rcases V.ok_kind (V.chk_ok hb) with rfl | rfl | ⟨rfl, hokl⟩
  · refine vcStop.call Try.body26 (f26_ok) (rl [(0, 10), (1, 600)]) rfl rfl (by simp [BoxLeq]) (CallOk.of (by simp [BoxLeq]) rfl (by first | rfl | (simp [BoxLeq]; done)) (by simp [BoxLeq]) (by simp [BoxLeq])) (fun _ h => h.elim) (fun ⟨_, h⟩ => h.elim) (fun ⟨_, h⟩ => h.elim) (by simp [BoxLeq]) ?_
    simp -dsimp
    repeat refine And.intro (by first | rfl | omega | decide | (simp; done) | (simp; omega) | (intros; simp_all; done)) ?_
    refine vcStop.call Try.body37 (f37_nil (V.rng_n hr).1 s l) (rl [(0, 18)]) rfl rfl (by simp [V.d, V.cells, BoxLeq]) (CallOk.of (by simp [V.d, V.cells, BoxLeq]) rfl (by first | rfl | (simp [V.d, V.cells, BoxLeq]; done)) (by simp [V.d, V.cells, BoxLeq]) (by simp [V.d, V.cells, BoxLeq])) (fun _ h => h.elim) (fun ⟨_, h⟩ => h.elim) (fun ⟨_, h⟩ => h.elim) (by simp [V.d, V.cells, BoxLeq]) ?_
    simp -dsimp
    repeat (first | refine WP.seq ?_ | refine WP.block ?_ | (refine WP.region Try.tab ?_; simp -dsimp) | (refine WP.draw Try.tab Try.mixed ?_; simp -dsimp) | refine And.intro (by first | rfl | omega | decide | (simp; done) | (simp; omega) | (intros; simp_all; done)) ?_)
    refine WP.ret (finQ.retW (Wk.freeze (k := 18) (T := 5) (sz := 1) (ds := bys _) (by simp; exact ⟨rfl, rfl⟩)) ?_)
    simp [V.encB, hb, slB]
  · refine vcStop.call Try.body26 (f26_ok) (rl [(0, 10), (1, 600)]) rfl rfl (by simp [BoxLeq]) (CallOk.of (by simp [BoxLeq]) rfl (by first | rfl | (simp [BoxLeq]; done)) (by simp [BoxLeq]) (by simp [BoxLeq])) (fun _ h => h.elim) (fun ⟨_, h⟩ => h.elim) (fun ⟨_, h⟩ => h.elim) (by simp [BoxLeq]) ?_
    simp -dsimp
    repeat refine And.intro (by first | rfl | omega | decide | (simp; done) | (simp; omega) | (intros; simp_all; done)) ?_
    have hx : s.size ≤ 1000000000 := by simp [V.enc] at hl; omega
    refine vcStop.call Try.body40 (f40_nil n s l hx) (rl [(0, 18)]) rfl rfl (by simp [V.d, V.cells, BoxLeq]) (CallOk.of (by simp [V.d, V.cells, BoxLeq]) rfl (by first | rfl | (simp [V.d, V.cells, BoxLeq]; done)) (by simp [V.d, V.cells, BoxLeq]) (by simp [V.d, V.cells, BoxLeq])) (fun _ h => h.elim) (fun ⟨_, h⟩ => h.elim) (fun ⟨_, h⟩ => h.elim) (by simp [V.d, V.cells, BoxLeq]) ?_
    simp -dsimp
    repeat (first | refine WP.seq ?_ | refine WP.block ?_ | (refine WP.region Try.tab ?_; simp -dsimp) | (refine WP.draw Try.tab Try.mixed ?_; simp -dsimp) | refine And.intro (by first | rfl | omega | decide | (simp; done) | (simp; omega) | (intros; simp_all; done)) ?_)
    refine WP.ret (finQ.retW (Wk.freeze (k := 18) (T := 5) (sz := 1) (ds := bys _) (by simp; exact ⟨rfl, rfl⟩)) ?_)
    simp [V.encB, hb, slB]
  · refine vcStop.call Try.body26 (f26_ok) (rl [(0, 10), (1, 600)]) rfl rfl (by simp [BoxLeq]) (CallOk.of (by simp [BoxLeq]) rfl (by first | rfl | (simp [BoxLeq]; done)) (by simp [BoxLeq]) (by simp [BoxLeq])) (fun _ h => h.elim) (fun ⟨_, h⟩ => h.elim) (fun ⟨_, h⟩ => h.elim) (by simp [BoxLeq]) ?_
    simp -dsimp
    repeat refine And.intro (by first | rfl | omega | decide | (simp; done) | (simp; omega) | (intros; simp_all; done)) ?_
    refine vcStop.call Try.body41 (f41_nil n s l hokl (V.rng_n hr).2 hl) (rl [(1001, 600), (1002, 10), (0, 18)]) rfl rfl (by simp [V.d, V.cells, BoxLeq]) (CallOk.of (by simp [V.d, V.cells, BoxLeq]) rfl (by first | rfl | (simp [V.d, V.cells, BoxLeq]; done)) (by simp [V.d, V.cells, BoxLeq]) (by simp [V.d, V.cells, BoxLeq])) (fun _ h => h.elim) (fun ⟨_, h⟩ => h.elim) (fun ⟨_, h⟩ => h.elim) (by simp [V.d, V.cells, BoxLeq]) ?_
    simp -dsimp
    repeat (first | refine WP.seq ?_ | refine WP.block ?_ | (refine WP.region Try.tab ?_; simp -dsimp) | (refine WP.draw Try.tab Try.mixed ?_; simp -dsimp) | refine And.intro (by first | rfl | omega | decide | (simp; done) | (simp; omega) | (intros; simp_all; done)) ?_)
    refine WP.ret (finQ.retW (Wk.freeze (k := 18) (T := 5) (sz := 1) (ds := bys _) (by simp; exact ⟨rfl, rfl⟩)) ?_)
    simp [V.encB, hb, slB]
end Go.Proofs.Ytnbanfpelgcmoaa
