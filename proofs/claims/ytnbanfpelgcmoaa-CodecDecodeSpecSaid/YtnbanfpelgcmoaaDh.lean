import Derived.Test.YtnbanfpelgcmoaaDg
set_option linter.unusedSimpArgs false
set_option linter.unusedVariables false
namespace Go.Proofs.Ytnbanfpelgcmoaa
open Go.Xe Go.RowKit
attribute [local simp] byteD_eq

def f34_C (b : Nat) : Prop := b ≤ 16 → ∀ (pre r pre' : List UInt8) (d : Int), d = 16 - b → (pre ++ r).length ≤ 1000000000000 → pre' ++ (rVal b r).2.1 = pre ++ r →
    Fun Try.prog 34 [.ptr 1000 0, .d (.v (.int .i64 d))] [(1000, rB pre r false)] (.d (rVal b r).1.d) [(1000, rB pre' (rVal b r).2.1 (rVal b r).2.2)] fun _ => False

def s34 (d : Int) (n i : Nat) (l : List V) (pre r : List UInt8) (bad : Bool) : St :=
  mkS 142 [(0, .ptr 1000 0), (1, .d (.v (.int .i64 d))), (4, .ptr 4 0), (7, .d (.v (.int .u64 n))), (8, .ptr 8 0), (9, .d (.v (.int .u64 i)))]
    [(1000, rB pre r bad), (4, .cells 24 [.d (.v (.int .i64 0)), .d (.v (.int .i64 0)), .d (.v (.string ⟨#[]⟩)), .d (.v (.slice none 0 0))]), (8, .cells 24 [.d (.v (.int .i64 3)), .d (.v (.int .i64 0)), .d (.v (.string ⟨#[]⟩)), .row 500]), (500, .row 24 4 l.length ((V.cellsL l).map .d))]

theorem rVal_one (b : Nat) : ∃ q, rVal b = rOne b q ∧ ∀ b', b = b' + 1 → q = rVal b' := by
  cases b with
  | zero => exact ⟨_, rfl, fun b' h => by cases h⟩
  | succ b => exact ⟨_, rfl, fun b' h => by cases h; rfl⟩

theorem all_bys' (l : List UInt8) : (∀ a ∈ bys l, a = .v (.int .u8 (unB (.d a)).toNat)) ↔ True := all_bys l
attribute [local simp] all_bys'
theorem bys_take (l : List UInt8) (n : Nat) : (bys l).take n = bys (l.take n) := by rw [bys, bys, List.map_take]
theorem bys_drop (l : List UInt8) (n : Nat) : (bys l).drop n = bys (l.drop n) := by rw [bys, bys, List.map_drop]
theorem zag_odd {u : Nat} (h : isU u) (ho : u % 2 = 1) : IntKind.i64.wrap (IntKind.i64.wrap (-IntKind.i64.wrap (IntKind.u64.wrap ((u : Int) / 2))) - 1) = zag u := by
  unfold isU at h
  have e1 : IntKind.u64.wrap ((u : Int) / 2) = (u : Int) / 2 := IntWalk.u64_in _ (by omega)
  have e2 : IntKind.i64.wrap ((u : Int) / 2) = (u : Int) / 2 := IntWalk.i64_in _ (by omega)
  have e3 : IntKind.i64.wrap (-((u : Int) / 2)) = -((u : Int) / 2) := IntWalk.i64_in _ (by omega)
  rw [e1, e2, e3, IntWalk.i64_in _ (by omega), zag, if_neg (by omega)]
  omega
theorem zag_even {u : Nat} (h : isU u) (ho : u % 2 = 0) : IntKind.i64.wrap (IntKind.u64.wrap ((u : Int) / 2)) = zag u := by
  unfold isU at h
  have e1 : IntKind.u64.wrap ((u : Int) / 2) = (u : Int) / 2 := IntWalk.u64_in _ (by omega)
  rw [e1, IntWalk.i64_in _ (by omega), zag, if_pos ho]
  omega

set_option maxRecDepth 100000 in
set_option maxHeartbeats 4000000 in
theorem f34_of (b : Nat) (ih : ∀ b', b = b' + 1 → f34_C b') : f34_C b := by
  intro hb16 pre r pre' d hd hl hp
  obtain ⟨q, hq, hq'⟩ := rVal_one b
  rw [hq] at hp ⊢
  have hpre : pre.length ≤ 1000000000000 := by simp at hl; omega
  refine Fun.of_wp (pn := noPn) Try.tab Try.func34 rfl fun β0 => ?_
  simp only [Try.f34]
  repeat (first | refine WP.seq ?_ | refine WP.block ?_ | (refine WP.region Try.tab ?_; simp -dsimp) | (refine WP.draw Try.tab Try.mixed ?_; simp -dsimp) | refine And.intro (by first | rfl | omega | decide | (simp; done) | (simp; omega) | (intros; simp_all; done)) ?_)
  cases r with
  | nil =>
    rw [rOne] at hp ⊢
    simp only [List.append_nil] at hp
    subst hp
    refine vcStop.call Try.body48 (f48_e pre') (rl []) rfl rfl (by simp [BoxLeq]) (CallOk.of (by simp [BoxLeq]) rfl (by first | rfl | (simp [BoxLeq]; done)) (by simp [BoxLeq]) (by simp [BoxLeq])) (fun _ h => h.elim) (fun ⟨_, h⟩ => h.elim) (fun ⟨_, h⟩ => h.elim) (by simp [BoxLeq]) ?_
    simp -dsimp
    repeat (first | refine WP.seq ?_ | refine WP.block ?_ | (refine WP.region Try.tab ?_; simp -dsimp) | (refine WP.draw Try.tab Try.mixed ?_; simp -dsimp) | refine And.intro (by first | rfl | omega | decide | (simp; done) | (simp; omega) | (intros; simp_all; done)) ?_)
    refine WP.cond (b := false) (by simp) (fun h => by cases h) (fun _ => ?_)
    repeat (first | refine WP.seq ?_ | refine WP.block ?_ | (refine WP.region Try.tab ?_; simp -dsimp) | (refine WP.draw Try.tab Try.mixed ?_; simp -dsimp) | refine And.intro (by first | rfl | omega | decide | (simp; done) | (simp; omega) | (intros; simp_all; done)) ?_)
    refine WP.cond (b := false) (by simp) (fun h => by cases h) (fun _ => ?_)
    repeat (first | refine WP.seq ?_ | refine WP.block ?_ | (refine WP.region Try.tab ?_; simp -dsimp) | (refine WP.draw Try.tab Try.mixed ?_; simp -dsimp) | refine And.intro (by first | rfl | omega | decide | (simp; done) | (simp; omega) | (intros; simp_all; done)) ?_)
    refine WP.cond (b := false) (by simp) (fun h => by cases h) (fun _ => ?_)
    refine WP.skip ?_
    simp -dsimp
    repeat (first | refine WP.seq ?_ | refine WP.block ?_ | (refine WP.region Try.tab ?_; simp -dsimp) | (refine WP.draw Try.tab Try.mixed ?_; simp -dsimp) | refine And.intro (by first | rfl | omega | decide | (simp; done) | (simp; omega) | (intros; simp_all; done)) ?_)
    refine WP.ret (finQ.retE ?_)
    simp -dsimp [vz, V.d, V.cells, V.cellsL]
  | cons c r =>
    refine vcStop.call Try.body48 (f48_c pre c r hpre) (rl []) rfl rfl (by simp [BoxLeq]) (CallOk.of (by simp [BoxLeq]) rfl (by first | rfl | (simp [BoxLeq]; done)) (by simp [BoxLeq]) (by simp [BoxLeq])) (fun _ h => h.elim) (fun ⟨_, h⟩ => h.elim) (fun ⟨_, h⟩ => h.elim) (by simp [BoxLeq]) ?_
    simp -dsimp
    repeat (first | refine WP.seq ?_ | refine WP.block ?_ | (refine WP.region Try.tab ?_; simp -dsimp) | (refine WP.draw Try.tab Try.mixed ?_; simp -dsimp) | refine And.intro (by first | rfl | omega | decide | (simp; done) | (simp; omega) | (intros; simp_all; done)) ?_)
    have hc1 : decide ((c.toNat : Int) = 1) = decide (c.toNat = 1) := by simp [show ((c.toNat : Int) = 1) ↔ c.toNat = 1 by omega]
    have hc2 : decide ((c.toNat : Int) = 2) = decide (c.toNat = 2) := by simp [show ((c.toNat : Int) = 2) ↔ c.toNat = 2 by omega]
    have hc3 : decide ((c.toNat : Int) = 3) = decide (c.toNat = 3) := by simp [show ((c.toNat : Int) = 3) ↔ c.toNat = 3 by omega]
    rw [rOne] at hp ⊢
    obtain ⟨q1, hq1⟩ := rNum_end r 0 0
    have hq1' : (pre ++ [c] ++ q1) ++ (rNum 0 0 r).2.1 = (pre ++ [c]) ++ r := by rw [List.append_assoc, hq1]
    have hl1 : ((pre ++ [c]) ++ r).length ≤ 1000000000000 := by simpa using hl
    have h49 := f49_ok (pre ++ [c]) r (pre ++ [c] ++ q1) (rNum 0 0 r).2.1 (rNum 0 0 r).1 (rNum 0 0 r).2.2 rfl hq1' hl1
    obtain ⟨P, hP⟩ : ∃ P, P = pre ++ [c] ++ q1 := ⟨_, rfl⟩
    rw [← hP] at h49 hq1'
    have hlP : P.length + (rNum 0 0 r).2.1.length ≤ 1000000000000 := by
      have := congrArg List.length hq1'
      simp only [List.length_append] at this hl1
      omega
    have hdr : ∀ l : List UInt8, (bys P ++ bys l).drop P.length = bys l := fun l => by rw [← bys_length P, List.drop_left]
    clear hP
    have hl2 : q1.length + (rNum 0 0 r).2.1.length = r.length := by rw [← List.length_append, hq1]
    have hu := rNum_u r 0 0 (by omega) (by simp)
    generalize rNum 0 0 r = R at *
    obtain ⟨u, r1, bad⟩ := R
    simp only at *
    refine WP.cond (b := decide (c.toNat = 1)) (by simp [hc1]) (fun hb => ?_) (fun hb => ?_)
    · have hb := of_decide_eq_true hb
      rw [if_pos hb] at hp ⊢
      simp only at hp ⊢
      have hp2 : pre' = P := List.append_cancel_right (bs := r1) (by rw [hp, hq1']; simp)
      subst hp2
      repeat (first | refine WP.seq ?_ | refine WP.block ?_ | (refine WP.region Try.tab ?_; simp -dsimp) | (refine WP.draw Try.tab Try.mixed ?_; simp -dsimp) | refine And.intro (by first | rfl | omega | decide | (simp; done) | (simp; omega) | (intros; simp_all; done)) ?_)
      refine vcStop.call Try.body49 (h49) (rl []) rfl rfl (by simp [BoxLeq]) (CallOk.of (by simp [BoxLeq]) rfl (by first | rfl | (simp [BoxLeq]; done)) (by simp [BoxLeq]) (by simp [BoxLeq])) (fun _ h => h.elim) (fun ⟨_, h⟩ => h.elim) (fun ⟨_, h⟩ => h.elim) (by simp [BoxLeq]) ?_
      simp -dsimp
      repeat (first | refine WP.seq ?_ | refine WP.block ?_ | (refine WP.region Try.tab ?_; simp -dsimp) | (refine WP.draw Try.tab Try.mixed ?_; simp -dsimp) | refine And.intro (by first | rfl | omega | decide | (simp; done) | (simp; omega) | (intros; simp_all; done)) ?_)
      have e1 : decide ((u : Int).tmod 2 = 1) = decide (u % 2 = 1) := by rw [Int.tmod_eq_emod_of_nonneg (by omega)]; simp [show ((u : Int) % 2 = 1) ↔ u % 2 = 1 by omega]
      refine WP.cond (b := decide (u % 2 = 1)) (by simp [e1]) (fun hb => ?_) (fun hb => ?_)
      · have hb := of_decide_eq_true hb
        repeat (first | refine WP.seq ?_ | refine WP.block ?_ | (refine WP.region Try.tab ?_; simp -dsimp) | (refine WP.draw Try.tab Try.mixed ?_; simp -dsimp) | refine And.intro (by first | rfl | omega | decide | (simp; done) | (simp; omega) | (intros; simp_all; done)) ?_)
        refine WP.ret (finQ.retE ?_)
        simp -dsimp [zag_odd hu hb, V.d, V.cells, V.cellsL]
      · have hb := of_decide_eq_false hb
        refine WP.skip ?_
        simp -dsimp
        repeat (first | refine WP.seq ?_ | refine WP.block ?_ | (refine WP.region Try.tab ?_; simp -dsimp) | (refine WP.draw Try.tab Try.mixed ?_; simp -dsimp) | refine And.intro (by first | rfl | omega | decide | (simp; done) | (simp; omega) | (intros; simp_all; done)) ?_)
        refine WP.ret (finQ.retE ?_)
        simp -dsimp [zag_even hu (by omega), V.d, V.cells, V.cellsL]
    have hb1 : ¬ c.toNat = 1 := of_decide_eq_false hb
    rw [if_neg hb1] at hp ⊢
    have ex : IntKind.i64.wrap ((r1.length : Int)) = (r1.length : Int) := IntWalk.i64_in _ (by omega)
    have ey : IntKind.u64.wrap ((r1.length : Int)) = (r1.length : Int) := IntWalk.u64_in _ (by omega)
    have ep : IntKind.i64.wrap ((P.length : Int)) = (P.length : Int) := IntWalk.i64_in _ (by omega)
    have eS : (P.length : Int) + (r1.length : Int) - (P.length : Int) = (r1.length : Int) := by omega
    have eu : decide ((r1.length : Int) < (u : Int)) = decide (r1.length < u) := by simp
    repeat (first | refine WP.seq ?_ | refine WP.block ?_ | (refine WP.region Try.tab ?_; simp -dsimp) | (refine WP.draw Try.tab Try.mixed ?_; simp -dsimp) | refine And.intro (by first | rfl | omega | decide | (simp; done) | (simp; omega) | (intros; simp_all; done)) ?_)
    refine WP.cond (b := decide (c.toNat = 2)) (by simp [hc2]) (fun hb => ?_) (fun hb => ?_)
    · have hb := of_decide_eq_true hb
      rw [if_pos hb] at hp ⊢
      repeat (first | refine WP.seq ?_ | refine WP.block ?_ | (refine WP.region Try.tab ?_; simp -dsimp) | (refine WP.draw Try.tab Try.mixed ?_; simp -dsimp) | refine And.intro (by first | rfl | omega | decide | (simp; done) | (simp; omega) | (intros; simp_all; done)) ?_)
      refine vcStop.call Try.body49 (h49) (rl []) rfl rfl (by simp [BoxLeq]) (CallOk.of (by simp [BoxLeq]) rfl (by first | rfl | (simp [BoxLeq]; done)) (by simp [BoxLeq]) (by simp [BoxLeq])) (fun _ h => h.elim) (fun ⟨_, h⟩ => h.elim) (fun ⟨_, h⟩ => h.elim) (by simp [BoxLeq]) ?_
      simp -dsimp
      cases bad with
      | true =>
        rw [if_pos (.inl rfl)] at hp ⊢
        simp only at hp ⊢
        have hp2 : pre' = P := List.append_cancel_right (bs := r1) (by rw [hp, hq1']; simp)
        subst hp2
        repeat (first | refine WP.seq ?_ | refine WP.block ?_ | (refine WP.region Try.tab ?_; simp -dsimp) | (refine WP.draw Try.tab Try.mixed ?_; simp -dsimp) | refine And.intro (by first | rfl | omega | decide | (simp; done) | (simp; omega) | (intros; simp_all; done)) ?_)
        refine WP.cond (b := true) (by simp) (fun _ => ?_) (fun h => by cases h)
        repeat (first | refine WP.seq ?_ | refine WP.block ?_ | (refine WP.region Try.tab ?_; simp -dsimp) | (refine WP.draw Try.tab Try.mixed ?_; simp -dsimp) | refine And.intro (by first | rfl | omega | decide | (simp; done) | (simp; omega) | (intros; simp_all; done)) ?_)
        refine WP.ret (finQ.retE ?_)
        simp -dsimp [vz, V.d, V.cells, V.cellsL]
      | false =>
        repeat (first | refine WP.seq ?_ | refine WP.block ?_ | (refine WP.region Try.tab ?_; simp -dsimp) | (refine WP.draw Try.tab Try.mixed ?_; simp -dsimp) | refine And.intro (by first | rfl | omega | decide | (simp; done) | (simp; omega) | (intros; simp_all; done)) ?_)
        refine WP.cond (b := decide (r1.length < u)) (by simp [eS, ex, ey]) (fun hb => ?_) (fun hb => ?_)
        · have hb := of_decide_eq_true hb
          rw [if_pos (.inr hb)] at hp ⊢
          simp only at hp ⊢
          have hp2 : pre' = P := List.append_cancel_right (bs := r1) (by rw [hp, hq1']; simp)
          subst hp2
          repeat (first | refine WP.seq ?_ | refine WP.block ?_ | (refine WP.region Try.tab ?_; simp -dsimp) | (refine WP.draw Try.tab Try.mixed ?_; simp -dsimp) | refine And.intro (by first | rfl | omega | decide | (simp; done) | (simp; omega) | (intros; simp_all; done)) ?_)
          refine WP.ret (finQ.retE ?_)
          simp -dsimp [vz, V.d, V.cells, V.cellsL]
        · have hb := of_decide_eq_false hb
          rw [if_neg (by simp only [Bool.false_eq_true, false_or]; exact hb)] at hp ⊢
          simp only at hp ⊢
          have e3 : IntKind.i64.wrap (u : Int) = (u : Int) := IntWalk.i64_in _ (by omega)
          have e4 : IntKind.i64.wrap ((P.length : Int) + (u : Int)) = (P.length : Int) + (u : Int) := IntWalk.i64_in _ (by omega)
          have e5 : ((P.length : Int) + (u : Int)).toNat = P.length + u := by omega
          have e6 : min u r1.length = u := by omega
          have hp2 : pre' = P ++ r1.take u := List.append_cancel_right (bs := r1.drop u) (by rw [hp, List.append_assoc, List.take_append_drop, hq1']; simp)
          subst hp2
          refine WP.skip ?_
          simp -dsimp
          repeat (first | refine WP.seq ?_ | refine WP.block ?_ | (refine WP.region Try.tab ?_; simp -dsimp [e3, e4, e5, ep, hdr, bys_take, e6]) | (refine WP.draw Try.tab Try.mixed ?_; simp -dsimp [e3, e4, e5, ep, hdr, bys_take, e6]) | refine And.intro (by first | rfl | omega | decide | (simp; done) | (simp; omega) | (intros; simp_all; done)) ?_)
          refine WP.ret (finQ.retE ?_)
          simp -dsimp [vz, V.d, V.cells, V.cellsL, e6]
    have hb2 : ¬ c.toNat = 2 := of_decide_eq_false hb
    rw [if_neg hb2] at hp ⊢
    repeat (first | refine WP.seq ?_ | refine WP.block ?_ | (refine WP.region Try.tab ?_; simp -dsimp) | (refine WP.draw Try.tab Try.mixed ?_; simp -dsimp) | refine And.intro (by first | rfl | omega | decide | (simp; done) | (simp; omega) | (intros; simp_all; done)) ?_)
    refine WP.cond (b := decide (c.toNat = 3)) (by simp [hc3]) (fun hb => ?_) (fun hb => ?_)
    · have hb := of_decide_eq_true hb
      rw [if_pos hb] at hp ⊢
      repeat (first | refine WP.seq ?_ | refine WP.block ?_ | (refine WP.region Try.tab ?_; simp -dsimp) | (refine WP.draw Try.tab Try.mixed ?_; simp -dsimp) | refine And.intro (by first | rfl | omega | decide | (simp; done) | (simp; omega) | (intros; simp_all; done)) ?_)
      refine vcStop.call Try.body49 (h49) (rl []) rfl rfl (by simp [BoxLeq]) (CallOk.of (by simp [BoxLeq]) rfl (by first | rfl | (simp [BoxLeq]; done)) (by simp [BoxLeq]) (by simp [BoxLeq])) (fun _ h => h.elim) (fun ⟨_, h⟩ => h.elim) (fun ⟨_, h⟩ => h.elim) (by simp [BoxLeq]) ?_
      simp -dsimp
      cases bad with
      | true =>
        rw [if_pos (.inl rfl)] at hp ⊢
        simp only at hp ⊢
        have hp2 : pre' = P := List.append_cancel_right (bs := r1) (by rw [hp, hq1']; simp)
        subst hp2
        repeat (first | refine WP.seq ?_ | refine WP.block ?_ | (refine WP.region Try.tab ?_; simp -dsimp) | (refine WP.draw Try.tab Try.mixed ?_; simp -dsimp) | refine And.intro (by first | rfl | omega | decide | (simp; done) | (simp; omega) | (intros; simp_all; done)) ?_)
        refine WP.cond (b := true) (by simp) (fun _ => ?_) (fun h => by cases h)
        repeat (first | refine WP.seq ?_ | refine WP.block ?_ | (refine WP.region Try.tab ?_; simp -dsimp) | (refine WP.draw Try.tab Try.mixed ?_; simp -dsimp) | refine And.intro (by first | rfl | omega | decide | (simp; done) | (simp; omega) | (intros; simp_all; done)) ?_)
        refine WP.ret (finQ.retE ?_)
        simp -dsimp [vz, V.d, V.cells, V.cellsL]
      | false =>
        repeat (first | refine WP.seq ?_ | refine WP.block ?_ | (refine WP.region Try.tab ?_; simp -dsimp) | (refine WP.draw Try.tab Try.mixed ?_; simp -dsimp) | refine And.intro (by first | rfl | omega | decide | (simp; done) | (simp; omega) | (intros; simp_all; done)) ?_)
        refine WP.cond (b := decide (r1.length < u) || decide (d = 16)) (by simp [eS, ex, ey]) (fun hb => ?_) (fun hb => ?_)
        · simp only [Bool.or_eq_true, decide_eq_true_eq] at hb
          rw [if_pos (by rcases hb with h | h; exact .inr (.inl h); exact .inr (.inr (by omega)))] at hp ⊢
          simp only at hp ⊢
          have hp2 : pre' = P := List.append_cancel_right (bs := r1) (by rw [hp, hq1']; simp)
          subst hp2
          repeat (first | refine WP.seq ?_ | refine WP.block ?_ | (refine WP.region Try.tab ?_; simp -dsimp) | (refine WP.draw Try.tab Try.mixed ?_; simp -dsimp) | refine And.intro (by first | rfl | omega | decide | (simp; done) | (simp; omega) | (intros; simp_all; done)) ?_)
          refine WP.ret (finQ.retE ?_)
          simp -dsimp [vz, V.d, V.cells, V.cellsL]
        · simp only [Bool.or_eq_false_iff, decide_eq_false_iff_not] at hb
          obtain ⟨b', rfl⟩ : ∃ b', b = b' + 1 := ⟨b - 1, by omega⟩
          have hqq := hq' b' rfl
          subst hqq
          have hC := ih b' rfl
          rw [if_neg (by simp only [Bool.false_eq_true, false_or]; omega)] at hp ⊢
          simp only at hp ⊢
          generalize hy : rMany (rVal b') u r1 = y at hp ⊢
          have hle : u ≤ r1.length := by omega
          have hd1 : IntKind.i64.wrap (d + 1) = d + 1 := IntWalk.i64_in _ (by omega)
          refine WP.skip ?_
          simp -dsimp
          repeat (first | refine WP.seq ?_ | refine WP.block ?_ | (refine WP.region Try.tab ?_; simp -dsimp) | (refine WP.draw Try.tab Try.mixed ?_; simp -dsimp) | refine And.intro (by first | rfl | omega | decide | (simp; done) | (simp; omega) | (intros; simp_all; done)) ?_)
          refine WP.loopWk (fun m S => ∃ l p1 r2 bd k, l.length + k = u ∧ p1 ++ r2 = pre ++ c :: r ∧ (p1 ++ r2).length ≤ 1000000000000 ∧ ((bd = true ∧ m = 0 ∧ y = (l, r2, true)) ∨ (bd = false ∧ m = k + 1 ∧ y = (l ++ (rMany (rVal b') k r2).1, (rMany (rVal b') k r2).2.1, (rMany (rVal b') k r2).2.2))) ∧ S = s34 d u l.length l p1 r2 bd) (u + 1) (S0 := s34 d u 0 [] P r1 false)
            ((Wk.nilCell 8 3 500 24 4 (by simp; exact ⟨rfl, rfl⟩) rfl (by simp)).trans (Wk.lessE [] (by simp [s34]) (by simp [s34, V.cellsL]))) ⟨[], P, r1, false, u, by simp, by rw [hq1']; simp, by simp; omega, .inr ⟨rfl, rfl, by rw [hy]; simp⟩, rfl⟩ ?_
          rintro m _ ⟨l, p1, r2, bd, k, h1, h2, h2', h3, rfl⟩
          simp -dsimp [s34]
          repeat (first | refine WP.seq ?_ | refine WP.block ?_ | (refine WP.region Try.tab ?_; simp -dsimp) | (refine WP.draw Try.tab Try.mixed ?_; simp -dsimp) | refine And.intro (by first | rfl | omega | decide | (simp; done) | (simp; omega) | (intros; simp_all; done)) ?_)
          have hll : l.length ≤ 1000000000000 := by omega
          rcases h3 with ⟨rfl, rfl, hy⟩ | ⟨rfl, rfl, hy⟩
          · refine WP.cond (b := false) (by simp) (fun h => by cases h) (fun _ => ?_)
            refine WP.exit ?_
            simp -dsimp
            repeat (first | refine WP.seq ?_ | refine WP.block ?_ | (refine WP.region Try.tab ?_; simp -dsimp) | (refine WP.draw Try.tab Try.mixed ?_; simp -dsimp) | refine And.intro (by first | rfl | omega | decide | (simp; done) | (simp; omega) | (intros; simp_all; done)) ?_)
            have hp2 : pre' = p1 := List.append_cancel_right (bs := r2) (by rw [← h2] at hp; simpa [hy] using hp)
            subst hp2
            refine WP.ret (finQ.retWE (Wk.freeze (k := 500) (T := 24) (sz := 4) (ds := V.cellsL l) (by simp; rfl)) ?_)
            simp [hy, V.d, V.cells]
          cases k with
          | zero =>
            rw [rMany] at hy
            simp only [List.append_nil] at hy
            refine WP.cond (b := false) (by simp; omega) (fun h => by cases h) (fun _ => ?_)
            refine WP.exit ?_
            simp -dsimp
            repeat (first | refine WP.seq ?_ | refine WP.block ?_ | (refine WP.region Try.tab ?_; simp -dsimp) | (refine WP.draw Try.tab Try.mixed ?_; simp -dsimp) | refine And.intro (by first | rfl | omega | decide | (simp; done) | (simp; omega) | (intros; simp_all; done)) ?_)
            have hp2 : pre' = p1 := List.append_cancel_right (bs := r2) (by rw [← h2] at hp; simpa [hy] using hp)
            subst hp2
            refine WP.ret (finQ.retWE (Wk.freeze (k := 500) (T := 24) (sz := 4) (ds := V.cellsL l) (by simp; rfl)) ?_)
            simp [hy, V.d, V.cells]
          | succ k =>
            refine WP.cond (b := true) (by simp; omega) (fun _ => ?_) (fun h => by cases h)
            refine WP.skip ?_
            simp -dsimp
            have e1 : IntKind.u64.wrap ((l.length : Int) + 1) = (l.length : Int) + 1 := IntWalk.u64_in _ (by omega)
            refine WP.seq (WP.block ?_)
            refine WP.draw Try.tab Try.mixed ?_
            simp -dsimp [hd1]
            obtain ⟨q2, hq2⟩ := rVal_end b' r2
            have h34 := hC (by omega) p1 r2 (p1 ++ q2) (d + 1) (by omega) h2' (by rw [List.append_assoc, hq2])
            rw [rMany] at hy
            have h5 : (p1 ++ q2) ++ (rVal b' r2).2.1 = pre ++ c :: r := by rw [List.append_assoc, hq2, h2]
            generalize rVal b' r2 = R at *
            obtain ⟨⟨k2, n2, s2, l2⟩, r3, bd3⟩ := R
            simp only at *
            refine vcStop.call Try.body34 (h34) (rl []) rfl rfl (by simp [BoxLeq]) (CallOk.of (by simp [BoxLeq]) rfl (by first | rfl | (simp [BoxLeq]; done)) (by simp [BoxLeq]) (by simp [BoxLeq])) (fun _ h => h.elim) (fun ⟨_, h⟩ => h.elim) (fun ⟨_, h⟩ => h.elim) (by simp [BoxLeq]) ?_
            simp -dsimp [V.d, V.cells]
            repeat (first | refine WP.seq ?_ | refine WP.block ?_ | (refine WP.region Try.tab ?_; simp -dsimp) | (refine WP.draw Try.tab Try.mixed ?_; simp -dsimp) | refine And.intro (by first | rfl | omega | decide | (simp; done) | (simp; omega) | (intros; simp_all; done)) ?_)
            refine loopW.next (s34 d u (l ++ [V.mk k2 n2 s2 l2]).length (l ++ [V.mk k2 n2 s2 l2]) (p1 ++ q2) r3 bd3) (Wk.go [134] 135 500 (by decide) (by simp [s34]) (by simp [s34, e1]) (by simp [s34, V.cellsL_append, V.cellsL, V.cells])) (if bd3 = true then 0 else k + 1) (by split <;> omega)
              ⟨l ++ [V.mk k2 n2 s2 l2], p1 ++ q2, r3, bd3, k, by simp; omega, h5, by rw [h5, ← h2]; exact h2', ?_, rfl⟩
            cases bd3 with
            | true => exact .inl ⟨rfl, rfl, by simpa using hy⟩
            | false => exact .inr ⟨rfl, rfl, by simpa using hy⟩
    · have hb3 : ¬ c.toNat = 3 := of_decide_eq_false hb
      rw [if_neg hb3] at hp ⊢
      simp only at hp ⊢
      have hp2 : pre' = pre ++ [c] := List.append_cancel_right (bs := r) (by rw [hp]; simp)
      subst hp2
      refine WP.skip ?_
      simp -dsimp
      repeat (first | refine WP.seq ?_ | refine WP.block ?_ | (refine WP.region Try.tab ?_; simp -dsimp) | (refine WP.draw Try.tab Try.mixed ?_; simp -dsimp) | refine And.intro (by first | rfl | omega | decide | (simp; done) | (simp; omega) | (intros; simp_all; done)) ?_)
      refine WP.ret (finQ.retE ?_)
      simp -dsimp [vz, V.d, V.cells, V.cellsL]

theorem f34_N : ∀ b, f34_C b
  | 0 => f34_of 0 fun b' h => by omega
  | b + 1 => f34_of (b + 1) fun b' h => (Nat.succ.inj h) ▸ f34_N b
end Go.Proofs.Ytnbanfpelgcmoaa
