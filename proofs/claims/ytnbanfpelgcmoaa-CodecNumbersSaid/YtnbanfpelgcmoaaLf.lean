import Derived.Test.YtnbanfpelgcmoaaLe
set_option linter.unusedSimpArgs false
set_option linter.unusedVariables false
namespace Go.Proofs.Ytnbanfpelgcmoaa
open Go.Xe Go.RowKit

theorem okL_of : ∀ {l : List V}, (∀ v ∈ l, v.ok = true) → V.okL l = true
  | [], _ => rfl
  | v :: l, h => by rw [V.okL, h v (by simp), okL_of fun w hw => h w (by simp [hw])]; rfl
theorem ok_of_okL : ∀ {l : List V}, V.okL l = true → ∀ v ∈ l, v.ok = true
  | [], _, _, hv => by cases hv
  | w :: l, h, v, hv => by
    rw [V.okL, Bool.and_eq_true] at h
    rcases List.mem_cons.1 hv with rfl | hv
    · exact h.1
    · exact ok_of_okL h.2 v hv
theorem dep_le_depL : ∀ {l : List V}, ∀ v ∈ l, v.dep ≤ V.depL l
  | [], _, hv => by cases hv
  | w :: l, v, hv => by
    rw [V.depL]
    rcases List.mem_cons.1 hv with rfl | hv
    · omega
    · have := dep_le_depL v hv
      omega
theorem chk_list_ne {l : List V} {v : V} (hv : v ∈ l) (h : v.chk ≠ 0) : V.chk (.mk 3 0 ⟨#[]⟩ l) ≠ 0 := fun e => h (by
  obtain ⟨h1, h2, _⟩ := chk_facts e
  rw [V.ok] at h1
  simp only [show (3 : Int) = 1 ↔ False from by decide, show (3 : Int) = 2 ↔ False from by decide, if_false, if_true, Bool.and_eq_true] at h1
  rw [V.dep, if_pos rfl] at h2
  have h3 := ok_of_okL h1.2 v hv
  have h4 := dep_le_depL v hv
  rw [V.chk, if_pos h3, if_neg (by omega)])
theorem chk_list {l : List V} (h : ∀ v ∈ l, v.chk = 0) : V.chk (.mk 3 0 ⟨#[]⟩ l) = 0 ∨ V.chk (.mk 3 0 ⟨#[]⟩ l) = 2 := by
  have : V.ok (.mk 3 0 ⟨#[]⟩ l) = true := by
    rw [V.ok]
    simp [okL_of fun v hv => V.chk_ok (h v hv)]
  rw [V.chk, if_pos this]
  split <;> simp
theorem listL_small : ∀ {l : List V}, V.rngL l = true → (∀ v ∈ l, v.few = true) → (V.encL l).length ≤ 42000 * l.length ∧ V.depL l ≤ 21
  | [], _, _ => by simp [V.encL, V.depL]
  | v :: l, hr, hf => by
    rw [V.rngL, Bool.and_eq_true] at hr
    obtain ⟨h1, h2⟩ := V.few_small hr.1 (hf v (by simp))
    obtain ⟨h3, h4⟩ := listL_small hr.2 fun w hw => hf w (by simp [hw])
    rw [V.encL, V.depL]
    simp only [List.length_append, List.length_cons]
    exact ⟨by omega, by omega⟩
theorem rng_of_rngL : ∀ {l : List V}, V.rngL l = true → ∀ v ∈ l, v.rng = true
  | [], _, _, hv => by cases hv
  | w :: l, h, v, hv => by
    rw [V.rngL, Bool.and_eq_true] at h
    rcases List.mem_cons.1 hv with rfl | hv
    · exact h.1
    · exact rng_of_rngL h.2 v hv

def zV : V := .mk 1 0 ⟨#[]⟩ []
def zL : Nat → List V
  | 0 => []
  | n + 1 => zL n ++ [zV]
theorem zL_len : ∀ n, (zL n).length = n
  | 0 => rfl
  | n + 1 => by rw [zL, List.length_append, zL_len n]; rfl
theorem zL_facts : ∀ n, V.okL (zL n) = true ∧ V.depL (zL n) = 0 ∧ (V.encL (zL n)).length = 2 * n ∧ V.rngL (zL n) = true
  | 0 => by simp [zL, V.okL, V.depL, V.encL, V.rngL]
  | n + 1 => by
    obtain ⟨h1, h2, h3, h4⟩ := zL_facts n
    rw [zL, V.okL_append, V.depL_append, V.encL_append, V.rngL_append, h1, h2, h4]
    have : (digs (zig 0)).length = 1 := by simp [zig, digs]
    simp [V.okL, V.depL, V.encL, V.rngL, zV, V.ok, V.dep, V.enc, V.rng, h3, this, show (⟨#[]⟩ : ByteArray).size = 0 from rfl]
    omega
theorem zL_list (n : Nat) (hn : n ≤ 20) : V.chk (.mk 3 0 ⟨#[]⟩ (zL n)) = 0 ∧ (V.enc (.mk 3 0 ⟨#[]⟩ (zL n))).length = 1 + (digs n).length + 2 * n ∧ V.rng (.mk 3 0 ⟨#[]⟩ (zL n)) = true ∧ V.dep (.mk 3 0 ⟨#[]⟩ (zL n)) = 1 := by
  obtain ⟨h1, h2, h3, h4⟩ := zL_facts n
  have h5 : V.dep (.mk 3 0 ⟨#[]⟩ (zL n)) = 1 := by rw [V.dep, if_pos rfl, h2]
  refine ⟨?_, ?_, ?_, h5⟩
  · rw [V.chk, if_pos (by rw [V.ok]; simp [h1]), if_neg (by rw [h5]; omega)]
  · rw [V.enc]
    simp [h3, zL_len]
    omega
  · simp [V.rng, h4, show (⟨#[]⟩ : ByteArray).size = 0 from rfl]

def s8 (l : List V) (l1 : List V) : St := mkS 127 [(0, .d (slV l)), (3, .row 500), (4, .row 501), (5, .d (.v (.int .i64 (V.encL l1).length))), (29, .d (slV l)), (30, .d (.v (.int .i64 l.length))), (31, .d (.v (.int .i64 l1.length)))]
  [(500, rowB (V.encL l1)), (501, .row 24 4 l1.length ((V.cellsL (zL l1.length)).map .d))]

set_option maxRecDepth 10000 in
set_option maxHeartbeats 4000000 in
theorem f8_ok (l : List V) (hr : V.rngL l = true) : Fn0 Try.prog 8 [slV l] (.v (.bool true)) := by
  have h11 := f11_ok l hr
  obtain ⟨B, hB⟩ : ∃ B, l.all V.few = B := ⟨_, rfl⟩
  rw [hB] at h11
  refine Fun.of_wp (pn := noPn) Try.tab Try.func8 rfl fun β0 => ?_
  simp only [Try.f8]
  repeat (first | refine WP.seq ?_ | refine WP.block ?_ | (refine WP.region Try.tab ?_; simp -dsimp) | (refine WP.draw Try.tab Try.mixed ?_; simp -dsimp) | refine And.intro (by first | rfl | omega | decide | (simp; done) | (simp; omega) | (intros; simp_all; done)) ?_)
  refine vcStop.call0 Try.body10 f10_ok rfl rfl rfl ?_
  simp -dsimp
  repeat (first | refine WP.seq ?_ | refine WP.block ?_ | (refine WP.region Try.tab ?_; simp -dsimp) | (refine WP.draw Try.tab Try.mixed ?_; simp -dsimp) | refine And.intro (by first | rfl | omega | decide | (simp; done) | (simp; omega) | (intros; simp_all; done)) ?_)
  refine WP.cond (b := false) (by simp) (fun h => by cases h) (fun _ => ?_)
  refine WP.skip ?_
  simp -dsimp
  repeat (first | refine WP.seq ?_ | refine WP.block ?_ | (refine WP.region Try.tab ?_; simp -dsimp) | (refine WP.draw Try.tab Try.mixed ?_; simp -dsimp) | refine And.intro (by first | rfl | omega | decide | (simp; done) | (simp; omega) | (intros; simp_all; done)) ?_)
  refine vcStop.call0 Try.body11 h11 rfl rfl (by simp) ?_
  simp -dsimp
  repeat (first | refine WP.seq ?_ | refine WP.block ?_ | (refine WP.region Try.tab ?_; simp -dsimp) | (refine WP.draw Try.tab Try.mixed ?_; simp -dsimp) | refine And.intro (by first | rfl | omega | decide | (simp; done) | (simp; omega) | (intros; simp_all; done)) ?_)
  refine WP.cond (b := !B || decide (20 < l.length)) (by cases B <;> simp [show (20 < (l.length : Int)) ↔ 20 < l.length by omega]) (fun hb => ?_) (fun hb => ?_)
  · repeat (first | refine WP.seq ?_ | refine WP.block ?_ | (refine WP.region Try.tab ?_; simp -dsimp) | (refine WP.draw Try.tab Try.mixed ?_; simp -dsimp) | refine And.intro (by first | rfl | omega | decide | (simp; done) | (simp; omega) | (intros; simp_all; done)) ?_)
    refine WP.ret (finQ.retE ?_)
    simp -dsimp
  simp only [Bool.or_eq_false_iff, Bool.not_eq_false', decide_eq_false_iff_not] at hb
  obtain ⟨rfl, hlen⟩ := hb
  have hfew : ∀ v ∈ l, v.few = true := List.all_eq_true.1 hB
  obtain ⟨hel, hdl⟩ := listL_small hr hfew
  have hdn := digs_len10 (u := l.length) (by unfold isU; omega)
  have hLr : V.rng (.mk 3 0 ⟨#[]⟩ l) = true := by simp [V.rng, hr, show (⟨#[]⟩ : ByteArray).size = 0 from rfl]
  have hLd : V.dep (.mk 3 0 ⟨#[]⟩ l) ≤ 22 := by rw [V.dep, if_pos rfl]; omega
  have hLe : V.enc (.mk 3 0 ⟨#[]⟩ l) = 3 :: (digs l.length ++ V.encL l) := by simp [V.enc]
  have hLl : (V.enc (.mk 3 0 ⟨#[]⟩ l)).length ≤ 1000000 := by rw [hLe]; simp; omega
  have h12L := f12_ok (.mk 3 0 ⟨#[]⟩ l) (by omega) hLr (by omega)
  refine WP.skip ?_
  simp -dsimp
  repeat (first | refine WP.seq ?_ | refine WP.block ?_ | (refine WP.region Try.tab ?_; simp -dsimp) | (refine WP.draw Try.tab Try.mixed ?_; simp -dsimp) | refine And.intro (by first | rfl | omega | decide | (simp; done) | (simp; omega) | (intros; simp_all; done)) ?_)
  refine WP.loopWk (fun m S => ∃ l1 l2, l = l1 ++ l2 ∧ m = l2.length ∧ (∀ v ∈ l1, v.chk = 0) ∧ S = s8 l l1) l.length (S0 := s8 l [])
    ((Wk.nilSlot 3 500 5 1 rfl (by simp)).trans ((Wk.nilSlot 4 501 24 4 rfl (by simp)).trans (Wk.lessE [] (by simp [s8, V.encL]) (by simp [s8, V.encL, V.cellsL, zL])))) ⟨[], l, rfl, rfl, by simp, rfl⟩ ?_
  rintro _ _ ⟨l1, l2, hl12, rfl, hck, rfl⟩
  simp -dsimp [s8]
  repeat (first | refine WP.seq ?_ | refine WP.block ?_ | (refine WP.region Try.tab ?_; simp -dsimp) | (refine WP.draw Try.tab Try.mixed ?_; simp -dsimp) | refine And.intro (by first | rfl | omega | decide | (simp; done) | (simp; omega) | (intros; simp_all; done)) ?_)
  cases l2 with
  | nil =>
    simp only [List.append_nil] at hl12
    subst hl12
    refine WP.cond (b := false) (by simp) (fun h => by cases h) (fun _ => ?_)
    refine WP.exit ?_
    simp -dsimp
    repeat (first | refine WP.seq ?_ | refine WP.block ?_ | (refine WP.region Try.tab ?_; simp -dsimp) | (refine WP.draw Try.tab Try.mixed ?_; simp -dsimp) | refine And.intro (by first | rfl | omega | decide | (simp; done) | (simp; omega) | (intros; simp_all; done)) ?_)
    refine vcStop.call0 Try.body22 (f22_ok l) rfl rfl (by simp) ?_
    simp -dsimp [V.d, V.cells]
    refine vcStop.call0 Try.body12 h12L rfl rfl (by simp [V.d, V.cells]) ?_
    simp -dsimp
    repeat (first | refine WP.seq ?_ | refine WP.block ?_ | (refine WP.region Try.tab ?_; simp -dsimp) | (refine WP.draw Try.tab Try.mixed ?_; simp -dsimp) | refine And.intro (by first | rfl | omega | decide | (simp; done) | (simp; omega) | (intros; simp_all; done)) ?_)
    rcases chk_list hck with hz | hz
    · rw [hz]
      have henc := (chk_facts hz).2.2
      rw [hLe] at henc
      rw [henc]
      obtain ⟨z1, z2, z3, z4⟩ := zL_list l.length (by omega)
      have h14 := f14_ok (.mk 3 0 ⟨#[]⟩ (zL l.length)) (by omega) z3 (by omega)
      rw [(chk_facts z1).2.2, z1, z2] at h14
      refine WP.cond (b := false) (by simp) (fun h => by cases h) (fun _ => ?_)
      refine WP.skip ?_
      simp -dsimp
      refine WP.weak (Wk.freeze (k := 500) (T := 5) (sz := 1) (ds := bys (V.encL l)) (by simp; rfl)) ?_
      simp -dsimp
      refine WP.weak (Wk.freeze (k := 501) (T := 24) (sz := 4) (n := l.length) (ds := V.cellsL (zL l.length)) (by simp)) ?_
      simp -dsimp
      repeat (first | refine WP.seq ?_ | refine WP.block ?_ | (refine WP.region Try.tab ?_; simp -dsimp) | (refine WP.draw Try.tab Try.mixed ?_; simp -dsimp) | refine And.intro (by first | rfl | omega | decide | (simp; done) | (simp; omega) | (intros; simp_all; done)) ?_)
      have h22 := f22_ok (zL l.length)
      rw [slV, zL_len] at h22
      refine vcStop.call0 Try.body22 h22 rfl rfl (by simp) ?_
      simp -dsimp [V.d, V.cells, zL_len]
      refine vcStop.call0 Try.body14 h14 rfl rfl (by simp [V.d, V.cells, zL_len]) ?_
      simp -dsimp
      have e4 : IntKind.i64.wrap (2 * (l.length : Int)) = 2 * (l.length : Int) := IntWalk.i64_in _ (by omega)
      have e5 : IntKind.i64.wrap (1 + ((digs l.length).length : Int) + 2 * (l.length : Int) - 2 * (l.length : Int)) = 1 + ((digs l.length).length : Int) := by rw [IntWalk.i64_in _ (by omega)]; omega
      have e6 : IntKind.i64.wrap (1 + ((digs l.length).length : Int) + ((V.encL l).length : Int)) = ((digs l.length).length : Int) + ((V.encL l).length : Int) + 1 := by rw [IntWalk.i64_in _ (by omega)]; omega
      have e7 : IntKind.i64.wrap (((digs l.length).length : Int) + ((V.encL l).length : Int) + 1 - ((V.encL l).length : Int)) = ((digs l.length).length : Int) + 1 := by rw [IntWalk.i64_in _ (by omega)]; omega
      have e8 : (((digs l.length).length : Int) + 1).toNat = (digs l.length).length + 1 := by omega
      have e9 : ((bys (digs l.length)) ++ bys (V.encL l)).drop (digs l.length).length = bys (V.encL l) := by rw [show (digs l.length).length = (bys (digs l.length)).length by simp, List.drop_left]
      have e10 : IntKind.i64.wrap (1 + ((digs l.length).length : Int)) = 1 + ((digs l.length).length : Int) := IntWalk.i64_in _ (by omega)
      have e11 : (((digs l.length).length : Int) + ((V.encL l).length : Int) + 1 - (((digs l.length).length : Int) + 1)).toNat = (V.encL l).length := by omega
      have e12 : (2 : Int) ≤ ((digs l.length).length : Int) + 1 := by have := digs_pos l.length; omega
      have e13 : (List.map AV.d (bys (V.encL l))).take (V.encL l).length = List.map AV.d (bys (V.encL l)) := List.take_of_length_le (by simp)
      repeat (first | refine WP.seq ?_ | refine WP.block ?_ | (refine WP.region Try.tab ?_; simp -dsimp [e4, e5, e6, e7, e8, e9, e10, e11, e12, e13]) | (refine WP.draw Try.tab Try.mixed ?_; simp -dsimp [e4, e5, e6, e7, e8, e9, e10, e11, e12, e13]) | refine And.intro (by first | rfl | omega | decide | (simp; done) | (simp; omega) | (intros; simp_all; done)) ?_)
      refine WP.ret (finQ.retE ?_)
      simp -dsimp
    · rw [hz]
      refine WP.cond (b := true) (by simp) (fun _ => ?_) (fun h => by cases h)
      repeat (first | refine WP.seq ?_ | refine WP.block ?_ | (refine WP.region Try.tab ?_; simp -dsimp) | (refine WP.draw Try.tab Try.mixed ?_; simp -dsimp) | refine And.intro (by first | rfl | omega | decide | (simp; done) | (simp; omega) | (intros; simp_all; done)) ?_)
      refine WP.ret (finQ.retE ?_)
      simp -dsimp
  | cons v l2 =>
    have hll : l.length = l1.length + (l2.length + 1) := by rw [hl12]; simp
    refine WP.cond (b := true) (by simp; omega) (fun _ => ?_) (fun h => by cases h)
    refine WP.skip ?_
    simp -dsimp
    refine WP.seq (WP.block ?_)
    have hv := V.cells_at l1 v l2
    rw [← hl12] at hv
    have hmem : v ∈ l := by rw [hl12]; simp
    have hrv := rng_of_rngL hr v hmem
    obtain ⟨hve, hvd⟩ := V.few_small hrv (hfew v hmem)
    have h12 := f12_ok v (by omega) hrv (by omega)
    have h14 := f14_ok v (by omega) hrv (by omega)
    have hne := chk_list_ne hmem
    have hchk := V.chk_val v
    have hfac := @chk_facts v
    have he1 : (V.encL l1).length + v.enc.length ≤ 1000000 := by
      have : (V.encL l).length = (V.encL l1).length + (v.enc.length + (V.encL l2).length) := by rw [hl12, V.encL_append, V.encL]; simp
      omega
    have hnext : v.chk = 0 → ∀ w ∈ l1 ++ [v], w.chk = 0 := fun h w hw => by
      rcases List.mem_append.1 hw with hw | hw
      · exact hck w hw
      · simp only [List.mem_singleton] at hw; rw [hw]; exact h
    have heL : V.encL (l1 ++ [v]) = V.encL l1 ++ v.enc := by rw [V.encL_append]; simp [V.encL]
    obtain ⟨k', n', s', lv⟩ := v
    rw [V.cells] at hv
    have e2 : IntKind.i64.wrap ((l1.length : Int) + 1) = (l1.length : Int) + 1 := IntWalk.i64_in _ (by omega)
    repeat (first | refine WP.seq ?_ | refine WP.block ?_ | (refine WP.region Try.tab ?_; simp -dsimp [hv]) | (refine WP.draw Try.tab Try.mixed ?_; simp -dsimp [hv]) | refine And.intro (by first | rfl | omega | decide | (simp; done) | (simp; omega) | (intros; simp_all; done)) ?_)
    refine vcStop.call0 Try.body12 h12 rfl rfl (by simp [V.d, V.cells]) ?_
    simp -dsimp
    repeat (first | refine WP.seq ?_ | refine WP.block ?_ | (refine WP.region Try.tab ?_; simp -dsimp) | (refine WP.draw Try.tab Try.mixed ?_; simp -dsimp) | refine And.intro (by first | rfl | omega | decide | (simp; done) | (simp; omega) | (intros; simp_all; done)) ?_)
    refine vcStop.call0 Try.body14 h14 rfl rfl (by simp [V.d, V.cells]) ?_
    simp -dsimp
    repeat (first | refine WP.seq ?_ | refine WP.block ?_ | (refine WP.region Try.tab ?_; simp -dsimp) | (refine WP.draw Try.tab Try.mixed ?_; simp -dsimp) | refine And.intro (by first | rfl | omega | decide | (simp; done) | (simp; omega) | (intros; simp_all; done)) ?_)
    refine WP.cond (b := false) (by simp) (fun h => by cases h) (fun _ => ?_)
    refine WP.skip ?_
    simp -dsimp
    repeat (first | refine WP.seq ?_ | refine WP.block ?_ | (refine WP.region Try.tab ?_; simp -dsimp) | (refine WP.draw Try.tab Try.mixed ?_; simp -dsimp) | refine And.intro (by first | rfl | omega | decide | (simp; done) | (simp; omega) | (intros; simp_all; done)) ?_)
    refine WP.cond (b := !decide (V.chk (.mk k' n' s' lv) = 0)) (by simp) (fun hb => ?_) (fun hb => ?_)
    · simp only [Bool.not_eq_true', decide_eq_false_iff_not] at hb
      have hne := hne hb
      repeat (first | refine WP.seq ?_ | refine WP.block ?_ | (refine WP.region Try.tab ?_; simp -dsimp) | (refine WP.draw Try.tab Try.mixed ?_; simp -dsimp) | refine And.intro (by first | rfl | omega | decide | (simp; done) | (simp; omega) | (intros; simp_all; done)) ?_)
      refine vcStop.call0 Try.body22 (f22_ok l) rfl rfl (by simp) ?_
      simp -dsimp [V.d, V.cells]
      refine vcStop.call0 Try.body12 h12L rfl rfl (by simp [V.d, V.cells]) ?_
      simp -dsimp
      repeat (first | refine WP.seq ?_ | refine WP.block ?_ | (refine WP.region Try.tab ?_; simp -dsimp) | (refine WP.draw Try.tab Try.mixed ?_; simp -dsimp) | refine And.intro (by first | rfl | omega | decide | (simp; done) | (simp; omega) | (intros; simp_all; done)) ?_)
      refine WP.ret (finQ.retE ?_)
      simp -dsimp [hne]
    · simp only [Bool.not_eq_false', decide_eq_true_eq] at hb
      obtain ⟨_, _, henc⟩ := hfac hb
      rw [henc]
      refine WP.skip ?_
      simp -dsimp
      repeat (first | refine WP.seq ?_ | refine WP.block ?_ | (refine WP.region Try.tab ?_; simp -dsimp) | (refine WP.draw Try.tab Try.mixed ?_; simp -dsimp) | refine And.intro (by first | rfl | omega | decide | (simp; done) | (simp; omega) | (intros; simp_all; done)) ?_)
      refine vcStop.call0 Try.body23 (f23_ok 0) rfl rfl (by simp) ?_
      simp -dsimp [V.d, V.cells, V.cellsL]
      repeat (first | refine WP.seq ?_ | refine WP.block ?_ | (refine WP.region Try.tab ?_; simp -dsimp) | (refine WP.draw Try.tab Try.mixed ?_; simp -dsimp) | refine And.intro (by first | rfl | omega | decide | (simp; done) | (simp; omega) | (intros; simp_all; done)) ?_)
      have e3 : IntKind.i64.wrap (((V.encL l1).length : Int) + ((V.enc (.mk k' n' s' lv)).length : Int)) = ((V.encL (l1 ++ [V.mk k' n' s' lv])).length : Int) := by
        rw [IntWalk.i64_in _ (by omega), heL]; simp
      refine loopW.next (s8 l (l1 ++ [V.mk k' n' s' lv])) (Wk.go2 [7, 73] 70 500 74 501 (by decide) (by decide) (by simp [s8]) (by simp [s8]) (by simp [s8, e2, e3]) (by simp [s8, heL, zL, V.cellsL_append, V.cellsL, zV, V.cells])) l2.length (by simp)
        ⟨l1 ++ [.mk k' n' s' lv], l2, by simp [hl12], rfl, hnext hb, rfl⟩
end Go.Proofs.Ytnbanfpelgcmoaa
