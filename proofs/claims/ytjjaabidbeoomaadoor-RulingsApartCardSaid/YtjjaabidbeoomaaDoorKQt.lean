/-
  RulingsSet: neither the order of the facts, nor those that are not valid, nor a fact twice says anything.
-/
import Derived.Test.YtjjaabidbeoomaaDoorKQq
set_option linter.unusedSectionVars false
set_option linter.unusedSimpArgs false
set_option linter.unusedVariables false
namespace Go.Proofs.YtjjaabidbeoomaaDoor
open Go.Xe Go.RowKit

theorem canF_same {l l' : List F} (hv : ∀ f ∈ l, fOk f) (hv' : ∀ f ∈ l', fOk f) (h : ∀ f, (numF f).2 = true → (f ∈ l ↔ f ∈ l')) : canF l = canF l' :=
  canF_of hv ((canF_ok hv').same fun f hf => (h f hf).symm)
/-- Turned about, and one of them twice. -/
def rotL (l : List F) (k : Nat) : List F := l.drop k ++ l.take k ++ [fat l k]
theorem rot_mem {l : List F} {k : Nat} (hk : k < l.length) (f : F) : f ∈ rotL l k ↔ f ∈ l := by
  have h : f ∈ l ↔ f ∈ l.take k ∨ f ∈ l.drop k := by rw [← List.mem_append, List.take_append_drop]
  rw [rotL, List.mem_append, List.mem_append, List.mem_singleton, h]
  constructor
  · rintro ((h' | h') | rfl)
    · exact .inr h'
    · exact .inl h'
    · exact h.1 (fat_in hk)
  · rintro (h | h)
    · exact .inl (.inr h)
    · exact .inl (.inl h)
theorem rot_len {l : List F} {k : Nat} (hk : k < l.length) : (rotL l k).length = l.length + 1 := by
  simp [rotL]; omega
def tS (l R : List F) (i : Nat) : List F → St
  | [] => mkS 71 [(0, .d (slF l)), (6, .d nilD), (38, .d (slF R)), (39, .d (.v (.int .i64 R.length))), (40, .d (.v (.int .i64 (i : Nat))))] []
  | f :: r => mkS 71 [(0, .d (slF l)), (6, .row 506), (38, .d (slF R)), (39, .d (.v (.int .i64 R.length))), (40, .d (.v (.int .i64 (i : Nat))))] [(506, rB (f :: r))]
theorem vld_mem {l : List F} (f : F) : f ∈ vld l ↔ f ∈ l ∧ (numF f).2 = true := List.mem_filter
theorem or16 (l : List F) : (decide (16 < (l.length : Int)) || decide (l = [])) = (decide (16 < l.length) || decide (l = [])) := by
  congr 1
  exact decide_eq_decide.2 (by omega)
theorem fsC_dropL : ∀ (l : List F) (k : Nat), (fsC l).drop (k * 57) = fsC (l.drop k)
  | _, 0 => by simp
  | [], k + 1 => by simp [fsC]
  | f :: l, k + 1 => by
    rw [show fsC (f :: l) = fcs f 0 57 ++ fsC l from rfl, Nat.add_mul, Nat.one_mul, Nat.add_comm, List.drop_append]
    rw [List.drop_eq_nil_of_le (by simp), List.nil_append, fcs_length, Nat.add_sub_cancel_left, fsC_dropL l k]
    rfl
theorem fsC_takeL : ∀ (l : List F) (k : Nat), (fsC l).take (k * 57) = fsC (l.take k)
  | _, 0 => by simp [fsC]
  | [], k + 1 => by simp [fsC]
  | f :: l, k + 1 => by
    rw [show fsC (f :: l) = fcs f 0 57 ++ fsC l from rfl, Nat.add_mul, Nat.one_mul, Nat.add_comm, List.take_append]
    rw [List.take_of_length_le (by simp), fcs_length, Nat.add_sub_cancel_left, fsC_takeL l k]
    rfl
theorem snocA (f : F) (r : List F) (p : F) : List.map AV.d (fsC (f :: r)) ++ List.map AV.d (fcs p 0 57) = List.map AV.d (fsC (f :: (r ++ [p]))) := by
  rw [← List.map_append, show f :: (r ++ [p]) = (f :: r) ++ [p] from rfl, fsC_append]
  simp [fsC]
theorem force_mem {c : List F} {n : Int} {f : F} (h : forceO (fileOf c n) = some f) : f ∈ c := by
  unfold forceO at h
  split at h
  · cases h
  · split at h
    · rename_i g hg
      cases h
      exact (List.mem_filter.1 (List.mem_of_head? hg)).1
    · exact (List.mem_filter.1 (List.mem_of_head? h)).1
theorem allO_mem {c : List F} {f : F} (h : f ∈ allO c) : f ∈ c := by
  obtain ⟨n, _, hn⟩ := List.mem_filterMap.1 h
  exact force_mem hn
theorem repO_mem {c : List F} {f : F} (h : f ∈ repO c) : f ∈ c := by
  obtain ⟨n, _, hn⟩ := List.mem_filterMap.1 h
  exact (List.mem_filter.1 (List.mem_of_head? hn)).1
theorem allO_len (c : List F) : (allO c).length ≤ c.length := Nat.le_trans (List.length_filterMap_le _ _) (casesL_len c)
theorem repO_len (c : List F) : (repO c).length ≤ c.length := Nat.le_trans (List.length_filterMap_le _ _) (casesL_len c)
theorem voidL_len {c : List F} (hv : ∀ f ∈ c, vOk f) (hl : c.length ≤ 20) : (voidL c).length ≤ 800 ∧ ∀ f ∈ voidL c, f ∈ c := by
  obtain ⟨_, h2, h3⟩ := setF_canon (l := extN c (casesL c)) fun f hf => hv f (extN_in hf)
  refine ⟨?_, fun f hf => extN_in ((h2 f).1 hf)⟩
  have h4 := extN_len c (casesL c)
  have h5 := Nat.mul_le_mul (Nat.le_trans (casesL_len c) hl) (Nat.mul_le_mul_left 2 hl)
  rw [voidL]
  omega
set_option maxRecDepth 10000 in
set_option maxHeartbeats 4000000 in
theorem law_set (l : List F) (b : Int) (hlen : l.length ≤ 1000000000000) (hv : ∀ f ∈ l, fOk f) (hb : 0 ≤ b ∧ b ≤ 255) : Fn0 Tryd.prog 3 [slF l, .v (.int .u8 b)] (.v (.bool true)) := by
  refine Fun.of_wp (pn := noPn) Tryd.tab Tryd.func3 rfl fun β0 => ?_
  simp only [Tryd.f3]
  repeat (first | refine WP.seq ?_ | refine WP.block ?_ | (refine WP.region Tryd.tab ?_; simp -dsimp) | (refine WP.draw Tryd.tab Tryd.mixed ?_; simp -dsimp) | refine And.intro (by first | rfl | omega | decide | (simp; done) | (simp; omega) | (intro _ h; exact fcs_side h; done) | (intros; simp_all; done) | (intros; simp_all; omega)) ?_)
  refine vcStop.call0 Tryd.body8 sane_ok rfl rfl (by simp) ?_
  simp -dsimp
  repeat (first | refine WP.seq ?_ | refine WP.block ?_ | (refine WP.region Tryd.tab ?_; simp -dsimp) | (refine WP.draw Tryd.tab Tryd.mixed ?_; simp -dsimp) | refine And.intro (by first | rfl | omega | decide | (simp; done) | (simp; omega) | (intro _ h; exact fcs_side h; done) | (intros; simp_all; done) | (intros; simp_all; omega)) ?_)
  refine WP.cond (b := false) (by simp) (fun h => by cases h) (fun _ => ?_)
  refine WP.skip ?_
  simp -dsimp
  repeat (first | refine WP.seq ?_ | refine WP.block ?_ | (refine WP.region Tryd.tab ?_; simp -dsimp) | (refine WP.draw Tryd.tab Tryd.mixed ?_; simp -dsimp) | refine And.intro (by first | rfl | omega | decide | (simp; done) | (simp; omega) | (intro _ h; exact fcs_side h; done) | (intros; simp_all; done) | (intros; simp_all; omega)) ?_)
  refine WP.cond (b := decide (16 < l.length ∨ l.length = 0)) (by simp; exact or16 _) (fun hk => ?_) (fun hk => ?_)
  · repeat (first | refine WP.seq ?_ | refine WP.block ?_ | (refine WP.region Tryd.tab ?_; simp -dsimp) | (refine WP.draw Tryd.tab Tryd.mixed ?_; simp -dsimp) | refine And.intro (by first | rfl | omega | decide | (simp; done) | (simp; omega) | (intro _ h; exact fcs_side h; done) | (intros; simp_all; done) | (intros; simp_all; omega)) ?_)
    refine WP.ret (finQ.retE ?_)
    simp -dsimp
  · have hk := of_decide_eq_false hk
    have hl16 : l.length ≤ 16 := by omega
    have hl0 : 0 < l.length := by omega
    obtain ⟨k, e1, hkl⟩ : ∃ k : Nat, (IntKind.i64.wrap b).tmod (l.length : Int) = (k : Nat) ∧ k < l.length := by
      rw [IntWalk.i64_in _ (by omega)]
      refine ⟨(b.tmod l.length).toNat, ?_, ?_⟩
      · rw [Int.toNat_of_nonneg (Int.tmod_nonneg _ hb.1)]
      · have := Int.tmod_lt_of_pos b (show (0 : Int) < l.length by omega)
        have := Int.tmod_nonneg (l.length : Int) hb.1
        omega
    have e2 : ((l.length : Int) - (k : Nat)).toNat = l.length - k := by omega
    have e3 : List.take ((l.length - k) * 57) (List.drop (k * 57) (fsC l)) = fsC (l.drop k) := by
      rw [fsC_dropL]
      exact List.take_of_length_le (by rw [fsC_len, List.length_drop]; exact Nat.le_refl _)
    have e4 := fsC_takeL l k
    have e5 : min ((l.length - k) * 57) ((fsC l).length - k * 57) = (l.length - k) * 57 := by rw [fsC_len]; omega
    have e6 : min (k * 57) (fsC l).length = k * 57 := by rw [fsC_len]; omega
    have h1 := fsC_at hkl
    refine WP.skip ?_
    simp -dsimp
    have e7 : (fsC (l.drop k)).length = (l.length - k) * 57 := by rw [fsC_len, List.length_drop]
    have e8 : (fsC (l.take k)).length = k * 57 := by rw [fsC_len, List.length_take, Nat.min_eq_left (by omega)]
    repeat (first | refine WP.seq ?_ | refine WP.block ?_ | (refine WP.region Tryd.tab ?_; simp -dsimp [e1, e2, e3, e4, e5, e6, e7, e8, h1]) | (refine WP.draw Tryd.tab Tryd.mixed ?_; simp -dsimp [e1, e2, e3, e4, e5, e6, e7, e8, h1]) | refine And.intro (by first | rfl | omega | decide | (simp; done) | (simp; omega) | (intro _ h; exact fcs_side h; done) | (intros; simp_all; done) | (intros; simp_all; omega)) ?_)
    have hRv : ∀ f ∈ rotL l k, fOk f := fun f hf => hv f ((rot_mem hkl f).1 hf)
    have hRm := fun f => rot_mem hkl f
    have hRl := rot_len hkl
    have hRc : (fsC (l.drop k)).map AV.d ++ ((fsC (l.take k)).map AV.d ++ (fcs (fat l k) 0 57).map .d) = (fsC (rotL l k)).map .d := by
      rw [rotL, fsC_append, fsC_append, List.map_append, List.map_append, List.append_assoc]
      simp [fsC]
    have hn : l.length - k + k + 1 = (rotL l k).length := by rw [hRl]; omega
    generalize rotL l k = R at hRv hRm hRl hRc hn
    clear e1 e2 e3 e4 e5 e6 e7 e8 h1
    refine WP.loopWk (fun m S => ∃ R1 R2, R = R1 ++ R2 ∧ m = R2.length ∧ S = tS l R R1.length (vld R1)) R.length (S0 := tS l R 0 []) (Wk.trans (Wk.lessE [37] (S' := mkS 71 [(0, .d (slF l)), (6, .d nilD), (38, .row 38), (39, .d (.v (.int .i64 R.length))), (40, .d (.v (.int .i64 0)))] [(38, rB R)]) (by simp [← hn]) (by simp [hRc, hn])) (Wk.trans (Wk.freeze (k := 38) (T := 49) (sz := 57) (n := R.length) (ds := fsC R) (by simp)) (Wk.lessE [] (by simp [tS]) (by simp [tS])))) ⟨[], R, rfl, rfl, rfl⟩ ?_
    clear hRc hn
    rintro _ _ ⟨R1, R2, hR12, rfl, rfl⟩
    cases R2 with
    | cons p R2 =>
      have hll : R.length = R1.length + (R2.length + 1) := by rw [hR12]; simp
      have e1 : IntKind.i64.wrap ((R1.length : Int) + 1) = (R1.length : Int) + 1 := IntWalk.i64_in _ (by omega)
      have hil : R1.length < R.length := by omega
      have h1 := fsC_at hil
      have hfat : fat R R1.length = p := by rw [fat, getD_at hil, List.getElem_of_eq hR12]; simp
      rw [hfat] at h1
      have hc := check_ok p (hRv p (by rw [hR12]; simp))
      have hn : vld (R1 ++ [p]) = vld R1 ++ if (numF p).2 = true then [p] else [] := by
        rw [vld, List.filter_append]; congr 1
        simp only [List.filter_cons, List.filter_nil]
      have hvl : (vld R1).length ≤ R1.length := List.length_filter_le _ _
      cases hvf : vld R1 with
      | nil =>
        rw [tS]
        simp -dsimp
        repeat (first | refine WP.seq ?_ | refine WP.block ?_ | (refine WP.region Tryd.tab ?_; simp -dsimp) | (refine WP.draw Tryd.tab Tryd.mixed ?_; simp -dsimp) | refine And.intro (by first | rfl | omega | decide | (simp; done) | (simp; omega) | (intro _ h; exact fcs_side h; done) | (intros; simp_all; done) | (intros; simp_all; omega)) ?_)
        refine WP.cond (b := true) (by simp; omega) (fun _ => ?_) (fun h => by cases h)
        refine WP.skip ?_
        simp -dsimp
        refine WP.seq (WP.block ?_)
        repeat (first | refine WP.seq ?_ | refine WP.block ?_ | (refine WP.region Tryd.tab ?_; simp -dsimp [h1]) | (refine WP.draw Tryd.tab Tryd.mixed ?_; simp -dsimp [h1]) | refine And.intro (by first | rfl | omega | decide | (simp; done) | (simp; omega) | (intro _ h; exact fcs_side h; done) | (intros; simp_all; done) | (intros; simp_all; omega)) ?_)
        refine vcStop.call0 Tryd.body9 hc rfl rfl (by simp [fD]) ?_
        simp -dsimp
        repeat (first | refine WP.seq ?_ | refine WP.block ?_ | (refine WP.region Tryd.tab ?_; simp -dsimp) | (refine WP.draw Tryd.tab Tryd.mixed ?_; simp -dsimp) | refine And.intro (by first | rfl | omega | decide | (simp; done) | (simp; omega) | (intro _ h; exact fcs_side h; done) | (intros; simp_all; done) | (intros; simp_all; omega)) ?_)
        refine WP.cond (b := (numF p).2) (by cases (numF p).2 <;> simp) (fun hq => ?_) (fun hq => ?_)
        · rw [if_pos hq, hvf] at hn
          repeat (first | refine WP.seq ?_ | refine WP.block ?_ | (refine WP.region Tryd.tab ?_; simp -dsimp) | (refine WP.draw Tryd.tab Tryd.mixed ?_; simp -dsimp) | refine And.intro (by first | rfl | omega | decide | (simp; done) | (simp; omega) | (intro _ h; exact fcs_side h; done) | (intros; simp_all; done) | (intros; simp_all; omega)) ?_)
          refine loopW.next (tS l R (R1 ++ [p]).length ([] ++ [p])) (Wk.go [8, 49] 50 506 (by decide) (by simp [tS]) (by simp [tS, e1]) (by simp [tS, fsC])) R2.length (by simp) ⟨R1 ++ [p], R2, by simp [hR12], rfl, by rw [hn]⟩
        · rw [if_neg (by simp [hq]), List.append_nil, hvf] at hn
          refine WP.skip ?_
          simp -dsimp
          repeat (first | refine WP.seq ?_ | refine WP.block ?_ | (refine WP.region Tryd.tab ?_; simp -dsimp) | (refine WP.draw Tryd.tab Tryd.mixed ?_; simp -dsimp) | refine And.intro (by first | rfl | omega | decide | (simp; done) | (simp; omega) | (intro _ h; exact fcs_side h; done) | (intros; simp_all; done) | (intros; simp_all; omega)) ?_)
          refine loopW.next (tS l R (R1 ++ [p]).length ([])) (Wk.lessE [8] (by simp [tS, e1]) (by simp [tS])) R2.length (by simp) ⟨R1 ++ [p], R2, by simp [hR12], rfl, by rw [hn]⟩
      | cons f r =>
        have hrl : r.length + 1 ≤ 17 := by rw [hvf] at hvl; simp at hvl; omega
        rw [tS]
        simp -dsimp
        repeat (first | refine WP.seq ?_ | refine WP.block ?_ | (refine WP.region Tryd.tab ?_; simp -dsimp) | (refine WP.draw Tryd.tab Tryd.mixed ?_; simp -dsimp) | refine And.intro (by first | rfl | omega | decide | (simp; done) | (simp; omega) | (intro _ h; exact fcs_side h; done) | (intros; simp_all; done) | (intros; simp_all; omega)) ?_)
        refine WP.cond (b := true) (by simp; omega) (fun _ => ?_) (fun h => by cases h)
        refine WP.skip ?_
        simp -dsimp
        refine WP.seq (WP.block ?_)
        repeat (first | refine WP.seq ?_ | refine WP.block ?_ | (refine WP.region Tryd.tab ?_; simp -dsimp [h1]) | (refine WP.draw Tryd.tab Tryd.mixed ?_; simp -dsimp [h1]) | refine And.intro (by first | rfl | omega | decide | (simp; done) | (simp; omega) | (intro _ h; exact fcs_side h; done) | (intros; simp_all; done) | (intros; simp_all; omega)) ?_)
        refine vcStop.call0 Tryd.body9 hc rfl rfl (by simp [fD]) ?_
        simp -dsimp
        repeat (first | refine WP.seq ?_ | refine WP.block ?_ | (refine WP.region Tryd.tab ?_; simp -dsimp) | (refine WP.draw Tryd.tab Tryd.mixed ?_; simp -dsimp) | refine And.intro (by first | rfl | omega | decide | (simp; done) | (simp; omega) | (intro _ h; exact fcs_side h; done) | (intros; simp_all; done) | (intros; simp_all; omega)) ?_)
        refine WP.cond (b := (numF p).2) (by cases (numF p).2 <;> simp) (fun hq => ?_) (fun hq => ?_)
        · rw [if_pos hq, hvf] at hn
          repeat (first | refine WP.seq ?_ | refine WP.block ?_ | (refine WP.region Tryd.tab ?_; simp -dsimp) | (refine WP.draw Tryd.tab Tryd.mixed ?_; simp -dsimp) | refine And.intro (by first | rfl | omega | decide | (simp; done) | (simp; omega) | (intro _ h; exact fcs_side h; done) | (intros; simp_all; done) | (intros; simp_all; omega)) ?_)
          refine loopW.next (tS l R (R1 ++ [p]).length (f :: r ++ [p])) (Wk.go [8, 49, 506] 50 506 (by decide) (by simp [tS]) (by simp [tS, e1]) (by simp [tS]; exact snocA f r p)) R2.length (by simp) ⟨R1 ++ [p], R2, by simp [hR12], rfl, by rw [hn]⟩
        · rw [if_neg (by simp [hq]), List.append_nil, hvf] at hn
          refine WP.skip ?_
          simp -dsimp
          repeat (first | refine WP.seq ?_ | refine WP.block ?_ | (refine WP.region Tryd.tab ?_; simp -dsimp) | (refine WP.draw Tryd.tab Tryd.mixed ?_; simp -dsimp) | refine And.intro (by first | rfl | omega | decide | (simp; done) | (simp; omega) | (intro _ h; exact fcs_side h; done) | (intros; simp_all; done) | (intros; simp_all; omega)) ?_)
          refine loopW.next (tS l R (R1 ++ [p]).length (f :: r)) (Wk.lessE [8] (by simp [tS, e1]) (by simp [tS])) R2.length (by simp) ⟨R1 ++ [p], R2, by simp [hR12], rfl, by rw [hn]⟩
    | nil =>
      simp only [List.append_nil] at hR12
      subst hR12
      have hvR : ∀ f ∈ vld R, fOk f := fun f hf => hRv f (List.mem_filter.1 hf).1
      have hvl : (vld R).length ≤ 17 := by
        have : (vld R).length ≤ R.length := List.length_filter_le _ _
        omega
      have hcan : canF (vld R) = canF l := canF_same hvR hv fun f hf => by
        rw [vld_mem, hRm]
        exact ⟨fun h => h.1, fun h => ⟨h, hf⟩⟩
      have a1 := all_ok l (by omega) hv
      have a2 := all_ok (vld R) (by omega) hvR
      have b1 := void_ok l (by omega) hv
      have b2 := void_ok (vld R) (by omega) hvR
      have c1 := reports_ok l (by omega) hv
      have c2 := reports_ok (vld R) (by omega) hvR
      rw [hcan] at a2 b2 c2
      have hcv := canF_vOk hv
      have hcl := Nat.le_trans (canF_len hv) hl16
      have hvo := voidL_len hcv (by omega)
      have a3 := same43_ok (allO (canF l)) (Nat.le_trans (allO_len _) (by omega)) (fun f hf => (hcv f (allO_mem hf)).1)
      have b3 := same47_ok (voidL (canF l)) (by omega) (fun f hf => (hcv f (hvo.2 f hf)).1)
      have c3 := same39_ok (repO (canF l)) (Nat.le_trans (repO_len _) (by omega)) (fun f hf => (hcv f (repO_mem hf)).1)
      generalize allO (canF l) = AO at a1 a2 a3
      generalize voidL (canF l) = VO at b1 b2 b3
      generalize repO (canF l) = RO at c1 c2 c3
      cases hvf : vld R with
      | nil =>
        rw [hvf] at a2 b2 c2
        rw [tS]
        simp -dsimp
        repeat (first | refine WP.seq ?_ | refine WP.block ?_ | (refine WP.region Tryd.tab ?_; simp -dsimp) | (refine WP.draw Tryd.tab Tryd.mixed ?_; simp -dsimp) | refine And.intro (by first | rfl | omega | decide | (simp; done) | (simp; omega) | (intro _ h; exact fcs_side h; done) | (intros; simp_all; done) | (intros; simp_all; omega)) ?_)
        refine WP.cond (b := false) (by simp) (fun h => by cases h) (fun _ => ?_)
        refine WP.exit ?_
        simp -dsimp
        refine WP.weak (Wk.trans (Wk.lessE [] (S' := mkS 71 [(0, .d (slF l)), (6, .d nilD)] []) (by simp) (by simp)) (Wk.trans (Wk.nilSlot 6 602 49 57 (by simp) (by simp)) (Wk.trans (Wk.freeze (k := 602) (T := 49) (sz := 57) (n := 0) (ds := []) (by simp)) (Wk.lessE [] (S' := mkS 71 [(0, .d (slF l)), (6, .d (slF []))] []) (by simp [fsC0]) (by simp))))) ?_
        repeat (first | refine WP.seq ?_ | refine WP.block ?_ | (refine WP.region Tryd.tab ?_; simp -dsimp) | (refine WP.draw Tryd.tab Tryd.mixed ?_; simp -dsimp) | refine And.intro (by first | rfl | omega | decide | (simp; done) | (simp; omega) | (intro _ h; exact fcs_side h; done) | (intros; simp_all; done) | (intros; simp_all; omega)) ?_)
        refine vcStop.call0 Tryd.body11 a1 rfl rfl (by simp) ?_
        simp -dsimp
        repeat (first | refine WP.seq ?_ | refine WP.block ?_ | (refine WP.region Tryd.tab ?_; simp -dsimp) | (refine WP.draw Tryd.tab Tryd.mixed ?_; simp -dsimp) | refine And.intro (by first | rfl | omega | decide | (simp; done) | (simp; omega) | (intro _ h; exact fcs_side h; done) | (intros; simp_all; done) | (intros; simp_all; omega)) ?_)
        refine vcStop.call0 Tryd.body11 a2 rfl rfl (by simp) ?_
        simp -dsimp
        repeat (first | refine WP.seq ?_ | refine WP.block ?_ | (refine WP.region Tryd.tab ?_; simp -dsimp) | (refine WP.draw Tryd.tab Tryd.mixed ?_; simp -dsimp) | refine And.intro (by first | rfl | omega | decide | (simp; done) | (simp; omega) | (intro _ h; exact fcs_side h; done) | (intros; simp_all; done) | (intros; simp_all; omega)) ?_)
        refine vcStop.call0 Tryd.body10 a3 rfl rfl (by simp) ?_
        simp -dsimp
        repeat (first | refine WP.seq ?_ | refine WP.block ?_ | (refine WP.region Tryd.tab ?_; simp -dsimp) | (refine WP.draw Tryd.tab Tryd.mixed ?_; simp -dsimp) | refine And.intro (by first | rfl | omega | decide | (simp; done) | (simp; omega) | (intro _ h; exact fcs_side h; done) | (intros; simp_all; done) | (intros; simp_all; omega)) ?_)
        refine vcStopG.call0 Tryd.body13 (fun _ => b1) rfl (fun _ => rfl) (fun hg => by simp) ?_
        simp -dsimp
        repeat (first | refine WP.seq ?_ | refine WP.block ?_ | (refine WP.region Tryd.tab ?_; simp -dsimp) | (refine WP.draw Tryd.tab Tryd.mixed ?_; simp -dsimp) | refine And.intro (by first | rfl | omega | decide | (simp; done) | (simp; omega) | (intro _ h; exact fcs_side h; done) | (intros; simp_all; done) | (intros; simp_all; omega)) ?_)
        refine vcStopG.call0 Tryd.body13 (fun _ => b2) rfl (fun _ => rfl) (fun hg => by simp) ?_
        simp -dsimp
        repeat (first | refine WP.seq ?_ | refine WP.block ?_ | (refine WP.region Tryd.tab ?_; simp -dsimp) | (refine WP.draw Tryd.tab Tryd.mixed ?_; simp -dsimp) | refine And.intro (by first | rfl | omega | decide | (simp; done) | (simp; omega) | (intro _ h; exact fcs_side h; done) | (intros; simp_all; done) | (intros; simp_all; omega)) ?_)
        refine vcStopG.call0 Tryd.body12 (fun _ => b3) rfl (fun _ => rfl) (fun hg => by simp) ?_
        simp -dsimp
        repeat (first | refine WP.seq ?_ | refine WP.block ?_ | (refine WP.region Tryd.tab ?_; simp -dsimp) | (refine WP.draw Tryd.tab Tryd.mixed ?_; simp -dsimp) | refine And.intro (by first | rfl | omega | decide | (simp; done) | (simp; omega) | (intro _ h; exact fcs_side h; done) | (intros; simp_all; done) | (intros; simp_all; omega)) ?_)
        refine vcStopG.call0 Tryd.body15 (fun _ => c1) rfl (fun _ => rfl) (fun hg => by simp) ?_
        simp -dsimp
        repeat (first | refine WP.seq ?_ | refine WP.block ?_ | (refine WP.region Tryd.tab ?_; simp -dsimp) | (refine WP.draw Tryd.tab Tryd.mixed ?_; simp -dsimp) | refine And.intro (by first | rfl | omega | decide | (simp; done) | (simp; omega) | (intro _ h; exact fcs_side h; done) | (intros; simp_all; done) | (intros; simp_all; omega)) ?_)
        refine vcStopG.call0 Tryd.body15 (fun _ => c2) rfl (fun _ => rfl) (fun hg => by simp) ?_
        simp -dsimp
        repeat (first | refine WP.seq ?_ | refine WP.block ?_ | (refine WP.region Tryd.tab ?_; simp -dsimp) | (refine WP.draw Tryd.tab Tryd.mixed ?_; simp -dsimp) | refine And.intro (by first | rfl | omega | decide | (simp; done) | (simp; omega) | (intro _ h; exact fcs_side h; done) | (intros; simp_all; done) | (intros; simp_all; omega)) ?_)
        refine vcStopG.call0 Tryd.body14 (fun _ => c3) rfl (fun _ => rfl) (fun hg => by simp) ?_
        simp -dsimp
        repeat (first | refine WP.seq ?_ | refine WP.block ?_ | (refine WP.region Tryd.tab ?_; simp -dsimp) | (refine WP.draw Tryd.tab Tryd.mixed ?_; simp -dsimp) | refine And.intro (by first | rfl | omega | decide | (simp; done) | (simp; omega) | (intro _ h; exact fcs_side h; done) | (intros; simp_all; done) | (intros; simp_all; omega)) ?_)
        refine WP.ret (finQ.retE ?_)
        simp -dsimp
      | cons f r =>
        rw [hvf] at a2 b2 c2
        rw [tS]
        simp -dsimp
        repeat (first | refine WP.seq ?_ | refine WP.block ?_ | (refine WP.region Tryd.tab ?_; simp -dsimp) | (refine WP.draw Tryd.tab Tryd.mixed ?_; simp -dsimp) | refine And.intro (by first | rfl | omega | decide | (simp; done) | (simp; omega) | (intro _ h; exact fcs_side h; done) | (intros; simp_all; done) | (intros; simp_all; omega)) ?_)
        refine WP.cond (b := false) (by simp) (fun h => by cases h) (fun _ => ?_)
        refine WP.exit ?_
        simp -dsimp
        refine WP.weak (Wk.trans (Wk.lessE [] (S' := mkS 71 [(0, .d (slF l)), (6, .row 506)] [(506, rB (f :: r))]) (by simp) (by simp)) (Wk.trans (Wk.freeze (k := 506) (T := 49) (sz := 57) (n := (f :: r).length) (ds := fsC (f :: r)) (by simp)) (Wk.lessE [] (S' := mkS 71 [(0, .d (slF l)), (6, .d (slF (f :: r)))] []) (by simp) (by simp)))) ?_
        generalize f :: r = T at a2 b2 c2
        repeat (first | refine WP.seq ?_ | refine WP.block ?_ | (refine WP.region Tryd.tab ?_; simp -dsimp) | (refine WP.draw Tryd.tab Tryd.mixed ?_; simp -dsimp) | refine And.intro (by first | rfl | omega | decide | (simp; done) | (simp; omega) | (intro _ h; exact fcs_side h; done) | (intros; simp_all; done) | (intros; simp_all; omega)) ?_)
        refine vcStop.call0 Tryd.body11 a1 rfl rfl (by simp) ?_
        simp -dsimp
        repeat (first | refine WP.seq ?_ | refine WP.block ?_ | (refine WP.region Tryd.tab ?_; simp -dsimp) | (refine WP.draw Tryd.tab Tryd.mixed ?_; simp -dsimp) | refine And.intro (by first | rfl | omega | decide | (simp; done) | (simp; omega) | (intro _ h; exact fcs_side h; done) | (intros; simp_all; done) | (intros; simp_all; omega)) ?_)
        refine vcStop.call0 Tryd.body11 a2 rfl rfl (by simp) ?_
        simp -dsimp
        repeat (first | refine WP.seq ?_ | refine WP.block ?_ | (refine WP.region Tryd.tab ?_; simp -dsimp) | (refine WP.draw Tryd.tab Tryd.mixed ?_; simp -dsimp) | refine And.intro (by first | rfl | omega | decide | (simp; done) | (simp; omega) | (intro _ h; exact fcs_side h; done) | (intros; simp_all; done) | (intros; simp_all; omega)) ?_)
        refine vcStop.call0 Tryd.body10 a3 rfl rfl (by simp) ?_
        simp -dsimp
        repeat (first | refine WP.seq ?_ | refine WP.block ?_ | (refine WP.region Tryd.tab ?_; simp -dsimp) | (refine WP.draw Tryd.tab Tryd.mixed ?_; simp -dsimp) | refine And.intro (by first | rfl | omega | decide | (simp; done) | (simp; omega) | (intro _ h; exact fcs_side h; done) | (intros; simp_all; done) | (intros; simp_all; omega)) ?_)
        refine vcStopG.call0 Tryd.body13 (fun _ => b1) rfl (fun _ => rfl) (fun hg => by simp) ?_
        simp -dsimp
        repeat (first | refine WP.seq ?_ | refine WP.block ?_ | (refine WP.region Tryd.tab ?_; simp -dsimp) | (refine WP.draw Tryd.tab Tryd.mixed ?_; simp -dsimp) | refine And.intro (by first | rfl | omega | decide | (simp; done) | (simp; omega) | (intro _ h; exact fcs_side h; done) | (intros; simp_all; done) | (intros; simp_all; omega)) ?_)
        refine vcStopG.call0 Tryd.body13 (fun _ => b2) rfl (fun _ => rfl) (fun hg => by simp) ?_
        simp -dsimp
        repeat (first | refine WP.seq ?_ | refine WP.block ?_ | (refine WP.region Tryd.tab ?_; simp -dsimp) | (refine WP.draw Tryd.tab Tryd.mixed ?_; simp -dsimp) | refine And.intro (by first | rfl | omega | decide | (simp; done) | (simp; omega) | (intro _ h; exact fcs_side h; done) | (intros; simp_all; done) | (intros; simp_all; omega)) ?_)
        refine vcStopG.call0 Tryd.body12 (fun _ => b3) rfl (fun _ => rfl) (fun hg => by simp) ?_
        simp -dsimp
        repeat (first | refine WP.seq ?_ | refine WP.block ?_ | (refine WP.region Tryd.tab ?_; simp -dsimp) | (refine WP.draw Tryd.tab Tryd.mixed ?_; simp -dsimp) | refine And.intro (by first | rfl | omega | decide | (simp; done) | (simp; omega) | (intro _ h; exact fcs_side h; done) | (intros; simp_all; done) | (intros; simp_all; omega)) ?_)
        refine vcStopG.call0 Tryd.body15 (fun _ => c1) rfl (fun _ => rfl) (fun hg => by simp) ?_
        simp -dsimp
        repeat (first | refine WP.seq ?_ | refine WP.block ?_ | (refine WP.region Tryd.tab ?_; simp -dsimp) | (refine WP.draw Tryd.tab Tryd.mixed ?_; simp -dsimp) | refine And.intro (by first | rfl | omega | decide | (simp; done) | (simp; omega) | (intro _ h; exact fcs_side h; done) | (intros; simp_all; done) | (intros; simp_all; omega)) ?_)
        refine vcStopG.call0 Tryd.body15 (fun _ => c2) rfl (fun _ => rfl) (fun hg => by simp) ?_
        simp -dsimp
        repeat (first | refine WP.seq ?_ | refine WP.block ?_ | (refine WP.region Tryd.tab ?_; simp -dsimp) | (refine WP.draw Tryd.tab Tryd.mixed ?_; simp -dsimp) | refine And.intro (by first | rfl | omega | decide | (simp; done) | (simp; omega) | (intro _ h; exact fcs_side h; done) | (intros; simp_all; done) | (intros; simp_all; omega)) ?_)
        refine vcStopG.call0 Tryd.body14 (fun _ => c3) rfl (fun _ => rfl) (fun hg => by simp) ?_
        simp -dsimp
        repeat (first | refine WP.seq ?_ | refine WP.block ?_ | (refine WP.region Tryd.tab ?_; simp -dsimp) | (refine WP.draw Tryd.tab Tryd.mixed ?_; simp -dsimp) | refine And.intro (by first | rfl | omega | decide | (simp; done) | (simp; omega) | (intro _ h; exact fcs_side h; done) | (intros; simp_all; done) | (intros; simp_all; omega)) ?_)
        refine WP.ret (finQ.retE ?_)
        simp -dsimp
end Go.Proofs.YtjjaabidbeoomaaDoor
