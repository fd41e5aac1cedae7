/-
  RulingsVoid: the void rulings say nothing.
-/
import Derived.Test.YtjjaabidbeoomaaDoorKQx
set_option linter.unusedSectionVars false
set_option linter.unusedSimpArgs false
set_option linter.unusedVariables false
namespace Go.Proofs.YtjjaabidbeoomaaDoor
open Go.Xe Go.RowKit

def keepP (V : List F) (f : F) : Bool := !(V.any fun g => decide (refO g = refO f))
abbrev Dist (l : List F) : Prop := l.Pairwise fun a b => refO a ≠ refO b
theorem dist_inj : ∀ {l : List F}, Dist l → ∀ {a b : F}, a ∈ l → b ∈ l → refO a = refO b → a = b
  | [], _, _, _, h, _, _ => by cases h
  | x :: l, hd, a, b, ha, hb, e => by
    obtain ⟨h1, h2⟩ := List.pairwise_cons.1 hd
    rcases List.mem_cons.1 ha with rfl | ha'
    · rcases List.mem_cons.1 hb with rfl | hb'
      · rfl
      · exact absurd e (h1 b hb')
    · rcases List.mem_cons.1 hb with rfl | hb'
      · exact absurd e.symm (h1 a ha')
      · exact dist_inj h2 ha' hb' e
theorem dist_nodup {l : List F} (h : Dist l) : l.Nodup := h.imp fun {a b} hn e => hn (by rw [e])
theorem flen (p : F → Bool) : ∀ l : List F, (l.filter p).length + (l.filter fun f => !p f).length = l.length
  | [] => rfl
  | f :: l => by
    have := flen p l
    cases h : p f <;> simp [h] <;> omega
theorem keep_plain {l : List F} (hv : ∀ f ∈ l, fOk f) (hd : Dist l) (hl : l.length ≤ 16) :
    canF (l.filter (keepP (voidL (canF l)))) = (canF l).filter (keepP (voidL (canF l))) ∧ (∀ f ∈ canF l, keepP (voidL (canF l)) f = true ↔ f ∉ voidL (canF l)) ∧
      (l.filter (keepP (voidL (canF l)))).length + (voidL (canF l)).length = l.length := by
  have hcan := canF_ok hv
  have hcv := canF_vOk hv
  have hcl := Nat.le_trans (canF_len hv) hl
  obtain ⟨_, hVc⟩ := voidL_len hcv (by omega)
  have hVa : Asc (voidL (canF l)) := (setF_canon (l := extN (canF l) (casesL (canF l))) fun f hf => hcv f (extN_in hf)).1
  generalize voidL (canF l) = V at hVc hVa
  have hcin : ∀ f ∈ canF l, f ∈ l := fun f hf => ((hcan.mem f).1 hf).1
  have hkeep : ∀ f ∈ l, keepP V f = true ↔ f ∉ V := fun f hf => by
    unfold keepP
    rw [Bool.not_eq_true', ← Bool.not_eq_true, List.any_eq_true]
    constructor
    · exact fun h hV => h ⟨f, hV, by simp⟩
    · rintro h ⟨g, hg, e⟩
      exact h (by rw [← dist_inj hd (hcin g (hVc g hg)) hf (of_decide_eq_true e)]; exact hg)
  refine ⟨canF_of (fun f hf => hv f (List.mem_filter.1 hf).1) ⟨asc_filter hcan.asc _, fun f => ?_⟩, fun f hf => hkeep f (hcin f hf), ?_⟩
  · rw [List.mem_filter, List.mem_filter, hcan.mem]
    exact ⟨fun ⟨⟨a, b⟩, c⟩ => ⟨⟨a, c⟩, b⟩, fun ⟨⟨a, c⟩, b⟩ => ⟨⟨a, b⟩, c⟩⟩
  · have h1 := flen (keepP V) l
    have h2 : V.Perm (l.filter fun f => !keepP V f) := by
      refine (List.perm_ext_iff_of_nodup (asc_nodup hVa) ((dist_nodup hd).filter _)).2 fun f => ?_
      rw [List.mem_filter]
      constructor
      · intro hf
        have hfl := hcin f (hVc f hf)
        refine ⟨hfl, ?_⟩
        cases hk : keepP V f with
        | false => rfl
        | true => exact absurd hf ((hkeep f hfl).1 hk)
      · rintro ⟨hfl, hk⟩
        refine Classical.byContradiction fun hn => ?_
        rw [(hkeep f hfl).2 hn] at hk
        cases hk
    rw [h2.length_eq]
    exact h1
def resS (l V E : List F) (i : Nat) : St :=
  mkS 108 [(0, .d (slF l)), (7, .d (.sl 2 (prt 0 2 V) V.length false)), (8, .row 508), (50, .d (slF l)), (51, .d (.v (.int .i64 l.length))), (52, .d (.v (.int .i64 (i : Nat))))] [(508, rB E)]
set_option maxRecDepth 10000 in
set_option maxHeartbeats 4000000 in
theorem law_void (l : List F) (hlen : l.length ≤ 1000000000000) (hv : ∀ f ∈ l, fOk f) : Fn0 Tryd.prog 5 [slF l] (.v (.bool true)) := by
  refine Fun.of_wp (pn := noPn) Tryd.tab Tryd.func5 rfl fun β0 => ?_
  simp only [Tryd.f5]
  repeat (first | refine WP.seq ?_ | refine WP.block ?_ | (refine WP.region Tryd.tab ?_; simp -dsimp) | (refine WP.draw Tryd.tab Tryd.mixed ?_; simp -dsimp) | refine And.intro (by first | rfl | omega | decide | (simp; done) | (simp; omega) | (intro _ h; exact fcs_side h; done) | (intros; simp_all; done) | (intros; simp_all; omega)) ?_)
  refine vcStop.call0 Tryd.body8 sane_ok rfl rfl (by simp) ?_
  simp -dsimp
  repeat (first | refine WP.seq ?_ | refine WP.block ?_ | (refine WP.region Tryd.tab ?_; simp -dsimp) | (refine WP.draw Tryd.tab Tryd.mixed ?_; simp -dsimp) | refine And.intro (by first | rfl | omega | decide | (simp; done) | (simp; omega) | (intro _ h; exact fcs_side h; done) | (intros; simp_all; done) | (intros; simp_all; omega)) ?_)
  refine WP.cond (b := false) (by simp) (fun h => by cases h) (fun _ => ?_)
  refine WP.skip ?_
  simp -dsimp
  repeat (first | refine WP.seq ?_ | refine WP.block ?_ | (refine WP.region Tryd.tab ?_; simp -dsimp) | (refine WP.draw Tryd.tab Tryd.mixed ?_; simp -dsimp) | refine And.intro (by first | rfl | omega | decide | (simp; done) | (simp; omega) | (intro _ h; exact fcs_side h; done) | (intros; simp_all; done) | (intros; simp_all; omega)) ?_)
  refine WP.cond (b := decide (16 < l.length)) (by simp; omega) (fun hk => ?_) (fun hk => ?_)
  · repeat (first | refine WP.seq ?_ | refine WP.block ?_ | (refine WP.region Tryd.tab ?_; simp -dsimp) | (refine WP.draw Tryd.tab Tryd.mixed ?_; simp -dsimp) | refine And.intro (by first | rfl | omega | decide | (simp; done) | (simp; omega) | (intro _ h; exact fcs_side h; done) | (intros; simp_all; done) | (intros; simp_all; omega)) ?_)
    refine WP.ret (finQ.retE ?_)
    simp -dsimp
  have hk := of_decide_eq_false hk
  have hl16 : l.length ≤ 16 := by omega
  refine WP.skip ?_
  simp -dsimp
  repeat (first | refine WP.seq ?_ | refine WP.block ?_ | (refine WP.region Tryd.tab ?_; simp -dsimp) | (refine WP.draw Tryd.tab Tryd.mixed ?_; simp -dsimp) | refine And.intro (by first | rfl | omega | decide | (simp; done) | (simp; omega) | (intro _ h; exact fcs_side h; done) | (intros; simp_all; done) | (intros; simp_all; omega)) ?_)
  refine WP.loopWk (fun m S => ∃ i, i + m = l.length ∧ Dist (l.take i) ∧ S = mkS 108 [(0, .d (slF l)), (19, .d (slF l)), (20, .d (.v (.int .i64 l.length))), (21, .d (.v (.int .i64 (i : Nat))))] []) l.length (S0 := mkS 108 [(0, .d (slF l)), (19, .d (slF l)), (20, .d (.v (.int .i64 l.length))), (21, .d (.v (.int .i64 0)))] []) (Wk.lessE [] (by simp) (by simp)) ⟨0, by omega, List.Pairwise.nil, rfl⟩ ?_
  rintro m _ ⟨i, him, hdi, rfl⟩
  simp -dsimp
  repeat (first | refine WP.seq ?_ | refine WP.block ?_ | (refine WP.region Tryd.tab ?_; simp -dsimp) | (refine WP.draw Tryd.tab Tryd.mixed ?_; simp -dsimp) | refine And.intro (by first | rfl | omega | decide | (simp; done) | (simp; omega) | (intro _ h; exact fcs_side h; done) | (intros; simp_all; done) | (intros; simp_all; omega)) ?_)
  by_cases hi : i < l.length
  · have h1 := fsC_at hi
    have htk := take_fat hi
    have e1 : IntKind.i64.wrap ((i : Int) + 1) = ((i + 1 : Nat) : Int) := by rw [IntWalk.i64_in _ (by omega)]; omega
    have e4 := fsC_takeL l i
    have e6 : min (i * 57) (fsC l).length = i * 57 := by rw [fsC_len]; omega
    have hlt : (l.take i).length = i := by rw [List.length_take]; omega
    generalize fat l i = f at h1 htk
    refine WP.cond (b := true) (by simp; omega) (fun _ => ?_) (fun h => by cases h)
    refine WP.skip ?_
    simp -dsimp
    refine WP.seq (WP.block ?_)
    repeat (first | refine WP.seq ?_ | refine WP.block ?_ | (refine WP.region Tryd.tab ?_; simp -dsimp [h1, e4, e6]) | (refine WP.draw Tryd.tab Tryd.mixed ?_; simp -dsimp [h1, e4, e6]) | refine And.intro (by first | rfl | omega | decide | (simp; done) | (simp; omega) | (intro _ h; exact fcs_side h; done) | (intros; simp_all; done) | (intros; simp_all; omega)) ?_)
    refine WP.weak (Wk.lessE [] (S' := dupS l (l.take i) f i 0) (by simp [dupS, hlt]) (by simp [dupS])) ?_
    refine dup_ok (by omega) (fun S' hw => finQ.retWE hw ?_) (fun hno S' hw => ?_)
    · simp -dsimp
    refine WP.weak hw ?_
    simp -dsimp
    repeat (first | refine WP.seq ?_ | refine WP.block ?_ | (refine WP.region Tryd.tab ?_; simp -dsimp) | (refine WP.draw Tryd.tab Tryd.mixed ?_; simp -dsimp) | refine And.intro (by first | rfl | omega | decide | (simp; done) | (simp; omega) | (intro _ h; exact fcs_side h; done) | (intros; simp_all; done) | (intros; simp_all; omega)) ?_)
    refine loopW.next (mkS 108 [(0, .d (slF l)), (19, .d (slF l)), (20, .d (.v (.int .i64 l.length))), (21, .d (.v (.int .i64 ((i + 1 : Nat) : Int))))] []) (Wk.lessE [] (by simp [e1]) (by simp)) (m - 1) (by omega) ⟨i + 1, by omega, ?_, rfl⟩
    rw [htk]
    exact List.pairwise_append.2 ⟨hdi, List.pairwise_singleton _ _, fun a ha b hb => by rw [List.mem_singleton] at hb; subst hb; exact fun e => hno a ha e.symm⟩
  have hil : i = l.length := by omega
  subst hil
  rw [List.take_length] at hdi
  have hcv := canF_vOk hv
  have hcl := Nat.le_trans (canF_len hv) hl16
  have hvo := voidL_len hcv (by omega)
  obtain ⟨k1, k2, k3⟩ := keep_plain hv hdi hl16
  have a1 := all_ok l (by omega) hv
  have b1 := void_ok l (by omega) hv
  have c1 := reports_ok l (by omega) hv
  have hRv : ∀ f ∈ l.filter (keepP (voidL (canF l))), fOk f := fun f hf => hv f (List.mem_filter.1 hf).1
  have hRl : (l.filter (keepP (voidL (canF l)))).length ≤ 16 := Nat.le_trans (List.length_filter_le _ _) hl16
  have a2 := all_ok _ (by omega) hRv
  have b2 := void_ok _ (by omega) hRv
  have c2 := reports_ok _ (by omega) hRv
  rw [k1] at a2 b2 c2
  rw [wo_all hcv (canF_ok hv).asc k2] at a2
  rw [wo_void hcv (canF_ok hv).asc k2] at b2
  rw [wo_reps hcv (canF_ok hv).asc k2] at c2
  have a3 := same43_ok (allO (canF l)) (Nat.le_trans (allO_len _) (by omega)) (fun f hf => (hcv f (allO_mem hf)).1)
  have c3 := same39_ok (repO (canF l)) (Nat.le_trans (repO_len _) (by omega)) (fun f hf => (hcv f (repO_mem hf)).1)
  have hVf : ∀ f ∈ voidL (canF l), fOk f := fun f hf => (hcv f (hvo.2 f hf)).1
  have hVl := hvo.1
  generalize allO (canF l) = AO at a1 a2 a3
  generalize repO (canF l) = RO at c1 c2 c3
  clear k1 k2 hvo
  generalize voidL (canF l) = V at b1 k3 hRv hRl a2 b2 c2 hVf hVl
  refine WP.cond (b := false) (by simp) (fun h => by cases h) (fun _ => ?_)
  refine WP.exit ?_
  simp -dsimp
  repeat (first | refine WP.seq ?_ | refine WP.block ?_ | (refine WP.region Tryd.tab ?_; simp -dsimp) | (refine WP.draw Tryd.tab Tryd.mixed ?_; simp -dsimp) | refine And.intro (by first | rfl | omega | decide | (simp; done) | (simp; omega) | (intro _ h; exact fcs_side h; done) | (intros; simp_all; done) | (intros; simp_all; omega)) ?_)
  refine vcStop.call0 Tryd.body13 b1 rfl rfl (by simp) ?_
  simp -dsimp
  repeat (first | refine WP.seq ?_ | refine WP.block ?_ | (refine WP.region Tryd.tab ?_; simp -dsimp) | (refine WP.draw Tryd.tab Tryd.mixed ?_; simp -dsimp) | refine And.intro (by first | rfl | omega | decide | (simp; done) | (simp; omega) | (intro _ h; exact fcs_side h; done) | (intros; simp_all; done) | (intros; simp_all; omega)) ?_)
  refine WP.loopWk (fun m S => ∃ i, i + m = l.length ∧ S = resS l V ((l.take i).filter (keepP V)) i) l.length (S0 := resS l V [] 0)
    (Wk.trans (Wk.lessE [] (S' := mkS 108 [(0, .d (slF l)), (7, .d (.sl 2 (prt 0 2 V) V.length false)), (8, .d nilD), (50, .d (slF l)), (51, .d (.v (.int .i64 l.length))), (52, .d (.v (.int .i64 0)))] []) (by simp) (by simp)) (Wk.trans (Wk.nilSlot 8 508 49 57 (by simp) (by simp)) (Wk.lessE [] (by simp [resS]) (by simp [resS, fsC0])))) ⟨0, by omega, rfl⟩ ?_
  rintro m _ ⟨i, him, rfl⟩
  by_cases hi : i < l.length
  · have h1 := fsC_at hi
    have htk := take_fat hi
    have hfo := hv _ (fat_in hi)
    have e1 : IntKind.i64.wrap ((i : Int) + 1) = ((i + 1 : Nat) : Int) := by rw [IntWalk.i64_in _ (by omega)]; omega
    generalize fat l i = f at h1 htk hfo
    have hEl : ((l.take i).filter (keepP V)).length ≤ 16 := Nat.le_trans (List.length_filter_le _ _) (by rw [List.length_take]; omega)
    have hE2 : (l.take (i + 1)).filter (keepP V) = (l.take i).filter (keepP V) ++ if keepP V f = true then [f] else [] := by
      rw [htk, List.filter_append]; congr 1
      simp only [List.filter_cons, List.filter_nil]
    generalize hE : (l.take i).filter (keepP V) = E at hEl hE2
    rw [resS]
    simp -dsimp
    repeat (first | refine WP.seq ?_ | refine WP.block ?_ | (refine WP.region Tryd.tab ?_; simp -dsimp) | (refine WP.draw Tryd.tab Tryd.mixed ?_; simp -dsimp) | refine And.intro (by first | rfl | omega | decide | (simp; done) | (simp; omega) | (intro _ h; exact fcs_side h; done) | (intros; simp_all; done) | (intros; simp_all; omega)) ?_)
    refine WP.cond (b := true) (by simp; omega) (fun _ => ?_) (fun h => by cases h)
    refine WP.skip ?_
    simp -dsimp
    refine WP.seq (WP.block ?_)
    repeat (first | refine WP.seq ?_ | refine WP.block ?_ | (refine WP.region Tryd.tab ?_; simp -dsimp [h1]) | (refine WP.draw Tryd.tab Tryd.mixed ?_; simp -dsimp [h1]) | refine And.intro (by first | rfl | omega | decide | (simp; done) | (simp; omega) | (intro _ h; exact fcs_side h; done) | (intros; simp_all; done) | (intros; simp_all; omega)) ?_)
    refine WP.weak (Wk.lessE [] (S' := cutS l V E f i 0 false) (by simp [cutS]) (by simp [cutS])) ?_
    refine cut_ok hVl hfo hVf fun S' hw => ?_
    refine WP.weak hw ?_
    rw [cutS]
    simp -dsimp
    repeat (first | refine WP.seq ?_ | refine WP.block ?_ | (refine WP.region Tryd.tab ?_; simp -dsimp) | (refine WP.draw Tryd.tab Tryd.mixed ?_; simp -dsimp) | refine And.intro (by first | rfl | omega | decide | (simp; done) | (simp; omega) | (intro _ h; exact fcs_side h; done) | (intros; simp_all; done) | (intros; simp_all; omega)) ?_)
    refine WP.cond (b := keepP V f) (by simp [keepP]) (fun hb => ?_) (fun hb => ?_)
    · rw [if_pos hb] at hE2
      repeat (first | refine WP.seq ?_ | refine WP.block ?_ | (refine WP.region Tryd.tab ?_; simp -dsimp) | (refine WP.draw Tryd.tab Tryd.mixed ?_; simp -dsimp) | refine And.intro (by first | rfl | omega | decide | (simp; done) | (simp; omega) | (intro _ h; exact fcs_side h; done) | (intros; simp_all; done) | (intros; simp_all; omega)) ?_)
      refine loopW.next (resS l V ((l.take (i + 1)).filter (keepP V)) (i + 1)) (Wk.go [10, 77, 508] 78 508 (by decide) (by simp [resS]) (by simp [resS, e1]) (by rw [hE2]; simp [resS, fsC_append, fsC])) (m - 1) (by omega) ⟨i + 1, by omega, rfl⟩
    · rw [if_neg (by simp [hb]), List.append_nil] at hE2
      refine WP.skip ?_
      simp -dsimp
      repeat (first | refine WP.seq ?_ | refine WP.block ?_ | (refine WP.region Tryd.tab ?_; simp -dsimp) | (refine WP.draw Tryd.tab Tryd.mixed ?_; simp -dsimp) | refine And.intro (by first | rfl | omega | decide | (simp; done) | (simp; omega) | (intro _ h; exact fcs_side h; done) | (intros; simp_all; done) | (intros; simp_all; omega)) ?_)
      refine loopW.next (resS l V ((l.take (i + 1)).filter (keepP V)) (i + 1)) (Wk.lessE [10] (by simp [resS, e1]) (by rw [hE2]; simp [resS])) (m - 1) (by omega) ⟨i + 1, by omega, rfl⟩
  have hil : i = l.length := by omega
  subst hil
  rw [List.take_length]
  generalize l.filter (keepP V) = R at k3 hRv hRl a2 b2 c2
  rw [resS]
  simp -dsimp
  repeat (first | refine WP.seq ?_ | refine WP.block ?_ | (refine WP.region Tryd.tab ?_; simp -dsimp) | (refine WP.draw Tryd.tab Tryd.mixed ?_; simp -dsimp) | refine And.intro (by first | rfl | omega | decide | (simp; done) | (simp; omega) | (intro _ h; exact fcs_side h; done) | (intros; simp_all; done) | (intros; simp_all; omega)) ?_)
  refine WP.cond (b := false) (by simp) (fun h => by cases h) (fun _ => ?_)
  refine WP.exit ?_
  simp -dsimp
  refine WP.weak (Wk.trans (Wk.lessE [] (S' := mkS 108 [(0, .d (slF l)), (7, .d (.sl 2 (prt 0 2 V) V.length false)), (8, .row 508)] [(508, rB R)]) (by simp) (by simp)) (Wk.trans (Wk.freeze (k := 508) (T := 49) (sz := 57) (n := R.length) (ds := fsC R) (by simp)) (Wk.lessE [] (S' := mkS 108 [(0, .d (slF l)), (7, .d (.sl 2 (prt 0 2 V) V.length false)), (8, .d (slF R))] []) (by simp) (by simp)))) ?_
  have hw : IntKind.i64.wrap ((R.length : Int) + V.length) = l.length := by rw [IntWalk.i64_in _ (by omega)]; omega
  repeat (first | refine WP.seq ?_ | refine WP.block ?_ | (refine WP.region Tryd.tab ?_; simp -dsimp [hw]) | (refine WP.draw Tryd.tab Tryd.mixed ?_; simp -dsimp [hw]) | refine And.intro (by first | rfl | omega | decide | (simp; done) | (simp; omega) | (intro _ h; exact fcs_side h; done) | (intros; simp_all; done) | (intros; simp_all; omega)) ?_)
  refine vcStopG.call0 Tryd.body13 (fun _ => b2) rfl (fun _ => rfl) (fun hg => by simp) ?_
  simp -dsimp
  repeat (first | refine WP.seq ?_ | refine WP.block ?_ | (refine WP.region Tryd.tab ?_; simp -dsimp) | (refine WP.draw Tryd.tab Tryd.mixed ?_; simp -dsimp) | refine And.intro (by first | rfl | omega | decide | (simp; done) | (simp; omega) | (intro _ h; exact fcs_side h; done) | (intros; simp_all; done) | (intros; simp_all; omega)) ?_)
  refine vcStopG.call0 Tryd.body11 (fun _ => a1) rfl (fun _ => rfl) (fun hg => by simp) ?_
  simp -dsimp
  repeat (first | refine WP.seq ?_ | refine WP.block ?_ | (refine WP.region Tryd.tab ?_; simp -dsimp) | (refine WP.draw Tryd.tab Tryd.mixed ?_; simp -dsimp) | refine And.intro (by first | rfl | omega | decide | (simp; done) | (simp; omega) | (intro _ h; exact fcs_side h; done) | (intros; simp_all; done) | (intros; simp_all; omega)) ?_)
  refine vcStopG.call0 Tryd.body11 (fun _ => a2) rfl (fun _ => rfl) (fun hg => by simp) ?_
  simp -dsimp
  repeat (first | refine WP.seq ?_ | refine WP.block ?_ | (refine WP.region Tryd.tab ?_; simp -dsimp) | (refine WP.draw Tryd.tab Tryd.mixed ?_; simp -dsimp) | refine And.intro (by first | rfl | omega | decide | (simp; done) | (simp; omega) | (intro _ h; exact fcs_side h; done) | (intros; simp_all; done) | (intros; simp_all; omega)) ?_)
  refine vcStopG.call0 Tryd.body10 (fun _ => a3) rfl (fun _ => rfl) (fun hg => by simp) ?_
  simp -dsimp
  repeat (first | refine WP.seq ?_ | refine WP.block ?_ | (refine WP.region Tryd.tab ?_; simp -dsimp) | (refine WP.draw Tryd.tab Tryd.mixed ?_; simp -dsimp) | refine And.intro (by first | rfl | omega | decide | (simp; done) | (simp; omega) | (intro _ h; exact fcs_side h; done) | (intros; simp_all; done) | (intros; simp_all; omega)) ?_)
  refine vcStopG.call0 Tryd.body15 (fun _ => c1) rfl (fun _ => rfl) (fun hg => by simp) ?_
  simp -dsimp
  repeat (first | refine WP.seq ?_ | refine WP.block ?_ | (refine WP.region Tryd.tab ?_; simp -dsimp) | (refine WP.draw Tryd.tab Tryd.mixed ?_; simp -dsimp) | refine And.intro (by first | rfl | omega | decide | (simp; done) | (simp; omega) | (intro _ h; exact fcs_side h; done) | (intros; simp_all; done) | (intros; simp_all; omega)) ?_)
  refine vcStopG.call0 Tryd.body15 (fun _ => c2) rfl (fun _ => rfl) (fun hg => by simp) ?_
  simp -dsimp
  repeat (first | refine WP.seq ?_ | refine WP.block ?_ | (refine WP.region Tryd.tab ?_; simp -dsimp) | (refine WP.draw Tryd.tab Tryd.mixed ?_; simp -dsimp) | refine And.intro (by first | rfl | omega | decide | (simp; done) | (simp; omega) | (intro _ h; exact fcs_side h; done) | (intros; simp_all; done) | (intros; simp_all; omega)) ?_)
  refine vcStopG.call0 Tryd.body14 (fun _ => c3) rfl (fun _ => rfl) (fun hg => by simp) ?_
  simp -dsimp
  repeat (first | refine WP.seq ?_ | refine WP.block ?_ | (refine WP.region Tryd.tab ?_; simp -dsimp) | (refine WP.draw Tryd.tab Tryd.mixed ?_; simp -dsimp) | refine And.intro (by first | rfl | omega | decide | (simp; done) | (simp; omega) | (intro _ h; exact fcs_side h; done) | (intros; simp_all; done) | (intros; simp_all; omega)) ?_)
  refine WP.ret (finQ.retE ?_)
  simp -dsimp
end Go.Proofs.YtjjaabidbeoomaaDoor
