/-
  Evidence: EvidenceOrder, walked.
-/
import Derived.Test.YtpamincphlfhlaaGreatDoorKUn
import Derived.Test.YtpamincphlfhlaaGreatDoorKUk
import Derived.Test.YtpamincphlfhlaaGreatDoorKC
import Derived.Laws.Closers25b
set_option linter.unusedSectionVars false
set_option linter.unusedSimpArgs false
set_option linter.unusedVariables false
namespace Go.Proofs.YtpamincphlfhlaaGreatDoor
open Go.Xe Go.RowKit

theorem few_factsO {l : List Sg} (h : fewB l = true) : l.length ≤ 10 ∧ ∀ p ∈ l, p.1 1 ≤ 200 := by
  simp only [fewB, Bool.and_eq_true, List.all_eq_true, decide_eq_true_eq] at h
  exact ⟨h.2.1, fun p hp => by have := h.1 p hp; simpa [noB] using this⟩
theorem lastN_sub {A B : List F} (h : ∀ f ∈ A, f ∈ B) (c : Int) : lastN c A 0 ≤ lastN c B 0 := by
  rcases lastN_at c A 0 with e | ⟨f, hf, e, e2⟩
  · rw [e]; exact lastN_le c B 0
  · rw [← e2]; exact lastN_ge c B 0 f (h f hf) e
theorem gapS_same {A B : List F} (h : ∀ f, f ∈ A ↔ f ∈ B) : gapS A (isA (crN A A.length)) = gapS B (isA (crN B B.length)) := by
  refine pwR_eq (gapS_asc A (isA_lt (crN_ok A A.length (Nat.le_refl _)).1)) (gapS_asc B (isA_lt (crN_ok B B.length (Nat.le_refl _)).1)) fun r => ?_
  have hl : lastN r.1 A 0 = lastN r.1 B 0 := Int.le_antisymm (lastN_sub (fun f hf => (h f).1 hf) _) (lastN_sub (fun f hf => (h f).2 hf) _)
  have hm : r ∈ A.map refF ↔ r ∈ B.map refF := by
    simp only [List.mem_map]
    exact ⟨fun ⟨f, hf, e⟩ => ⟨f, (h f).1 hf, e⟩, fun ⟨f, hf, e⟩ => ⟨f, (h f).2 hf, e⟩⟩
  rw [gapS_in, gapS_in, isA_in, isA_in, (crN_ok A A.length (Nat.le_refl _)).2.2, (crN_ok B B.length (Nat.le_refl _)).2.2, List.take_length, List.take_length, hl, hm]
  have hc : (∃ f ∈ A, f 0 = r.1) ↔ ∃ f ∈ B, f 0 = r.1 := ⟨fun ⟨f, hf, e⟩ => ⟨f, (h f).1 hf, e⟩, fun ⟨f, hf, e⟩ => ⟨f, (h f).2 hf, e⟩⟩
  rw [hc]
theorem and1023 (w : Int) : 0 ≤ bits .and .i64 w 1023 := by
  show 0 ≤ IntKind.i64.wrap ((BitVec.ofInt 64 w &&& BitVec.ofInt 64 1023).toNat : Int)
  have h : (BitVec.ofInt 64 w &&& BitVec.ofInt 64 1023).toNat ≤ 1023 := by
    rw [BitVec.toNat_and]
    exact Nat.le_trans Nat.and_le_right (by decide)
  rw [IntKind.wrap_i64]
  omega
theorem rotK (w : Int) {n : Nat} (hn : 0 < n) : ∃ k, k < n ∧ (bits .and .i64 w 1023).tmod (n : Int) = (k : Int) := by
  have h := and1023 w
  generalize bits .and .i64 w 1023 = x at h
  refine ⟨(x % n).toNat, ?_, ?_⟩
  · have := Int.emod_lt_of_pos x (b := (n : Int)) (by omega)
    have := Int.emod_nonneg x (b := (n : Int)) (by omega)
    omega
  · rw [Int.tmod_eq_emod_of_nonneg h]
    have := Int.emod_nonneg x (b := (n : Int)) (by omega)
    omega
set_option maxRecDepth 10000 in
set_option maxHeartbeats 4000000 in
theorem law_order (a b : List Sg) (turn : Int) (ha : ∀ p ∈ a, sgOk p) (hb : ∀ p ∈ b, sgOk p) (hfa : ∀ p ∈ a, sgF p) (hfb : ∀ p ∈ b, sgF p) (hna : a.length ≤ 1000000000000) (hnb : b.length ≤ 1000000000000) (ht : isI turn) :
    Fn0 Tryz.prog 9 [lgD a false, lgD b false, .v (.int .i64 turn)] (.v (.bool true)) := by
  refine Fun.of_wp (pn := noPn) Tryz.tab Tryz.func9 rfl fun β0 => ?_
  simp only [Tryz.f9]
  repeat (first | apply wS | apply wB | ((first | apply wR | apply wD); simp -dsimp) | refine aI ?_)
  refine vcStop.call0 Tryz.body11 sane_ok rfl rfl (by simp) ?_
  simp -dsimp
  repeat (first | apply wS | apply wB | ((first | apply wR | apply wD); simp -dsimp) | refine aI ?_)
  refine cF (by simp) ?_
  refine WP.skip ?_
  simp -dsimp
  repeat (first | apply wS | apply wB | ((first | apply wR | apply wD); simp -dsimp) | refine aI ?_)
  refine vcStop.call0L Tryz.body13 (few_ok a false ha hfa hna) rfl rfl (And.intro (Leq.aggD [sgD a false]) trivial) ?_
  simp -dsimp
  repeat (first | apply wS | apply wB | ((first | apply wR | apply wD); simp -dsimp) | refine aI ?_)
  refine vcStopG.call0L Tryz.body13 (fun _ => few_ok b false hb hfb hnb) rfl (fun _ => rfl) (fun hg => And.intro (by simp [hg] <;> exact Leq.aggD [sgD b false]) trivial) ?_
  simp -dsimp
  repeat (first | apply wS | apply wB | ((first | apply wR | apply wD); simp -dsimp) | refine aI ?_)
  by_cases hfw : (fewB a = true ∧ fewB b = true) ∧ a ≠ []
  · obtain ⟨⟨hwa, hwb⟩, hne⟩ := hfw
    obtain ⟨hla, hnoa⟩ := few_factsO hwa
    obtain ⟨hlb, hnob⟩ := few_factsO hwb
    have hpos : 0 < a.length := List.length_pos_iff.2 hne
    refine cF (by simp [hwa, hwb, hne]) ?_
    refine WP.skip ?_
    obtain ⟨k, hk, hke⟩ := rotK turn hpos
    have hsa := sgC_len ha
    obtain ⟨l1, p, l2, ea, rfl⟩ : ∃ l1 p l2, a = l1 ++ p :: l2 ∧ l1.length = k := ⟨a.take k, a[k], a.drop (k + 1), by rw [← List.drop_eq_getElem_cons hk, List.take_append_drop], by rw [List.length_take]; omega⟩
    have hp : sgOk p := ha p (by rw [ea]; simp)
    have lp := sgc_len hp
    have h1 : ∀ q ∈ l1, sgOk q := fun q hq => ha q (by rw [ea]; simp [hq])
    have h2 : ∀ q ∈ p :: l2, sgOk q := fun q hq => ha q (by rw [ea]; simp [List.mem_cons.1 hq])
    have ls1 := sgC_len h1
    have ls2 := sgC_len h2
    have eC : sgC a = sgC l1 ++ sgC (p :: l2) := by rw [ea, sgC_append]
    have lA : a.length = l1.length + (l2.length + 1) := by rw [ea]; simp
    have hdr : List.take ((a.length - l1.length) * 61) (List.drop (l1.length * 61) ((sgC a).map AV.d)) = (sgC (p :: l2)).map .d := by
      rw [eC, List.map_append, List.drop_left' (by rw [List.length_map, ls1]), List.take_of_length_le (by rw [List.length_map, ls2, List.length_cons]; omega)]
    have htk : List.take (l1.length * 61) ((sgC a).map AV.d) = (sgC l1).map .d := by
      rw [eC, List.map_append, List.take_left' (by rw [List.length_map, ls1])]
    have hpc : List.take 61 (List.drop (l1.length * 61) (sgC a)) = sgc p := by
      rw [eC, List.drop_left' ls1, show sgC (p :: l2) = sgc p ++ sgC l2 from rfl, List.take_left' lp]
    have hpm : List.take 61 (List.drop (l1.length * 61) ((sgC a).map AV.d)) = (sgc p).map .d := by
      rw [← List.map_drop, ← List.map_take, hpc]
    have ht : List.take 61 (sgc p) = sgc p := List.take_of_length_le (by omega)
    have htm : List.take 61 ((sgc p).map AV.d) = (sgc p).map .d := by rw [← List.map_take, ht]
    have hset : ∀ cs : List AV, cs.length = 61 → setL cs 0 ((sgc p).map AV.d) = (sgc p).map .d := fun cs hc => by
      rw [setL_eq _ _ _ (by rw [List.length_map]; omega), List.take_zero, List.nil_append, List.length_map, List.drop_of_length_le (by omega), List.append_nil]
    simp -dsimp
    repeat (first | apply wS | apply wB | ((first | apply wR | apply wD); simp -dsimp [hke, hdr, htk, hpc, hpm, ht, htm, hset]) | refine aI ?_)
    refine And.intro ⟨lp, sgc_oneD hp⟩ ?_
    repeat (first | apply wS | apply wB | ((first | apply wR | apply wD); simp -dsimp) | refine aI ?_)
    have hcat : List.map AV.d (sgC (p :: l2)) ++ (List.map AV.d (sgC l1) ++ List.map AV.d (sgc p)) = (sgC (p :: l2 ++ (l1 ++ [p]))).map .d := by
      rw [sgC_append, sgC_append, List.map_append, List.map_append, show sgC [p] = sgc p from by simp [sgC, sgc]]
    have hlen : a.length - l1.length + l1.length + 1 = (p :: l2 ++ (l1 ++ [p])).length := by simp; omega
    rw [hcat, hlen]
    have hR : ∀ q, q ∈ p :: l2 ++ (l1 ++ [p]) ↔ q ∈ a := fun q => by
      rw [ea]; simp only [List.mem_append, List.mem_cons, List.not_mem_nil, or_false]
      constructor
      · rintro ((h | h) | h | h) <;> simp [h]
      · rintro (h | h | h) <;> simp [h]
    have lR : (p :: l2 ++ (l1 ++ [p])).length ≤ 11 := by rw [← hlen]; omega
    generalize p :: l2 ++ (l1 ++ [p]) = R at hR lR
    have hRk : ∀ q ∈ R, sgOk q := fun q hq => ha q ((hR q).1 hq)
    have hnoR : ∀ q ∈ R, q.1 1 ≤ 200 := fun q hq => hnoa q ((hR q).1 hq)
    have hA := vF_fOk fun p hp => (ha p hp).1
    have hB := vF_fOk fun p hp => (hb p hp).1
    have hFR := vF_fOk fun p hp => (hRk p hp).1
    have hF : ∀ f, f ∈ vF R ↔ f ∈ vF a := fun f => by
      rw [vF_iff, vF_iff]
      exact ⟨fun ⟨s, h, e⟩ => ⟨s, (hR s).1 h, e⟩, fun ⟨s, h, e⟩ => ⟨s, (hR s).2 h, e⟩⟩
    have c1 := altered_ok a b false false (by omega) (by omega) ha hb
    have c2 := altered_ok R b false false (by omega) (by omega) hRk hb
    have c3 := altered_ok b a false false (by omega) (by omega) hb ha
    have c4 := altered_ok b R false false (by omega) (by omega) hb hRk
    have c5 := gaps_ok a false (by omega) ha hnoa
    have c6 := gaps_ok R false (by omega) hRk hnoR
    rw [altL_same hFR hA hB hB hF (fun _ => Iff.rfl)] at c2
    rw [altL_same hB hB hFR hA (fun _ => Iff.rfl) hF] at c4
    rw [gapS_same hF] at c6
    have n200 : ∀ f ∈ vF a, f 1 ≤ 200 := fun f hf => by
      obtain ⟨p, hp, rfl, _⟩ := vF_iff.1 hf
      exact hnoa p hp
    have g1 := gapS_len (vF a) n200 (isA (crN (vF a) (vF a).length))
    have g2 : (isA (crN (vF a) (vF a).length)).length ≤ 10 := by
      have h1 := (crN_ok (vF a) (vF a).length (Nat.le_refl _)).2.1
      have h2 := vF_len a
      rw [isA_len]; omega
    have m1 := altL_len (vF a) (vF b)
    have m2 := altL_len (vF b) (vF a)
    have n1 := vF_len a
    have n2 := vF_len b
    have i1 : ∀ r ∈ altL (vF a) (vF b), isI r.1 ∧ isI r.2 := fun r hr => alt_isI hA hB hr
    have i2 : ∀ r ∈ altL (vF b) (vF a), isI r.1 ∧ isI r.2 := fun r hr => alt_isI hB hA hr
    have i3 : ∀ r ∈ gapS (vF a) (isA (crN (vF a) (vF a).length)), isI r.1 ∧ isI r.2 := fun r hr => gap_isI hA n200 hr
    have s1 := sameR_ok _ _ i1 i1 (by omega)
    have s2 := sameR_ok _ _ i2 i2 (by omega)
    have s3 := sameR_ok _ _ i3 i3 (by omega)
    generalize altL (vF a) (vF b) = x1 at c1 c2 s1
    generalize altL (vF b) (vF a) = x2 at c3 c4 s2
    generalize gapS (vF a) (isA (crN (vF a) (vF a).length)) = x3 at c5 c6 s3
    simp only [decide_true] at s1 s2 s3
    refine vcStop.call Tryz.body28 (of_row R) (rl [(1000, 48)]) rfl rfl (by simp [BoxLeq]) (CallOk.of (by simp [BoxLeq]) rfl (by first | rfl | (simp [BoxLeq]; done)) (by simp [BoxLeq]) (by simp [BoxLeq])) (fun _ h => h.elim) (fun ⟨_, h⟩ => h.elim) (fun ⟨_, h⟩ => h.elim) (by simp [BoxLeq]) ?_
    simp -dsimp
    repeat (first | apply wS | apply wB | ((first | apply wR | apply wD); simp -dsimp) | refine aI ?_)
    refine vcStop.call0L Tryz.body15 c1 rfl rfl (And.intro (Leq.aggD [sgD a false]) (And.intro (Leq.aggD [sgD b false]) trivial)) ?_
    simp -dsimp
    repeat (first | apply wS | apply wB | ((first | apply wR | apply wD); simp -dsimp) | refine aI ?_)
    refine vcStop.call0L Tryz.body15 c2 rfl rfl (And.intro (Leq.aggD [sgD R false]) (And.intro (Leq.aggD [sgD b false]) trivial)) ?_
    simp -dsimp
    repeat (first | apply wS | apply wB | ((first | apply wR | apply wD); simp -dsimp) | refine aI ?_)
    refine vcStop.call0L Tryz.body20 s1 rfl rfl (And.intro (.refl _) (And.intro (.refl _) trivial)) ?_
    simp -dsimp
    repeat (first | apply wS | apply wB | ((first | apply wR | apply wD); simp -dsimp) | refine aI ?_)
    refine vcStopG.call0L Tryz.body15 (fun _ => c3) rfl (fun _ => rfl) (fun _ => And.intro (by simp <;> exact Leq.aggD [sgD b false]) (And.intro (by simp <;> exact Leq.aggD [sgD a false]) trivial)) ?_
    simp -dsimp
    repeat (first | apply wS | apply wB | ((first | apply wR | apply wD); simp -dsimp) | refine aI ?_)
    refine vcStopG.call0L Tryz.body15 (fun _ => c4) rfl (fun _ => rfl) (fun _ => And.intro (by simp <;> exact Leq.aggD [sgD b false]) (And.intro (by simp <;> exact Leq.aggD [sgD R false]) trivial)) ?_
    simp -dsimp
    repeat (first | apply wS | apply wB | ((first | apply wR | apply wD); simp -dsimp) | refine aI ?_)
    refine vcStopG.call0L Tryz.body20 (fun _ => s2) rfl (fun _ => rfl) (fun _ => And.intro (by simp) (And.intro (by simp) trivial)) ?_
    simp -dsimp
    repeat (first | apply wS | apply wB | ((first | apply wR | apply wD); simp -dsimp) | refine aI ?_)
    refine vcStopG.call0L Tryz.body19 (fun _ => c5) rfl (fun _ => rfl) (fun _ => And.intro (by simp <;> exact Leq.aggD [sgD a false]) trivial) ?_
    simp -dsimp
    repeat (first | apply wS | apply wB | ((first | apply wR | apply wD); simp -dsimp) | refine aI ?_)
    refine vcStopG.call0L Tryz.body19 (fun _ => c6) rfl (fun _ => rfl) (fun _ => And.intro (by simp <;> exact Leq.aggD [sgD R false]) trivial) ?_
    simp -dsimp
    repeat (first | apply wS | apply wB | ((first | apply wR | apply wD); simp -dsimp) | refine aI ?_)
    refine vcStopG.call0L Tryz.body20 (fun _ => s3) rfl (fun _ => rfl) (fun _ => And.intro (by simp) (And.intro (by simp) trivial)) ?_
    simp -dsimp
    repeat (first | apply wS | apply wB | ((first | apply wR | apply wD); simp -dsimp) | refine aI ?_)
    refine WP.ret (finQ.retE ?_)
    simp -dsimp
  · refine cT (by cases h1 : fewB a <;> cases h2 : fewB b <;> simp_all) ?_
    repeat (first | apply wS | apply wB | ((first | apply wR | apply wD); simp -dsimp) | refine aI ?_)
    refine WP.ret (finQ.retE ?_)
    simp -dsimp
end Go.Proofs.YtpamincphlfhlaaGreatDoor
