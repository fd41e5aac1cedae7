/-
  Forks: the reference's sorted.
-/
import Derived.Test.YtadfkiigjnbdgaaGreatDoorKVb
import Derived.Test.YtadfkiigjnbdgaaGreatDoorKUr
import Derived.Test.YtadfkiigjnbdgaaGreatDoorKN
set_option linter.unusedSectionVars false
set_option linter.unusedSimpArgs false
set_option linter.unusedVariables false
namespace Go.Proofs.YtadfkiigjnbdgaaGreatDoor
open Go.Xe Go.RowKit

theorem insB_split (p : Sg) : ∀ (l1 l2 : List Sg), (∀ s ∈ l1, befB s p = true) → insB p (l1 ++ l2) = l1 ++ insB p l2
  | [], _, _ => rfl
  | s :: l1, l2, h => by
    rw [List.cons_append, insB, if_pos (h s (by simp)), insB_split p l1 l2 fun t ht => h t (by simp [ht])]
    rfl
theorem insB_len (s : Sg) : ∀ l : List Sg, (insB s l).length ≤ l.length + 1
  | [] => Nat.le_refl _
  | t :: l => by
    have := insB_len s l
    rw [insB]
    split
    · simp; omega
    · split <;> simp
theorem srtB_len (l : List Sg) : (srtB l).length ≤ l.length := by
  induction hn : l.length generalizing l with
  | zero => rw [List.eq_nil_of_length_eq_zero hn]; exact Nat.le_refl _
  | succ n ih =>
    rcases List.eq_nil_or_concat l with rfl | ⟨l, x, rfl⟩
    · cases hn
    · rw [List.concat_eq_append] at hn ⊢
      have h1 := ih l (by simpa using hn)
      have h2 := insB_len x (srtB l)
      rw [srtB_snoc]
      split <;> omega
abbrev soS (l : List Sg) (b : Bool) (S : List Sg) (i : Nat) : St := mkS 73 [(0, .d (sgD l b)), (3, .d (sgD S false)), (4, .d (.v (.int .i64 i)))] []
abbrev siS (l : List Sg) (b : Bool) (S : List Sg) (i j : Nat) : St := mkS 73 [(0, .d (sgD l b)), (3, .d (sgD S false)), (4, .d (.v (.int .i64 i))), (5, .d (.v (.int .i64 j)))] []
set_option maxRecDepth 10000 in
set_option maxHeartbeats 4000000 in
theorem sorted13_ok (l : List Sg) (b : Bool) (hl : ∀ p ∈ l, sgOk p) (hn : l.length ≤ 1000) : Fn0 Tryz.prog 36 [sgD l b] (sgD (srtB l) false) := by
  refine Fun.of_wp (pn := noPn) Tryz.tab Tryz.func36 rfl fun β0 => ?_
  simp only [Tryz.f36]
  repeat (first | apply wG | (apply wR; simp -dsimp) | refine aI ?_)
  refine WP.loopWk (fun m Z => ∃ l1 l2, l = l1 ++ l2 ∧ m = l2.length ∧ Z = soS l b (srtB l1) l1.length) l.length (S0 := soS l b [] 0) ((Wk.lessE [] (S' := mkS 73 [(0, .d (sgD l b)), (3, .row 7), (4, .d (.v (.int .i64 0)))] [(7, .row 58 61 0 [])]) (by simp) (by simp)).trans ((Wk.freeze (k := 7) (T := 58) (sz := 61) (n := 0) (ds := []) (by simp)).trans (Wk.lessE [] (by simp [sgC]) (by simp)))) ⟨[], l, rfl, rfl, rfl⟩ ?_
  rintro _ _ ⟨l1, l2, hl12, rfl, rfl⟩
  simp -dsimp
  repeat (first | apply wG | (apply wR; simp -dsimp) | refine aI ?_)
  cases l2 with
  | nil =>
    simp only [List.append_nil] at hl12
    subst hl12
    refine cF (by simp) ?_
    refine WP.exit ?_
    simp -dsimp
    repeat (first | apply wG | (apply wR; simp -dsimp) | refine aI ?_)
    refine WP.ret (finQ.retE ?_)
    simp -dsimp
  | cons p l2 =>
    have hll : l.length = l1.length + (l2.length + 1) := by rw [hl12]; simp
    have hp := hl p (by rw [hl12]; simp)
    have lp := sgc_len hp
    have hi : l1.length < l.length := by omega
    have h1 := sgc_at hi hl
    have hre : l[l1.length] = p := by simp [hl12]
    rw [hre] at h1
    have hsl := sgC_len hl
    have e1 : IntKind.i64.wrap ((l1.length : Int) + 1) = ((l1 ++ [p]).length : Nat) := by rw [IntWalk.i64_in _ (by omega)]; simp
    have hrc := refCheck_ok p.1 hp.1
    rw [← (num_chk hp.1).1] at hrc
    have hsn := srtB_snoc l1 p
    have h57 := sgc_57 p
    have h57D := sgc_57D p
    obtain ⟨hasc, hmem⟩ := srtB_ok l1 fun s hs => (hl s (by rw [hl12]; simp [hs])).1
    have hSk : ∀ s ∈ srtB l1, sgOk s := fun s hs => hl s (by rw [hl12]; simp [fstO_in ((hmem s).1 hs)])
    have hvs : vS2 p = (numF p.1).2 := rfl
    rw [hvs] at hsn
    have hSn : (srtB l1).length ≤ 1000 := Nat.le_trans (srtB_len l1) (by omega)
    generalize srtB l1 = S at hsn hSk hSn hasc
    generalize (numF p.1).2 = c at hrc hsn
    refine cT (by simp; omega) ?_
    refine WP.skip ?_
    simp -dsimp
    repeat (first | apply wG | (apply wR; simp -dsimp [h1, h57, h57D]) | refine aI ?_)
    refine vcStop.call0 Tryz.body61 hrc rfl rfl (by simp [fD]) ?_
    simp -dsimp
    repeat (first | apply wG | (apply wR; simp -dsimp) | refine aI ?_)
    cases c with
    | false =>
      simp only [Bool.false_eq_true, if_false] at hsn
      refine cT (by simp) ?_
      refine WP.exit ?_
      simp -dsimp
      repeat (first | apply wG | (apply wR; simp -dsimp) | refine aI ?_)
      refine loopW.next (soS l b (srtB (l1 ++ [p])) (l1 ++ [p]).length) (Wk.lessE [] (by simp [e1, hsn]) (by simp)) l2.length (by simp) ⟨l1 ++ [p], l2, by simp [hl12], rfl, rfl⟩
    | true =>
      simp only [if_true] at hsn
      refine cF (by simp) ?_
      refine WP.skip ?_
      simp -dsimp
      repeat (first | apply wG | (apply wR; simp -dsimp) | refine aI ?_)
      refine WP.loopWk (fun m Z => ∃ S1 S2, S = S1 ++ S2 ∧ m = S2.length ∧ (∀ s ∈ S1, befB s p = true) ∧ Z = siS l b S l1.length S1.length) S.length (S0 := siS l b S l1.length 0) (Wk.lessE [] (by simp) (by simp)) ⟨[], S, rfl, rfl, by simp, rfl⟩ ?_
      rintro m _ ⟨S1, S2, hS12, rfl, hbf, rfl⟩
      have hSC := sgC_len hSk
      have hSl : S.length = S1.length + S2.length := by rw [hS12]; simp
      simp -dsimp
      have hdrS : List.take ((S.length - S1.length) * 61) (List.drop (S1.length * 61) ((sgC S).map AV.d)) = (sgC S2).map .d := by
        have hk2 : ∀ s ∈ S2, sgOk s := fun s hs => hSk s (by rw [hS12]; simp [hs])
        have hk1 : ∀ s ∈ S1, sgOk s := fun s hs => hSk s (by rw [hS12]; simp [hs])
        conv => lhs; rw [hS12]
        rw [sgC_append, List.map_append, List.drop_left' (by rw [List.length_map, sgC_len hk1]), List.take_of_length_le (by rw [List.length_map, sgC_len hk2, List.length_append]; omega)]
      have htkS : List.take (S1.length * 61) ((sgC S).map AV.d) = (sgC S1).map .d := by
        have hk1 : ∀ s ∈ S1, sgOk s := fun s hs => hSk s (by rw [hS12]; simp [hs])
        conv => lhs; rw [hS12]
        rw [sgC_append, List.map_append, List.take_left' (by rw [List.length_map, sgC_len hk1])]
      have hset : ∀ cs : List AV, cs.length = 61 → setL cs 0 ((sgc p).map AV.d) = (sgc p).map .d := fun cs hc => by
        rw [setL_eq _ _ _ (by rw [List.length_map]; omega), List.take_zero, List.nil_append, List.length_map, List.drop_of_length_le (by omega), List.append_nil]
      have ht := sgc_t hp
      have htm := sgc_tm hp
      have hone := sgc_oneD hp
      cases S2 with
      | nil =>
        have hil : ¬ S1.length < S.length := by simp at hSl; omega
        have hins : insB p S = S1 ++ [p] := by rw [hS12, insB_split p S1 [] hbf]; rfl
        repeat (first | apply wG | (apply wR; simp -dsimp [hil]) | refine aI ?_)
        refine vcStopG.call0 Tryz.body62 (fun _ => before_ok p p hp.1 hp.1) rfl (fun _ => rfl) (fun h => by simp at h) ?_
        simp -dsimp [hil]
        repeat (first | apply wG | (apply wR; simp -dsimp [hil]) | refine aI ?_)
        refine cF (by simp) ?_
        refine WP.exit ?_
        simp -dsimp [hil]
        repeat (first | apply wG | (apply wR; simp -dsimp [hil]) | refine aI ?_)
        refine vcStopG.call0 Tryz.body38 (fun _ => refSame_ok p.1 p.1 hp.1 hp.1) rfl (fun _ => rfl) (fun h => by simp at h) ?_
        simp -dsimp [hil]
        repeat (first | apply wG | (apply wR; simp -dsimp [hil]) | refine aI ?_)
        refine cF (by simp) ?_
        refine WP.skip ?_
        simp -dsimp
        repeat (first | apply wG | (apply wR; simp -dsimp [h1, hdrS, htkS, ht, htm, hset]) | refine aI ?_)
        have hR : (sgC S1).map AV.d ++ ((sgc p).map AV.d ++ (sgC []).map AV.d) = (sgC (srtB (l1 ++ [p]))).map .d := by
          rw [hsn, hins, sgC_append, List.map_append, show sgC (p :: []) = sgc p ++ sgC [] from rfl, List.map_append]
        have hlen : S1.length + (1 + (S.length - S1.length)) = (srtB (l1 ++ [p])).length := by rw [hsn, hins, hSl]; first | (simp; done) | (simp; omega)
        rw [hR, hlen]
        refine loopW.next (soS l b (srtB (l1 ++ [p])) (l1 ++ [p]).length) ((Wk.lessE [65] (S' := mkS 73 [(0, .d (sgD l b)), (3, .row 71), (4, .d (.v (.int .i64 ((l1 ++ [p]).length : Nat))))] [(71, .row 58 61 (srtB (l1 ++ [p])).length ((sgC (srtB (l1 ++ [p]))).map .d))]) (by simp [e1]) (by simp)).trans ((Wk.freeze (k := 71) (T := 58) (sz := 61) (n := (srtB (l1 ++ [p])).length) (ds := sgC (srtB (l1 ++ [p]))) (by simp)).trans (Wk.lessE [] (by simp) (by simp)))) l2.length (by simp) ⟨l1 ++ [p], l2, by simp [hl12], rfl, rfl⟩
      | cons s S2 =>
        have hil : S1.length < S.length := by simp at hSl; omega
        have h2 := sgc_at hil hSk
        have hre2 : S[S1.length] = s := by simp [hS12]
        have hs := hSk S[S1.length] (List.getElem_mem hil)
        rw [hre2] at h2 hs
        have k57 := sgc_57 s
        have k57D := sgc_57D s
        have ls := sgc_len hs
        have hS2l : (sgC (s :: S2)).length = (S.length - S1.length) * 61 := by
          have hk2 : ∀ t ∈ s :: S2, sgOk t := fun t ht => hSk t (by rw [hS12]; exact List.mem_append.2 (.inr ht))
          rw [sgC_len hk2, hSl, Nat.add_sub_cancel_left]
        have hbo := before_ok s p hs.1 hp.1
        have hsa := refSame_ok s.1 p.1 hs.1 hp.1
        repeat (first | apply wG | (apply wR; simp -dsimp [hil, h1, h2, h57, h57D, k57, k57D]) | refine aI ?_)
        refine vcStopG.call0 Tryz.body62 (fun _ => hbo) rfl (fun _ => rfl) (fun _ => by simp [fD]) ?_
        simp -dsimp
        repeat (first | apply wG | (apply wR; simp -dsimp) | refine aI ?_)
        cases hb : befB s p with
        | true =>
          have e2 : IntKind.i64.wrap ((S1.length : Int) + 1) = ((S1 ++ [s]).length : Nat) := by rw [IntWalk.i64_in _ (by omega)]; simp
          refine cT (by simp [hb]) ?_
          refine WP.skip ?_
          simp -dsimp
          repeat (first | apply wG | (apply wR; simp -dsimp) | refine aI ?_)
          refine loopW.next (siS l b S l1.length (S1 ++ [s]).length) (Wk.lessE [] (by simp [e2]) (by simp)) S2.length (by simp) ⟨S1 ++ [s], S2, by simp [hS12], rfl, fun t ht => ?_, rfl⟩
          rcases List.mem_append.1 ht with ht | ht
          · exact hbf t ht
          · rw [List.mem_singleton.1 ht]; exact hb
        | false =>
          refine cF (by simp [hb]) ?_
          refine WP.exit ?_
          simp -dsimp
          repeat (first | apply wG | (apply wR; simp -dsimp [hil, h1, h2, h57, h57D, k57, k57D]) | refine aI ?_)
          refine vcStopG.call0 Tryz.body38 (fun _ => hsa) rfl (fun _ => rfl) (fun _ => by simp [fD]) ?_
          simp -dsimp
          repeat (first | apply wG | (apply wR; simp -dsimp) | refine aI ?_)
          cases he : eqF s.1 p.1 with
          | true =>
            have hins : insB p S = S := by rw [hS12, insB_split p S1 _ hbf, insB, if_neg (by simp [hb]), if_pos he]
            rw [hins] at hsn
            refine cT (by simp [he]) ?_
            refine WP.exit ?_
            simp -dsimp
            repeat (first | apply wG | (apply wR; simp -dsimp) | refine aI ?_)
            refine loopW.next (soS l b (srtB (l1 ++ [p])) (l1 ++ [p]).length) (Wk.lessE [] (by simp [e1, hsn]) (by simp)) l2.length (by simp) ⟨l1 ++ [p], l2, by simp [hl12], rfl, rfl⟩
          | false =>
            have hins : insB p S = S1 ++ p :: s :: S2 := by rw [hS12, insB_split p S1 _ hbf, insB, if_neg (by simp [hb]), if_neg (by simp [he])]
            refine cF (by simp [he]) ?_
            refine WP.skip ?_
            simp -dsimp
            repeat (first | apply wG | (apply wR; simp -dsimp [h1, hdrS, htkS, ht, htm, hset]) | refine aI ?_)
            have hR : (sgC S1).map AV.d ++ ((sgc p).map AV.d ++ (sgC (s :: S2)).map AV.d) = (sgC (srtB (l1 ++ [p]))).map .d := by
              rw [hsn, hins, sgC_append, List.map_append, show sgC (p :: (s :: S2)) = sgc p ++ sgC (s :: S2) from rfl, List.map_append]
            have hlen : S1.length + (1 + (S.length - S1.length)) = (srtB (l1 ++ [p])).length := by rw [hsn, hins, hSl]; first | (simp; done) | (simp; omega)
            rw [hR, hlen]
            refine loopW.next (soS l b (srtB (l1 ++ [p])) (l1 ++ [p]).length) ((Wk.lessE [65] (S' := mkS 73 [(0, .d (sgD l b)), (3, .row 71), (4, .d (.v (.int .i64 ((l1 ++ [p]).length : Nat))))] [(71, .row 58 61 (srtB (l1 ++ [p])).length ((sgC (srtB (l1 ++ [p]))).map .d))]) (by simp [e1]) (by simp)).trans ((Wk.freeze (k := 71) (T := 58) (sz := 61) (n := (srtB (l1 ++ [p])).length) (ds := sgC (srtB (l1 ++ [p]))) (by simp)).trans (Wk.lessE [] (by simp) (by simp)))) l2.length (by simp) ⟨l1 ++ [p], l2, by simp [hl12], rfl, rfl⟩
end Go.Proofs.YtadfkiigjnbdgaaGreatDoor
