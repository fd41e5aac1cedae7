/-
  Evidence: the reference's Find.
-/
import Derived.Test.YtadfkiigjnbdgaaGreatDoorKVd
import Derived.Test.YtadfkiigjnbdgaaGreatDoorKN
import Derived.Test.YtadfkiigjnbdgaaGreatDoorKUk
set_option linter.unusedSectionVars false
set_option linter.unusedSimpArgs false
set_option linter.unusedVariables false
namespace Go.Proofs.YtadfkiigjnbdgaaGreatDoor
open Go.Xe Go.RowKit

def zE : List AV := [.d (.v (.int .i64 0)), .d (.v (.int .i64 0)), .d (.v (.int .i64 0)), .d (.v (.int .i64 0)), .d (.v (.int .i64 0)), .d (.v (.int .i64 0)), .d (.v (.int .i64 0)), .d (.v (.int .i64 0)), .d (.v (.int .i64 0)), .d (.v (.int .i64 0)), .d (.v (.int .i64 0)), .d (.v (.int .i64 0)), .d (.v (.int .i64 0)), .d (.v (.int .i64 0)), .d (.v (.int .i64 0)), .d (.v (.int .i64 0)), .d (.v (.int .i64 0)), .d (.v (.int .i64 0)), .d (.v (.int .i64 0)), .d (.v (.int .i64 0)), .d (.v (.int .i64 0)), .d (.v (.int .i64 0)), .d (.v (.int .i64 0)), .d (.v (.int .i64 0)), .d (.v (.int .i64 0)), .d (.v (.int .i64 0)), .d (.v (.int .i64 0)), .d (.v (.int .i64 0)), .d (.v (.int .i64 0)), .d (.v (.int .i64 0)), .d (.v (.int .i64 0)), .d (.v (.int .i64 0)), .d (.v (.int .i64 0)), .d (.v (.int .i64 0)), .d (.v (.int .i64 0)), .d (.v (.int .i64 0)), .d (.v (.int .i64 0)), .d (.v (.int .i64 0)), .d (.v (.int .i64 0)), .d (.v (.int .i64 0)), .d (.v (.int .i64 0)), .d (.v (.int .i64 0)), .d (.v (.int .i64 0)), .d (.v (.int .i64 0)), .d (.v (.int .i64 0)), .d (.v (.int .i64 0)), .d (.v (.int .i64 0)), .d (.v (.int .i64 0)), .d (.v (.int .i64 0)), .d (.v (.int .i64 0)), .d (.v (.int .i64 0)), .d (.v (.int .i64 0)), .d (.v (.int .i64 0)), .d (.v (.int .i64 0)), .d (.v (.bool false)), .d (.v (.int .i64 0)), .d (.v (.int .i64 0)), .d (.v (.int .i64 0)), .d (.v (.slice none 0 0)), .d (.v (.slice none 0 0)), .d (.v (.slice none 0 0)), .d (.v (.int .i64 0)), .d (.v (.int .i64 0)), .d (.v (.int .i64 0)), .d (.v (.int .i64 0)), .d (.v (.int .i64 0)), .d (.v (.int .i64 0)), .d (.v (.int .i64 0)), .d (.v (.int .i64 0)), .d (.v (.int .i64 0)), .d (.v (.int .i64 0)), .d (.v (.int .i64 0)), .d (.v (.int .i64 0)), .d (.v (.int .i64 0)), .d (.v (.int .i64 0)), .d (.v (.int .i64 0)), .d (.v (.int .i64 0)), .d (.v (.int .i64 0)), .d (.v (.int .i64 0)), .d (.v (.int .i64 0)), .d (.v (.int .i64 0)), .d (.v (.int .i64 0)), .d (.v (.int .i64 0)), .d (.v (.int .i64 0)), .d (.v (.int .i64 0)), .d (.v (.int .i64 0)), .d (.v (.int .i64 0)), .d (.v (.int .i64 0)), .d (.v (.int .i64 0)), .d (.v (.int .i64 0)), .d (.v (.int .i64 0)), .d (.v (.int .i64 0)), .d (.v (.int .i64 0)), .d (.v (.int .i64 0)), .d (.v (.int .i64 0)), .d (.v (.int .i64 0)), .d (.v (.int .i64 0)), .d (.v (.int .i64 0)), .d (.v (.int .i64 0)), .d (.v (.int .i64 0)), .d (.v (.int .i64 0)), .d (.v (.int .i64 0)), .d (.v (.int .i64 0)), .d (.v (.int .i64 0)), .d (.v (.int .i64 0)), .d (.v (.int .i64 0)), .d (.v (.int .i64 0)), .d (.v (.int .i64 0)), .d (.v (.int .i64 0)), .d (.v (.int .i64 0)), .d (.v (.int .i64 0)), .d (.v (.int .i64 0)), .d (.v (.int .i64 0)), .d (.v (.int .i64 0)), .d (.v (.int .i64 0)), .d (.v (.bool false)), .d (.v (.int .i64 0)), .d (.v (.int .i64 0)), .d (.v (.int .i64 0)), .d (.v (.slice none 0 0)), .d (.v (.slice none 0 0)), .d (.v (.slice none 0 0))]
theorem zE_eq : (fkc fk0).map AV.d = zE := by kernel_rfl
abbrev rfB2 (a b : List Sg) (r : R2) : Bxs := [(3, .cells 24 [.d (sgD a false)]), (4, .cells 24 [.d (sgD b false)]), (5, .cells 26 [.d (.v (.int .i64 r.1)), .d (.v (.int .i64 r.2))]), (6, .cells 61 ((fkc fk0).map .d))]
abbrev rfS (a b : List Sg) (r : R2) (L K : List Sg) (i : Nat) : St := mkS 50 [(3, .ptr 3 0), (4, .ptr 4 0), (5, .ptr 5 0), (6, .ptr 6 0), (8, .row 503), (9, .d (sgD L false)), (10, .d (.v (.int .i64 i)))] (rfB2 a b r ++ [(503, .row 58 61 K.length ((sgC K).map .d))])
theorem forks13_row (l : List Sg) (hl : ∀ p ∈ l, sgOk p) (hn : l.length ≤ 900) : Fun Tryz.prog 22 [.row 1000] [(1000, sgB l)] (.d (slK (frkL l))) [] fun _ => False :=
  Fun.ofRow 1000 (T := 58) (cs := sgC l) (args' := [.row 1000]) (bi' := [(1000, sgB l)]) (forks13_ok l false hl (by omega)) rfl rfl trivial
set_option maxRecDepth 10000 in
set_option maxHeartbeats 4000000 in
theorem refFind_ok (a b : List Sg) (r : R2) (ha : ∀ p ∈ a, sgOk p) (hb : ∀ p ∈ b, sgOk p) (hn : a.length + b.length ≤ 900) (hr1 : isI r.1) (hr2 : isI r.2) : Fn0 Tryz.prog 8 [lgD a false, lgD b false, rfD r] (.tup [.agg (fkc (fndR a b r)), .v (.bool (fndO a b r).isSome)]) := by
  have hab : ∀ p ∈ a ++ b, sgOk p := fun p hp => by
    rcases List.mem_append.1 hp with h | h
    · exact ha p h
    · exact hb p h
  have hrk : ∀ p ∈ ofR r (a ++ b), sgOk p := fun p hp => hab p (List.mem_filter.1 hp).1
  have hsa := sgC_len ha
  have hsb := sgC_len hb
  have hlen : (a ++ b).length = a.length + b.length := List.length_append
  refine Fun.of_wp (pn := noPn) Tryz.tab Tryz.func8 rfl fun β0 => ?_
  simp only [Tryz.f8]
  repeat (first | apply wG | (apply wR; simp -dsimp) | refine aI ?_)
  refine WP.loopWk (fun m Z => ∃ i : Nat, m = (a ++ b).length - i ∧ i ≤ (a ++ b).length ∧ Z = rfS a b r (a ++ b) (ofR r ((a ++ b).take i)) i) (a ++ b).length (S0 := rfS a b r (a ++ b) [] 0)
    ((Wk.lessE [] (S' := mkS 50 [(3, .ptr 3 0), (4, .ptr 4 0), (5, .ptr 5 0), (6, .ptr 6 0), (8, .row 12), (9, .row 19), (10, .d (.v (.int .i64 0)))] (rfB2 a b r ++ [(12, .row 58 61 0 []), (19, .row 58 61 (a ++ b).length ((sgC (a ++ b)).map .d))])) (by simp) (by rw [sgC_append, hlen]; simp; rfl)).trans ((Wk.freeze (k := 19) (T := 58) (sz := 61) (n := (a ++ b).length) (ds := sgC (a ++ b)) (by simp)).trans (Wk.go [] 12 503 (by decide) (by simp) (by simp) (by simp [sgC])))) ⟨0, rfl, by omega, rfl⟩ ?_
  have hfa : frkL (ofR r (a ++ b)) = (fndO a b r).toList := fnd_head (a ++ b) r
  have hfr : fndR a b r = (fndO a b r).getD fk0 := rfl
  have hofl := ofR_len r (a ++ b)
  rintro _ _ ⟨i, rfl, hi, rfl⟩
  generalize a ++ b = L at hab hrk hlen hi hfa hofl
  have hqq := fndR_ok ha hb r
  generalize fndR a b r = q0 at hfr hqq
  generalize fndO a b r = o at hfa hfr
  simp -dsimp
  repeat (first | apply wG | (apply wR; simp -dsimp) | refine aI ?_)
  by_cases hil : i < L.length
  · have h1 := sgc_at hil hab
    have hp := hab L[i] (List.getElem_mem hil)
    have hLC := sgC_len hab
    have e1 : IntKind.i64.wrap ((i : Int) + 1) = ((i + 1 : Nat) : Int) := by rw [IntWalk.i64_in _ (by omega)]; omega
    have htk : ofR r (L.take (i + 1)) = ofR r (L.take i) ++ if refS L[i] = r then [L[i]] else [] := by
      rw [List.take_succ_eq_append_getElem hil, ofR, List.filter_append]
      congr 1
      by_cases h : refS L[i] = r <;> simp [h]
    have hkl : (ofR r (L.take i)).length ≤ i := by
      have := ofR_len r (L.take i)
      rw [List.length_take] at this; omega
    generalize L[i] = p at h1 hp htk
    generalize ofR r (L.take i) = K at htk hkl
    have lp := sgc_len hp
    have p57 := sgc_57 p
    have p57D := sgc_57D p
    have tp := sgc_t hp
    have hof := refOf2_ok p.1
    refine cT (by simp; omega) ?_
    refine WP.skip ?_
    simp -dsimp
    repeat (first | apply wG | (apply wR; simp -dsimp [h1, p57, p57D]) | refine aI ?_)
    refine vcStop.call0L Tryz.body6 hof rfl rfl (And.intro (by simp [fD]) trivial) ?_
    simp -dsimp
    repeat (first | apply wG | (apply wR; simp -dsimp) | refine aI ?_)
    refine vcStop.eqS Tryz.tab gokF noarrF rfl (.inl rfl) (m := 5) (by omega) Tryz.key52 (by decide) Tryz.gd39r st39r (cs := [.v (.int .i64 (refS p).1), .v (.int .i64 (refS p).2)]) (es := [.v (.int .i64 r.1), .v (.int .i64 r.2)]) (by simp [refS, refF]) (by simp) (ref_okD (hp.1.1 0) (hp.1.1 1)) (ref_okD hr1 hr2) (ref_lits (refS p) r) ?_
    simp -dsimp [eqRes]
    repeat (first | apply wG | (apply wR; simp -dsimp) | refine aI ?_)
    by_cases he : refS p = r
    · rw [if_pos he] at htk
      have hset : ∀ cs : List AV, cs.length = 61 → setL cs 0 ((sgc p).map AV.d) = (sgc p).map .d := fun cs hc => by
        rw [setL_eq _ _ _ (by rw [List.length_map]; omega), List.take_zero, List.nil_append, List.length_map, List.drop_of_length_le (by omega), List.append_nil]
      refine cT (by simp [he]) ?_
      repeat (first | apply wG | (apply wR; simp -dsimp [h1, tp, hset]) | refine aI ?_)
      refine And.intro ⟨lp, sgc_oneD hp⟩ ?_
      repeat (first | apply wG | (apply wR; simp -dsimp) | refine aI ?_)
      have hcat : sgC (K ++ [p]) = sgC K ++ sgc p := by rw [sgC_append]; simp [sgC, sgc]
      refine loopW.next (rfS a b r L (ofR r (L.take (i + 1))) (i + 1)) (Wk.go [39, 503] 40 503 (by decide) (by simp) (by simp [e1]) (by simp [htk, hcat])) (L.length - (i + 1)) (by omega) ⟨i + 1, rfl, by omega, rfl⟩
    · rw [if_neg he, List.append_nil] at htk
      refine cF (by simp [he]) ?_
      refine WP.skip ?_
      simp -dsimp
      repeat (first | apply wG | (apply wR; simp -dsimp) | refine aI ?_)
      refine loopW.next (rfS a b r L (ofR r (L.take (i + 1))) (i + 1)) (Wk.lessE [] (by simp [e1]) (by simp [htk])) (L.length - (i + 1)) (by omega) ⟨i + 1, rfl, by omega, rfl⟩
  · rw [List.take_of_length_le (by omega)]
    refine cF (by simp; omega) ?_
    refine WP.exit ?_
    simp -dsimp
    repeat (first | apply wG | (apply wR; simp -dsimp) | refine aI ?_)
    generalize ofR r L = K at hrk hfa hofl
    have hfk := forks13_row K hrk (by omega)
    rw [hfa] at hfk
    refine vcStop.call Tryz.body22 (hfk) (rl [(1000, 503)]) rfl rfl (by simp [BoxLeq]) (CallOk.of (by simp [BoxLeq]) rfl (by first | rfl | (simp [BoxLeq]; done)) (by simp [BoxLeq]) (by simp [BoxLeq])) (fun _ h => h.elim) (fun ⟨_, h⟩ => h.elim) (fun ⟨_, h⟩ => h.elim) (by simp [BoxLeq]) ?_
    simp -dsimp
    repeat (first | apply wG | (apply wR; simp -dsimp) | refine aI ?_)
    cases o with
    | none =>
      rw [hfr]
      refine cT (by simp) ?_
      rw [zE_eq, zE]
      repeat (first | apply wG | (apply wR; simp -dsimp) | refine aI ?_)
      refine WP.ret (finQ.retE ?_)
      simp -dsimp
      exact (Leq.tup (l := [.agg ((fkc fk0).map .d), .d (.v (.bool false))]) (l' := [.d (.agg (fkc fk0)), .d (.v (.bool false))]) ⟨Leq.aggD (fkc fk0), .refl _, trivial⟩).trans (Leq.tupD [.agg (fkc fk0), .v (.bool false)])
    | some q =>
      obtain rfl : q0 = q := hfr
      obtain ⟨hqa, hqb⟩ := hqq
      have fl := fkc_len hqa hqb
      have fo := fkc_one hqa hqb
      have e1 : fkC [q0] = fkc q0 := by simp [fkC]
      have ft : List.take 122 (fkc q0) = fkc q0 := List.take_of_length_le (by omega)
      refine cF (by simp) ?_
      refine WP.skip ?_
      have l0 : (fkc fk0).length = 122 := rfl
      have hs0 : setL ((fkc fk0).map AV.d) 0 ((fkc q0).map AV.d) = (fkc q0).map .d := by
        rw [setL_eq _ _ _ (by rw [List.length_map, List.length_map, l0, fl]; omega), List.take_zero, List.nil_append, List.length_map, List.drop_of_length_le (by rw [List.length_map, l0, fl]; omega), List.append_nil]
      simp -dsimp
      repeat (first | apply wG | (apply wR; simp -dsimp [e1, ft, fl, hs0, l0]) | refine aI ?_)
      refine WP.ret (finQ.retE ?_)
      simp -dsimp [fl]
      rw [show List.take 122 ((fkc q0).map AV.d) = (fkc q0).map .d from List.take_of_length_le (by rw [List.length_map, fl]; omega)]
      exact (Leq.tup (l := [.agg ((fkc q0).map .d), .d (.v (.bool true))]) (l' := [.d (.agg (fkc q0)), .d (.v (.bool true))]) ⟨Leq.aggD (fkc q0), .refl _, trivial⟩).trans (Leq.tupD [.agg (fkc q0), .v (.bool true)])
end Go.Proofs.YtadfkiigjnbdgaaGreatDoor
