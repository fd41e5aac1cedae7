/-
  Evidence: checking a ledger without crews; Check walked.
-/
import Derived.Test.YtnljenjcaeophaaGreatDoorKO
import Derived.Test.YtnljenjcaeophaaGreatDoorKQ
set_option linter.unusedVariables false
set_option linter.unusedSimpArgs false
set_option linter.unusedSectionVars false
namespace Go.Proofs.YtnljenjcaeophaaGreatDoor
open Go.Xe Go.RowKit
theorem chkN0_ok (b : Bool) : Fn0 Tryz.prog 21 [nilD, lgD [] b] (.v (.int .i64 0)) := by
 refine Fun.of_wp (pn := noPn) Tryz.tab Tryz.func21 rfl fun β0 => ?_
 simp only [Tryz.f21]
 repeat(first|apply wG|(apply wR;simp -dsimp)|refine aI ?_)
 refine vcStop.call0 Tryz.body33 crews_nil rfl rfl (by simp) ?_
 simp -dsimp
 repeat(first|apply wG|(apply wR;simp -dsimp)|refine aI ?_)
 refine cF (by simp) ?_
 refine WP.skip ?_
 simp -dsimp
 repeat(first|apply wG|(apply wR;simp -dsimp)|refine aI ?_)
 refine cF (by simp) ?_
 refine WP.skip ?_
 simp -dsimp
 repeat(first|apply wG|(apply wR;simp -dsimp)|refine aI ?_)
 refine vcStop.call0L Tryz.body57 (verN0_ok b) rfl rfl (And.intro (.refl _) (And.intro (.refl _) trivial)) ?_
 simp -dsimp
 repeat(first|apply wG|(apply wR;simp -dsimp)|refine aI ?_)
 refine cF (by simp) ?_
 refine WP.skip ?_
 simp -dsimp
 repeat(first|apply wG|(apply wR;simp -dsimp)|refine aI ?_)
 refine WP.loopWk (fun m S => S = mkS 44 [(3, .ptr 3 0), (7, .d (.v (.int .i64 1)))] [(3, .cells 25 [.d (sgD [] b)])]) 1 (S0 := mkS 44 [(3, .ptr 3 0), (7, .d (.v (.int .i64 1)))] [(3, .cells 25 [.d (sgD [] b)])]) (Wk.lessE [] (by simp) (by simp)) rfl ?_
 rintro _ _ rfl
 simp -dsimp
 repeat(first|apply wG|(apply wR;simp -dsimp)|refine aI ?_)
 refine cF (by simp) ?_
 refine WP.exit ?_
 simp -dsimp
 repeat(first|apply wG|(apply wR;simp -dsimp)|refine aI ?_)
 refine WP.ret (finQ.retE ?_)
 simp -dsimp
theorem chkN1_ok (p : Sg) (l : List Sg) (b : Bool) (hl : ∀ q ∈ p :: l, sgOk q) (h0 : 0 ≤ p.1 0) (hn : (p :: l).length ≤ 1000) : Fn0 Tryz.prog 21 [nilD, lgD (p :: l) b] (.v (.int .i64 (oneE p.1))) := by
 have hv := verN1_ok p l b hl h0
 generalize p :: l = X at *
 refine Fun.of_wp (pn := noPn) Tryz.tab Tryz.func21 rfl fun β0 => ?_
 simp only [Tryz.f21]
 repeat(first|apply wG|(apply wR;simp -dsimp)|refine aI ?_)
 refine vcStop.call0 Tryz.body33 crews_nil rfl rfl (by simp) ?_
 simp -dsimp
 repeat(first|apply wG|(apply wR;simp -dsimp)|refine aI ?_)
 refine cF (by simp) ?_
 refine WP.skip ?_
 simp -dsimp
 repeat(first|apply wG|(apply wR;simp -dsimp)|refine aI ?_)
 refine cF (by simp; omega) ?_
 refine WP.skip ?_
 simp -dsimp
 repeat(first|apply wG|(apply wR;simp -dsimp)|refine aI ?_)
 refine vcStop.call0L Tryz.body57 hv rfl rfl (And.intro (.refl _) (And.intro (.refl _) trivial)) ?_
 simp -dsimp
 repeat(first|apply wG|(apply wR;simp -dsimp)|refine aI ?_)
 have hne : ¬ oneE p.1 = 0 := by unfold oneE; split <;> decide
 refine cT (by simp; exact hne) ?_
 repeat(first|apply wG|(apply wR;simp -dsimp)|refine aI ?_)
 refine WP.ret (finQ.retE ?_)
 simp -dsimp
def shwB (a b : List Sg) : Bool := (altL (vF a) (vF b)).all fun r => (fndO a b r).isSome || decide (r ∈ gapS (vF b) (isA (crN (vF b) (vF b).length)))
def chkV (ea eb : Int) (a b : List Sg) : Int := if ea ≠ 0 then ea else if eb ≠ 0 then eb else if shwB a b = true then 0 else 430
theorem fk0_ok : sgOk fk0.1 ∧ sgOk fk0.2 := by
 have h : fOk f0 := ⟨fun i => by simp [f0, isI], .inl rfl, fun i _ => rfl⟩
 exact ⟨⟨h, rfl, zs_one⟩, ⟨h, rfl, zs_one⟩⟩
theorem fndR_ok {a b : List Sg} (ha : ∀ p ∈ a, sgOk p) (hb : ∀ p ∈ b, sgOk p) (r : R2) : sgOk (fndR a b r).1 ∧ sgOk (fndR a b r).2 := by
 rw [fndR]
 cases h : fndO a b r with
 | none => exact fk0_ok
 | some q =>
  have hab : ∀ p ∈ a ++ b, sgOk p := fun p hp => by
   rcases List.mem_append.1 hp with h | h
   ·exact ha p h
   ·exact hb p h
  obtain ⟨h1, h2, _⟩ := two_ok (fun s hs => (hab s hs).1) (a := q.1) (b := q.2) h
  exact ⟨hab _ (fstO_in h1), hab _ (fstO_in h2)⟩
theorem gap_isI {A : List F} (hA : ∀ f ∈ A, fOk f) (hn : ∀ f ∈ A, f 1 ≤ 200) {r : R2} (h : r ∈ gapS A (isA (crN A A.length))) : isI r.1 ∧ isI r.2 := by
 obtain ⟨h1, h2, h3, _⟩ := (gapS_in _ _ _).1 h
 rw [isA_in] at h1
 obtain ⟨f, hf, e⟩ := ((crN_ok A A.length (Nat.le_refl _)).2.2 r.1).1 h1
 have := lastN_bd (A := A) (c := r.1) (b := 200) (by omega) hn
 exact ⟨e ▸ (hA f (List.mem_of_mem_take hf)).1 0, by unfold isI; omega⟩
theorem alt_isI {A B : List F} (hA : ∀ f ∈ A, fOk f) (hB : ∀ f ∈ B, fOk f) {r : R2} (h : r ∈ altL A B) : isI r.1 ∧ isI r.2 := by
 obtain ⟨f, hf, _, rfl⟩ := (altL_iff hA hB r).1 h
 exact ⟨(hA f hf).1 0, (hA f hf).1 1⟩
theorem altL_len (A B : List F) : (altL A B).length ≤ A.length := by
 have h1 := sortR_len (altR A B) []
 have h2 : (altR A B).length ≤ A.length := by rw [altR, List.length_map]; exact List.length_filter_le _ _
 have e : altL A B = (altR A B).foldl (fun a r => insR r a) [] := rfl
 simp only [List.length_nil] at h1
 rw [e]; omega
def addL (l : List R2) : List R2 := l.foldl addRef []
theorem addL_in (l : List R2) (r : R2) : r ∈ addL l ↔ r ∈ l := by
 rw [addL, (plcN_ok l [] List.nodup_nil).2]
 simp
theorem addL_snoc (l : List R2) (r : R2) : addL (l ++ [r]) = addRef (addL l) r := by rw [addL, List.foldl_append]; rfl
abbrev ckG (c : D) (a b : List Sg) (gs : List R2) (i : Nat) (M : List R2) : St := mkS 67 [(0, .d c), (4, .ptr 4 0), (5, .ptr 5 0), (10, .row 32), (34, .d (slR gs)), (35, .d (.v (.int .i64 gs.length))), (36, .d (.v (.int .i64 i)))]
 [(4, .cells 25 [.d (sgD a false)]), (5, .cells 25 [.d (sgD b false)]), (32, .mp (refsM M))]
abbrev ckA (c : D) (a b : List Sg) (M al : List R2) (i : Nat) : St := mkS 67 [(0, .d c), (4, .ptr 4 0), (5, .ptr 5 0), (10, .row 32), (45, .d (slR al)), (46, .d (.v (.int .i64 al.length))), (47, .d (.v (.int .i64 i)))]
 [(4, .cells 25 [.d (sgD a false)]), (5, .cells 25 [.d (sgD b false)]), (32, .mp (refsM M))]
abbrev ckS (c : D) (a b : List Sg) (i : Nat) : St := mkS 67 [(0, .d c), (4, .ptr 4 0), (5, .ptr 5 0), (19, .row 19), (20, .d (.v (.int .i64 2))), (21, .d (.v (.int .i64 i)))]
 [(4, .cells 25 [.d (sgD a false)]), (5, .cells 25 [.d (sgD b false)]), (19, .row 25 1 2 [.d (sgD a false), .d (sgD b false)])]
set_option maxRecDepth 10000 in
set_option maxHeartbeats 4000000 in
theorem evCheck_ok (c : D) (a b : List Sg) (ba bb : Bool) (ea eb : Int) (hca : Fn0 Tryz.prog 21 [c, lgD a false] (.v (.int .i64 ea))) (hcb : Fn0 Tryz.prog 21 [c, lgD b false] (.v (.int .i64 eb))) (hla : a.length ≤ 12) (hlb : b.length ≤ 12) (ha : ∀ p ∈ a, sgOk p) (hb : ∀ p ∈ b, sgOk p) (hno : ∀ p ∈ b, p.1 1 ≤ 200) :
  Fn0 Tryz.prog 16 [c, lgD a false, lgD b false] (.v (.int .i64 (chkV ea eb a b))) := by
 refine Fun.of_wp (pn := noPn) Tryz.tab Tryz.func16 rfl fun β0 => ?_
 simp only [Tryz.f16]
 repeat(first|apply wG|(apply wR;simp -dsimp)|refine aI ?_)
 refine WP.loopWk (fun m S => ∃ i : Nat, i ≤ 2 ∧ m = 2 - i ∧ (1 ≤ i → ea = 0) ∧ (2 ≤ i → eb = 0) ∧ S = ckS c a b i) 2 (S0 := ckS c a b 0) (Wk.lessE [] (by simp) (by simp)) ⟨0, by omega, rfl, by omega, by omega, rfl⟩ ?_
 rintro m _ ⟨i, hi, rfl, h1, h2, rfl⟩
 have w1 : IntKind.i64.wrap 1 = 1 := by decide
 have w2 : IntKind.i64.wrap 2 = 2 := by decide
 match i, hi, h1, h2 with
 | 0, _, _, _ =>
  simp -dsimp
  repeat(first|apply wG|(apply wR;simp -dsimp)|refine aI ?_)
  refine cT (by simp) ?_
  refine WP.skip ?_
  simp -dsimp
  repeat(first|apply wG|(apply wR;simp -dsimp)|refine aI ?_)
  refine vcStop.call0L Tryz.body21 hca rfl rfl (And.intro (.refl _) (And.intro (Leq.aggD [sgD a false]) trivial)) ?_
  simp -dsimp
  repeat(first|apply wG|(apply wR;simp -dsimp)|refine aI ?_)
  by_cases he : ea = 0
  ·refine cF (by simp [he]) ?_
   refine WP.skip ?_
   simp -dsimp
   repeat(first|apply wG|(apply wR;simp -dsimp)|refine aI ?_)
   refine loopW.next (ckS c a b 1) (Wk.lessE [8] (by simp [w1]) (by simp)) 1 (by omega) ⟨1, by omega, rfl, fun _ => he, by omega, rfl⟩
  ·refine cT (by simp [he]) ?_
   repeat(first|apply wG|(apply wR;simp -dsimp)|refine aI ?_)
   have hr : chkV ea eb a b = ea := by rw [chkV, if_pos he]
   refine WP.ret (finQ.retE ?_)
   simp -dsimp [hr]
 | 1, _, h1, _ =>
  simp -dsimp
  repeat(first|apply wG|(apply wR;simp -dsimp)|refine aI ?_)
  refine cT (by simp) ?_
  refine WP.skip ?_
  simp -dsimp
  repeat(first|apply wG|(apply wR;simp -dsimp)|refine aI ?_)
  refine vcStop.call0L Tryz.body21 hcb rfl rfl (And.intro (.refl _) (And.intro (Leq.aggD [sgD b false]) trivial)) ?_
  simp -dsimp
  repeat(first|apply wG|(apply wR;simp -dsimp)|refine aI ?_)
  by_cases he : eb = 0
  ·refine cF (by simp [he]) ?_
   refine WP.skip ?_
   simp -dsimp
   repeat(first|apply wG|(apply wR;simp -dsimp)|refine aI ?_)
   refine loopW.next (ckS c a b 2) (Wk.lessE [8] (by simp [w2]) (by simp)) 0 (by omega) ⟨2, by omega, rfl, fun _ => h1 (by omega), fun _ => he, rfl⟩
  ·refine cT (by simp [he]) ?_
   repeat(first|apply wG|(apply wR;simp -dsimp)|refine aI ?_)
   have hr : chkV ea eb a b = eb := by rw [chkV, if_neg (by simp [h1 (by omega)]), if_pos he]
   refine WP.ret (finQ.retE ?_)
   simp -dsimp [hr]
 | 2, _, h1, h2 =>
  have ea0 := h1 (by omega)
  have eb0 := h2 (by omega)
  have hr : chkV ea eb a b = if shwB a b = true then 0 else 430 := by rw [chkV, if_neg (by simp [ea0]), if_neg (by simp [eb0])]
  rw [hr]
  simp -dsimp
  repeat(first|apply wG|(apply wR;simp -dsimp)|refine aI ?_)
  refine cF (by simp) ?_
  refine WP.exit ?_
  simp -dsimp
  repeat(first|apply wG|(apply wR;simp -dsimp)|refine aI ?_)
  refine vcStop.makeMap 32 rfl (by simp) ?_
  simp -dsimp
  repeat(first|apply wG|(apply wR;simp -dsimp)|refine aI ?_)
  have hA := vF_fOk fun p hp => (ha p hp).1
  have hB := vF_fOk fun p hp => (hb p hp).1
  have hn200 : ∀ f ∈ vF b, f 1 ≤ 200 := fun f hf => by
   obtain ⟨p, hp, rfl, _⟩ := vF_iff.1 hf
   exact hno p hp
  refine vcStop.call0L Tryz.body46 (gaps_ok b false hlb hb hno) rfl rfl (And.intro (Leq.aggD [sgD b false]) trivial) ?_
  have hgI : ∀ r ∈ gapS (vF b) (isA (crN (vF b) (vF b).length)), isI r.1 ∧ isI r.2 := fun r hr => gap_isI hB hn200 hr
  have hgl := gapS_len (vF b) hn200 (isA (crN (vF b) (vF b).length))
  have hcl : (isA (crN (vF b) (vF b).length)).length ≤ 12 := by
   have h1 := (crN_ok (vF b) (vF b).length (Nat.le_refl _)).2.1
   have h2 := vF_len b
   rw [isA_len]; omega
  have hsw : shwB a b = (altL (vF a) (vF b)).all fun r => (fndO a b r).isSome || decide (r ∈ gapS (vF b) (isA (crN (vF b) (vF b).length))) := rfl
  generalize gapS (vF b) (isA (crN (vF b) (vF b).length)) = gs at hgI hgl hsw
  simp -dsimp
  repeat(first|apply wG|(apply wR;simp -dsimp)|refine aI ?_)
  refine WP.loopWk (fun m S => ∃ g1 g2, gs = g1 ++ g2 ∧ m = g2.length ∧ S = ckG c a b gs g1.length (addL g1)) gs.length (S0 := ckG c a b gs 0 []) (Wk.lessE [19] (by simp) (by simp [refsM])) ⟨[], gs, rfl, rfl, rfl⟩ ?_
  rintro _ _ ⟨g1, g2, hg, rfl, rfl⟩
  simp -dsimp
  repeat(first|apply wG|(apply wR;simp -dsimp)|refine aI ?_)
  cases g2 with
  | cons r g2 =>
   have hgl2 : gs.length = g1.length + (g2.length + 1) := by rw [hg]; simp
   have hat := rfC_at (x := gs) (i := g1.length) (by omega)
   have hre : gs[g1.length]'(by omega) = r := by simp [hg]
   rw [hre] at hat
   have lr := rfC_len gs
   obtain ⟨r1, r2⟩ := hgI r (by rw [hg]; simp)
   obtain ⟨lk, hlk⟩ := ref_key r1 r2
   have e1 : IntKind.i64.wrap ((g1.length : Int) + 1) = (g1.length : Int) + 1 := IntWalk.i64_in _ (by omega)
   have hI : refsI (addL g1) := fun q hq => hgI q (by rw [hg]; rw [addL_in] at hq; simp [hq])
   have has := addL_snoc g1 r
   refine cT (by simp; omega) ?_
   refine WP.skip ?_
   simp -dsimp
   repeat(first|apply wG|(apply wR;simp -dsimp [hat])|refine aI ?_)
   refine vcStop.mapPut Tryz.tab rfl rfl ref_keyed (j := 32) rfl (kvs := refsM (addL g1)) (refsM (addRef (addL g1) r)) rfl (key := refV r) (ref_leq _ _) (d := .v (.bool true)) (.refl _) hlk (refs_keys hI) (refs_put (addL g1) _) ?_
   simp -dsimp
   repeat(first|apply wG|(apply wR;simp -dsimp)|refine aI ?_)
   refine loopW.next (ckG c a b gs (g1 ++ [r]).length (addL (g1 ++ [r]))) (Wk.lessE [12] (by simp [e1]) (by simp [has])) g2.length (by simp) ⟨g1 ++ [r], g2, by simp [hg], rfl, rfl⟩
  | nil =>
   simp only [List.append_nil] at hg
   subst hg
   have hI : refsI (addL gs) := fun q hq => hgI q ((addL_in _ _).1 hq)
   have hM := addL_in gs
   refine cF (by simp) ?_
   refine WP.exit ?_
   simp -dsimp
   repeat(first|apply wG|(apply wR;simp -dsimp)|refine aI ?_)
   refine vcStop.call0L Tryz.body15 (altered_ok a b false false (by omega) (by omega) ha hb) rfl rfl (And.intro (Leq.aggD [sgD a false]) (And.intro (Leq.aggD [sgD b false]) trivial)) ?_
   have hal := altL_len (vF a) (vF b)
   have haI : ∀ r ∈ altL (vF a) (vF b), isI r.1 ∧ isI r.2 := fun r hr => alt_isI hA hB hr
   have hva := vF_len a
   generalize altL (vF a) (vF b) = al at hal haI hsw
   generalize addL gs = M at hI hM
   simp -dsimp
   repeat(first|apply wG|(apply wR;simp -dsimp)|refine aI ?_)
   refine WP.loopWk (fun m S => ∃ a1 a2, al = a1 ++ a2 ∧ m = a2.length ∧ (a1.all fun r => (fndO a b r).isSome || decide (r ∈ gs)) = true ∧ S = ckA c a b M al a1.length) al.length (S0 := ckA c a b M al 0) (Wk.lessE [] (by simp) (by simp)) ⟨[], al, rfl, rfl, rfl, rfl⟩ ?_
   rintro _ _ ⟨a1, a2, hal2, rfl, hsh, rfl⟩
   simp -dsimp
   repeat(first|apply wG|(apply wR;simp -dsimp)|refine aI ?_)
   cases a2 with
   | cons r a2 =>
    have hgl2 : al.length = a1.length + (a2.length + 1) := by rw [hal2]; simp
    have hat := rfC_at (x := al) (i := a1.length) (by omega)
    have hre : al[a1.length]'(by omega) = r := by simp [hal2]
    rw [hre] at hat
    have lr := rfC_len al
    obtain ⟨r1, r2⟩ := haI r (by rw [hal2]; simp)
    obtain ⟨lk, hlk⟩ := ref_key r1 r2
    have e1 : IntKind.i64.wrap ((a1.length : Int) + 1) = (a1.length : Int) + 1 := IntWalk.i64_in _ (by omega)
    obtain ⟨hq1, hq2⟩ := fndR_ok ha hb r
    have fl := fkc_len hq1 hq2
    have fo := fkc_one hq1 hq2
    have hfi := find_ok a b false false r ha hb (by omega) r1 r2
    refine cT (by simp; omega) ?_
    refine WP.skip ?_
    simp -dsimp
    repeat(first|apply wG|(apply wR;simp -dsimp [hat])|refine aI ?_)
    refine vcStop.call0L Tryz.body41 hfi rfl rfl (And.intro (Leq.aggD [sgD a false]) (And.intro (Leq.aggD [sgD b false]) (And.intro (Leq.aggD [.v (.int .i64 r.1), .v (.int .i64 r.2)]) trivial))) ?_
    simp -dsimp [fl]
    repeat(first|apply wG|(apply wR;simp -dsimp [fl])|refine aI ?_)
    refine vcStopG.mapGet Tryz.tab rfl rfl ref_keyed Tryz.zeroValue4 (j := 32) (fun hg => by simp [hg]) (kvs := refsM M) rfl (key := refV r) (fun hg => by simp [hg]; exact ref_leq _ _) (.v (.bool (decide (r ∈ M)))) hlk (refs_keys hI) (refs_get M r) ?_
    have hdm : decide (r ∈ M) = decide (r ∈ gs) := by rw [decide_eq_decide]; exact hM r
    rw [hdm]
    have hne2 : ((fndO a b r).isSome || decide (r ∈ gs)) = false → shwB a b = false := fun h => by
     rw [hsw, hal2, List.all_append, List.all_cons, h]
     simp
    have hsn : ((fndO a b r).isSome || decide (r ∈ gs)) = true → ((a1 ++ [r]).all fun r => (fndO a b r).isSome || decide (r ∈ gs)) = true := fun h => by
     rw [List.all_append, hsh, List.all_cons, h]
     rfl
    generalize fndO a b r = o at hne2 hsn
    simp -dsimp
    repeat(first|apply wG|(apply wR;simp -dsimp)|refine aI ?_)
    cases o with
    | some q =>
     refine cF (by simp) ?_
     refine WP.skip ?_
     simp -dsimp
     repeat(first|apply wG|(apply wR;simp -dsimp)|refine aI ?_)
     refine loopW.next (ckA c a b M al (a1 ++ [r]).length) (Wk.lessE [14, 15] (by simp [e1]) (by simp)) a2.length (by simp) ⟨a1 ++ [r], a2, by simp [hal2], rfl, hsn rfl, rfl⟩
    | none =>
     by_cases hrg : r ∈ gs
     ·refine cF (by simp [hrg]) ?_
      refine WP.skip ?_
      simp -dsimp
      repeat(first|apply wG|(apply wR;simp -dsimp)|refine aI ?_)
      refine loopW.next (ckA c a b M al (a1 ++ [r]).length) (Wk.lessE [14, 15] (by simp [e1]) (by simp)) a2.length (by simp) ⟨a1 ++ [r], a2, by simp [hal2], rfl, hsn (by simp [hrg]), rfl⟩
     ·refine cT (by simp [hrg]) ?_
      repeat(first|apply wG|(apply wR;simp -dsimp)|refine aI ?_)
      have hs0 : shwB a b = false := hne2 (by simp [hrg])
      refine WP.ret (finQ.retE ?_)
      simp -dsimp [hs0]
   | nil =>
    simp only [List.append_nil] at hal2
    subst hal2
    refine cF (by simp) ?_
    refine WP.exit ?_
    simp -dsimp
    repeat(first|apply wG|(apply wR;simp -dsimp)|refine aI ?_)
    have hs1 : shwB a b = true := by rw [hsw]; exact hsh
    refine WP.ret (finQ.retE ?_)
    simp -dsimp [hs1]
end Go.Proofs.YtnljenjcaeophaaGreatDoor
