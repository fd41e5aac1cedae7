/-
  Joined texts.
-/
import Derived.Test.YtjjaabidbeoomaaGreatDoorKZc
set_option linter.unusedVariables false
set_option linter.unusedSimpArgs false
set_option linter.unusedSectionVars false
/-
  Rulings: the reference's cases of a kind.
-/
set_option linter.unusedSimpArgs false
set_option linter.unusedVariables false
namespace Go.Proofs.YtjjaabidbeoomaaGreatDoor
open Go.Xe Go.RowKit

theorem vcStopG.idle {P : Program} {dn : Dn} {pn : Pn} {o : Oper} {g : Bool} {S : St} {acc : List TI} {rest : St → List TI → Prop} (d : D) (hg : g = false)
    (h : rest (S.put o.dst (.when g (.d d))) (⟨⟨.when g (.d d), [], [], []⟩, []⟩ :: acc)) : vcStopG P dn pn o rest g S acc :=
  ⟨.d d, [], fun e => (by rw [hg] at e; cases e), h⟩
theorem iD_at' : ∀ (l : List Int) (n : Nat) (h : n < l.length), (iD l)[n]? = some (.v (.int .i64 l[n]))
  | [], _, h => by cases h
  | x :: l, 0, _ => rfl
  | x :: l, n + 1, h => by simpa using iD_at' l n (by simpa using h)
theorem iD_gE (l : List Int) (n : Nat) (h : n < (iD l).length) : (iD l)[n] = .v (.int .i64 (l[n]'(by simpa using h))) := by
  have h1 := iD_at' l n (by simpa using h)
  rw [List.getElem?_eq_getElem h] at h1
  exact Option.some.inj h1
theorem iD_no (l : List Int) : (iD l)[l.length]? = none := List.getElem?_eq_none (by simp)
def lessI (x m : Int) : Bool := decide (m < x)
theorem twI_split (x : Int) : ∀ a : List Int, (a.takeWhile (lessI x)).length ≤ a.length ∧ (∀ n (h : n < (a.takeWhile (lessI x)).length) (h' : n < a.length), a[n] < x) ∧ ∀ h : (a.takeWhile (lessI x)).length < a.length, ¬ a[(a.takeWhile (lessI x)).length] < x
  | [] => ⟨by simp, fun n h => by simp at h, fun h => by simp at h⟩
  | m :: a => by
    obtain ⟨h1, h2, h3⟩ := twI_split x a
    by_cases hm : m < x
    · have e : (m :: a).takeWhile (lessI x) = m :: a.takeWhile (lessI x) := by simp [lessI, hm]
      rw [e]
      simp only [List.length_cons, List.getElem_cons_succ]
      refine ⟨by omega, fun n h h' => ?_, fun h => h3 (by omega)⟩
      cases n with
      | zero => exact hm
      | succ n => exact h2 n (by omega) (by omega)
    · have e : (m :: a).takeWhile (lessI x) = [] := by simp [lessI, hm]
      rw [e]
      exact ⟨by simp, fun n h => by simp at h, fun _ => hm⟩
/-- Whether the number stands there. -/
def eqAt (a : List Int) (n : Nat) (x : Int) : Bool := if h : n < a.length then decide (a[n] = x) else false
theorem insI_at (x : Int) : ∀ (a : List Int), AscI a → insI x a = if eqAt a (a.takeWhile (lessI x)).length x = true then a else a.take (a.takeWhile (lessI x)).length ++ x :: a.drop (a.takeWhile (lessI x)).length
  | [], _ => by simp [insI, eqAt]
  | m :: a, ha => by
    obtain ⟨h1, h2⟩ := List.pairwise_cons.1 ha
    have ih := insI_at x a h2
    rw [insI]
    by_cases hxm : x < m
    · have e : (m :: a).takeWhile (lessI x) = [] := by rw [List.takeWhile_cons, if_neg (by simp [lessI]; omega)]
      rw [if_pos hxm, e]
      have : ¬ m = x := by omega
      simp [eqAt, this]
    · rw [if_neg hxm]
      by_cases hxe : x = m
      · subst hxe
        have e : (x :: a).takeWhile (lessI x) = [] := by simp [lessI]
        rw [if_pos rfl, e]
        simp [eqAt]
      · have hm : m < x := by omega
        have e : (m :: a).takeWhile (lessI x) = m :: a.takeWhile (lessI x) := by simp [lessI, hm]
        rw [if_neg hxe, e, ih]
        have e2 : eqAt (m :: a) ((a.takeWhile (lessI x)).length + 1) x = eqAt a (a.takeWhile (lessI x)).length x := by simp [eqAt]
        simp only [List.length_cons, e2]
        split <;> simp
noncomputable def cBody : Code := Tryz.f25.body.getD .skip
noncomputable def cL0 : Code := Cl (Cl (Cr (Cl (Cr (Cr cBody)))))
noncomputable def cK : Code := Cl (Cl (Cr cL0))
noncomputable def cIn : Code := Cl (Cl (Cr (Cr (Cr cK))))
noncomputable def cX : Code := Cl (Cr (Cr (Cr (Cr cK))))
def kS (c : List F) (k : Int) (A : List Int) (i : Nat) (x : Int) (n : Nat) : St :=
  mkS 76 [(0, .d (slF c)), (1, .d (.v (.int .i64 k))), (5, .d (slI A)), (6, .d (.v (.int .i64 (i : Nat)))), (7, .d (.v (.int .i64 x))), (8, .d (.v (.int .i64 (n : Nat))))] []
set_option maxRecDepth 10000 in
set_option maxHeartbeats 4000000 in
theorem kin_ok {c : List F} {k : Int} {A : List Int} {i : Nat} {x : Int} (hA : A.length ≤ 100) {β0 : Nat → Value} {Q : Exit → St → Prop}
    (hQ : ∀ S', Wk S' (kS c k A i x (A.takeWhile (lessI x)).length) → Q .normal S') : WP Tryz.prog ⟨[], β0, none, false⟩ noPn cIn (blkQ 2 Q) (kS c k A i x 0) := by
  simp only [cIn, cK, cL0, cBody, Tryz.f25, Cl, Cr, Option.getD]
  obtain ⟨t1, t2, t3⟩ := twI_split x A
  generalize (A.takeWhile (lessI x)).length = T at t1 t2 t3 hQ
  refine WP.loopWk (fun m S => ∃ n, n + m = T ∧ S = kS c k A i x n) T (Wk.refl _) ⟨0, by omega, rfl⟩ ?_
  rintro m _ ⟨n, hnm, rfl⟩
  have e2 : IntKind.i64.wrap ((n : Int) + 1) = ((n + 1 : Nat) : Int) := by rw [IntWalk.i64_in _ (by omega)]; omega
  by_cases hn : n < A.length
  · have hq := iD_at' A n hn
    rw [kS]
    simp -dsimp
    repeat (first | refine wS ?_ | refine wB ?_ | ((first | refine wR ?_ | refine wD ?_); simp -dsimp [iD_gE, hn]) | refine aI ?_)
    by_cases hnT : n < T
    · have hlt := t2 n hnT hn
      refine WP.cond (b := true) (by simp [hlt]) (fun _ => ?_) (fun h => by cases h)
      refine WP.skip ?_
      simp -dsimp
      repeat (first | refine wS ?_ | refine wB ?_ | ((first | refine wR ?_ | refine wD ?_); simp -dsimp) | refine aI ?_)
      refine loopW.next (kS c k A i x (n + 1)) (Wk.lessE [] (by simp [kS, e2]) (by simp [kS])) (m - 1) (by omega) ⟨n + 1, by omega, rfl⟩
    · have hnT : n = T := by omega
      subst hnT
      have hlt := t3 hn
      refine WP.cond (b := false) (by simp; omega) (fun h => by cases h) (fun _ => ?_)
      refine WP.exit ?_
      exact hQ _ (Wk.lessE [] (by simp [kS]) (by simp [kS]))
  · have hnA : n = A.length := by omega
    have hnT : n = T := by omega
    subst hnT
    subst hnA
    have hq := iD_no A
    rw [kS]
    simp -dsimp
    repeat (first | refine wS ?_ | refine wB ?_ | ((first | refine wR ?_ | refine wD ?_); simp -dsimp [hq]) | refine aI ?_)
    refine vcStopG.idle (.v (.bool false)) (by simp) ?_
    simp -dsimp
    repeat (first | refine wS ?_ | refine wB ?_ | ((first | refine wR ?_ | refine wD ?_); simp -dsimp) | refine aI ?_)
    refine WP.cond (b := false) (by simp) (fun h => by cases h) (fun _ => ?_)
    refine WP.exit ?_
    exact hQ _ (Wk.lessE [] (by simp [kS]) (by simp [kS]))
set_option maxRecDepth 10000 in
set_option maxHeartbeats 4000000 in
theorem kx_ok {c : List F} {k : Int} {A : List Int} {i : Nat} {x : Int} {n : Nat} (hA : A.length ≤ 100) (hn : n ≤ A.length) {β0 : Nat → Value} {Q : Exit → St → Prop}
    (h1 : eqAt A n x = true → ∀ S', Wk S' (kS c k A i x n) → Q (.exit 1) S') (h0 : eqAt A n x = false → ∀ S', Wk S' (kS c k A i x n) → Q .normal S') : WP Tryz.prog ⟨[], β0, none, false⟩ noPn cX Q (kS c k A i x n) := by
  simp only [cX, cK, cL0, cBody, Tryz.f25, Cl, Cr, Option.getD]
  by_cases hnA : n < A.length
  · have hq := iD_at' A n hnA
    have he : eqAt A n x = decide (A[n] = x) := by simp [eqAt, hnA]
    rw [he] at h1 h0
    rw [kS]
    simp -dsimp
    repeat (first | refine wS ?_ | refine wB ?_ | ((first | refine wR ?_ | refine wD ?_); simp -dsimp [iD_gE, hnA]) | refine aI ?_)
    refine WP.cond (b := decide (A[n] = x)) (by simp) (fun hb => ?_) (fun hb => ?_)
    · refine WP.exit ?_
      exact h1 hb _ (Wk.lessE [] (by simp [kS]) (by simp [kS]))
    · refine WP.skip ?_
      exact h0 hb _ (Wk.lessE [] (by simp [kS]) (by simp [kS]))
  · have hnA' : n = A.length := by omega
    subst hnA'
    have he : eqAt A A.length x = false := by simp [eqAt]
    have hq := iD_no A
    rw [kS]
    simp -dsimp
    repeat (first | refine wS ?_ | refine wB ?_ | ((first | refine wR ?_ | refine wD ?_); simp -dsimp [hq]) | refine aI ?_)
    refine vcStopG.idle (.v (.bool false)) (by simp) ?_
    simp -dsimp
    repeat (first | refine wS ?_ | refine wB ?_ | ((first | refine wR ?_ | refine wD ?_); simp -dsimp) | refine aI ?_)
    refine WP.cond (b := false) (by simp) (fun h => by cases h) (fun _ => ?_)
    refine WP.skip ?_
    exact h0 he _ (Wk.lessE [] (by simp [kS]) (by simp [kS]))
/-- What a round adds. -/
theorem kcS_at {k : Int} {a : List Int} {f : F} (ha : AscI a) (h3 : f 3 = k) : kcS k a f = if eqAt a (a.takeWhile (lessI (f 47 + f 39))).length (f 47 + f 39) = true then a else a.take (a.takeWhile (lessI (f 47 + f 39))).length ++ (f 47 + f 39) :: a.drop (a.takeWhile (lessI (f 47 + f 39))).length := by
  rw [kcS, if_pos h3, insI_at _ _ ha]
def kL (c : List F) (k : Int) (A : List Int) (i : Nat) : St :=
  mkS 76 [(0, .d (slF c)), (1, .d (.v (.int .i64 k))), (5, .d (slI A)), (6, .d (.v (.int .i64 (i : Nat))))] []
theorem iD_take (l : List Int) (n : Nat) : (iD l).take n = iD (l.take n) := by
  induction l generalizing n with
  | nil => simp
  | cons x l ih => cases n <;> simp [ih]
theorem iD_drop (l : List Int) (n : Nat) : (iD l).drop n = iD (l.drop n) := by
  induction l generalizing n with
  | nil => simp
  | cons x l ih => cases n <;> simp [ih]
set_option maxRecDepth 10000 in
set_option maxHeartbeats 4000000 in
theorem cases_ok (c : List F) (k : Int) (hl : c.length ≤ 100) (hv : ∀ f ∈ c, vOk f) (hk : k = 10 ∨ k = 8) : Fn0 Tryz.prog 25 [slF c, .v (.int .i64 k)] (slI (kcL k c)) := by
  refine Fun.of_wp (pn := noPn) Tryz.tab Tryz.func25 rfl fun β0 => ?_
  simp only [Tryz.f25]
  refine WP.seq ?_
  refine WP.region Tryz.tab ?_
  simp -dsimp
  repeat refine aI ?_
  refine WP.seq ?_
  refine WP.region Tryz.tab ?_
  simp -dsimp
  repeat refine aI ?_
  refine WP.weak (Wk.trans (Wk.lessE [] (S' := mkS 76 [(0, .d (slF c)), (1, .d (.v (.int .i64 k))), (5, .row 10)] [(10, .row 3 1 0 [])]) (by simp) (by simp)) (Wk.trans (Wk.freeze (k := 10) (T := 3) (sz := 1) (n := 0) (ds := []) (by simp)) (Wk.lessE [] (S' := mkS 76 [(0, .d (slF c)), (1, .d (.v (.int .i64 k))), (5, .d (slI []))] []) (by simp) (by simp)))) ?_
  repeat (first | refine wS ?_ | refine wB ?_ | ((first | refine wR ?_ | refine wD ?_); simp -dsimp) | refine aI ?_)
  refine WP.loopWk (fun m S => ∃ i, i + m = c.length ∧ S = kL c k (kcL k (c.take i)) i) c.length (S0 := kL c k [] 0) (Wk.lessE [] (by simp [kL]) (by simp [kL])) ⟨0, by omega, rfl⟩ ?_
  rintro m _ ⟨i, him, rfl⟩
  by_cases hi : i < c.length
  · have h1 := fsC_at hi
    have htk := take_fat hi
    have hf := hv _ (fat_in hi)
    have hAs := (kcL_ok k (c.take i) [] List.Pairwise.nil).1
    have hAl := kcL_len k (c.take i) []
    have e1 : IntKind.i64.wrap ((i : Int) + 1) = ((i + 1 : Nat) : Int) := by rw [IntWalk.i64_in _ (by omega)]; omega
    generalize fat c i = f at h1 htk hf
    have hsn := kcL_snoc k (c.take i) f
    rw [← htk] at hsn
    change AscI (kcL k (c.take i)) at hAs
    change (kcL k (c.take i)).length ≤ _ at hAl
    have hAl : (kcL k (c.take i)).length ≤ 100 := by
      rw [List.length_take] at hAl
      simp at hAl
      omega
    generalize kcL k (c.take i) = A at hAs hAl hsn
    rw [kL]
    simp -dsimp
    repeat (first | refine wS ?_ | refine wB ?_ | ((first | refine wR ?_ | refine wD ?_); simp -dsimp) | refine aI ?_)
    refine WP.cond (b := true) (by simp; omega) (fun _ => ?_) (fun h => by cases h)
    refine WP.skip ?_
    simp -dsimp
    refine WP.seq (WP.block ?_)
    repeat (first | refine wS ?_ | refine wB ?_ | ((first | refine wR ?_ | refine wD ?_); simp -dsimp [h1, fcs_gE]) | refine aI ?_)
    refine WP.cond (b := !decide (f 3 = k)) (by simp) (fun hq => ?_) (fun hq => ?_)
    · have hq : f 3 ≠ k := by simpa using hq
      rw [kcS, if_neg hq] at hsn
      refine WP.exit ?_
      simp -dsimp
      repeat (first | refine wS ?_ | refine wB ?_ | ((first | refine wR ?_ | refine wD ?_); simp -dsimp) | refine aI ?_)
      refine loopW.next (kL c k (kcL k (c.take (i + 1))) (i + 1)) (Wk.lessE [] (by simp [kL, e1, hsn]) (by simp [kL])) (m - 1) (by omega) ⟨i + 1, by omega, rfl⟩
    have hq : f 3 = k := by simpa using hq
    have hx : IntKind.i64.wrap (f 47 + f 39) = f 47 + f 39 := IntWalk.i64_in _ (by
      rcases hk with rfl | rfl
      · have := v_rul hf hq; omega
      · have := v_rep hf hq; omega)
    have hins := kcS_at hAs hq
    refine WP.skip ?_
    simp -dsimp
    repeat (first | refine wS ?_ | refine wB ?_ | ((first | refine wR ?_ | refine wD ?_); simp -dsimp [h1, fcs_gE, hx]) | refine aI ?_)
    generalize f 47 + f 39 = x at hins
    obtain ⟨t1, _, _⟩ := twI_split x A
    refine WP.weak (Wk.lessE [] (S' := kS c k A i x 0) (by simp [kS]) (by simp [kS])) ?_
    refine kin_ok hAl fun S' hw => ?_
    refine WP.weak hw ?_
    generalize (A.takeWhile (lessI x)).length = n at hins t1
    refine WP.seq ?_
    refine kx_ok hAl t1 (fun he S' hw => ?_) (fun he S' hw => ?_)
    · rw [if_pos he] at hins
      rw [hins] at hsn
      refine WP.weak hw ?_
      rw [kS]
      simp -dsimp
      repeat (first | refine wS ?_ | refine wB ?_ | ((first | refine wR ?_ | refine wD ?_); simp -dsimp) | refine aI ?_)
      refine loopW.next (kL c k (kcL k (c.take (i + 1))) (i + 1)) (Wk.lessE [] (by simp [kL, e1, hsn]) (by simp [kL])) (m - 1) (by omega) ⟨i + 1, by omega, rfl⟩
    rw [if_neg (by rw [he]; simp)] at hins
    rw [hins] at hsn
    refine WP.weak hw ?_
    rw [kS]
    simp -dsimp
    have c1 : ((A.length : Int) - (n : Nat)).toNat = A.length - n := by omega
    repeat (first | refine wS ?_ | refine wB ?_ | ((first | refine wR ?_ | refine wD ?_); simp -dsimp [c1, iD_take, iD_drop]) | refine aI ?_)
    have c2 : List.take (A.length - n) (List.drop n A) = List.drop n A := List.take_of_length_le (by rw [List.length_drop]; exact Nat.le_refl _)
    have c3 : (kcL k (c.take (i + 1))).length = n + (1 + (A.length - n)) := by rw [hsn]; simp; omega
    have c4 : (iD (A.take n)).map AV.d ++ .d (.v (.int .i64 x)) :: (iD (A.drop n)).map .d = (iD (kcL k (c.take (i + 1)))).map .d := by rw [hsn]; simp
    refine loopW.next (kL c k (kcL k (c.take (i + 1))) (i + 1)) (Wk.trans (Wk.lessE [] (S' := mkS 76 [(0, .d (slF c)), (1, .d (.v (.int .i64 k))), (5, .row 74), (6, .d (.v (.int .i64 ((i + 1 : Nat) : Int))))] [(74, .row 3 1 (kcL k (c.take (i + 1))).length ((iD (kcL k (c.take (i + 1)))).map .d))]) (by simp [e1]) (by simp [c2, c3, c4])) (Wk.trans (Wk.freeze (k := 74) (T := 3) (sz := 1) (n := (kcL k (c.take (i + 1))).length) (ds := iD (kcL k (c.take (i + 1)))) (by simp)) (Wk.lessE [] (by simp [kL]) (by simp [kL])))) (m - 1) (by omega) ⟨i + 1, by omega, rfl⟩
  have hil : i = c.length := by omega
  subst hil
  rw [List.take_length]
  rw [kL]
  simp -dsimp
  repeat (first | refine wS ?_ | refine wB ?_ | ((first | refine wR ?_ | refine wD ?_); simp -dsimp) | refine aI ?_)
  refine WP.cond (b := false) (by simp) (fun h => by cases h) (fun _ => ?_)
  refine WP.exit ?_
  simp -dsimp
  repeat (first | refine wS ?_ | refine wB ?_ | ((first | refine wR ?_ | refine wD ?_); simp -dsimp) | refine aI ?_)
  refine WP.ret (finQ.retE ?_)
  simp -dsimp
end Go.Proofs.YtjjaabidbeoomaaGreatDoor

/-
  Rulings: what the reference answers.
-/
set_option linter.unusedSimpArgs false
set_option linter.unusedVariables false
namespace Go.Proofs.YtjjaabidbeoomaaGreatDoor
open Go.Xe Go.RowKit

theorem forceD_some (f : F) : forceD (some f) = .tup [ruD f, .v (.bool true)] := rfl
theorem forceD_none : forceD none = .tup [ru0, .v (.bool false)] := rfl
set_option maxRecDepth 10000 in
set_option maxHeartbeats 4000000 in
theorem refOf_ok (l : List F) (n : Int) (hl : l.length ≤ 100) (hv : ∀ f ∈ l, fOk f) : Fn0 Tryz.prog 7 [slF l, .v (.int .i64 n)] (forceD (forceO (fileOf (canF l) n))) := by
  have h1 := canon_ok l hl hv
  have hcl := Nat.le_trans (canF_len hv) hl
  generalize canF l = c at h1 hcl
  have h2 := refForce_ok c n hcl
  have h3 := frI_iff c n
  generalize frI c n = r at h2 h3
  refine Fun.of_wp (pn := noPn) Tryz.tab Tryz.func7 rfl fun β0 => ?_
  simp only [Tryz.f7]
  repeat (first | refine wS ?_ | refine wB ?_ | ((first | refine wR ?_ | refine wD ?_); simp -dsimp) | refine aI ?_)
  refine vcStop.call0 Tryz.body22 h1 rfl rfl (by simp) ?_
  simp -dsimp
  repeat (first | refine wS ?_ | refine wB ?_ | ((first | refine wR ?_ | refine wD ?_); simp -dsimp) | refine aI ?_)
  refine vcStop.call0 Tryz.body23 h2 rfl rfl (by simp) ?_
  simp -dsimp
  repeat (first | refine wS ?_ | refine wB ?_ | ((first | refine wR ?_ | refine wD ?_); simp -dsimp) | refine aI ?_)
  rcases h3 with ⟨rfl, h3⟩ | ⟨j, hj, rfl, h3⟩
  · rw [h3, forceD_none]
    refine WP.cond (b := true) (by simp) (fun _ => ?_) (fun h => by cases h)
    repeat (first | refine wS ?_ | refine wB ?_ | ((first | refine wR ?_ | refine wD ?_); simp -dsimp) | refine aI ?_)
    refine WP.ret (finQ.retE ?_)
    simp -dsimp [ru0]
  · have h5 := fsC_at hj
    have hfa : fat c j = c[j] := by rw [fat, getD_at hj]
    rw [hfa] at h5
    rw [h3, forceD_some, ruD]
    generalize c[j] = f at h5
    refine WP.cond (b := false) (by simp) (fun h => by cases h) (fun _ => ?_)
    refine WP.skip ?_
    simp -dsimp
    repeat (first | refine wS ?_ | refine wB ?_ | ((first | refine wR ?_ | refine wD ?_); simp -dsimp [h5]) | refine aI ?_)
    refine WP.ret (finQ.retE ?_)
    simp -dsimp
theorem refSuspended_ok (l : List F) (n : Int) (hl : l.length ≤ 100) (hv : ∀ f ∈ l, fOk f) : Fn0 Tryz.prog 12 [slF l, .v (.int .i64 n)] (.v (.bool (susB (fileOf (canF l) n)))) := by
  have h1 := canon_ok l hl hv
  have hcl := Nat.le_trans (canF_len hv) hl
  generalize canF l = c at h1 hcl
  have h2 := refSusp_ok c n hcl
  refine Fun.of_wp (pn := noPn) Tryz.tab Tryz.func12 rfl fun β0 => ?_
  simp only [Tryz.f12]
  repeat (first | refine wS ?_ | refine wB ?_ | ((first | refine wR ?_ | refine wD ?_); simp -dsimp) | refine aI ?_)
  refine vcStop.call0 Tryz.body22 h1 rfl rfl (by simp) ?_
  simp -dsimp
  repeat (first | refine wS ?_ | refine wB ?_ | ((first | refine wR ?_ | refine wD ?_); simp -dsimp) | refine aI ?_)
  refine vcStop.call0 Tryz.body27 h2 rfl rfl (by simp) ?_
  simp -dsimp
  repeat (first | refine wS ?_ | refine wB ?_ | ((first | refine wR ?_ | refine wD ?_); simp -dsimp) | refine aI ?_)
  refine WP.ret (finQ.retE ?_)
  simp -dsimp
def raS (c : List F) (ns : List Int) (E : List F) (i : Nat) : St :=
  mkS 36 [(3, .d (slF c)), (4, .d (slI ns)), (5, .row 505), (6, .d (.v (.int .i64 (i : Nat))))] [(505, .row 25 6 E.length ((prt 47 6 E).map .d))]
set_option maxRecDepth 10000 in
set_option maxHeartbeats 4000000 in
theorem refAll_ok (l : List F) (hl : l.length ≤ 100) (hv : ∀ f ∈ l, fOk f) : Fn0 Tryz.prog 10 [slF l] (.sl 6 (prt 47 6 (allO (canF l))) (allO (canF l)).length false) := by
  have h1 := canon_ok l hl hv
  have hcl := Nat.le_trans (canF_len hv) hl
  have hcv := canF_vOk hv
  rw [← all_kc hcv]
  generalize canF l = c at h1 hcl hcv
  have h2 := cases_ok c 10 hcl hcv (.inl rfl)
  have hnl : (kcL 10 c).length ≤ 100 := Nat.le_trans (kcL_len 10 c []) (by simpa using hcl)
  change Fn0 _ 10 _ (.sl 6 (prt 47 6 (allN c (kcL 10 c))) (allN c (kcL 10 c)).length false)
  generalize kcL 10 c = ns at h2 hnl
  refine Fun.of_wp (pn := noPn) Tryz.tab Tryz.func10 rfl fun β0 => ?_
  simp only [Tryz.f10]
  repeat (first | refine wS ?_ | refine wB ?_ | ((first | refine wR ?_ | refine wD ?_); simp -dsimp) | refine aI ?_)
  refine vcStop.call0 Tryz.body22 h1 rfl rfl (by simp) ?_
  simp -dsimp
  repeat (first | refine wS ?_ | refine wB ?_ | ((first | refine wR ?_ | refine wD ?_); simp -dsimp) | refine aI ?_)
  refine vcStop.call0 Tryz.body25 h2 rfl rfl (by simp) ?_
  simp -dsimp
  repeat (first | refine wS ?_ | refine wB ?_ | ((first | refine wR ?_ | refine wD ?_); simp -dsimp) | refine aI ?_)
  refine WP.loopWk (fun m S => ∃ i, i + m = ns.length ∧ S = raS c ns (allN c (ns.take i)) i) ns.length (S0 := raS c ns [] 0) (Wk.go [] 12 505 (by decide) (by simp [raS]) (by simp [raS]) (by simp [raS, prt])) ⟨0, by omega, rfl⟩ ?_
  rintro m _ ⟨i, him, rfl⟩
  by_cases hi : i < ns.length
  · have htk : ns.take (i + 1) = ns.take i ++ [ns[i]] := by rw [List.take_succ_eq_append_getElem hi]
    have hfr := refForce_ok c ns[i] hcl
    have hfi := frI_iff c ns[i]
    have hsn := allN_snoc c (ns.take i) ns[i]
    rw [← htk] at hsn
    have hal := allN_len c (ns.take i)
    rw [List.length_take] at hal
    have e1 : IntKind.i64.wrap ((i : Int) + 1) = ((i + 1 : Nat) : Int) := by rw [IntWalk.i64_in _ (by omega)]; omega
    generalize allN c (ns.take i) = E at hsn hal
    rw [raS]
    simp -dsimp
    repeat (first | refine wS ?_ | refine wB ?_ | ((first | refine wR ?_ | refine wD ?_); simp -dsimp) | refine aI ?_)
    refine WP.cond (b := true) (by simp; omega) (fun _ => ?_) (fun h => by cases h)
    refine WP.skip ?_
    simp -dsimp
    refine WP.seq (WP.block ?_)
    have hq := iD_at' ns i hi
    repeat (first | refine wS ?_ | refine wB ?_ | ((first | refine wR ?_ | refine wD ?_); simp -dsimp [hq, iD_gE]) | refine aI ?_)
    refine vcStop.call0 Tryz.body23 hfr rfl rfl (by simp) ?_
    simp -dsimp
    repeat (first | refine wS ?_ | refine wB ?_ | ((first | refine wR ?_ | refine wD ?_); simp -dsimp) | refine aI ?_)
    generalize frI c ns[i] = r at hfi
    rcases hfi with ⟨rfl, hfi⟩ | ⟨j, hj, rfl, hfi⟩
    · rw [hfi] at hsn
      simp only [Option.toList, List.append_nil] at hsn
      refine WP.cond (b := false) (by simp) (fun h => by cases h) (fun _ => ?_)
      refine WP.skip ?_
      simp -dsimp
      repeat (first | refine wS ?_ | refine wB ?_ | ((first | refine wR ?_ | refine wD ?_); simp -dsimp) | refine aI ?_)
      refine loopW.next (raS c ns (allN c (ns.take (i + 1))) (i + 1)) (Wk.lessE [] (by simp [raS, e1]) (by simp [raS, hsn])) (m - 1) (by omega) ⟨i + 1, by omega, rfl⟩
    · rw [hfi] at hsn
      have h5 := fsC_at hj
      have hfa : fat c j = c[j] := by rw [fat, getD_at hj]
      rw [hfa] at h5
      generalize c[j] = f at h5 hsn
      simp only [Option.toList] at hsn
      refine WP.cond (b := true) (by simp) (fun _ => ?_) (fun h => by cases h)
      repeat (first | refine wS ?_ | refine wB ?_ | ((first | refine wR ?_ | refine wD ?_); simp -dsimp [h5]) | refine aI ?_)
      refine loopW.next (raS c ns (allN c (ns.take (i + 1))) (i + 1)) (Wk.go [33, 505] 34 505 (by decide) (by simp [raS]) (by simp [raS, e1]) (by simp [raS, hsn, prt])) (m - 1) (by omega) ⟨i + 1, by omega, rfl⟩
  have hic : i = ns.length := by omega
  subst hic
  rw [List.take_length]
  rw [raS]
  simp -dsimp
  repeat (first | refine wS ?_ | refine wB ?_ | ((first | refine wR ?_ | refine wD ?_); simp -dsimp) | refine aI ?_)
  refine WP.cond (b := false) (by simp) (fun h => by cases h) (fun _ => ?_)
  refine WP.exit ?_
  simp -dsimp
  repeat (first | refine wS ?_ | refine wB ?_ | ((first | refine wR ?_ | refine wD ?_); simp -dsimp) | refine aI ?_)
  refine WP.ret (finQ.retWE (S' := mkS 36 [(2, .d (.sl 6 (prt 47 6 (allN c ns)) (allN c ns).length false))] []) (Wk.trans (Wk.lessE [] (S' := mkS 36 [(2, .row 505)] [(505, .row 25 6 (allN c ns).length ((prt 47 6 (allN c ns)).map .d))]) (by simp) (by simp)) (Wk.trans (Wk.freeze (k := 505) (T := 25) (sz := 6) (n := (allN c ns).length) (ds := prt 47 6 (allN c ns)) (by simp)) (Wk.lessE [] (by simp) (by simp)))) ?_)
  simp -dsimp
end Go.Proofs.YtjjaabidbeoomaaGreatDoor
