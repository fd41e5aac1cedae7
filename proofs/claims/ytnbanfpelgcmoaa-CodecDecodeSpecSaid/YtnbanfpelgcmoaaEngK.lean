/-
  The engine, part K. The theorem on regions that draw their order.
-/
import Derived.Test.YtnbanfpelgcmoaaEngJ
namespace Go.Xe
open Go.RowKit

def ancMask (acc : Array Nat) (o : Oper) : Nat := o.after.toList.foldl (fun s e => if Region.binds .any e = true then s ||| 2 ^ e.on ||| acc.getD e.on 0 else s) 0
def ancs : List Oper → Array Nat → Array Nat
  | [], acc => acc
  | o :: os, acc => ancs os (acc.push (ancMask acc o))

theorem mask_ok {X : Nat → Bool} {acc : Array Nat} (hacc : ∀ j i, (acc.getD j 0).testBit i = true → X j = true → X i = true) : ∀ (l : List Edge) (s : Nat), (∀ e ∈ l, Region.binds .any e = true → X e.on = true) → (∀ i, s.testBit i = true → X i = true) →
    ∀ i, (l.foldl (fun s e => if Region.binds .any e = true then s ||| 2 ^ e.on ||| acc.getD e.on 0 else s) s).testBit i = true → X i = true
  | [], s, _, hs, i, h => hs i h
  | e :: l, s, hl, hs, i, h => by
    simp only [List.foldl_cons] at h
    refine mask_ok hacc l _ (fun e' he' => hl e' (by simp [he'])) ?_ i h
    intro i hi
    split at hi
    · rename_i hb
      have hx := hl e (by simp) hb
      simp only [Nat.testBit_or, Bool.or_eq_true, Nat.testBit_two_pow, decide_eq_true_eq] at hi
      rcases hi with (hi | rfl) | hi
      · exact hs i hi
      · exact hx
      · exact hacc _ i hi hx
    · exact hs i hi

theorem ancs_ok {X : Nat → Bool} : ∀ (os : List Oper) (acc : Array Nat), (∀ j i, (acc.getD j 0).testBit i = true → X j = true → X i = true) →
    (∀ m o, os[m]? = some o → X (acc.size + m) = true → ∀ e ∈ o.after, Region.binds .any e = true → X e.on = true) → ∀ j i, ((ancs os acc).getD j 0).testBit i = true → X j = true → X i = true
  | [], acc, h, _, j, i, hi, hj => h j i hi hj
  | o :: os, acc, h, hc, j, i, hi, hj => by
    refine ancs_ok os (acc.push (ancMask acc o)) ?_ ?_ j i hi hj
    · intro j i hi hj
      rw [Array.getD_eq_getD_getElem?, Array.getElem?_push] at hi
      split at hi
      · rename_i hjs
        simp only [Option.getD_some] at hi
        subst hjs
        exact mask_ok h _ 0 (fun e he => hc 0 o rfl (by simpa using hj) e (by simpa using he)) (by simp) i hi
      · exact h j i (by rw [Array.getD_eq_getD_getElem?]; exact hi) hj
    · intro m o' ho hX e he hb
      refine hc (m + 1) o' (by simpa using ho) ?_ e he hb
      rw [Array.size_push] at hX
      rwa [Nat.add_assoc, Nat.add_comm 1 m] at hX

def rds (G : List (Option Tmp)) (o : Oper) : List Nat :=
  (o.op.operands.toList.filterMap fun | .tmp t => some t | _ => none) ++ (guardSlot G o).toList
def noClash (G : List (Option Tmp)) (oi oj : Oper) (ti tj : TS) : Bool :=
  (match oi.dst with | some d => !(rds G oj).contains d && oj.dst != some d | none => true) && ti.wr.all fun k => !tj.fp.contains k && !tj.wr.contains k
def pairOk (G : List (Option Tmp)) (anc : Array Nat) (i j : Nat) (oi oj : Oper) (ti tj : TS) : Bool :=
  (anc.getD j 0).testBit i || (ti.add.all (fun k => !tj.occ.contains k) && ((anc.getD i 0).testBit j || noClash G oi oj ti tj))
def drawOkT (zs : List Nat) (G : List (Option Tmp)) (os : List Oper) (ts : List TS) : Bool :=
  (List.range os.length).all fun j => match os[j]?, ts[j]? with
    | some oj, some tj => oj.after.toList.all (fun e => !Region.binds .any e || decide (e.on < j)) && decide ((ancs os #[]).getD j 0 < 2 ^ j) && (match oj.dst with | some d => !zs.contains d | none => true) &&
      (List.range os.length).all fun i => i == j || match os[i]?, ts[i]? with
        | some oi, some ti => pairOk G (ancs os #[]) i j oi oj ti tj
        | _, _ => false
    | _, _ => false

structure DrawOk (Z : List Nat) (G : List (Option Tmp)) (os : List Oper) (ts : List TS) : Prop where
  edge : ∀ (j : Nat) (o : Oper), os[j]? = some o → ∀ e ∈ o.after, Region.binds .any e = true → e.on < j
  low : ∀ j, j < os.length → ∀ i, j ≤ i → ((ancs os #[]).getD j 0).testBit i = false
  zs : ∀ (j : Nat) (o : Oper), os[j]? = some o → ∀ d ∈ Z, o.dst ≠ some d
  pair : ∀ (i j : Nat) (oi oj : Oper) (ti tj : TS), os[i]? = some oi → os[j]? = some oj → ts[i]? = some ti → ts[j]? = some tj → i ≠ j → pairOk G (ancs os #[]) i j oi oj ti tj = true

theorem drawOk_of {zs : List Nat} {G : List (Option Tmp)} {os : List Oper} {ts : List TS} (h : drawOkT zs G os ts = true) : DrawOk zs G os ts := by
  have key : ∀ j oj, os[j]? = some oj → ∃ tj, ts[j]? = some tj ∧ (∀ e ∈ oj.after, Region.binds .any e = true → e.on < j) ∧ (ancs os #[]).getD j 0 < 2 ^ j ∧ (∀ d ∈ zs, oj.dst ≠ some d) ∧ ∀ i oi ti, os[i]? = some oi → ts[i]? = some ti → i ≠ j → pairOk G (ancs os #[]) i j oi oj ti tj = true := by
    intro j oj hj
    have hlt : j < os.length := (List.getElem?_eq_some_iff.1 hj).1
    have h1 := List.all_eq_true.1 h j (List.mem_range.2 hlt)
    rw [hj] at h1
    cases htj : ts[j]? with
    | none => rw [htj] at h1; simp at h1
    | some tj =>
      rw [htj] at h1
      simp only [Bool.and_eq_true] at h1
      obtain ⟨⟨⟨h2, h3⟩, h4⟩, h5⟩ := h1
      refine ⟨tj, rfl, fun e he hb => ?_, by simpa using h3, fun d hd hdst => ?_, fun i oi ti hi hti hne => ?_⟩
      · have := List.all_eq_true.1 h2 e (by simpa using he)
        simpa [hb] using this
      · rw [hdst] at h4; simp at h4; exact h4 hd
      · have hil : i < os.length := (List.getElem?_eq_some_iff.1 hi).1
        have := List.all_eq_true.1 h5 i (List.mem_range.2 hil)
        rw [hi, hti] at this
        simpa [hne] using this
  refine ⟨fun j o hj => ?_, fun j hj i hi => ?_, fun j o hj => ?_, fun i j oi oj ti tj hi hj hti htj hne => ?_⟩
  · obtain ⟨_, _, h1, _⟩ := key j o hj; exact h1
  · obtain ⟨_, _, _, h1, _⟩ := key j _ (List.getElem?_eq_getElem hj)
    exact Nat.testBit_lt_two_pow (Nat.lt_of_lt_of_le h1 (Nat.pow_le_pow_right (by omega) hi))
  · obtain ⟨_, _, _, _, h1, _⟩ := key j o hj; exact h1
  · obtain ⟨tj', e, _, _, _, h1⟩ := key j oj hj
    rw [htj] at e; cases e
    exact h1 i oi ti hi hti hne

theorem Rel.drew {ds : Dn} {w0 : World} {I0 F : Nat → Prop} {S : St} {I : Nat → Prop} {β : Nat → Value} {a : Act} {w : World} (hr : Rel ds w0 I0 F S I β a w) : Rel ds w0 I0 F S I β a w.drew := by
  have hg : w.grownBy w.drew none := ⟨rfl, rfl, rfl, Nat.le_refl _, fun _ _ _ => rfl⟩
  exact ⟨hr.mem.world hg (by simp) (fun k b h => ⟨h, .inl rfl⟩), DenAs.mono (w := w) (w' := w.drew) ⟨fun _ h => h, fun _ _ => rfl⟩ _ _ (fun _ _ => rfl) hr.sl, hr.dn, hr.fx⟩

theorem mem_ready' {md : Region.Mode} {ops : Array Oper} {j : Nat} {listed : Array Bool} : j ∈ Region.ready md ops listed ↔
    listed.getD j true = false ∧ ∃ o, ops[j]? = some o ∧ ∀ e ∈ o.after, Region.binds md e = true → listed.getD e.on false = true := mem_ready

/-- A REGION THAT DRAWS: its effects, found in the order of the text, hold at every order that its edges allow. -/
theorem draw_any {P : Program} {ds : Dn} {pn : Pn} {ops : Array Oper} {Q : Exit → Act → World → Prop} {w0 : World} {I0 F : Nat → Prop} {S S' : St} {ts : List TI}
    (hQ : ∀ ch a w, pn.ok ch → (∃ bx I β, PRel ds w0 I0 F pn bx I β a w) → Q (.panic ch) a w)
    (hp : PathD P ds pn (ops.toList.map (·.dst)) ops.toList S ts S') (hok : DrawOk (pn.zs.map (·.1)) (ops.toList.map (·.dst)) ops.toList (ts.map TI.ts))
    (hfr : ∀ t ∈ ts, ∀ p ∈ t.e.add, S.has p.1 = false)
    (hK : ∀ I' β' a' w', Rel ds w0 I0 F S' I' β' a' w' → Q .normal a' w') :
    ∀ (fuel : Nat) (listed : Array Bool) (I : Nat → Prop) (β : Nat → Value) (a : Act) (w : World), listed.size = ops.size → listed.toList.count false ≤ fuel →
      (∀ j o, ops[j]? = some o → listed.getD j false = true → ∀ e ∈ o.after, Region.binds .any e = true → listed.getD e.on false = true) →
      Rel ds w0 I0 F (mix (fun j => listed.getD j false) 0 ops.toList ts S) I β a w → wpAny P .any ops Q fuel listed a w := by
  intro fuel
  have done : ∀ (listed : Array Bool) (I : Nat → Prop) (β : Nat → Value) (a : Act) (w : World), listed.size = ops.size → Region.ready .any ops listed = [] → Rel ds w0 I0 F (mix (fun j => listed.getD j false) 0 ops.toList ts S) I β a w → Q .normal a w := by
    intro listed I β a w hsz hnil hr
    have hall : ∀ j, j < ops.size → listed.getD j false = true := by
      intro j
      induction j using Nat.strongRecOn with
      | _ j ih =>
        intro hj
        cases hl : listed.getD j false with
        | true => rfl
        | false =>
          exfalso
          have hlj : j < listed.size := by omega
          have h1 : listed.getD j true = false := by simpa [Array.getD, hlj] using hl
          have : j ∈ Region.ready .any ops listed := mem_ready.2 ⟨h1, ops[j], by simp [hj], fun e he hb => by
            have := hok.edge j ops[j] (by simp [hj]) e he hb
            exact ih e.on this (by omega)⟩
          rw [hnil] at this
          cases this
    have := PathD.all (X := fun j => listed.getD j false) 0 hp (fun j hj => by simpa using hall j (by simpa using hj))
    rw [this] at hr
    exact hK I β a w hr
  induction fuel with
  | zero =>
    intro listed I β a w hsz hc _ hr
    have hnil : Region.ready .any ops listed = [] := by
      cases hrd : Region.ready .any ops listed with
      | nil => rfl
      | cons i l =>
        have hi : i ∈ Region.ready .any ops listed := by rw [hrd]; simp
        have h1 := (mem_ready.1 hi).1
        have hlt : i < listed.size := by
          rcases Nat.lt_or_ge i listed.size with h | h
          · exact h
          · simp [Array.getD, Nat.not_lt.2 h] at h1
        have hm : false ∈ listed.toList := by
          have : listed[i] = false := by simpa [Array.getD, hlt] using h1
          rw [← this]; simp
        have := List.count_pos_iff.2 hm
        omega
    exact ⟨hnil, done listed I β a w hsz hnil hr⟩
  | succ fuel ih =>
    intro listed I β a w hsz hc hcl hr
    refine ⟨fun hnil => done listed I β a w hsz hnil hr, fun i hi => ?_⟩
    obtain ⟨hli, o, ho, hpre⟩ := mem_ready.1 hi
    have hlt : i < listed.size := by
      rcases Nat.lt_or_ge i listed.size with h | h
      · exact h
      · simp [Array.getD, Nat.not_lt.2 h] at hli
    have hXi : listed.getD i false = false := by simpa [Array.getD, hlt] using hli
    have hol : ops.toList[i]? = some o := by simpa using ho
    obtain ⟨t, ht, hstep⟩ := PathD.step 0 hp i o hol
    simp only [Nat.zero_add] at hstep
    have hts : (ts.map TI.ts)[i]? = some t.ts := by simp [ht]
    let X : Nat → Bool := fun j => listed.getD j false
    let Y : Nat → Bool := fun j => X j || j == i
    have hXanc : ∀ j k, ((ancs ops.toList #[]).getD j 0).testBit k = true → X j = true → X k = true :=
      ancs_ok ops.toList #[] (by simp) (fun m o hm hx e he hb => by
        simp only [Array.size_empty, Nat.zero_add] at hx
        exact hcl m o (by simpa using hm) hx e he hb)
    have hYanc : ∀ j k, ((ancs ops.toList #[]).getD j 0).testBit k = true → Y j = true → Y k = true :=
      ancs_ok ops.toList #[] (by simp) (fun m o' hm hx e he hb => by
        simp only [Array.size_empty, Nat.zero_add, Y, Bool.or_eq_true, beq_iff_eq] at hx ⊢
        rcases hx with hx | rfl
        · exact .inl (hcl m o' (by simpa using hm) hx e he hb)
        · rw [hol] at hm; cases hm
          exact .inl (hpre e he hb))
    have hil : i < ops.toList.length := (List.getElem?_eq_some_iff.1 hol).1
    have up : ∀ j, X j = true → ((ancs ops.toList #[]).getD j 0).testBit i = false := fun j hj => by
      cases hb : ((ancs ops.toList #[]).getD j 0).testBit i with
      | false => rfl
      | true => have := hXanc j i hb hj; simp only [X] at this; rw [hXi] at this; cases this
    have down : ∀ j, X j = false → ((ancs ops.toList #[]).getD i 0).testBit j = false := fun j hj => by
      cases hb : ((ancs ops.toList #[]).getD i 0).testBit j with
      | false => rfl
      | true =>
        have h1 := hYanc i j hb (by simp [Y])
        have h2 : j ≠ i := fun e => by subst e; rw [hok.low j hil j (Nat.le_refl _)] at hb; cases hb
        simp [Y, hj, h2] at h1
    -- whoever is listed and not before i, or before i and not listed, is apart from i
    have far : ∀ j oj tj, ops.toList[j]? = some oj → ts[j]? = some tj → X j ≠ decide (j < i) → noClash (ops.toList.map (·.dst)) oj o tj.ts t.ts = true ∧ (i < j → noClash (ops.toList.map (·.dst)) o oj t.ts tj.ts = true) := by
      intro j oj tj hoj htj hne
      have hji : j ≠ i := fun e => by
        subst e
        exact hne (by rw [show X j = false from hXi, decide_eq_false (Nat.lt_irrefl _)])
      have htj' : (ts.map TI.ts)[j]? = some tj.ts := by simp [htj]
      have hjl : j < ops.toList.length := (List.getElem?_eq_some_iff.1 hoj).1
      have p1 := hok.pair j i oj o tj.ts t.ts hoj hol htj' hts hji
      have p2 := hok.pair i j o oj t.ts tj.ts hol hoj hts htj' (Ne.symm hji)
      have b1 : ((ancs ops.toList #[]).getD i 0).testBit j = false ∧ ((ancs ops.toList #[]).getD j 0).testBit i = false := by
        cases hxj : X j with
        | true =>
          rw [hxj] at hne
          have hij : i < j := by simp at hne; omega
          exact ⟨hok.low i hil j (by omega), up j hxj⟩
        | false =>
          rw [hxj] at hne
          have hij : j < i := by simpa using Ne.symm hne
          exact ⟨down j hxj, hok.low j hjl i (by omega)⟩
      simp only [pairOk, b1.1, b1.2, Bool.false_or, Bool.and_eq_true] at p1 p2
      exact ⟨p1.2, fun _ => p2.2⟩
    have hmixat : ∀ s, (∀ j oj tj, ops.toList[j]? = some oj → ts[j]? = some tj → X j ≠ decide (j < i) → oj.dst ≠ some s) → (mix X 0 ops.toList ts S).at s = (mix (fun j => decide (j < i)) 0 ops.toList ts S).at s := fun s hs =>
      mix_at ops.toList ts 0 S S rfl rfl fun j oj hoj hne => by
        simp only [Nat.zero_add] at hne
        have hjl : j < ts.length := by rw [hp.len]; exact (List.getElem?_eq_some_iff.1 hoj).1
        exact hs j oj _ hoj (List.getElem?_eq_getElem hjl) hne
    have hsame : sameOps o pn t.fp (mix (fun j => decide (j < i)) 0 ops.toList ts S) (mix X 0 ops.toList ts S) := by
      refine ⟨fun x hx => ?_, fun p hpz => ?_, fun k hk => ?_⟩
      · cases x with
        | tmp s =>
          refine hmixat s fun j oj tj hoj htj hne hd => ?_
          have := (far j oj tj hoj htj hne).1
          simp only [noClash, hd, Bool.and_eq_true, Bool.not_eq_true'] at this
          have hc : s ∈ rds (ops.toList.map (·.dst)) o := by
            refine List.mem_append_left _ (List.mem_filterMap.2 ⟨.tmp s, by simpa using hx, rfl⟩)
          rw [List.contains_iff_mem.2 hc] at this
          exact absurd this.1.1 (by simp)
        | _ => rfl
      · exact hmixat p.1 fun j oj tj hoj _ _ => hok.zs j oj hoj p.1 (List.mem_map.2 ⟨p, hpz, rfl⟩)
      · refine mix_get ops.toList ts 0 S S rfl fun j tj htj hne hq => ?_
        simp only [Nat.zero_add] at hne
        have hjl : j < ops.toList.length := by rw [← hp.len]; exact (List.getElem?_eq_some_iff.1 htj).1
        have := (far j _ tj (List.getElem?_eq_getElem hjl) htj hne).1
        simp only [noClash, Bool.and_eq_true] at this
        have h3 := List.all_eq_true.1 this.2 k hq
        have hc : t.ts.fp.contains k = true := List.contains_iff_mem.2 hk
        rw [hc] at h3
        simp at h3
    have hgs : ∀ s, guardSlot (ops.toList.map (·.dst)) o = some s → (mix X 0 ops.toList ts S).at s = (mix (fun j => decide (j < i)) 0 ops.toList ts S).at s := fun s hs =>
      hmixat s fun j oj tj hoj htj hne hd => by
        have := (far j oj tj hoj htj hne).1
        simp only [noClash, hd, Bool.and_eq_true, Bool.not_eq_true'] at this
        have hc : s ∈ rds (ops.toList.map (·.dst)) o := List.mem_append_right _ (by rw [hs]; simp)
        rw [List.contains_iff_mem.2 hc] at this
        exact absurd this.1.1 (by simp)
    have hfresh : ∀ p ∈ t.e.add, (mix X 0 ops.toList ts S).has p.1 = false := fun p hpa =>
      mix_has ops.toList ts 0 S (hfr t (List.mem_of_getElem? ht) p hpa) fun j tj htj hxj => by
        simp only [Nat.zero_add] at hxj
        have hjl : j < ops.toList.length := by rw [← hp.len]; exact (List.getElem?_eq_some_iff.1 htj).1
        have hji : i ≠ j := fun e => by
          subst e
          rw [show X i = false from hXi] at hxj
          cases hxj
        have p2 := hok.pair i j o _ t.ts tj.ts hol (List.getElem?_eq_getElem hjl) hts (by simp [htj]) hji
        simp only [pairOk, up j hxj, Bool.false_or, Bool.and_eq_true] at p2
        have := List.all_eq_true.1 p2.1 p.1 (List.mem_map.2 ⟨p, hpa, rfl⟩)
        simpa using this
    have hins : (mix Y 0 ops.toList ts S).eqv ((mix X 0 ops.toList ts S).app o.dst t.e) :=
      mix_insert (i := i) (X := X) (Y := Y) hXi (fun _ => rfl) ops.toList ts 0 S (Nat.zero_le _) (by simpa using hol) (by simpa using ht) fun j oj tj hij hoj htj hxj => by
        simp only [Nat.zero_add] at hxj hij
        have := (far j oj tj hoj htj (by rw [hxj]; simp; omega)).2 hij
        simp only [noClash, Bool.and_eq_true] at this
        refine ⟨fun s hs hd => ?_, fun k hk hk' => ?_⟩
        · rw [hs, hd] at this
          simp at this
        · have h3 := List.all_eq_true.1 this.2 k hk
          rw [show tj.ts.wr.contains k = true from List.contains_iff_mem.2 hk'] at h3
          simp at h3
    have hgood := hstep (mix X 0 ops.toList ts S) hsame hgs hfresh w0 I0 F I β a w hr (wpAny P .any ops Q fuel (listed.setIfInBounds i true)) Q
      (fun I' β' a' w' hr' => ?_) (fun ch I' β' w' hch hpr => hQ ch a w' hch ⟨_, I', β', hpr⟩)
    · unfold wpOp
      rw [ho]
      simp only
      rw [wantedG_eq]
      split
      · rename_i hw; rw [if_pos hw] at hgood; exact .inl hgood
      · rename_i hw; rw [if_neg hw] at hgood; exact hgood
    · have hgetY : ∀ j, (listed.setIfInBounds i true).getD j false = Y j := fun j => by
        by_cases hji : j = i
        · subst hji; simp [Y, hlt, Array.getD]
        · have : (listed.setIfInBounds i true).getD j false = listed.getD j false := getD_set_ne false (Ne.symm hji)
          rw [this]; simp [Y, X, hji]
      refine ih (listed.setIfInBounds i true) I' β' a' w' (by simpa using hsz) ?_ ?_ ?_
      · rw [Array.toList_setIfInBounds, List.count_set (by simpa using hlt)]
        have h1 : listed.toList[i]'(by simpa using hlt) = false := by simpa [Array.getD, hlt] using hXi
        have hm : false ∈ listed.toList := by rw [← h1]; exact List.getElem_mem _
        have := List.count_pos_iff.2 hm
        simp only [h1, beq_self_eq_true, if_true, Bool.true_eq_false, beq_iff_eq, if_false]
        omega
      · intro j oj hoj hj e he hb
        rw [hgetY] at hj ⊢
        simp only [Y, Bool.or_eq_true, beq_iff_eq] at hj ⊢
        rcases hj with hj | rfl
        · exact .inl (hcl j oj hoj hj e he hb)
        · rw [ho] at hoj; cases hoj
          exact .inl (hpre e he hb)
      · have : (fun j => (listed.setIfInBounds i true).getD j false) = Y := funext hgetY
        rw [this]
        exact hr'.eqv hins.symm

end Go.Xe
