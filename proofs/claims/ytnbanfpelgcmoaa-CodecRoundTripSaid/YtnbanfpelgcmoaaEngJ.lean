/-
  The engine, part J. A region that draws its order: one walk in the order of the text serves for all.
-/
import Derived.Test.YtnbanfpelgcmoaaEngI
namespace Go.Xe
open Go.RowKit

/-! ### tags -/
mutual
def AV.tags : AV → List Nat
  | .d _ => []
  | .ptr j _ => [j]
  | .agg cs => AV.tagsL cs
  | .tup cs => AV.tagsL cs
  | .fn _ first caps => AV.tagsL first ++ AV.tagsL caps
  | .row j => [j]
  | .rptr j _ => [j]
  | .psl j _ _ _ => [j]
  | .iface _ x => AV.tags x
  | .when _ x => AV.tags x
def AV.tagsL : List AV → List Nat
  | [] => []
  | c :: cs => AV.tags c ++ AV.tagsL cs
end
theorem beq_con (j k : Nat) : (j == k) = [j].contains k := by rw [Bool.eq_iff_iff]; simp; exact ⟨Eq.symm, Eq.symm⟩
mutual
theorem tags_has {k : Nat} : ∀ (x : AV), AV.has k x = (AV.tags x).contains k
  | .d _ => by simp [AV.has, AV.tags]
  | .ptr j _ => beq_con j k
  | .agg cs => by simp [AV.has, AV.tags, tagsL_has cs]
  | .tup cs => by simp [AV.has, AV.tags, tagsL_has cs]
  | .fn _ first caps => by simp [AV.has, AV.tags, tagsL_has first, tagsL_has caps]
  | .row j => beq_con j k
  | .rptr j _ => beq_con j k
  | .psl j _ _ _ => beq_con j k
  | .iface _ x => by simp [AV.has, AV.tags, tags_has x]
  | .when _ x => by simp [AV.has, AV.tags, tags_has x]
theorem tagsL_has {k : Nat} : ∀ (l : List AV), AV.hasL k l = (AV.tagsL l).contains k
  | [] => by simp [AV.hasL, AV.tagsL]
  | c :: cs => by simp [AV.hasL, AV.tagsL, tags_has c, tagsL_has cs]
end

def occB : Bxs → List Nat
  | [] => []
  | (j, b) :: r => j :: (AV.tagsL b.cs ++ occB r)
theorem occB_has {k : Nat} : ∀ (bx : Bxs), hasB k bx = (occB bx).contains k
  | [] => by simp [hasB, occB]
  | (j, b) :: r => by
    simp only [hasB, occB, List.contains_cons, tagsL_has, occB_has r, List.contains_append]
    rw [Bool.or_assoc]
    congr 1
    rw [Bool.eq_iff_iff]; simp; exact ⟨Eq.symm, Eq.symm⟩

/-- What the order hangs on, in numbers: tags read; tags ended, turned or laid; tags laid; tags that occur in what is yielded and laid. -/
structure TS where
  fp : List Nat
  wr : List Nat
  add : List Nat
  occ : List Nat
  deriving Inhabited
def TI.ts (t : TI) : TS := ⟨t.fp, t.e.del ++ (t.e.upd.map (·.1) ++ t.e.add.map (·.1)), t.e.add.map (·.1), AV.tags t.e.v ++ (occB t.e.upd ++ occB t.e.add)⟩

/-! ### what an effect does to boxes -/
def effB (bx : Bxs) (e : Eff) : Bxs := addsB (addsB (delsB bx e.del) e.upd) e.add
theorem St.app_bx (S : St) (dst : Option Tmp) (e : Eff) : (S.app dst e).bx = effB S.bx e := by cases dst <;> rfl

theorem getB_dels : ∀ (l : List Nat) (bx : Bxs) (k : Nat), getB (delsB bx l) k = if k ∈ l then none else getB bx k
  | [], bx, k => by simp [delsB]
  | j :: l, bx, k => by
    rw [delsB, getB_dels l, getB_del]
    by_cases h1 : k ∈ l
    · simp [h1]
    · by_cases h2 : j = k
      · subst h2; simp
      · simp [h1, h2, Ne.symm h2]
theorem getB_adds_not : ∀ (l bx : Bxs) (k : Nat), k ∉ l.map (·.1) → getB (addsB bx l) k = getB bx k
  | [], _, _, _ => rfl
  | (j, b) :: l, bx, k, h => by
    simp only [List.map_cons, List.mem_cons, not_or] at h
    rw [addsB, getB_adds_not l _ k h.2, getB_set, if_neg (fun e => h.1 e.symm)]
theorem getB_adds_congr : ∀ (l : Bxs) {bx bx' : Bxs} {k : Nat}, getB bx k = getB bx' k → getB (addsB bx l) k = getB (addsB bx' l) k
  | [], _, _, _, h => h
  | (j, b) :: l, bx, bx', k, h => by
    rw [addsB, addsB]
    refine getB_adds_congr l ?_
    rw [getB_set, getB_set, h]
theorem getB_eff_congr (e : Eff) {bx bx' : Bxs} {k : Nat} (h : getB bx k = getB bx' k) : getB (effB bx e) k = getB (effB bx' e) k :=
  getB_adds_congr _ (getB_adds_congr _ (by rw [getB_dels, getB_dels, h]))
theorem getB_eff_not (e : Eff) {bx : Bxs} {k : Nat} (h : k ∉ e.del ++ (e.upd.map (·.1) ++ e.add.map (·.1))) : getB (effB bx e) k = getB bx k := by
  simp only [List.mem_append, not_or] at h
  rw [effB, getB_adds_not _ _ _ h.2.2, getB_adds_not _ _ _ h.2.1, getB_dels, if_neg h.1]

/-! ### equal states -/
def St.eqv (S S' : St) : Prop := S.sl = S'.sl ∧ ∀ k, getB S.bx k = getB S'.bx k
theorem St.eqv.rfl' (S : St) : S.eqv S := ⟨rfl, fun _ => rfl⟩
theorem St.eqv.symm {S S' : St} (h : S.eqv S') : S'.eqv S := ⟨h.1.symm, fun k => (h.2 k).symm⟩
theorem St.eqv.trans {S S' S'' : St} (h : S.eqv S') (h' : S'.eqv S'') : S.eqv S'' := ⟨h.1.trans h'.1, fun k => (h.2 k).trans (h'.2 k)⟩
theorem Mem.eqv {w0 : World} {I0 F : Nat → Prop} {bx bx' : Bxs} {I : Nat → Prop} {β : Nat → Value} {w : World} (h : ∀ k, getB bx k = getB bx' k) (hm : Mem w0 I0 F bx I β w) : Mem w0 I0 F bx' I β w :=
  hm.sub fun k b hk => by rw [h k]; exact hk
theorem Rel.eqv {ds : Dn} {w0 : World} {I0 F : Nat → Prop} {S S' : St} {I : Nat → Prop} {β : Nat → Value} {a : Act} {w : World} (h : S.eqv S') (hr : Rel ds w0 I0 F S I β a w) : Rel ds w0 I0 F S' I β a w :=
  ⟨hr.mem.eqv h.2, by rw [← h.1]; exact hr.sl, hr.dn, hr.fx⟩
theorem St.eqv.app {S S' : St} (h : S.eqv S') (dst : Option Tmp) (e : Eff) : (S.app dst e).eqv (S'.app dst e) := by
  refine ⟨?_, fun k => by rw [St.app_bx, St.app_bx]; exact getB_eff_congr e (h.2 k)⟩
  cases dst with
  | none => exact h.1
  | some t => simp only [St.app, St.put, h.1]

def apart (d d' : Option Tmp) (e e' : Eff) : Prop := (∀ t, d = some t → d' ≠ some t) ∧ ∀ k ∈ e.del ++ (e.upd.map (·.1) ++ e.add.map (·.1)), k ∉ e'.del ++ (e'.upd.map (·.1) ++ e'.add.map (·.1))

theorem St.app_comm (S : St) {d d' : Option Tmp} {e e' : Eff} (h : apart d d' e e') : ((S.app d e).app d' e').eqv ((S.app d' e').app d e) := by
  refine ⟨?_, fun k => ?_⟩
  · cases d with
    | none => cases d' <;> rfl
    | some t =>
      cases d' with
      | none => rfl
      | some t' =>
        have hne : t ≠ t' := fun e => h.1 t rfl (by rw [e])
        simp only [St.app, St.put]
        exact List.set_comm _ _ hne
  · simp only [St.app_bx]
    by_cases hk : k ∈ e.del ++ (e.upd.map (·.1) ++ e.add.map (·.1))
    · have hk' := h.2 k hk
      rw [getB_eff_not e' hk']
      exact getB_eff_congr e (getB_eff_not e' hk').symm
    · rw [getB_eff_not e (bx := effB S.bx e') hk]
      exact getB_eff_congr e' (getB_eff_not e hk)

/-! ### some of the operations, in the order of the text -/
def mix (X : Nat → Bool) : Nat → List Oper → List TI → St → St
  | k, o :: os, t :: ts, S => mix X (k + 1) os ts (if X k = true then S.app o.dst t.e else S)
  | _, _, _, S => S

theorem mix_eqv (X : Nat → Bool) : ∀ (os : List Oper) (ts : List TI) (k : Nat) {S S' : St}, S.eqv S' → (mix X k os ts S).eqv (mix X k os ts S')
  | [], _, _, _, _, h => h
  | _ :: _, [], _, _, _, h => h
  | o :: os, t :: ts, k, S, S', h => by
    simp only [mix]
    refine mix_eqv X os ts (k + 1) ?_
    split
    · exact h.app _ _
    · exact h

theorem mix_app (X : Nat → Bool) (d : Option Tmp) (e : Eff) : ∀ (os : List Oper) (ts : List TI) (k : Nat) (S : St), (∀ j o t, os[j]? = some o → ts[j]? = some t → X (k + j) = true → apart d o.dst e t.e) → (mix X k os ts (S.app d e)).eqv ((mix X k os ts S).app d e)
  | [], _, _, _, _ => .rfl' _
  | _ :: _, [], _, _, _ => .rfl' _
  | o :: os, t :: ts, k, S, h => by
    simp only [mix]
    have ih := fun S' => mix_app X d e os ts (k + 1) S' (fun j o t h1 h2 h3 => h (j + 1) o t (by simpa using h1) (by simpa using h2) (by rwa [Nat.add_assoc, Nat.add_comm 1 j] at h3))
    split
    · rename_i hk
      have hc := St.app_comm S (h 0 o t rfl rfl (by simpa using hk))
      exact (mix_eqv X os ts (k + 1) hc).trans (ih _)
    · exact ih S

theorem mix_insert {X Y : Nat → Bool} {i : Nat} {oi : Oper} {ti : TI} (hX : X i = false) (hY : ∀ j, Y j = (X j || j == i)) :
    ∀ (os : List Oper) (ts : List TI) (k : Nat) (S : St), k ≤ i → os[i - k]? = some oi → ts[i - k]? = some ti → (∀ j o t, i < k + j → os[j]? = some o → ts[j]? = some t → X (k + j) = true → apart oi.dst o.dst ti.e t.e) → (mix Y k os ts S).eqv ((mix X k os ts S).app oi.dst ti.e)
  | [], _, _, _, _, h, _, _ => by simp at h
  | _ :: _, [], _, _, _, _, h, _ => by simp at h
  | o :: os, t :: ts, k, S, hk, ho, ht, hap => by
    have shift : ∀ (S : St), (∀ j o t, i < k + 1 + j → os[j]? = some o → ts[j]? = some t → X (k + 1 + j) = true → apart oi.dst o.dst ti.e t.e) := fun _ j o t h0 h1 h2 h3 =>
      hap (j + 1) o t (by omega) (by simpa using h1) (by simpa using h2) (by rwa [Nat.add_assoc, Nat.add_comm 1 j] at h3)
    rcases Nat.lt_or_eq_of_le hk with hlt | rfl
    · have e : i - k = (i - (k + 1)) + 1 := by omega
      rw [e] at ho ht
      have ih := fun S' => mix_insert hX hY os ts (k + 1) S' hlt (by simpa using ho) (by simpa using ht) (shift S')
      simp only [mix]
      have : Y k = X k := by rw [hY k]; have : (k == i) = false := by simp; omega
                             rw [this, Bool.or_false]
      rw [this]
      exact ih _
    · simp only [Nat.sub_self, List.getElem?_cons_zero, Option.some.injEq] at ho ht
      subst ho ht
      simp only [mix, hX, Bool.false_eq_true, if_false]
      have hYk : Y k = true := by rw [hY k]; simp
      rw [hYk]
      simp only [if_true]
      have same : ∀ (os : List Oper) (ts : List TI) (m : Nat) (S : St), k < m → mix Y m os ts S = mix X m os ts S := by
        intro os
        induction os with
        | nil => intro ts m S _; rfl
        | cons o os ih =>
          intro ts m S hm
          cases ts with
          | nil => rfl
          | cons t ts =>
            simp only [mix]
            have : Y m = X m := by rw [hY m]; have : (m == k) = false := by simp; omega
                                   rw [this, Bool.or_false]
            rw [this]
            exact ih ts (m + 1) _ (by omega)
      rw [same os ts (k + 1) _ (by omega)]
      exact mix_app X _ _ os ts (k + 1) S fun j o t h1 h2 h3 => shift S j o t (by omega) h1 h2 h3

theorem app_len (S : St) (d : Option Tmp) (e : Eff) : (S.app d e).sl.length = S.sl.length := by cases d <;> simp [St.app, St.put]
theorem app_at (S : St) (d : Option Tmp) (e : Eff) (t : Nat) : (S.app d e).at t = if d = some t ∧ t < S.sl.length then e.v else S.at t := by
  cases d with
  | none => simp [St.app, St.put, St.at]
  | some t' =>
    simp only [St.app, St.put, St.at, List.getElem?_set, Option.some.injEq]
    by_cases h : t' = t
    · subst h
      by_cases hl : t' < S.sl.length
      · simp [hl]
      · simp [hl]
    · simp [h]

theorem mix_at {X Y : Nat → Bool} {t : Nat} : ∀ (os : List Oper) (ts : List TI) (k : Nat) (S S' : St), S.sl.length = S'.sl.length → S.at t = S'.at t → (∀ j o, os[j]? = some o → X (k + j) ≠ Y (k + j) → o.dst ≠ some t) → (mix X k os ts S).at t = (mix Y k os ts S').at t
  | [], _, _, _, _, _, h, _ => h
  | _ :: _, [], _, _, _, _, h, _ => h
  | o :: os, ti :: ts, k, S, S', hl, h, hd => by
    simp only [mix]
    have h0 := hd 0 o rfl
    simp only [Nat.add_zero] at h0
    refine mix_at os ts (k + 1) _ _ ?_ ?_ fun j o h1 h2 => hd (j + 1) o (by simpa using h1) (by rwa [Nat.add_assoc, Nat.add_comm 1 j] at h2)
    · split <;> split <;> simp only [app_len, hl]
    · cases hx : X k <;> cases hy : Y k <;> simp only [Bool.false_eq_true, if_true, if_false]
      · exact h
      · rw [app_at, if_neg (fun e => h0 (by rw [hx, hy]; simp) e.1)]; exact h
      · rw [app_at, if_neg (fun e => h0 (by rw [hx, hy]; simp) e.1)]; exact h
      · rw [app_at, app_at, hl, h]

theorem mix_get {X Y : Nat → Bool} {q : Nat} : ∀ (os : List Oper) (ts : List TI) (k : Nat) (S S' : St), getB S.bx q = getB S'.bx q → (∀ j t, ts[j]? = some t → X (k + j) ≠ Y (k + j) → q ∉ t.ts.wr) → getB (mix X k os ts S).bx q = getB (mix Y k os ts S').bx q
  | [], _, _, _, _, h, _ => h
  | _ :: _, [], _, _, _, h, _ => h
  | o :: os, ti :: ts, k, S, S', h, hd => by
    simp only [mix]
    have h0 := hd 0 ti rfl
    simp only [Nat.add_zero] at h0
    refine mix_get os ts (k + 1) _ _ ?_ fun j t h1 h2 => hd (j + 1) t (by simpa using h1) (by rwa [Nat.add_assoc, Nat.add_comm 1 j] at h2)
    cases hx : X k <;> cases hy : Y k <;> simp only [Bool.false_eq_true, if_true, if_false]
    · exact h
    · rw [St.app_bx, getB_eff_not _ (h0 (by rw [hx, hy]; simp))]; exact h
    · rw [St.app_bx, getB_eff_not _ (h0 (by rw [hx, hy]; simp))]; exact h
    · rw [St.app_bx, St.app_bx]; exact getB_eff_congr _ h

theorem hasL_set {k : Nat} {x : AV} (hx : AV.has k x = false) : ∀ (cs : List AV) (t : Nat), AV.hasL k cs = false → AV.hasL k (cs.set t x) = false
  | [], _, _ => rfl
  | c :: cs, 0, h => by simp only [AV.hasL, Bool.or_eq_false_iff] at h; simp [AV.hasL, hx, h.2]
  | c :: cs, t + 1, h => by simp only [AV.hasL, Bool.or_eq_false_iff] at h; simp [AV.hasL, h.1, hasL_set hx cs t h.2]
theorem hasB_set {k j : Nat} {b : Box} (hj : j ≠ k) (hb : AV.hasL k b.cs = false) : ∀ (bx : Bxs), hasB k bx = false → hasB k (setB bx j b) = false
  | [], _ => by simp [setB, hasB, hb, hj]
  | (i, c) :: r, h => by
    simp only [hasB, Bool.or_eq_false_iff] at h
    simp only [setB]
    split
    · simp [hasB, hb, hj, hasB_del h.2]
    · simp [hasB, h.1.2, hasB_set hj hb r h.2]; simpa using h.1.1
theorem hasB_adds {k : Nat} : ∀ (l bx : Bxs), hasB k bx = false → hasB k l = false → hasB k (addsB bx l) = false
  | [], _, h, _ => h
  | (j, b) :: l, bx, h, hl => by
    simp only [hasB, Bool.or_eq_false_iff, beq_eq_false_iff_ne] at hl
    exact hasB_adds l _ (hasB_set hl.1.1 hl.1.2 bx h) hl.2
theorem app_has {S : St} {k : Nat} (d : Option Tmp) {e : Eff} (hS : S.has k = false) (he : k ∉ AV.tags e.v ++ (occB e.upd ++ occB e.add)) : (S.app d e).has k = false := by
  simp only [List.mem_append, not_or] at he
  have h1 : AV.has k e.v = false := by rw [tags_has]; simpa using he.1
  have h2 : hasB k e.upd = false := by rw [occB_has]; simpa using he.2.1
  have h3 : hasB k e.add = false := by rw [occB_has]; simpa using he.2.2
  have h9 : Nat.ble 1000 k = false := by simp only [St.has, Bool.or_eq_false_iff] at hS; exact hS.2
  have hS := St.has_sl' hS
  simp only [St.has, Bool.or_eq_false_iff]
  rw [St.app_bx]
  refine ⟨⟨?_, hasB_adds _ _ (hasB_adds _ _ (hasB_dels hS.2) h2) h3⟩, h9⟩
  cases d with
  | none => exact hS.1
  | some t => exact hasL_set h1 _ _ hS.1
theorem mix_has {X : Nat → Bool} {q : Nat} : ∀ (os : List Oper) (ts : List TI) (k : Nat) (S : St), S.has q = false → (∀ j t, ts[j]? = some t → X (k + j) = true → q ∉ t.ts.occ) → (mix X k os ts S).has q = false
  | [], _, _, _, h, _ => h
  | _ :: _, [], _, _, h, _ => h
  | o :: os, ti :: ts, k, S, h, hd => by
    simp only [mix]
    refine mix_has os ts (k + 1) _ ?_ fun j t h1 h2 => hd (j + 1) t (by simpa using h1) (by rwa [Nat.add_assoc, Nat.add_comm 1 j] at h2)
    split
    · rename_i hk; exact app_has _ h (hd 0 ti rfl (by simpa using hk))
    · exact h

/-! ### the way in the order of the text -/
def PathD (P : Program) (ds : Dn) (pn : Pn) (G : List (Option Tmp)) : List Oper → St → List TI → St → Prop
  | [], S, [], S' => S' = S
  | o :: os, S, t :: ts, S' => LStep P ds pn G o S t.e t.fp ∧ PathD P ds pn G os (S.app o.dst t.e) ts S'
  | _, _, _, _ => False

theorem PathD.of_run {P : Program} {ds : Dn} {pn : Pn} {G : List (Option Tmp)} {K : List TI → St → Prop} : ∀ (os : List Oper) (S : St) (acc : List TI), RunD P ds pn G os S acc K → ∃ ts S', PathD P ds pn G os S ts S' ∧ K (acc.reverse ++ ts) S'
  | [], S, acc, h => ⟨[], S, rfl, by rw [List.append_nil]; exact h⟩
  | o :: os, S, acc, h => by
    obtain ⟨e, fp, hl, _, hr⟩ := h
    obtain ⟨ts, S', hp, hk⟩ := PathD.of_run os _ _ hr
    exact ⟨⟨e, fp⟩ :: ts, S', ⟨hl, hp⟩, by simpa using hk⟩

theorem PathD.len {P : Program} {ds : Dn} {pn : Pn} {G : List (Option Tmp)} : ∀ {os : List Oper} {S : St} {ts : List TI} {S' : St}, PathD P ds pn G os S ts S' → ts.length = os.length
  | [], _, [], _, _ => rfl
  | _ :: _, _, _ :: _, _, h => by simp [PathD.len h.2]
  | [], _, _ :: _, _, h => h.elim
  | _ :: _, _, [], _, h => h.elim

theorem PathD.all {P : Program} {ds : Dn} {pn : Pn} {G : List (Option Tmp)} {X : Nat → Bool} : ∀ {os : List Oper} {S : St} {ts : List TI} {S' : St} (k : Nat), PathD P ds pn G os S ts S' → (∀ j, j < os.length → X (k + j) = true) → mix X k os ts S = S'
  | [], _, [], _, _, h, _ => by rw [h]; rfl
  | o :: os, S, t :: ts, S', k, h, hX => by
    simp only [mix]
    have := hX 0 (by simp)
    simp only [Nat.add_zero] at this
    rw [if_pos this]
    exact PathD.all (k + 1) h.2 fun j hj => by have := hX (j + 1) (by simpa using hj); rwa [Nat.add_assoc, Nat.add_comm 1 j]
  | [], _, _ :: _, _, _, h, _ => h.elim
  | _ :: _, _, [], _, _, h, _ => h.elim

theorem PathD.step {P : Program} {ds : Dn} {pn : Pn} {G : List (Option Tmp)} : ∀ {os : List Oper} {S : St} {ts : List TI} {S' : St} (k : Nat), PathD P ds pn G os S ts S' → ∀ i o, os[i]? = some o →
    ∃ t, ts[i]? = some t ∧ LStep P ds pn G o (mix (fun j => decide (j < k + i)) k os ts S) t.e t.fp
  | [], _, [], _, _, _, i, o, ho => by simp at ho
  | o' :: os, S, t :: ts, S', k, h, 0, o, ho => by
    simp only [List.getElem?_cons_zero, Option.some.injEq] at ho
    subst ho
    refine ⟨t, rfl, ?_⟩
    have none : ∀ (os : List Oper) (ts : List TI) (m : Nat) (S : St), k ≤ m → mix (fun j => decide (j < k + 0)) m os ts S = S := by
      intro os
      induction os with
      | nil => intro ts m S _; rfl
      | cons o os ih =>
        intro ts m S hm
        cases ts with
        | nil => rfl
        | cons t ts => simp only [mix]; rw [if_neg (by simp; omega)]; exact ih ts (m + 1) S (by omega)
    rw [none _ _ _ _ (Nat.le_refl k)]
    exact h.1
  | o' :: os, S, t :: ts, S', k, h, i + 1, o, ho => by
    obtain ⟨t', ht, hl⟩ := PathD.step (k + 1) h.2 i o (by simpa using ho)
    refine ⟨t', by simpa using ht, ?_⟩
    simp only [mix]
    rw [if_pos (by simp)]
    rw [Nat.add_assoc, Nat.add_comm 1 i] at hl
    exact hl
  | [], _, _ :: _, _, _, h, _, _, _ => h.elim
  | _ :: _, _, [], _, _, h, _, _, _ => h.elim

end Go.Xe
