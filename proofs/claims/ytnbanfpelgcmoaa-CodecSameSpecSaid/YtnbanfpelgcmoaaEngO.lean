/-
  The engine, part O. Calls in a region; new names for boxes; how a function ends; what simp reckons with.
-/
import Derived.Test.YtnbanfpelgcmoaaEngN
set_option linter.unusedSimpArgs false
set_option linter.unusedVariables false
namespace Go.Xe
open Go.RowKit

/-! ### another name for a box -/
def r1 (i j k : Nat) : Nat := if k = i then j else k
def renBx (i j : Nat) : Bxs → Bxs
  | [] => []
  | (k, b) :: r => (r1 i j k, b.ren (r1 i j)) :: renBx i j r
theorem getB_renBx {i j : Nat} (hne : i ≠ j) : ∀ {bx : Bxs} (_ : ∀ k b, getB bx k = some b → k ≠ j) (k : Nat), getB (renBx i j bx) k = (if k = j then getB bx i else if k = i then none else getB bx k).map (Box.ren (r1 i j))
  | [], _, k => by simp [renBx, getB]
  | (k', b) :: r, h, k => by
    have hk' : k' ≠ j := h k' b (by simp [getB])
    have hr : ∀ q c, getB r q = some c → q ≠ j := fun q c hq e => by
      by_cases hqk : k' = q
      · exact hk' (hqk.trans e)
      · exact h q c (by simp [getB, hqk, hq]) e
    simp only [renBx, getB, getB_renBx hne hr k, r1]
    by_cases h1 : k' = i
    · subst h1
      by_cases h2 : k = j
      · subst h2; simp
      · by_cases h3 : k = k'
        · subst h3; simp [Ne.symm hne, h2]
        · simp [h2, h3, Ne.symm h2, Ne.symm h3]
    · by_cases h2 : k = j
      · subst h2; simp [h1, hk']
      · by_cases h3 : k = i
        · subst h3; simp [h1, h2]
        · simp only [h1, h2, h3, if_false]; split <;> rfl

theorem DenA_r1 {w : World} {I : Nat → Prop} {β : Nat → Value} {i j : Nat} {x : AV} {v : Value} (hj : AV.has j x = false) (h : DenA w I β x v) : DenA w I (upd β j (β i)) (ren (r1 i j) x) v := by
  rw [DenA_ren]
  refine DenA.mono (Kept.refl w I) x v (fun k hk => ?_) h
  by_cases e : k = i
  · subst e; simp [r1, upd]
  · simp only [r1, if_neg e]; exact upd_other _ _ fun e => by subst e; rw [hj] at hk; cases hk
theorem DenAs_r1 {w : World} {I : Nat → Prop} {β : Nat → Value} {i j : Nat} {l : List AV} {vs : List Value} (hj : AV.hasL j l = false) (h : DenAs w I β l vs) : DenAs w I (upd β j (β i)) (renL (r1 i j) l) vs := by
  rw [DenAs_ren]
  refine DenAs.mono (Kept.refl w I) l vs (fun k hk => ?_) h
  by_cases e : k = i
  · subst e; simp [r1, upd]
  · simp only [r1, if_neg e]; exact upd_other _ _ fun e => by subst e; rw [hj] at hk; cases hk

theorem Wk.retag (i j : Nat) {S : St} (hne : i ≠ j) (hj : S.has j = false) : Wk S ⟨renL (r1 i j) S.sl, renBx i j S.bx⟩ := fun ds w0 I0 F I β a w hr => by
  obtain ⟨hs, hb⟩ := St.has_sl' hj
  obtain ⟨hb1, hb2⟩ := hasB_get hb
  have hnj : ∀ k b, getB S.bx k = some b → k ≠ j := fun k b h e => by rw [e, hb1] at h; cases h
  have hlt := St.has_lt hj
  have hg : ∀ k b', getB (renBx i j S.bx) k = some b' → ∃ k0 b, getB S.bx k0 = some b ∧ b' = b.ren (r1 i j) ∧ upd β j (β i) k = β k0 ∧ k = r1 i j k0 := fun k b' h => by
    rw [getB_renBx hne hnj] at h
    by_cases h2 : k = j
    · subst h2
      rw [if_pos rfl] at h
      cases hb : getB S.bx i with
      | none => rw [hb] at h; cases h
      | some b => rw [hb] at h; cases h; exact ⟨i, b, hb, rfl, upd_same _ _ _, by simp [r1]⟩
    · rw [if_neg h2] at h
      by_cases h3 : k = i
      · rw [if_pos h3] at h; cases h
      · rw [if_neg h3] at h
        cases hb : getB S.bx k with
        | none => rw [hb] at h; cases h
        | some b => rw [hb] at h; cases h; exact ⟨k, b, hb, rfl, upd_other _ _ h2, by simp [r1, h3]⟩
  refine ⟨I, upd β j (β i), ⟨fun k b' h => ?_, fun k b' n h hn => ?_, fun k q b' c' n h1 h2 hk hq => ?_, hr.mem.im, hr.mem.inew, hr.mem.kept, hr.mem.fr, hr.mem.sz, hr.mem.os, hr.mem.tape, hr.mem.out⟩, DenAs_r1 hs hr.sl, hr.dn, fun k hk => ?_⟩
  · obtain ⟨k0, b, e1, rfl, e3, _⟩ := hg k b' h
    rw [e3]
    have := hr.mem.bxs k0 b e1
    have hh := hb2 k0 b e1
    cases b with
    | cells T cs => obtain ⟨g, vs, e, hg, hd, ho⟩ := this; exact ⟨g, vs, e, hg, DenAs_r1 hh hd, ho⟩
    | row T sz n cs => obtain ⟨vs, e, hd, ho⟩ := this; exact ⟨vs, e, DenAs_r1 hh hd, ho⟩
  · obtain ⟨k0, b, e1, rfl, e3, _⟩ := hg k b' h
    rw [e3] at hn
    exact hr.mem.sep k0 b n e1 hn
  · obtain ⟨k0, b, e1, rfl, e3, e4⟩ := hg k b' h1
    obtain ⟨q0, c, f1, rfl, f3, f4⟩ := hg q c' h2
    rw [e3] at hk
    rw [f3] at hq
    rw [e4, f4, hr.mem.inj k0 q0 b c n e1 f1 hk hq]
  · rw [upd_other _ _ (by omega)]; exact hr.fx k hk

/-! ### calls in a region -/
/-- Data in, data out. -/
abbrev Fn0 (P : Program) (f : FuncId) (cargs : List D) (cres : D) : Prop := Fun P f (cargs.map .d) [] (.d cres) [] fun _ => False
theorem vcStop.call0 {P : Program} {ds : Dn} {pn : Pn} {o : Oper} {S : St} {acc : List TI} {rest : St → List TI → Prop} {fx : Operand} {args : Array Operand} {ts : Array TypeId} {f : FuncId} {first caps : List AV} {cargs : List D} {cres : D}
    (hb : Body P f) (hc : Fn0 P f cargs cres) (ho : o.op = .call ⟨.value fx, args, ts⟩) (hf : fnOf (S.ev fx) = some (f, first, caps))
    (hargs : (first ++ args.toList.map S.ev ++ caps).map norm = cargs.map .d) (h : rest (S.put o.dst (.d cres)) (⟨⟨.d cres, [], [], []⟩, []⟩ :: acc)) : vcStop P ds pn o rest S acc :=
  ⟨_, _, LCore.call0 ho hf hb hc (by have := norm_okL (first ++ args.toList.map S.ev ++ caps); rwa [hargs] at this), trivial, h⟩
theorem vcStopG.call0 {P : Program} {ds : Dn} {pn : Pn} {o : Oper} {g : Bool} {S : St} {acc : List TI} {rest : St → List TI → Prop} {fx : Operand} {args : Array Operand} {ts : Array TypeId} {f : FuncId} {first caps : List AV} {cargs : List D} {cres : D}
    (hb : Body P f) (hc : g = true → Fn0 P f cargs cres) (ho : o.op = .call ⟨.value fx, args, ts⟩) (hf : g = true → fnOf ((S.under g).ev fx) = some (f, first, caps))
    (hargs : g = true → (first ++ args.toList.map (S.under g).ev ++ caps).map norm = cargs.map .d) (h : rest (S.put o.dst (.when g (.d cres))) (⟨⟨.when g (.d cres), [], [], []⟩, []⟩ :: acc)) : vcStopG P ds pn o rest g S acc :=
  ⟨_, _, fun hg => LCore.call0 ho (hf hg) hb (hc hg) (by have := norm_okL (first ++ args.toList.map (S.under g).ev ++ caps); rwa [hargs hg] at this), h⟩
theorem vcStop.call {P : Program} {ds : Dn} {pn : Pn} {o : Oper} {S : St} {acc : List TI} {rest : St → List TI → Prop} {fx : Operand} {args : Array Operand} {ts : Array TypeId} {f : FuncId} {first caps : List AV} {cargs : List AV} {cbi : Bxs} {cres : AV} {cbo : Bxs} {ok : List PanicEntry → Prop}
    (hb : Body P f) (hc : Fun P f cargs cbi cres cbo ok) (ρ : Nat → Nat) (ho : o.op = .call ⟨.value fx, args, ts⟩) (hf : fnOf (S.ev fx) = some (f, first, caps))
    (hargs : LeqL (first ++ args.toList.map S.ev ++ caps) (renL ρ cargs)) (hok : CallOk S ρ cbi cbo cres)
    (hpn : ∀ ch, ok ch → pn.ok ch) (hzs : (∃ ch, ok ch) → ∀ p ∈ pn.zs, S.at p.1 = p.2) (hZ : (∃ ch, ok ch) → ∀ p ∈ cbi, pn.Z.contains (ρ p.1) = false)
    (hfr : freshS S (outAdd ρ cbi cbo)) (h : rest (S.app o.dst (callE ρ cbi cbo cres)) (⟨callE ρ cbi cbo cres, cbi.map fun p => ρ p.1⟩ :: acc)) : vcStop P ds pn o rest S acc :=
  ⟨_, _, LCore.call ho hf hb hc ρ hargs hok hpn hzs hZ, hfr, h⟩

/-- Names of boxes, by a list. -/
def rl : List (Nat × Nat) → Nat → Nat
  | [], k => k
  | (i, j) :: r, k => if k = i then j else rl r k
theorem LeqL.norms {l m : List AV} (h : l.map norm = m) : LeqL l m := by subst h; exact norm_okL l

def tagsIn (bo : Bxs) : List Nat → Bool
  | [] => true
  | t :: r => isIn bo t && tagsIn bo r
theorem tagsIn_ok {bo : Bxs} : ∀ {l : List Nat}, tagsIn bo l = true → ∀ t ∈ l, isIn bo t = true
  | t :: r, h, u, hu => by
    simp only [tagsIn, Bool.and_eq_true] at h
    rcases List.mem_cons.1 hu with rfl | hu
    · exact h.1
    · exact tagsIn_ok h.2 u hu
def tagsAll (bo : Bxs) : Bxs → Bool
  | [] => true
  | (_, b) :: r => tagsIn bo (AV.tagsL b.cs) && tagsAll bo r
def injB (ρ : Nat → Nat) : List Nat → Bool
  | [] => true
  | k :: r => (r.all fun j => k == j || !(ρ k == ρ j)) && injB ρ r
theorem injB_ok {ρ : Nat → Nat} : ∀ {l : List Nat}, injB ρ l = true → ∀ k ∈ l, ∀ j ∈ l, ρ k = ρ j → k = j
  | a :: r, h, k, hk, j, hj, e => by
    simp only [injB, Bool.and_eq_true, List.all_eq_true, Bool.or_eq_true, beq_iff_eq, Bool.not_eq_true'] at h
    rcases List.mem_cons.1 hk with e1 | hk2 <;> rcases List.mem_cons.1 hj with e2 | hj2
    · exact e1.trans e2.symm
    · subst e1
      rcases h.1 j hj2 with h | h
      · exact h
      · rw [e] at h; simp at h
    · subst e2
      rcases h.1 k hk2 with h | h
      · exact h.symm
      · rw [e] at h; simp at h
    · exact injB_ok h.2 k hk2 j hj2 e
def ndB : List Nat → Bool
  | [] => true
  | k :: r => !(r.contains k) && ndB r
def boxesOk (S : St) (ρ : Nat → Nat) : Bxs → Prop
  | [] => True
  | (k, b) :: r => (1000 ≤ k ∧ ∃ c, getB S.bx (ρ k) = some c ∧ BoxLeq c (b.ren ρ)) ∧ boxesOk S ρ r
theorem isIn_mem {bx : Bxs} {k : Nat} (h : isIn bx k = true) : k ∈ bx.map (·.1) := by
  cases hg : getB bx k with
  | none => simp [isIn, hg] at h
  | some b => exact List.mem_map.2 ⟨_, mem_of_getB hg, rfl⟩
theorem boxesOk_mem {S : St} {ρ : Nat → Nat} : ∀ {l : Bxs}, boxesOk S ρ l → ∀ p ∈ l, 1000 ≤ p.1 ∧ ∃ c, getB S.bx (ρ p.1) = some c ∧ BoxLeq c (p.2.ren ρ)
  | (k, b) :: r, h, p, hp => by
    rcases List.mem_cons.1 hp with rfl | hp
    · exact h.1
    · exact boxesOk_mem h.2 p hp
theorem getB_nd : ∀ {bx : Bxs}, ndB (bx.map (·.1)) = true → ∀ p ∈ bx, getB bx p.1 = some p.2
  | (k, b) :: r, h, p, hp => by
    simp only [List.map_cons, ndB, Bool.and_eq_true, Bool.not_eq_true', List.contains_eq_mem, decide_eq_false_iff_not] at h
    rcases List.mem_cons.1 hp with rfl | hp
    · simp [getB]
    · have : k ≠ p.1 := fun e => h.1 (by rw [e]; exact List.mem_map.2 ⟨p, hp, rfl⟩)
      simp only [getB, if_neg this]
      exact getB_nd h.2 p hp
theorem CallOk.of {S : St} {ρ : Nat → Nat} {cbi cbo : Bxs} {cres : AV} (h1 : boxesOk S ρ cbi) (h2 : ndB (cbo.map (·.1)) = true) (h3 : injB ρ (cbi.map (·.1) ++ cbo.map (·.1)) = true) (h4 : tagsIn cbo (AV.tags cres) = true) (h5 : tagsAll cbo cbo = true) : CallOk S ρ cbi cbo cres := by
  refine ⟨fun p hp => (boxesOk_mem h1 p hp).1, fun p hp => (boxesOk_mem h1 p hp).2, getB_nd h2, fun k j hk hj e => ?_, fun t ht => ?_⟩
  · refine injB_ok h3 k ?_ j ?_ e
    · rcases hk with h | h
      · exact List.mem_append_left _ (isIn_mem h)
      · exact List.mem_append_right _ (isIn_mem h)
    · rcases hj with h | h
      · exact List.mem_append_left _ (isIn_mem h)
      · exact List.mem_append_right _ (isIn_mem h)
  · rcases ht with h | ⟨p, hp, h⟩
    · exact tagsIn_ok h4 t h
    · have : ∀ (l : Bxs), tagsAll cbo l = true → ∀ p ∈ l, ∀ t ∈ AV.tagsL p.2.cs, isIn cbo t = true := by
        intro l
        induction l with
        | nil => intro _ p hp; cases hp
        | cons q r ih =>
          intro h p hp t ht
          simp only [tagsAll, Bool.and_eq_true] at h
          rcases List.mem_cons.1 hp with rfl | hp
          · exact tagsIn_ok h.1 t ht
          · exact ih h.2 p hp t ht
      exact this cbo h5 p hp t h

theorem tagsL_d (l : List D) : AV.tagsL (l.map .d) = [] := by
  induction l with
  | nil => rfl
  | cons c cs ih => simp [AV.tagsL, AV.tags, ih]
theorem tagsL_append : ∀ (a b : List AV), AV.tagsL (a ++ b) = AV.tagsL a ++ AV.tagsL b
  | [], _ => rfl
  | x :: a, b => by simp [AV.tagsL, tagsL_append a b]
theorem renL_d (ρ : Nat → Nat) (l : List D) : renL ρ (l.map .d) = l.map .d := by induction l with | nil => rfl | cons c cs ih => simp [renL, ren, ih]
theorem renL_append (ρ : Nat → Nat) : ∀ (a b : List AV), renL ρ (a ++ b) = renL ρ a ++ renL ρ b
  | [], _ => rfl
  | x :: a, b => by simp [renL, renL_append ρ a b]

/-! ### how a function ends -/
def finD (τ : Tab) (rs : List ResultVar) (res : AV) (bo : Bxs) (S : St) : Prop :=
  match resA τ S rs with
  | some (side, l) => side ∧ Leq (oneOr l) res ∧ ∀ k b, getB bo k = some b → getB S.bx k = some b
  | none => False
theorem finD.fin {τ : Tab} {rs : List ResultVar} {res : AV} {bo : Bxs} {S : St} (h : finD τ rs res bo S) : finS τ rs res bo S := by
  unfold finD at h
  split at h
  · rename_i h1; exact ⟨_, _, h1, h.1, h.2.1, h.2.2⟩
  · exact h.elim
theorem finQ.ret {τ : Tab} {rs : List ResultVar} {res : AV} {bo : Bxs} {S : St} (h : finD τ rs res bo S) : finQ τ rs res bo .ret S := ⟨S, .refl S, h.fin⟩
theorem finQ.retW {τ : Tab} {rs : List ResultVar} {res : AV} {bo : Bxs} {S S' : St} (hw : Wk S S') (h : finD τ rs res bo S') : finQ τ rs res bo .ret S := ⟨S', hw, h.fin⟩
theorem finQ.normal {τ : Tab} {rs : List ResultVar} {res : AV} {bo : Bxs} {S : St} (h : finD τ rs res bo S) : finQ τ rs res bo .normal S := ⟨S, .refl S, h.fin⟩
theorem finQ.normalW {τ : Tab} {rs : List ResultVar} {res : AV} {bo : Bxs} {S S' : St} (hw : Wk S S') (h : finD τ rs res bo S') : finQ τ rs res bo .normal S := ⟨S', hw, h.fin⟩

def delsF : Bxs → List Nat → Bxs
  | [], _ => []
  | (k, b) :: r, Z => if Z.contains k then delsF r Z else (k, b) :: delsF r Z
theorem getB_delsF {Z : List Nat} : ∀ {bx : Bxs} {k : Nat} {b : Box}, getB (delsF bx Z) k = some b → getB bx k = some b
  | (j, c) :: r, k, b, h => by
    simp only [delsF] at h
    split at h
    · rename_i hz
      by_cases e : j = k
      · subst e
        exfalso
        have : ∀ (l : Bxs), getB (delsF l Z) j ≠ some b := by
          intro l
          induction l with
          | nil => intro h; cases h
          | cons q l ih =>
            obtain ⟨i, d⟩ := q
            simp only [delsF]
            split
            · exact ih
            · rename_i hz2
              simp only [getB]
              split
              · rename_i e; subst e; exact absurd hz hz2
              · exact ih
        exact this r h
      · simp only [getB, if_neg e]; exact getB_delsF h
    · simp only [getB] at h ⊢
      split at h
      · rename_i e; rw [if_pos e]; exact h
      · rename_i e; rw [if_neg e]; exact getB_delsF h
/-- Slots and boxes that are let go. -/
def anyAt (S : St) (ts : List Nat) (Z : List Nat) : St := ⟨S.sl.mapIdx fun i x => if ts.contains i then .d .any else x, delsF S.bx Z⟩
theorem LeqL_mapIdx (f : Nat → AV → AV) (h : ∀ i x, Leq x (f i x)) : ∀ (l : List AV), LeqL l (l.mapIdx f)
  | [] => trivial
  | x :: xs => by rw [List.mapIdx_cons]; exact ⟨h 0 x, LeqL_mapIdx (fun i => f (i + 1)) (fun i x => h (i + 1) x) xs⟩
theorem Wk.forget (S : St) (ts Z : List Nat) : Wk S (anyAt S ts Z) :=
  Wk.less (LeqL_mapIdx _ (fun i x => by split; exact .any x; exact .refl x) S.sl) fun _ _ h => getB_delsF h

/-- Slots are let go where nothing is asked of them. -/
def maskL : List AV → List AV → List AV
  | x :: xs, .d .any :: ys => .d .any :: maskL xs ys
  | x :: xs, y :: ys => x :: maskL xs ys
  | l, _ => l
theorem maskL_ok : ∀ (l m : List AV), LeqL l (maskL l m)
  | [], [] => trivial
  | [], _ :: _ => trivial
  | x :: xs, [] => .refl _
  | x :: xs, y :: ys => by
    unfold maskL
    split
    · rename_i h1 h2; cases h1; cases h2; exact ⟨.any _, maskL_ok _ _⟩
    · rename_i h1 h2; cases h1; cases h2; exact ⟨.refl _, maskL_ok _ _⟩
    · exact .refl _
def subB (bx : Bxs) : Bxs → Prop
  | [] => True
  | (k, b) :: r => getB bx k = some b ∧ subB bx r
theorem subB_ok {bx : Bxs} : ∀ {l : Bxs}, subB bx l → ∀ k b, getB l k = some b → getB bx k = some b
  | (j, c) :: r, h, k, b, hk => by
    simp only [getB] at hk
    split at hk
    · rename_i e; subst e; cases hk; exact h.1
    · exact subB_ok h.2 k b hk
theorem Wk.go (Z : List Nat) (i j : Nat) {S S' : St} (hne : i ≠ j) (hj : (St.mk (maskL S.sl S'.sl) (delsF S.bx Z)).has j = false) (hs : LeqL (renL (r1 i j) (maskL S.sl S'.sl)) S'.sl) (hb : subB (renBx i j (delsF S.bx Z)) S'.bx) : Wk S S' := by
  have h1 : Wk S ⟨maskL S.sl S'.sl, delsF S.bx Z⟩ := Wk.less (maskL_ok _ _) fun _ _ h => getB_delsF h
  refine h1.trans ((Wk.retag i j hne hj).trans (Wk.less hs fun k b h => ?_))
  exact subB_ok hb k b h
theorem Wk.lessE (Z : List Nat) {S S' : St} (hs : LeqL S.sl S'.sl) (hb : subB (delsF S.bx Z) S'.bx) : Wk S S' := Wk.less hs fun _ _ h => getB_delsF (subB_ok hb _ _ h)
@[simp] theorem LeqL_cons {x y : AV} {xs ys : List AV} : LeqL (x :: xs) (y :: ys) ↔ Leq x y ∧ LeqL xs ys := .rfl
@[simp] theorem Leq_any (x : AV) : Leq x (.d .any) ↔ True := ⟨fun _ => trivial, fun _ => .any x⟩
@[simp] theorem LeqL_nil : LeqL [] [] ↔ True := .rfl
@[simp] theorem Leq_sl (sz : Nat) (cs : List D) (n : Nat) (f : Bool) : Leq (.d (.sl sz cs n f)) (.d (.sl sz cs n false)) ↔ True := ⟨fun _ => trivial, fun _ => .sl _ _ _ _⟩
@[simp] theorem mem_nil_getB {k : Nat} {b : Box} {bx : Bxs} : (getB [] k = some b → getB bx k = some b) ↔ True := by simp [getB]
@[simp] theorem ble_dec (a b : Nat) : Nat.ble a b = decide (a ≤ b) := by
  by_cases h : a ≤ b
  · rw [Nat.ble_eq_true_of_le h]; simp [h]
  · cases hh : Nat.ble a b with
    | true => exact absurd (Nat.le_of_ble_eq_true hh) h
    | false => simp [h]

/-- A slice in a slot is no longer than a slice can be. -/
theorem WP.len {P : Program} {ds : Dn} {pn : Pn} {c : Code} {Q : Exit → St → Prop} {S : St} (x : Operand) {sz : Nat} {cs : List D} {n : Nat} {f : Bool} (hx : S.ev x = .d (.sl sz cs n f)) (h : n ≤ maxLen → WP P ds pn c Q S) : WP P ds pn c Q S := fun w0 I0 F I β a w hr => by
  have hv := hr.ev x
  rw [hx, DenA, Den] at hv
  obtain ⟨a', cap, _, h1, h2, _⟩ := hv
  exact h (Nat.le_trans h1 h2) w0 I0 F I β a w hr

/-- An operation whose guard says no. -/
theorem vcStopG.skip (v : AV) {P : Program} {ds : Dn} {pn : Pn} {o : Oper} {S : St} {acc : List TI} {rest : St → List TI → Prop} (h : rest (S.put o.dst (.when false v)) (⟨⟨.when false v, [], [], []⟩, []⟩ :: acc)) : vcStopG P ds pn o rest false S acc :=
  ⟨v, [], fun hg => absurd hg Bool.false_ne_true, h⟩

theorem Leq.eqD {x y : AV} (h : norm x = y) : Leq x y := by subst h; exact norm_ok x

/-- A state by the slots that matter. -/
def mkS (n : Nat) (l : List (Nat × AV)) (bx : Bxs) : St := ⟨l.foldl (fun s p => s.set p.1 p.2) (List.replicate n (.d .any)), bx⟩

/-! ### what a slot holds, by reckoning -/
def atL : List AV → Nat → AV
  | [], _ => .d .any
  | x :: _, 0 => x
  | _ :: l, n + 1 => atL l n
theorem atL_eq : ∀ (l : List AV) (j : Nat), (l[j]?).getD (.d .any) = atL l j
  | [], j => by simp [atL]
  | x :: l, 0 => by simp [atL]
  | x :: l, n + 1 => by rw [atL, ← atL_eq l n]; simp
@[simp] theorem St.at_eq (S : St) (t : Nat) : S.at t = atL S.sl t := atL_eq _ _
@[simp] theorem readA_eq (e : TE) (off : Nat) (cs : List AV) : readA e off cs = match e.k.agg with | true => .agg ((cs.drop off).take e.size) | false => atL cs off := by
  rw [← atL_eq]; rfl

@[simp] theorem loopW_exit {W : St → St → Prop} {Inv : Nat → St → Prop} {n : Nat} {Q : Exit → St → Prop} {id : Nat} {S : St} : loopW W Inv n Q (.exit id) S = Q (.exit id) S := rfl
@[simp] theorem loopW_ret {W : St → St → Prop} {Inv : Nat → St → Prop} {n : Nat} {Q : Exit → St → Prop} {S : St} : loopW W Inv n Q .ret S = Q .ret S := rfl
theorem loopW.next {Inv : Nat → St → Prop} {n : Nat} {Q : Exit → St → Prop} {S : St} (S' : St) (h : Wk S S') (m : Nat) (hm : m < n) (hi : Inv m S') : loopW Wk Inv n Q .normal S := ⟨S', h, m, hm, hi⟩

attribute [simp] eqBA isBoolT opEqB orE TK.isI assertA opAssert Value.oneCell' vcOps vc1 vcG vcB freshS okV opPick pickA opAlloc opBox AV.cells oneD oneA
  loadA opLoad readD atL gL TK.agg storeA opStore setL sideR nilA opNil binI binS binV opBin unV opUn opFunc opExtract fieldOf fieldAddrA opFieldAddr fieldA opField
  intA idxA opIdx idxV opIndex bndA sliceA opSlice srcA convA opConv lenA opLen mmA opMM dstA opAppend opAppendS TI.ts occB fillA placeS constsA opBuild opBuildSlice opIface
  St.ev St.put St.app St.under unw gBool wantB getB delB setB hasB delsB addsB St.has AV.has AV.hasL Box.cs
  resA oneOr seqQ blkQ startS opA frzL frz frzBx frzB finD norm toD toDs ren renL Box.ren rl tagsIn tagsAll isIn AV.tags AV.tagsL injB ndB boxesOk outAdd outUpd callE
  tagsL_d tagsL_append renL_d renL_append r1 renBx delsF subB maskL mkS List.replicate Leq.refl LeqL.refl BoxLeq.refl hasL_append hasL_d fnOf

@[simp] theorem boolOf_d (p : Bool) : boolOf (.d (.v (.bool p))) = some (p, true) := rfl
@[simp] theorem boolOf_when (b p : Bool) : boolOf (.when b (.d (.v (.bool p)))) = some (p, b) := rfl
@[simp] theorem boolOf_ite (c : Prop) [Decidable c] (p b : Bool) : boolOf (if c then .d (.v (.bool p)) else .when b (.d (.v (.bool p)))) = some (p, if c then true else b) := by split <;> rfl

end Go.Xe
