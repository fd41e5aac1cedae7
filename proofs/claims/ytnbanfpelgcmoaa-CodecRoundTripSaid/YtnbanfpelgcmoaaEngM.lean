/-
  The engine, part M. Weaker states; a function's contract from its code; a call by its contract.
-/
import Derived.Test.YtnbanfpelgcmoaaEngL
namespace Go.Xe
open Go.RowKit

/-! ### weaker values -/
def Leq (x y : AV) : Prop := ∀ w I β v, DenA w I β x v → DenA w I β y v
theorem Leq.refl (x : AV) : Leq x x := fun _ _ _ _ h => h
theorem Leq.trans {x y z : AV} (h : Leq x y) (h' : Leq y z) : Leq x z := fun w I β v hv => h' w I β v (h w I β v hv)
theorem Leq.any (x : AV) : Leq x (.d .any) := fun w I β v _ => DenA_any w I β v
def LeqL : List AV → List AV → Prop
  | [], [] => True
  | x :: xs, y :: ys => Leq x y ∧ LeqL xs ys
  | _, _ => False
theorem LeqL.refl : ∀ l, LeqL l l
  | [] => trivial
  | x :: xs => ⟨.refl x, LeqL.refl xs⟩
theorem LeqL.ok {w : World} {I : Nat → Prop} {β : Nat → Value} : ∀ {l l' : List AV} {vs : List Value}, LeqL l l' → DenAs w I β l vs → DenAs w I β l' vs
  | [], [], _, _, h => h
  | x :: xs, y :: ys, _, hl, h => by obtain ⟨v, vs', rfl, h1, h2⟩ := h; exact ⟨v, vs', rfl, hl.1 _ _ _ _ h1, LeqL.ok hl.2 h2⟩
  | [], _ :: _, _, hl, _ => hl.elim
  | _ :: _, [], _, hl, _ => hl.elim
theorem Leq.agg {l l' : List AV} (h : LeqL l l') : Leq (.agg l) (.agg l') := fun w I β v hv => by obtain ⟨vs, e, hd⟩ := hv; exact ⟨vs, e, h.ok hd⟩
theorem Leq.tup {l l' : List AV} (h : LeqL l l') : Leq (.tup l) (.tup l') := fun w I β v hv => by obtain ⟨vs, e, hd⟩ := hv; exact ⟨vs, e, h.ok hd⟩
theorem Leq.aggD (l : List D) : Leq (.agg (l.map .d)) (.d (.agg l)) := fun w I β v hv => by
  obtain ⟨vs, e, hd⟩ := hv; rw [DenA, Den]; exact ⟨vs, e, hd.to_dens⟩
theorem Leq.tupD (l : List D) : Leq (.tup (l.map .d)) (.d (.tup l)) := fun w I β v hv => by
  obtain ⟨vs, e, hd⟩ := hv; rw [DenA, Den]; exact ⟨vs, e, hd.to_dens⟩
theorem Leq.ofAgg (l : List D) : Leq (.d (.agg l)) (.agg (l.map .d)) := fun w I β v hv => by
  rw [DenA, Den] at hv; obtain ⟨vs, e, hd⟩ := hv; exact ⟨vs, e, .of_dens hd⟩
theorem Leq.sl (sz : Nat) (cs : List D) (n : Nat) (f : Bool) : Leq (.d (.sl sz cs n f)) (.d (.sl sz cs n false)) := fun w I β v hv => by
  rw [DenA, Den] at hv ⊢; obtain ⟨a, cap, e, h1, h2, _, h3⟩ := hv; exact ⟨a, cap, e, h1, h2, by simp, h3⟩
theorem Leq.nil (sz : Nat) : Leq (.d (.v (.slice none 0 0))) (.d (.sl sz [] 0 false)) := fun w I β v hv => by
  rw [DenA_v] at hv; subst hv; rw [DenA, Den]
  exact ⟨none, 0, rfl, Nat.le_refl _, Nat.zero_le _, by simp, by simp, fun _ => ⟨rfl, rfl⟩, by simp⟩

/-- A list of values as data, where it is data. -/
def toD : AV → Option D
  | .d (.sl sz cs n _) => some (.sl sz cs n false)
  | .d x => some x
  | _ => none
def toDs : List AV → Option (List D)
  | [] => some []
  | x :: xs => (toD x).bind fun d => (toDs xs).map fun ds => d :: ds
/-- The plainest way to say the same. -/
def norm : AV → AV
  | .d (.sl sz cs n _) => .d (.sl sz cs n false)
  | .agg cs => match toDs cs with
    | some ds => .d (.agg ds)
    | none => .agg cs
  | .tup cs => match toDs cs with
    | some ds => .d (.tup ds)
    | none => .tup cs
  | x => x
theorem toD_ok {x : AV} {d : D} (h : toD x = some d) : Leq x (.d d) := by
  unfold toD at h
  split at h
  · cases h; exact .sl _ _ _ _
  · cases h; exact .refl _
  · cases h
theorem toDs_ok : ∀ {l : List AV} {ds : List D}, toDs l = some ds → LeqL l (ds.map .d)
  | [], ds, h => by cases h; trivial
  | x :: xs, ds, h => by
    unfold toDs at h
    cases h1 : toD x with
    | none => rw [h1] at h; cases h
    | some d =>
      rw [h1, Option.bind_some] at h
      cases h2 : toDs xs with
      | none => rw [h2] at h; cases h
      | some ds' => rw [h2] at h; cases h; exact ⟨toD_ok h1, toDs_ok h2⟩
theorem norm_ok (x : AV) : Leq x (norm x) := by
  unfold norm
  split
  · exact .sl _ _ _ _
  · split
    · rename_i h; exact (Leq.agg (toDs_ok h)).trans (Leq.aggD _)
    · exact .refl _
  · split
    · rename_i h; exact (Leq.tup (toDs_ok h)).trans (Leq.tupD _)
    · exact .refl _
  · exact .refl _
theorem norm_okL : ∀ (l : List AV), LeqL l (l.map norm)
  | [] => trivial
  | x :: xs => ⟨norm_ok x, norm_okL xs⟩

/-! ### weaker states -/
def Wk (S S' : St) : Prop := ∀ ds w0 I0 F I β a w, Rel ds w0 I0 F S I β a w → ∃ I' β', Rel ds w0 I0 F S' I' β' a w
theorem Wk.refl (S : St) : Wk S S := fun _ _ _ _ I β _ _ h => ⟨I, β, h⟩
theorem Wk.trans {S S' S'' : St} (h : Wk S S') (h' : Wk S' S'') : Wk S S'' := fun ds w0 I0 F I β a w hr => by
  obtain ⟨I', β', hr'⟩ := h ds w0 I0 F I β a w hr; exact h' ds w0 I0 F I' β' a w hr'
/-- Slots that say less, boxes that are let go. -/
theorem Wk.less {S S' : St} (hs : LeqL S.sl S'.sl) (hb : ∀ k b, getB S'.bx k = some b → getB S.bx k = some b) : Wk S S' := fun _ _ _ _ I β _ _ hr =>
  ⟨I, β, hr.mem.sub hb, hs.ok hr.sl, hr.dn, hr.fx⟩
theorem WP.weak {P : Program} {ds : Dn} {pn : Pn} {c : Code} {Q : Exit → St → Prop} {S S' : St} (hw : Wk S S') (h : WP P ds pn c Q S') : WP P ds pn c Q S := fun w0 I0 F I β a w hr => by
  obtain ⟨I', β', hr'⟩ := hw ds w0 I0 F I β a w hr; exact h w0 I0 F I' β' a w hr'

/-! ### a row that nobody will write any more -/
mutual
def frz (k sz n : Nat) (ds : List D) : AV → AV
  | .row j => if j = k then .d (.sl sz ds n false) else .row j
  | .rptr j off => if j = k then .d (.ip (ds.drop off)) else .rptr j off
  | .agg cs => .agg (frzL k sz n ds cs)
  | .tup cs => .tup (frzL k sz n ds cs)
  | .fn f a b => .fn f (frzL k sz n ds a) (frzL k sz n ds b)
  | .iface t x => .iface t (frz k sz n ds x)
  | .when b x => .when b (frz k sz n ds x)
  | .ptr j off => .ptr j off
  | .psl j off m c => .psl j off m c
  | .d x => .d x
def frzL (k sz n : Nat) (ds : List D) : List AV → List AV
  | [] => []
  | x :: xs => frz k sz n ds x :: frzL k sz n ds xs
end
def frzB (k sz n : Nat) (ds : List D) : Box → Box
  | .cells T cs => .cells T (frzL k sz n ds cs)
  | .row T s m cs => .row T s m (frzL k sz n ds cs)
def frzBx (k sz n : Nat) (ds : List D) : Bxs → Bxs
  | [] => []
  | (j, b) :: r => if j = k then frzBx k sz n ds r else (j, frzB k sz n ds b) :: frzBx k sz n ds r
theorem getB_frz {k sz n : Nat} {ds : List D} : ∀ (bx : Bxs) (j : Nat), getB (frzBx k sz n ds bx) j = if j = k then none else (getB bx j).map (frzB k sz n ds)
  | [], j => by simp [frzBx, getB]
  | (i, b) :: r, j => by
    simp only [frzBx]
    split
    · rename_i h; subst h
      rw [getB_frz r j]
      simp only [getB]
      by_cases h : j = i
      · simp [h]
      · simp [h, Ne.symm h]
    · rename_i h
      simp only [getB]
      by_cases h2 : i = j
      · subst h2; simp [h]
      · simp only [h2, if_false]; exact getB_frz r j

mutual
theorem frz_ok {w : World} {I : Nat → Prop} {β : Nat → Value} {k sz n : Nat} {ds : List D} (hrow : ∀ v, v = β k → (∃ a n c, v = .slice a n c) → DenA w I β (.d (.sl sz ds n false)) v)
    (hptr : ∀ b m c off, β k = .slice (some ⟨b, 0, none⟩) m c → DenA w I β (.d (.ip (ds.drop off))) (.pointer (some ⟨b, off, none⟩))) : ∀ (x : AV) (v : Value), DenA w I β x v → DenA w I β (frz k sz n ds x) v
  | .row j, v, h => by
    rw [frz]; rw [DenA] at h
    split
    · rename_i e; subst e; exact hrow v h.1 h.2
    · rw [DenA]; exact h
  | .rptr j off, v, h => by
    rw [frz]
    split
    · rename_i e; subst e; obtain ⟨b, m, c, h1, rfl⟩ := h; exact hptr b m c off h1
    · exact h
  | .agg cs, v, h => by rw [frz]; obtain ⟨vs, e, h⟩ := h; exact ⟨vs, e, frzL_ok hrow hptr cs vs h⟩
  | .tup cs, v, h => by rw [frz]; obtain ⟨vs, e, h⟩ := h; exact ⟨vs, e, frzL_ok hrow hptr cs vs h⟩
  | .fn f a b, v, h => by rw [frz]; obtain ⟨v1, v2, e, h1, h2⟩ := h; exact ⟨v1, v2, e, frzL_ok hrow hptr a v1 h1, frzL_ok hrow hptr b v2 h2⟩
  | .iface t x, v, h => by rw [frz]; obtain ⟨z, e, h⟩ := h; exact ⟨z, e, frz_ok hrow hptr x z h⟩
  | .when b x, v, h => by rw [frz]; exact ⟨fun e => frz_ok hrow hptr x v (h.1 e), h.2⟩
  | .ptr j off, v, h => by rw [frz]; exact h
  | .psl j off m c, v, h => by rw [frz]; exact h
  | .d x, v, h => by rw [frz]; exact h
theorem frzL_ok {w : World} {I : Nat → Prop} {β : Nat → Value} {k sz n : Nat} {ds : List D} (hrow : ∀ v, v = β k → (∃ a n c, v = .slice a n c) → DenA w I β (.d (.sl sz ds n false)) v)
    (hptr : ∀ b m c off, β k = .slice (some ⟨b, 0, none⟩) m c → DenA w I β (.d (.ip (ds.drop off))) (.pointer (some ⟨b, off, none⟩))) : ∀ (l : List AV) (vs : List Value), DenAs w I β l vs → DenAs w I β (frzL k sz n ds l) vs
  | [], vs, h => by rw [frzL]; exact h
  | x :: xs, vs, h => by rw [frzL]; obtain ⟨v, vs', e, h1, h2⟩ := h; exact ⟨v, vs', e, frz_ok hrow hptr x v h1, frzL_ok hrow hptr xs vs' h2⟩
end

theorem Wk.freeze {S : St} {k : Nat} {T : TypeId} {sz n : Nat} {ds : List D} (hb : getB S.bx k = some (.row T sz n (ds.map .d))) : Wk S ⟨frzL k sz n ds S.sl, frzBx k sz n ds S.bx⟩ := fun dn w0 I0 F I β a w hr => by
  obtain ⟨us, how, hd, ho⟩ := hr.mem.bxs k _ hb
  let I' : Nat → Prop := fun m => I m ∨ blk (β k) = some m
  have hk : Kept w I w I' := ⟨fun _ h => .inl h, fun _ _ => rfl⟩
  have hcell : ∀ b m c, β k = .slice (some ⟨b, 0, none⟩) m c → DenAt w I' ds b 0 := fun b m c e => by
    have hc := how.cells (g := b) (by rw [e]; rfl)
    refine DenAt.of_dens (vs := us) (.inr (by rw [e]; rfl)) (Dens.mono hk _ _ hd.to_dens) ho fun j v hj => ?_
    have := hc j v hj
    rwa [Addr.add_lit] at this
  have hrow : ∀ v, v = β k → (∃ a n c, v = .slice a n c) → DenA w I' β (.d (.sl sz ds n false)) v := fun v hv _ => by
    subst hv
    have hl : ds.length = n * sz := by have := hd.length; rw [List.length_map] at this; rw [this]; exact how.1
    rcases how.2 with ⟨hn, rfl⟩ | ⟨g, cap, cur, hy, _, _, hnc, hcm, _⟩
    · rw [hn, DenA, Den]; exact ⟨none, 0, rfl, Nat.le_refl _, Nat.zero_le _, by simp, hl, fun _ => ⟨rfl, rfl⟩, by simp⟩
    · rw [hy, DenA, Den]
      refine ⟨some ⟨g, 0, none⟩, cap, rfl, hnc, hcm, by simp, hl, by simp, fun ad had => ?_⟩
      cases had
      exact ⟨fun _ => rfl, hcell g n cap hy⟩
  have hptr : ∀ b m c off, β k = .slice (some ⟨b, 0, none⟩) m c → DenA w I' β (.d (.ip (ds.drop off))) (.pointer (some ⟨b, off, none⟩)) := fun b m c off e => by
    rw [DenA, Den]
    have := (hcell b m c e).drop off
    rw [Nat.zero_add] at this
    exact ⟨b, off, rfl, this⟩
  have up : ∀ l vs, DenAs w I β l vs → DenAs w I' β (frzL k sz n ds l) vs := fun l vs h => frzL_ok hrow hptr l vs (DenAs.mono hk _ _ (fun _ _ => rfl) h)
  have hget : ∀ j b, getB (frzBx k sz n ds S.bx) j = some b → j ≠ k ∧ ∃ b', getB S.bx j = some b' ∧ b = frzB k sz n ds b' := fun j b h => by
    rw [getB_frz] at h
    split at h
    · cases h
    · rename_i hne
      refine ⟨hne, ?_⟩
      cases hj : getB S.bx j with
      | none => rw [hj] at h; cases h
      | some b' => rw [hj] at h; cases h; exact ⟨b', rfl, rfl⟩
  refine ⟨I', β, ⟨fun j b h => ?_, fun j b m h hm => ?_, fun i j b c m h1 h2 hi hj => ?_, fun m hm => ?_, fun m hm => ?_, hr.mem.kept.trans hk, hr.mem.fr, hr.mem.sz, hr.mem.os, hr.mem.tape, hr.mem.out⟩, up _ _ hr.sl, hr.dn, hr.fx⟩
  · obtain ⟨_, b', hj, rfl⟩ := hget j b h
    have := hr.mem.bxs j b' hj
    cases b' with
    | cells T' cs => obtain ⟨g, vs, e, hg, h1, h2⟩ := this; exact ⟨g, vs, e, hg, up _ _ h1, h2⟩
    | row T' s m cs => obtain ⟨vs, h0, h1, h2⟩ := this; exact ⟨vs, h0, up _ _ h1, h2⟩
  · obtain ⟨hne, b', hj, rfl⟩ := hget j b h
    refine ⟨?_, (hr.mem.sep j b' m hj hm).2⟩
    rintro (hI | hkm)
    · exact (hr.mem.sep j b' m hj hm).1 hI
    · exact hne (hr.mem.inj j k b' _ m hj hb hm hkm)
  · obtain ⟨_, b', h1', _⟩ := hget i b h1
    obtain ⟨_, c', h2', _⟩ := hget j c h2
    exact hr.mem.inj i j b' c' m h1' h2' hi hj
  · rcases hm with hm | hm
    · exact hr.mem.im m hm
    · exact (hr.mem.bxs k _ hb).lt hm
  · rcases hm with hm | hm
    · exact hr.mem.inew m hm
    · exact .inr (hr.mem.sep k _ m hb hm).2

theorem WP.loopWk {P : Program} {ds : Dn} {pn : Pn} {Q : Exit → St → Prop} {S S0 : St} {c : Code} (Inv : Nat → St → Prop) (n : Nat) (hw : Wk S S0) (h0 : Inv n S0) (round : ∀ n S, Inv n S → WP P ds pn c (loopW Wk Inv n Q) S) : WP P ds pn (.loop c) Q S := by
  refine WP.loop (fun n S => ∃ S', Wk S S' ∧ Inv n S') n ⟨S0, hw, h0⟩ fun n S ⟨S', hw, hi⟩ => WP.weak hw (WP.mono (round n S' hi) fun e S h => ?_)
  cases e <;> first | exact h | (obtain ⟨S', hw, m, hm, hi⟩ := h; exact ⟨m, hm, S', hw, hi⟩)

/-! ### the contract of a function from its code -/
def resA (τ : Tab) (S : St) : List ResultVar → Option (Prop × List AV)
  | [] => some (True, [])
  | .tmp t :: r => (resA τ S r).map fun q => (q.1, S.at t :: q.2)
  | .cell t T :: r => (τ T).bind fun te => match S.at t with
    | .ptr k off => match getB S.bx k with
      | some (.cells _ cs) => (resA τ S r).map fun q => (sideR te off cs.length ∧ q.1, readA te off cs :: q.2)
      | _ => none
    | _ => none
def resV (tmps : Array Value) : ResultVar → Sem Value
  | .tmp t => pure (tmps.getD t undef)
  | .cell b t => do loadVar t (← asAddr (tmps.getD b undef))
def oneV : List Value → Value
  | [v] => v
  | l => .tuple l.toArray
def oneOr : List AV → AV
  | [x] => x
  | l => .tup l
/-- Where the code ends: the results say 'res', the boxes 'bo' are there. -/
def finS (τ : Tab) (rs : List ResultVar) (res : AV) (bo : Bxs) (S : St) : Prop :=
  ∃ side l, resA τ S rs = some (side, l) ∧ side ∧ Leq (oneOr l) res ∧ ∀ k b, getB bo k = some b → getB S.bx k = some b
def finQ (τ : Tab) (rs : List ResultVar) (res : AV) (bo : Bxs) (e : Exit) (S : Kp2 (τ, rs) (res, bo)) : Prop :=
  match e with
  | .normal => ∃ S', Wk S S' ∧ finS τ rs res bo S'
  | .ret => ∃ S', Wk S S' ∧ finS τ rs res bo S'
  | _ => False

theorem resA_ok {P : Program} {τ : Tab} (hτ : TabOk P τ) {ds : Dn} {w0 : World} {I0 F : Nat → Prop} {S : St} {I : Nat → Prop} {β : Nat → Value} {a : Act} {w : World} (hr : Rel ds w0 I0 F S I β a w) :
    ∀ (rs : List ResultVar) {side : Prop} {l : List AV}, resA τ S rs = some (side, l) → side → ∃ vs : List Value, (rs.mapM (resV a.tmps)).run P w = .ok vs w ∧ DenAs w I β l vs
  | [], side, l, h, _ => by cases h; exact ⟨[], by simp [List.mapM_nil], rfl⟩
  | .tmp t :: rs, side, l, h, hs => by
    unfold resA at h
    cases h1 : resA τ S rs with
    | none => rw [h1] at h; cases h
    | some q =>
      obtain ⟨sd, l'⟩ := q
      rw [h1] at h; cases h
      obtain ⟨vs, hv, hd⟩ := resA_ok hτ hr rs h1 hs
      exact ⟨a.tmps.getD t undef :: vs, by simp only [List.mapM_cons, resV, Sem.run_bind, Sem.run_pure, Result.andThen_ok, hv], _, _, rfl, hr.ev (.tmp t), hd⟩
  | .cell t T :: rs, side, l, h, hs => by
    unfold resA at h
    cases ht : τ T with
    | none => rw [ht] at h; cases h
    | some te =>
      rw [ht, Option.bind_some] at h
      split at h
      · rename_i k off hx
        split at h
        · rename_i T' cs hb
          cases h1 : resA τ S rs with
          | none => rw [h1] at h; cases h
          | some q =>
            obtain ⟨sd, l'⟩ := q
            rw [h1] at h; cases h
            obtain ⟨vs, hv, hd⟩ := resA_ok hτ hr rs h1 hs.2
            have hp := hr.ev (.tmp t)
            simp only [St.ev] at hp
            rw [hx] at hp
            obtain ⟨b, e1, e2⟩ := hp
            obtain ⟨b', us, e3, hh, hdu, _⟩ := hr.mem.bxs k _ hb
            rw [e1] at e3; cases e3
            have hl : us.length = cs.length := hdu.length.symm
            have hrun := run_loadVar_cells (P := P) (w := w) (hτ T te ht) (b := b) (off := off) (us := (us.drop off).take te.size) (fun j v hj => by
              rw [cell_of_row w b (off + j) _ _ _ hh]
              simp only [List.getElem?_take, List.getElem?_drop] at hj
              split at hj
              · simpa using hj
              · cases hj) (by have := hs.1.1; simp; omega) hs.1.2
            have e2' : a.tmps.getD t undef = .pointer (some ⟨b, off, none⟩) := e2
            refine ⟨_ :: vs, ?_, _, _, rfl, den_readA hdu hs.1, hd⟩
            have hone : (resV a.tmps (.cell t T)).run P w = .ok (if te.k.agg = true then .agg ((us.drop off).take te.size).toArray else ((us.drop off).take te.size).getD 0 undef) w := by
              unfold resV; rw [Sem.run_bind, e2']; exact hrun
            simp only [List.mapM_cons, Sem.run_bind, hone, Result.andThen_ok, hv, Sem.run_pure]
        · cases h
      · cases h

theorem results_eq (fn : Func) (tmps : Array Value) (P : Program) (w : World) (vs : List Value)
    (h : (fn.results.toList.mapM (resV tmps)).run P w = .ok vs w) : (results fn tmps).run P w = .ok (oneV vs) w := by
  have hm : ∀ (f : ResultVar → Sem Value), (∀ r, f r = resV tmps r) → (fn.results.mapM f).run P w = .ok vs.toArray w := fun f hf => by
    have : f = resV tmps := funext hf
    rw [this, ← Array.toArray_toList (xs := fn.results), List.mapM_toArray, Sem.run_map, h]; rfl
  unfold results
  rw [Sem.run_bind, hm _ (fun r => by cases r <;> rfl), Result.andThen_ok, Sem.run_pure]
  cases vs with
  | nil => rfl
  | cons v vs =>
    cases vs with
    | nil => rfl
    | cons u vs => simp [oneV]

theorem DenAs.one {w : World} {I : Nat → Prop} {β : Nat → Value} {l : List AV} {vs : List Value} (h : DenAs w I β l vs) : DenA w I β (oneOr l) (oneV vs) := by
  cases l with
  | nil => rw [DenAs] at h; subst h; exact ⟨[], rfl, rfl⟩
  | cons x xs =>
    cases xs with
    | nil => obtain ⟨v, vs', rfl, h1, h2⟩ := h; rw [DenAs] at h2; subst h2; exact h1
    | cons y ys =>
      have h' := h
      obtain ⟨v, vs', rfl, h1, h2⟩ := h
      obtain ⟨u, us, rfl, h3, h4⟩ := h2
      exact ⟨_, rfl, h'⟩

/-- The state at a function's head. -/
def startS (n : Nat) (args : List AV) (bi : Bxs) : St := ⟨args ++ List.replicate (n - args.length) (.d .any), bi⟩

theorem DenAs.anys {w : World} {I : Nat → Prop} {β : Nat → Value} : ∀ (vs : List Value), DenAs w I β (List.replicate vs.length (.d .any)) vs
  | [] => rfl
  | v :: vs => ⟨v, vs, rfl, DenA_any _ _ _ _, DenAs.anys vs⟩

theorem Fun.of_wp {P : Program} {τ : Tab} (hτ : TabOk P τ) {f : FuncId} {fn : Func} {c : Code} (hf : P.funcs[f]? = some fn) (hb : fn.body = some c) {args : List AV} {bi : Bxs} {res : AV} {bo : Bxs} {pn : Pn}
    (h : ∀ β0, WP P ⟨[], β0⟩ pn c (finQ τ fn.results.toList res bo) (startS fn.ntmps args bi)) : Fun P f args bi res bo pn.ok := by
  intro w I β vs hm hd
  refine calls_of_wp hf hb (wp_mono (h β w I (Fp bi β) I β _ w ⟨hm, ?_, rfl, fun _ _ => rfl⟩) fun e a' w' hh => ?_)
  · simp only [startS, Array.toList_append, Array.toList_replicate]
    rw [hd.length]
    have := DenAs.anys (w := w) (I := I) (β := β) (List.replicate (fn.ntmps - vs.length) undef)
    simp only [List.length_replicate] at this
    exact hd.append (by simpa using this)
  · have fin : (∃ S I' β', (∃ S', Wk S S' ∧ finS τ fn.results.toList res bo S') ∧ Rel ⟨[], β⟩ w I (Fp bi β) S I' β' a' w') → a'.defers = [] ∧ ∃ v, (results fn a'.tmps).run P w' = .ok v w' ∧ ∃ I' β', Mem w I (Fp bi β) bo I' β' w' ∧ DenA w' I' β' res v ∧ ∀ k, 1000 ≤ k → β' k = β k := by
      rintro ⟨S, I1, β1, ⟨S', hw, side, l, hl, hs, hle, hbo⟩, hr1⟩
      obtain ⟨I', β', hr⟩ := hw _ _ _ _ _ _ _ _ hr1
      obtain ⟨us, hus, hdu⟩ := resA_ok hτ hr _ hl hs
      exact ⟨hr.dn, _, results_eq fn a'.tmps P w' us hus, I', β', hr.mem.sub hbo, hle _ _ _ _ hdu.one, hr.fx⟩
    cases e with
    | normal => exact fin hh
    | ret => exact fin hh
    | panic ch =>
      obtain ⟨hok, bx, I', β', hp⟩ := hh
      exact ⟨hp.dn, hok, I', β', hp.mem.sub (by simp [getB])⟩
    | exit id => obtain ⟨S, I', β', hq, _⟩ := hh; exact hq.elim
    | goto l => obtain ⟨S, I', β', hq, _⟩ := hh; exact hq.elim
    | outgrown => exact hh.elim

end Go.Xe
