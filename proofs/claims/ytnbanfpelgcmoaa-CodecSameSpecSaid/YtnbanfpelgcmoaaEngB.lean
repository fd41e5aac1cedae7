/-
  The engine, part B. Boxes, the memory's part of the relation, states, one operation as a step on states, a region in the order of its text.
-/
import Derived.Test.YtnbanfpelgcmoaaEngA
namespace Go.Xe
open Go.RowKit

/-- What the call owns: a block of cells; a slice that grows. -/
inductive Box where
  | cells (T : TypeId) (cs : List AV)
  | row (T : TypeId) (sz n : Nat) (cs : List AV)
  deriving Inhabited

def Box.cs : Box → List AV
  | .cells _ cs => cs
  | .row _ _ _ cs => cs

def BoxRel (w : World) (I : Nat → Prop) (β : Nat → Value) (y : Value) : Box → Prop
  | .cells T cs => ∃ b vs, y = .pointer (some ⟨b, 0, none⟩) ∧ w.heap[b]? = some (.cells (List.toArray vs) T (0, 0)) ∧ DenAs w I β cs vs ∧ ∀ v ∈ vs, v.oneCell' = true
  | .row T sz n cs => ∃ vs, w.ownsRow 0 T sz y n vs ∧ DenAs w I β cs vs ∧ ∀ v ∈ vs, v.oneCell' = true

abbrev Bxs := List (Nat × Box)

def getB : Bxs → Nat → Option Box
  | [], _ => none
  | (k, b) :: r, j => if k = j then some b else getB r j
def delB : Bxs → Nat → Bxs
  | [], _ => []
  | (k, b) :: r, j => if k = j then delB r j else (k, b) :: delB r j
def setB : Bxs → Nat → Box → Bxs
  | [], j, c => [(j, c)]
  | (k, b) :: r, j, c => if k = j then (j, c) :: delB r j else (k, b) :: setB r j c
def hasB (k : Nat) : Bxs → Bool
  | [] => false
  | (j, b) :: r => j == k || AV.hasL k b.cs || hasB k r

theorem getB_del : ∀ (bx : Bxs) (j k : Nat), getB (delB bx j) k = if j = k then none else getB bx k
  | [], j, k => by simp [delB, getB]
  | (i, b) :: r, j, k => by
    simp only [delB]
    split
    · rename_i h; subst h; rw [getB_del r i k]; simp only [getB]; split <;> rfl
    · rename_i h; simp only [getB]; split
      · rename_i h2; subst h2; rw [if_neg (fun e => h e.symm)]
      · exact getB_del r j k
theorem getB_set : ∀ (bx : Bxs) (j : Nat) (c : Box) (k : Nat), getB (setB bx j c) k = if j = k then some c else getB bx k
  | [], j, c, k => by simp [setB, getB]
  | (i, b) :: r, j, c, k => by
    simp only [setB]
    split
    · rename_i h; subst h; simp only [getB]; split
      · rfl
      · rw [getB_del]; rename_i h; rw [if_neg h]
    · rename_i h; simp only [getB]; split
      · rename_i h2; subst h2; rw [if_neg (fun e => h e.symm)]
      · exact getB_set r j c k
theorem hasB_get : ∀ {bx : Bxs} {k : Nat}, hasB k bx = false → getB bx k = none ∧ ∀ j b, getB bx j = some b → AV.hasL k b.cs = false
  | [], k, _ => by simp [getB]
  | (i, b) :: r, k, h => by
    simp only [hasB, Bool.or_eq_false_iff, beq_eq_false_iff_ne] at h
    obtain ⟨h1, h2⟩ := hasB_get h.2
    refine ⟨by simp [getB, h.1.1, h1], fun j c hc => ?_⟩
    simp only [getB] at hc
    split at hc
    · cases hc; exact h.1.2
    · exact h2 j c hc

/-- The memory's part: what the call's boxes are, what is given up to 'I', and that all else is as it was in 'w0'. -/
structure Mem (w0 : World) (I0 : Nat → Prop) (F : Nat → Prop) (bx : Bxs) (I : Nat → Prop) (β : Nat → Value) (w : World) : Prop where
  bxs : ∀ k b, getB bx k = some b → BoxRel w I β (β k) b
  sep : ∀ k b n, getB bx k = some b → blk (β k) = some n → ¬ I n ∧ (F n ∨ w0.heap.size ≤ n)
  inj : ∀ k j b c n, getB bx k = some b → getB bx j = some c → blk (β k) = some n → blk (β j) = some n → k = j
  im : ∀ n, I n → n < w.heap.size
  inew : ∀ n, I n → I0 n ∨ F n ∨ w0.heap.size ≤ n
  kept : Kept w0 I0 w I
  fr : ∀ n, n < w0.heap.size → ¬ F n → w.heap[n]? = w0.heap[n]?
  sz : w0.heap.size ≤ w.heap.size
  os : w.os = w0.os
  tape : w.tape = w0.tape
  out : w.output = w0.output

theorem blk_own {w : World} {T : TypeId} {sz n : Nat} {y : Value} {vs : List Value} (h : w.ownsRow 0 T sz y n vs) : blk y = y.ownBlock := by
  rcases h.2 with ⟨rfl, _⟩ | ⟨g, cap, cur, rfl, _⟩ <;> rfl

theorem BoxRel.lt {w : World} {I : Nat → Prop} {β : Nat → Value} {y : Value} {b : Box} (h : BoxRel w I β y b) {n : Nat} (hn : blk y = some n) : n < w.heap.size := by
  cases b with
  | cells T cs =>
    obtain ⟨g, vs, rfl, hg, _⟩ := h
    simp only [blk, Option.some.injEq] at hn
    subst hn
    exact (Array.getElem?_eq_some_iff.1 hg).1
  | row T sz m cs =>
    obtain ⟨vs, ho, _⟩ := h
    rw [blk_own ho] at hn
    exact (ho.lt n hn).2

/-- A box stays as it is while its block does. -/
theorem BoxRel.mono {w w' : World} {I I' : Nat → Prop} {β β' : Nat → Value} {y : Value} {b : Box} (hk : Kept w I w' I') (hβ : ∀ k, AV.hasL k b.cs = true → β' k = β k)
    (hb : ∀ n, blk y = some n → w'.heap[n]? = w.heap[n]?) (h : BoxRel w I β y b) : BoxRel w' I' β' y b := by
  cases b with
  | cells T cs =>
    obtain ⟨g, vs, rfl, hg, hd, h1⟩ := h
    exact ⟨g, vs, rfl, by rw [hb g rfl]; exact hg, DenAs.mono hk cs vs hβ hd, h1⟩
  | row T sz m cs =>
    obtain ⟨vs, ho, hd, h1⟩ := h
    refine ⟨vs, ⟨ho.1, ?_⟩, DenAs.mono hk cs vs hβ hd, h1⟩
    rcases ho.2 with hn | ⟨g, cap, cur, rfl, h0, hg, hr⟩
    · exact .inl hn
    · exact .inr ⟨g, cap, cur, rfl, h0, by rw [hb g rfl]; exact hg, hr⟩

section
variable {w0 : World} {I0 F : Nat → Prop} {bx : Bxs} {I : Nat → Prop} {β : Nat → Value} {w w' : World}

/-- The world turns at block 'r' alone, or grows; boxes that lie elsewhere stay. -/
theorem Mem.world (h : Mem w0 I0 F bx I β w) {r : Option Nat} (hg : w.grownBy w' r) (hr : ∀ n, r = some n → ¬ I n ∧ (F n ∨ w0.heap.size ≤ n))
    {bx' : Bxs} (hb : ∀ k b, getB bx' k = some b → getB bx k = some b ∧ (r = none ∨ blk (β k) ≠ r)) : Mem w0 I0 F bx' I β w' := by
  have hk : Kept w I w' I := ⟨fun _ h => h, fun n hn => hg.block n (h.im n hn) (fun e => (hr n e.symm).1 hn)⟩
  refine ⟨fun k b hkb => ?_, fun k b n hkb hn => h.sep k b n (hb k b hkb).1 hn, fun k j b c n h1 h2 => h.inj k j b c n (hb k b h1).1 (hb j c h2).1,
    fun n hn => Nat.lt_of_lt_of_le (h.im n hn) hg.size, h.inew, h.kept.trans hk, fun n hn hF => ?_, Nat.le_trans h.sz hg.size, hg.os.trans h.os, hg.tape.trans h.tape, hg.output.trans h.out⟩
  · obtain ⟨h1, h2⟩ := hb k b hkb
    refine BoxRel.mono hk (fun _ _ => rfl) (fun n hn => hg.block n ((h.bxs k b h1).lt hn) ?_) (h.bxs k b h1)
    rcases h2 with rfl | h2
    · simp
    · rw [← hn]; exact h2
  · rw [hg.block n (Nat.lt_of_lt_of_le hn h.sz) (fun e => ?_), h.fr n hn hF]
    have := hr n e.symm
    rcases this.2 with h2 | h2
    · exact hF h2
    · omega

/-- Fewer boxes. -/
theorem Mem.sub (h : Mem w0 I0 F bx I β w) {bx' : Bxs} (hb : ∀ k b, getB bx' k = some b → getB bx k = some b) : Mem w0 I0 F bx' I β w :=
  ⟨fun k b hk => h.bxs k b (hb k b hk), fun k b n hk => h.sep k b n (hb k b hk), fun k j b c n h1 h2 => h.inj k j b c n (hb k b h1) (hb j c h2), h.im, h.inew, h.kept, h.fr, h.sz, h.os, h.tape, h.out⟩

theorem Mem.del (h : Mem w0 I0 F bx I β w) (j : Nat) : Mem w0 I0 F (delB bx j) I β w :=
  h.sub fun k b hk => by rw [getB_del] at hk; split at hk; cases hk; exact hk

def upd (β : Nat → Value) (k : Nat) (y : Value) : Nat → Value := fun j => if j = k then y else β j
theorem upd_same (β : Nat → Value) (k : Nat) (y : Value) : upd β k y k = y := if_pos rfl
theorem upd_other (β : Nat → Value) {k j : Nat} (y : Value) (h : j ≠ k) : upd β k y j = β j := if_neg h

/-- A box more, under a tag that occurs nowhere. -/
theorem Mem.add (h : Mem w0 I0 F bx I β w) {k : Nat} {b : Box} {y : Value} (hf : hasB k bx = false) (hy : BoxRel w I (upd β k y) y b)
    (hn : ∀ n, blk y = some n → ¬ I n ∧ (F n ∨ w0.heap.size ≤ n) ∧ ∀ j c, getB bx j = some c → blk (β j) ≠ some n) : Mem w0 I0 F (setB bx k b) I (upd β k y) w := by
  obtain ⟨hf1, hf2⟩ := hasB_get hf
  have hne : ∀ j c, getB bx j = some c → j ≠ k := fun j c hc e => by rw [e, hf1] at hc; cases hc
  refine ⟨fun j c hc => ?_, fun j c n hc hb => ?_, fun i j c d n hc hd hi hj => ?_, h.im, h.inew, h.kept, h.fr, h.sz, h.os, h.tape, h.out⟩
  · rw [getB_set] at hc
    split at hc
    · rename_i e; subst e; cases hc; rw [upd_same]; exact hy
    · rw [upd_other _ _ (hne j c hc)]
      refine BoxRel.mono (Kept.refl w I) (fun i hi => upd_other _ _ fun e => ?_) (fun _ _ => rfl) (h.bxs j c hc)
      subst e; rw [hf2 j c hc] at hi; cases hi
  · rw [getB_set] at hc
    split at hc
    · rename_i e; subst e; rw [upd_same] at hb; exact ⟨(hn n hb).1, (hn n hb).2.1⟩
    · rw [upd_other _ _ (hne j c hc)] at hb; exact h.sep j c n hc hb
  · rw [getB_set] at hc hd
    split at hc <;> split at hd
    · rename_i e1 e2; exact e1.symm.trans e2
    · rename_i e1 e2
      subst e1
      rw [upd_same] at hi
      rw [upd_other _ _ (hne j d hd)] at hj
      exact absurd hj ((hn n hi).2.2 j d hd)
    · rename_i e1 e2
      subst e2
      rw [upd_same] at hj
      rw [upd_other _ _ (hne i c hc)] at hi
      exact absurd hi ((hn n hj).2.2 i c hc)
    · rw [upd_other _ _ (hne i c hc)] at hi
      rw [upd_other _ _ (hne j d hd)] at hj
      exact h.inj i j c d n hc hd hi hj

/-- A box's contents turn; its block stays its own. -/
theorem Mem.turn (h : Mem w0 I0 F bx I β w) {k : Nat} {b b' : Box} (hb : getB bx k = some b) (hg : w.grownBy w' (blk (β k))) (hsome : blk (β k) ≠ none) (hy : BoxRel w' I β (β k) b') :
    Mem w0 I0 F (setB bx k b') I β w' := by
  have h1 := h.world hg (fun n hn => h.sep k b n hb hn) (bx' := delB bx k) (fun j c hc => by
    rw [getB_del] at hc
    split at hc
    · cases hc
    · rename_i hne
      refine ⟨hc, .inr fun e => hne ?_⟩
      cases hbk : blk (β k) with
      | none => exact absurd hbk hsome
      | some n => exact h.inj k j b c n hb hc hbk (e.trans hbk))
  refine ⟨fun j c hc => ?_, fun j c n hc hn => ?_, fun i j c d n hc hd hi hj => ?_, h1.im, h1.inew, h1.kept, h1.fr, h1.sz, h1.os, h1.tape, h1.out⟩
  · rw [getB_set] at hc
    split at hc
    · rename_i e; subst e; cases hc; exact hy
    · rename_i hne; exact h1.bxs j c (by rw [getB_del, if_neg hne]; exact hc)
  · rw [getB_set] at hc
    split at hc
    · rename_i e; subst e; exact h.sep k b n hb hn
    · exact h.sep j c n hc hn
  · have l : ∀ i c, (if k = i then some b' else getB bx i) = some c → ∃ c', getB bx i = some c' := fun i c hc => by
      split at hc
      · rename_i e; subst e; exact ⟨b, hb⟩
      · exact ⟨c, hc⟩
    rw [getB_set] at hc hd
    obtain ⟨c', hc'⟩ := l i c hc
    obtain ⟨d', hd'⟩ := l j d hd
    exact h.inj i j c' d' n hc' hd' hi hj
end

/-- A state: what the slots hold, and the boxes. -/
structure St where
  sl : List AV
  bx : Bxs

def St.at (S : St) (t : Nat) : AV := (S.sl[t]?).getD (.d .any)
def St.ev (S : St) : Operand → AV
  | .tmp t => S.at t
  | .const v => .d (.v v)
  | .func f => .d (.v (.func (.func f) #[] #[]))
  | .global g => .d (.v (.pointer (some ⟨g, 0, none⟩)))
def St.put (S : St) (dst : Option Tmp) (x : AV) : St :=
  match dst with
  | some t => ⟨S.sl.set t x, S.bx⟩
  | none => S
def St.has (S : St) (k : Nat) : Bool := AV.hasL k S.sl || hasB k S.bx || Nat.ble 1000 k
theorem St.has_lt {S : St} {k : Nat} (h : S.has k = false) : k < 1000 := by
  simp only [St.has, Bool.or_eq_false_iff] at h
  rcases Nat.lt_or_ge k 1000 with h' | h'
  · exact h'
  · rw [Nat.ble_eq_true_of_le h'] at h; cases h.2
theorem St.has_sl' {S : St} {k : Nat} (h : S.has k = false) : AV.hasL k S.sl = false ∧ hasB k S.bx = false := by
  simp only [St.has, Bool.or_eq_false_iff] at h; exact h.1

/-- What is deferred; and where the tags from 1000 on lead (the boxes that came in). -/
structure Dn where
  ds : List Deferred
  β0 : Nat → Value

structure Rel (ds : Dn) (w0 : World) (I0 F : Nat → Prop) (S : St) (I : Nat → Prop) (β : Nat → Value) (a : Act) (w : World) : Prop where
  mem : Mem w0 I0 F S.bx I β w
  sl : DenAs w I β S.sl a.tmps.toList
  dn : a.defers = ds.ds
  fx : ∀ k, 1000 ≤ k → β k = ds.β0 k

section
variable {ds : Dn} {w0 : World} {I0 F : Nat → Prop} {S : St} {I : Nat → Prop} {β : Nat → Value} {a : Act} {w : World}

theorem Den_any (w : World) (I : Nat → Prop) (y : Value) : Den w I .any y := by rw [Den]; trivial
theorem DenA_any (w : World) (I : Nat → Prop) (β : Nat → Value) (y : Value) : DenA w I β (.d .any) y := by rw [DenA]; exact Den_any w I y
theorem DenA_v {x y : Value} : DenA w I β (.d (.v x)) y ↔ y = x := by rw [DenA, Den]

theorem Rel.ev (h : Rel ds w0 I0 F S I β a w) (x : Operand) : DenA w I β (S.ev x) (a.eval x) := by
  cases x with
  | tmp t =>
    simp only [St.ev, St.at, Act.eval]
    cases ht : S.sl[t]? with
    | none => exact DenA_any _ _ _ _
    | some v =>
      obtain ⟨y, hy, hd⟩ := h.sl.get ht
      have : a.tmps.getD t undef = y := by simp [Array.getD_eq_getD_getElem?, ← Array.getElem?_toList, hy]
      rw [this]; exact hd
  | const v => rw [St.ev, DenA_v]; rfl
  | func f => rw [St.ev, DenA_v]; rfl
  | global g => rw [St.ev, DenA_v]; rfl

theorem Rel.put (h : Rel ds w0 I0 F S I β a w) (dst : Option Tmp) {x : AV} {y : Value} (hx : DenA w I β x y) : Rel ds w0 I0 F (S.put dst x) I β (a.put dst y) w := by
  cases dst with
  | none => exact h
  | some t => exact ⟨h.mem, by simpa [St.put, Act.put] using DenAs.set hx h.sl t, h.dn, h.fx⟩

theorem St.put_bx (S : St) (dst : Option Tmp) (x : AV) : (S.put dst x).bx = S.bx := by cases dst <;> rfl
end

/-- What one operation does to a state: the value that it yields, the tags that it ends, the boxes that turn, the boxes that it lays. -/
structure Eff where
  v : AV
  del : List Nat
  upd : Bxs
  add : Bxs
  deriving Inhabited

def delsB : Bxs → List Nat → Bxs
  | bx, [] => bx
  | bx, k :: ks => delsB (delB bx k) ks
def addsB : Bxs → Bxs → Bxs
  | bx, [] => bx
  | bx, (k, b) :: r => addsB (setB bx k b) r
def St.app (S : St) (dst : Option Tmp) (e : Eff) : St := (St.mk S.sl (addsB (addsB (delsB S.bx e.del) e.upd) e.add)).put dst e.v

/-- The boxes that must be there if the call panics. -/
def keepB : Bxs → List Nat → Bxs
  | [], _ => []
  | (k, b) :: r, Z => if Z.contains k then (k, b) :: keepB r Z else keepB r Z

/-- What is asked of a panic: its chain; the tags of the boxes that are still there; the slots that hold what they held. -/
structure Pn where
  ok : List PanicEntry → Prop
  Z : List Nat
  zs : List (Nat × AV)

def noPn : Pn := ⟨fun _ => False, [], []⟩

structure PRel (ds : Dn) (w0 : World) (I0 F : Nat → Prop) (pn : Pn) (bx : Bxs) (I : Nat → Prop) (β : Nat → Value) (a : Act) (w : World) : Prop where
  mem : Mem w0 I0 F (keepB bx pn.Z) I β w
  dn : a.defers = ds.ds
  zs : ∀ p ∈ pn.zs, DenA w I β p.2 (a.eval (.tmp p.1))

/-- From every frame and world that fit S the operation comes to one that fits S'. -/
def Core (P : Program) (ds : Dn) (pn : Pn) (o : Oper) (S S' : St) : Prop :=
  ∀ w0 I0 F I β a w, Rel ds w0 I0 F S I β a w → ∀ (next : Act → World → Prop) (Q : Exit → Act → World → Prop),
    (∀ I' β' a' w', Rel ds w0 I0 F S' I' β' a' w' → next a' w') →
    (∀ ch I' β' w', pn.ok ch → PRel ds w0 I0 F pn S.bx I' β' a w' → Q (.panic ch) a w') →
    o.wp P a w next Q

/-- The same where the operation bears a guard; 'G': the slots that the region's operations write. -/
def yieldedG (G : List (Option Tmp)) (tmps : Array Value) (j : Nat) : Option Bool :=
  match ((G[j]?).bind id).bind (tmps[·]?) with
  | some (.bool b) => some b
  | _ => none
def wantedG (G : List (Option Tmp)) (o : Oper) (tmps : Array Value) : Bool :=
  match o.guard with
  | none => true
  | some (j, want) => yieldedG G tmps j == some want
def Good (P : Program) (ds : Dn) (pn : Pn) (G : List (Option Tmp)) (o : Oper) (S S' : St) : Prop :=
  ∀ w0 I0 F I β a w, Rel ds w0 I0 F S I β a w → ∀ (next : Act → World → Prop) (Q : Exit → Act → World → Prop),
    (∀ I' β' a' w', Rel ds w0 I0 F S' I' β' a' w' → next a' w') →
    (∀ ch I' β' w', pn.ok ch → PRel ds w0 I0 F pn S.bx I' β' a w' → Q (.panic ch) a w') →
    if wantedG G o a.tmps = true then o.wp P a w next Q else next (a.put o.dst undef) w

/-- The slot that an operation's guard looks at. -/
def guardSlot (G : List (Option Tmp)) (o : Oper) : Option Nat := o.guard.bind fun g => (G[g.1]?).bind id

def sameOps (o : Oper) (pn : Pn) (fp : List Nat) (S S1 : St) : Prop :=
  (∀ x ∈ o.op.operands, S1.ev x = S.ev x) ∧ (∀ p ∈ pn.zs, S1.at p.1 = S.at p.1) ∧ ∀ k ∈ fp, getB S1.bx k = getB S.bx k

/-- The same, and it hangs on the operands and the boxes 'fp' alone. -/
def LCore (P : Program) (ds : Dn) (pn : Pn) (o : Oper) (S : St) (e : Eff) (fp : List Nat) : Prop :=
  ∀ S1, sameOps o pn fp S S1 → (∀ p ∈ e.add, S1.has p.1 = false) → Core P ds pn o S1 (S1.app o.dst e)
def LStep (P : Program) (ds : Dn) (pn : Pn) (G : List (Option Tmp)) (o : Oper) (S : St) (e : Eff) (fp : List Nat) : Prop :=
  ∀ S1, sameOps o pn fp S S1 → (∀ t, guardSlot G o = some t → S1.at t = S.at t) → (∀ p ∈ e.add, S1.has p.1 = false) → Good P ds pn G o S1 (S1.app o.dst e)

theorem LStep.of_core {P : Program} {ds : Dn} {pn : Pn} {G : List (Option Tmp)} {o : Oper} {S : St} {e : Eff} {fp : List Nat} (hg : o.guard = none) (h : LCore P ds pn o S e fp) : LStep P ds pn G o S e fp := by
  intro S1 h1 _ h3 w0 I0 F I β a w hr next Q hn hp
  rw [if_pos (by simp [wantedG, hg])]
  exact h S1 h1 h3 w0 I0 F I β a w hr next Q hn hp

/-- What a slot holds where the guard says yes. -/
def unw (g : Bool) : AV → AV
  | .when b x => if g = true → b = true then x else .when b x
  | x => x
def St.under (S : St) (g : Bool) : St := ⟨S.sl.map (unw g), S.bx⟩

theorem DenA_unw {w : World} {I : Nat → Prop} {β : Nat → Value} {x : AV} {y : Value} (h : DenA w I β x y) : DenA w I β (unw true x) y := by
  cases x <;> try exact h
  rename_i b x
  simp only [unw]
  split
  · rename_i hb; exact h.1 (hb trivial)
  · exact h

theorem DenAs_unw {w : World} {I : Nat → Prop} {β : Nat → Value} : ∀ {cs : List AV} {vs : List Value}, DenAs w I β cs vs → DenAs w I β (cs.map (unw true)) vs
  | [], _, h => h
  | _ :: _, _, h => by obtain ⟨v, vs', e, h1, h2⟩ := h; exact ⟨v, vs', e, DenA_unw h1, DenAs_unw h2⟩

theorem Rel.under {ds : Dn} {w0 : World} {I0 F : Nat → Prop} {S : St} {I : Nat → Prop} {β : Nat → Value} {a : Act} {w : World} (h : Rel ds w0 I0 F S I β a w) : Rel ds w0 I0 F (S.under true) I β a w :=
  ⟨h.mem, DenAs_unw h.sl, h.dn, h.fx⟩

theorem St.at_under (S : St) (g : Bool) (t : Nat) : (S.under g).at t = unw g (S.at t) := by
  simp only [St.at, St.under, List.getElem?_map]
  cases S.sl[t]? <;> rfl
theorem St.ev_under (S : St) (g : Bool) (x : Operand) : (S.under g).ev x = unw g (S.ev x) := by
  cases x
  case tmp t => exact St.at_under S g t
  all_goals rfl

theorem DenA_of_unw {w : World} {I : Nat → Prop} {β : Nat → Value} {x : AV} {y : Value} (h : DenA w I β (unw true x) y) : DenA w I β x y := by
  cases x <;> try exact h
  rename_i b x
  simp only [unw] at h
  split at h
  · rename_i hb; exact ⟨fun _ => h, fun e => by rw [hb trivial] at e; cases e⟩
  · exact h
theorem DenAs_of_unw {w : World} {I : Nat → Prop} {β : Nat → Value} : ∀ {cs : List AV} {vs : List Value}, DenAs w I β (cs.map (unw true)) vs → DenAs w I β cs vs
  | [], _, h => h
  | _ :: _, _, h => by obtain ⟨v, vs', e, h1, h2⟩ := h; exact ⟨v, vs', e, DenA_of_unw h1, DenAs_of_unw h2⟩
theorem DenAs_of_unw_set {w : World} {I : Nat → Prop} {β : Nat → Value} {v : AV} {g : Bool} (hg : g = true) : ∀ {cs : List AV} {vs : List Value} {t : Nat}, DenAs w I β ((cs.map (unw true)).set t v) vs → DenAs w I β (cs.set t (.when g v)) vs
  | [], _, _, h => h
  | _ :: _, _, 0, h => by obtain ⟨v, vs', e, h1, h2⟩ := h; exact ⟨v, vs', e, ⟨fun _ => h1, fun e => by rw [hg] at e; cases e⟩, DenAs_of_unw h2⟩
  | _ :: _, _, t + 1, h => by obtain ⟨v, vs', e, h1, h2⟩ := h; exact ⟨v, vs', e, DenA_of_unw h1, DenAs_of_unw_set hg h2⟩

def wantB (want b : Bool) : Bool := if want then b else !b

/-- When does the operation run, by what its guard's slot holds? -/
def gBool (want : Bool) : AV → Option Bool
  | .d (.v (.bool b)) => some (wantB want b)
  | .when c (.d (.v (.bool b))) => some (c && wantB want b)
  | _ => none

def asB : Value → Option Bool
  | .bool b => some b
  | _ => none

theorem gBool_ok {w : World} {I : Nat → Prop} {β : Nat → Value} {want g : Bool} {x : AV} {y : Value} (h : gBool want x = some g) (hd : DenA w I β x y) : asB y == some want ↔ g = true := by
  unfold gBool at h
  split at h
  · rename_i b
    rw [DenA_v] at hd
    subst hd
    cases h
    cases want <;> cases b <;> simp [wantB, asB]
  · rename_i c b
    cases h
    cases c with
    | true =>
      have := hd.1 rfl
      rw [DenA_v] at this
      subst this
      cases want <;> cases b <;> simp [wantB, asB]
    | false =>
      have := hd.2 rfl
      subst this
      simp [undef, asB]
  · cases h

/-- A guarded operation that yields a value and turns no box: where the guard cannot be told it yields under the guard. -/
theorem LStep.of_guard {P : Program} {ds : Dn} {pn : Pn} {G : List (Option Tmp)} {o : Oper} {S : St} {v : AV} {fp : List Nat} {j t : Nat} {want g : Bool}
    (hg : o.guard = some (j, want)) (hj : (G[j]?).bind id = some t) (hb : gBool want (S.at t) = some g)
    (h : g = true → LCore P ds pn o (S.under g) ⟨v, [], [], []⟩ fp) : LStep P ds pn G o S ⟨.when g v, [], [], []⟩ fp := by
  intro S1 h1 h2 _ w0 I0 F I β a w hr next Q hn hp
  have ht : guardSlot G o = some t := by simp [guardSlot, hg, hj]
  have hw : wantedG G o a.tmps = true ↔ g = true := by
    have hs := h2 t ht
    rw [← hs] at hb
    simp only [St.at] at hb
    cases hst : S1.sl[t]? with
    | none => rw [hst] at hb; simp [gBool] at hb
    | some x =>
      rw [hst] at hb
      simp only [Option.getD_some] at hb
      obtain ⟨y, hy, hd⟩ := hr.sl.get hst
      have hy' : a.tmps[t]? = some y := by simpa using hy
      have hyd : yieldedG G a.tmps j = asB y := by
        unfold yieldedG
        rw [hj, Option.bind_some, hy']
        cases y <;> rfl
      simp only [wantedG, hg, hyd]
      exact gBool_ok hb hd
  cases g with
  | true =>
    rw [if_pos (hw.2 rfl)]
    have hc := h rfl
    have same : sameOps o pn fp (S.under true) (S1.under true) :=
      ⟨fun x hx => by rw [St.ev_under, St.ev_under, h1.1 x hx], fun p hp => by rw [St.at_under, St.at_under, h1.2.1 p hp], h1.2.2⟩
    refine hc (S1.under true) same (by simp) w0 I0 F I β a w hr.under next Q (fun I' β' a' w' hr' => hn I' β' a' w' ⟨?_, ?_, hr'.dn, hr'.fx⟩) hp
    · have := hr'.mem
      simpa [St.app, delsB, addsB, St.put_bx, St.under] using this
    · have := hr'.sl
      simp only [St.app, delsB, addsB, St.under] at this ⊢
      cases hd : o.dst with
      | none => rw [hd] at this; exact DenAs_of_unw this
      | some d => rw [hd] at this; exact DenAs_of_unw_set rfl this
  | false =>
    rw [if_neg (fun e => by cases hw.1 e)]
    refine hn I β _ w ?_
    exact hr.put o.dst (x := .when false v) (y := undef) ⟨fun e => (by cases e), fun _ => rfl⟩

/-- What the order of a region hangs on: what an operation does, and the tags that it reads. -/
structure TI where
  e : Eff
  fp : List Nat
  deriving Inhabited

def RunD (P : Program) (ds : Dn) (pn : Pn) (G : List (Option Tmp)) : List Oper → St → List TI → (List TI → St → Prop) → Prop
  | [], S, acc, K => K acc.reverse S
  | o :: os, S, acc, K => ∃ e fp, LStep P ds pn G o S e fp ∧ (∀ p ∈ e.add, S.has p.1 = false) ∧ RunD P ds pn G os (S.app o.dst e) (⟨e, fp⟩ :: acc) K

theorem yieldedG_eq (ops : Array Oper) (tmps : Array Value) (j : Nat) : yielded ops tmps j = yieldedG (ops.toList.map (·.dst)) tmps j := by
  unfold yielded yieldedG
  have : ((ops.toList.map (·.dst))[j]?).bind id = (ops[j]?).bind (·.dst) := by
    simp only [List.getElem?_map, Array.getElem?_toList]
    cases ops[j]? <;> rfl
  rw [this]
  cases ((ops[j]?).bind (·.dst)).bind (tmps[·]?) with
  | none => rfl
  | some v => cases v <;> rfl
theorem wantedG_eq (ops : Array Oper) (o : Oper) (tmps : Array Value) : Region.wanted o (yielded ops tmps) = wantedG (ops.toList.map (·.dst)) o tmps := by
  unfold Region.wanted wantedG
  cases o.guard with
  | none => rfl
  | some p => obtain ⟨j, want⟩ := p; simp only [yieldedG_eq]

/-- A region in the order of its text. -/
theorem RunD.sound {P : Program} {ds : Dn} {pn : Pn} {ops : Array Oper} {Q : Exit → Act → World → Prop} {w0 : World} {I0 F : Nat → Prop} {K : List TI → St → Prop}
    (hQ : ∀ ch a w, pn.ok ch → (∃ bx I β, PRel ds w0 I0 F pn bx I β a w) → Q (.panic ch) a w) :
    ∀ (os : List Oper) (S : St) (acc : List TI) (I : Nat → Prop) (β : Nat → Value) (a : Act) (w : World), RunD P ds pn (ops.toList.map (·.dst)) os S acc K → Rel ds w0 I0 F S I β a w →
      (∀ tis S' I' β' a' w', K tis S' → Rel ds w0 I0 F S' I' β' a' w' → Q .normal a' w') → wpList P ops Q os a w
  | [], S, acc, I, β, a, w, h, hr, hK => hK _ _ _ _ _ _ h hr
  | o :: os, S, acc, I, β, a, w, h, hr, hK => by
    obtain ⟨e, fp, hl, hf, hrest⟩ := h
    refine wpList_step fun K' hK' => ?_
    rw [wantedG_eq]
    refine hl S ⟨fun _ _ => rfl, fun _ _ => rfl, fun _ _ => rfl⟩ (fun _ _ => rfl) hf w0 I0 F I β a w hr K' Q (fun I' β' a' w' hr' => hK' a' w' ?_) (fun ch I' β' w' hok hp => hQ ch a w' hok ⟨_, _, _, hp⟩)
    exact RunD.sound hQ os _ _ I' β' a' w' hrest hr' hK

end Go.Xe
