/-
  The engine, part A. Data descriptors, abstract values, boxes, states, and the relation between a state and the model's frame and world.
-/
import Derived.WalkKit
import Derived.WalkSpells
import Derived.WalkLawsBesides
import Derived.Orders
namespace Go.Xe
open Go.RowKit

/-- Data: what a value says that leads into memory that nobody writes any more. -/
inductive D where
  | any
  | v (x : Value)
  | agg (cs : List D)
  | tup (cs : List D)
  | sl (sz : Nat) (cs : List D) (n : Nat) (full : Bool)
  | ip (cs : List D)
  deriving Inhabited

mutual
def Den (w : World) (I : Nat → Prop) : D → Value → Prop
  | .any, _ => True
  | .v x, y => y = x
  | .agg cs, y => ∃ vs : List Value, y = .agg vs.toArray ∧ Dens w I cs vs
  | .tup cs, y => ∃ vs : List Value, y = .tuple vs.toArray ∧ Dens w I cs vs
  | .sl sz cs n full, y => ∃ a cap, y = .slice a n cap ∧ n ≤ cap ∧ cap ≤ maxLen ∧ (full = true → cap = n) ∧ cs.length = n * sz ∧
      (a = none → n = 0 ∧ cap = 0) ∧ ∀ ad, a = some ad → (0 < n → ad.spot = none) ∧ DenAt w I cs ad.block ad.off
  | .ip cs, y => ∃ b off, y = .pointer (some ⟨b, off, none⟩) ∧ DenAt w I cs b off
def Dens (w : World) (I : Nat → Prop) : List D → List Value → Prop
  | [], vs => vs = []
  | c :: cs, vs => ∃ v vs', vs = v :: vs' ∧ Den w I c v ∧ Dens w I cs vs'
def DenAt (w : World) (I : Nat → Prop) : List D → Nat → Nat → Prop
  | [], _, _ => True
  | c :: cs, b, off => (∃ x, I b ∧ w.cell? ⟨b, off, none⟩ = some x ∧ x.oneCell' = true ∧ Den w I c x) ∧ DenAt w I cs b (off + 1)
end

/-- Nothing that 'I' holds has turned, and 'I' has not shrunk. -/
structure Kept (w : World) (I : Nat → Prop) (w' : World) (I' : Nat → Prop) : Prop where
  sub : ∀ b, I b → I' b
  eq : ∀ b, I b → w'.heap[b]? = w.heap[b]?

theorem Kept.refl (w : World) (I : Nat → Prop) : Kept w I w I := ⟨fun _ h => h, fun _ _ => rfl⟩
theorem Kept.trans {w w' w'' : World} {I I' I'' : Nat → Prop} (h : Kept w I w' I') (k : Kept w' I' w'' I'') : Kept w I w'' I'' :=
  ⟨fun b hb => k.sub b (h.sub b hb), fun b hb => (k.eq b (h.sub b hb)).trans (h.eq b hb)⟩

theorem cell?_of_heap {w w' : World} {b off : Nat} (h : w'.heap[b]? = w.heap[b]?) : w'.cell? ⟨b, off, none⟩ = w.cell? ⟨b, off, none⟩ := by
  simp [World.cell?, h]

mutual
theorem Den.mono {w w' : World} {I I' : Nat → Prop} (hk : Kept w I w' I') : ∀ (d : D) (y : Value), Den w I d y → Den w' I' d y
  | .any, _, _ => trivial
  | .v _, _, h => h
  | .agg cs, _, h => by obtain ⟨vs, e, h⟩ := h; exact ⟨vs, e, Dens.mono hk cs vs h⟩
  | .tup cs, _, h => by obtain ⟨vs, e, h⟩ := h; exact ⟨vs, e, Dens.mono hk cs vs h⟩
  | .sl sz cs n full, _, h => by
    obtain ⟨a, cap, e, h1, h2, h3, h4, h5, h6⟩ := h
    exact ⟨a, cap, e, h1, h2, h3, h4, h5, fun ad ha => ⟨(h6 ad ha).1, DenAt.mono hk cs _ _ (h6 ad ha).2⟩⟩
  | .ip cs, _, h => by
    obtain ⟨b, off, e, h⟩ := h
    exact ⟨b, off, e, DenAt.mono hk cs _ _ h⟩
theorem Dens.mono {w w' : World} {I I' : Nat → Prop} (hk : Kept w I w' I') : ∀ (cs : List D) (vs : List Value), Dens w I cs vs → Dens w' I' cs vs
  | [], _, h => h
  | c :: cs, _, h => by
    obtain ⟨v, vs', e, h1, h2⟩ := h
    exact ⟨v, vs', e, Den.mono hk c v h1, Dens.mono hk cs vs' h2⟩
theorem DenAt.mono {w w' : World} {I I' : Nat → Prop} (hk : Kept w I w' I') : ∀ (cs : List D) (b off : Nat), DenAt w I cs b off → DenAt w' I' cs b off
  | [], _, _, _ => trivial
  | c :: cs, b, off, h => by
    obtain ⟨⟨x, hI, hc, ho, hd⟩, h2⟩ := h
    exact ⟨⟨x, hk.sub b hI, by rw [cell?_of_heap (hk.eq b hI)]; exact hc, ho, Den.mono hk c x hd⟩, DenAt.mono hk cs b (off + 1) h2⟩
end

/-- Abstract values: data, or what leads into the boxes of the call. -/
inductive AV where
  | d (x : D)
  | ptr (k off : Nat)
  | agg (cs : List AV)
  | tup (cs : List AV)
  | fn (f : Fn) (first caps : List AV)
  | row (k : Nat)
  | rptr (k off : Nat)
  | psl (k off n cap : Nat)
  | iface (t : TypeId) (x : AV)
  | when (b : Bool) (x : AV)
  deriving Inhabited

/-- Of a slice value or a pointer: its block. -/
def blk : Value → Option Nat
  | .pointer (some a) => some a.block
  | .slice (some a) _ _ => some a.block
  | .map r => r
  | _ => none

mutual
def DenA (w : World) (I : Nat → Prop) (β : Nat → Value) : AV → Value → Prop
  | .d x, y => Den w I x y
  | .ptr k off, y => ∃ b, β k = .pointer (some ⟨b, 0, none⟩) ∧ y = .pointer (some ⟨b, off, none⟩)
  | .agg cs, y => ∃ vs : List Value, y = .agg vs.toArray ∧ DenAs w I β cs vs
  | .tup cs, y => ∃ vs : List Value, y = .tuple vs.toArray ∧ DenAs w I β cs vs
  | .fn f first caps, y => ∃ v1 v2 : List Value, y = .func f v1.toArray v2.toArray ∧ DenAs w I β first v1 ∧ DenAs w I β caps v2
  | .row k, y => y = β k ∧ ∃ a n c, y = .slice a n c
  | .rptr k off, y => ∃ b n c, β k = .slice (some ⟨b, 0, none⟩) n c ∧ y = .pointer (some ⟨b, off, none⟩)
  | .psl k off n cap, y => ∃ b, β k = .pointer (some ⟨b, 0, none⟩) ∧ y = .slice (some ⟨b, off, none⟩) n cap
  | .iface t x, y => ∃ z, y = .iface t z ∧ DenA w I β x z
  | .when b x, y => (b = true → DenA w I β x y) ∧ (b = false → y = undef)
def DenAs (w : World) (I : Nat → Prop) (β : Nat → Value) : List AV → List Value → Prop
  | [], vs => vs = []
  | c :: cs, vs => ∃ v vs', vs = v :: vs' ∧ DenA w I β c v ∧ DenAs w I β cs vs'
end

mutual
/-- Does a tag occur? -/
def AV.has (k : Nat) : AV → Bool
  | .d _ => false
  | .ptr j _ => j == k
  | .agg cs => AV.hasL k cs
  | .tup cs => AV.hasL k cs
  | .fn _ first caps => AV.hasL k first || AV.hasL k caps
  | .row j => j == k
  | .rptr j _ => j == k
  | .psl j _ _ _ => j == k
  | .iface _ x => AV.has k x
  | .when _ x => AV.has k x
def AV.hasL (k : Nat) : List AV → Bool
  | [] => false
  | c :: cs => AV.has k c || AV.hasL k cs
end

mutual
theorem DenA.mono {w w' : World} {I I' : Nat → Prop} {β β' : Nat → Value} (hk : Kept w I w' I') : ∀ (x : AV) (y : Value), (∀ k, AV.has k x = true → β' k = β k) → DenA w I β x y → DenA w' I' β' x y
  | .d x, y, _, h => Den.mono hk x y h
  | .ptr k off, _, hb, h => by obtain ⟨b, h1, h2⟩ := h; exact ⟨b, by rw [hb k (by simp [AV.has])]; exact h1, h2⟩
  | .agg cs, _, hb, h => by obtain ⟨vs, e, h⟩ := h; exact ⟨vs, e, DenAs.mono hk cs vs (fun k hh => hb k (by simpa [AV.has] using hh)) h⟩
  | .tup cs, _, hb, h => by obtain ⟨vs, e, h⟩ := h; exact ⟨vs, e, DenAs.mono hk cs vs (fun k hh => hb k (by simpa [AV.has] using hh)) h⟩
  | .fn f first caps, _, hb, h => by
    obtain ⟨v1, v2, e, h1, h2⟩ := h
    exact ⟨v1, v2, e, DenAs.mono hk first v1 (fun k hh => hb k (by simp [AV.has, hh])) h1, DenAs.mono hk caps v2 (fun k hh => hb k (by simp [AV.has, hh])) h2⟩
  | .row k, _, hb, h => by rw [DenA] at h ⊢; rw [hb k (by simp [AV.has])]; exact h
  | .rptr k off, _, hb, h => by obtain ⟨b, n, c, h1, h2⟩ := h; exact ⟨b, n, c, by rw [hb k (by simp [AV.has])]; exact h1, h2⟩
  | .psl k off n cap, _, hb, h => by obtain ⟨b, h1, h2⟩ := h; exact ⟨b, by rw [hb k (by simp [AV.has])]; exact h1, h2⟩
  | .iface t x, _, hb, h => by obtain ⟨z, e, h⟩ := h; exact ⟨z, e, DenA.mono hk x z (fun k hh => hb k (by simpa [AV.has] using hh)) h⟩
  | .when b x, y, hb, h => ⟨fun e => DenA.mono hk x y (fun k hh => hb k (by simpa [AV.has] using hh)) (h.1 e), h.2⟩
theorem DenAs.mono {w w' : World} {I I' : Nat → Prop} {β β' : Nat → Value} (hk : Kept w I w' I') : ∀ (cs : List AV) (vs : List Value), (∀ k, AV.hasL k cs = true → β' k = β k) → DenAs w I β cs vs → DenAs w' I' β' cs vs
  | [], _, _, h => h
  | c :: cs, _, hb, h => by
    obtain ⟨v, vs', e, h1, h2⟩ := h
    exact ⟨v, vs', e, DenA.mono hk c v (fun k hh => hb k (by simp [AV.hasL, hh])) h1, DenAs.mono hk cs vs' (fun k hh => hb k (by simp [AV.hasL, hh])) h2⟩
end

theorem DenAs.length {w : World} {I : Nat → Prop} {β : Nat → Value} : ∀ {cs : List AV} {vs : List Value}, DenAs w I β cs vs → cs.length = vs.length
  | [], _, h => by rw [DenAs] at h; subst h; rfl
  | _ :: _, _, h => by obtain ⟨v, vs', rfl, _, h2⟩ := h; simp [DenAs.length h2]

theorem DenAs.get {w : World} {I : Nat → Prop} {β : Nat → Value} : ∀ {cs : List AV} {vs : List Value} (_ : DenAs w I β cs vs) {i : Nat} {x : AV}, cs[i]? = some x → ∃ y, vs[i]? = some y ∧ DenA w I β x y
  | [], _, _, _, _, hx => by simp at hx
  | _ :: _, _, h, 0, _, hx => by obtain ⟨v, vs', rfl, h1, _⟩ := h; simp at hx; subst hx; exact ⟨v, rfl, h1⟩
  | _ :: _, _, h, i + 1, _, hx => by obtain ⟨v, vs', rfl, _, h2⟩ := h; simp at hx; simpa using DenAs.get h2 hx

theorem DenAs.set {w : World} {I : Nat → Prop} {β : Nat → Value} {x : AV} {y : Value} (hxy : DenA w I β x y) : ∀ {cs : List AV} {vs : List Value} (_ : DenAs w I β cs vs) (i : Nat), DenAs w I β (cs.set i x) (vs.set i y)
  | [], _, h, _ => by rw [DenAs] at h; subst h; simp [DenAs]
  | _ :: _, _, h, 0 => by obtain ⟨v, vs', rfl, _, h2⟩ := h; exact ⟨y, vs', rfl, hxy, h2⟩
  | _ :: _, _, h, i + 1 => by obtain ⟨v, vs', rfl, h1, h2⟩ := h; exact ⟨v, vs'.set i y, rfl, h1, DenAs.set hxy h2 i⟩

theorem DenAs.append {w : World} {I : Nat → Prop} {β : Nat → Value} : ∀ {cs cs' : List AV} {vs vs' : List Value} (_ : DenAs w I β cs vs) (_ : DenAs w I β cs' vs'), DenAs w I β (cs ++ cs') (vs ++ vs')
  | [], _, _, _, h, h' => by rw [DenAs] at h; subst h; exact h'
  | _ :: _, _, _, _, h, h' => by obtain ⟨v, vs', rfl, h1, h2⟩ := h; exact ⟨v, _, rfl, h1, DenAs.append h2 h'⟩

theorem DenAs.take {w : World} {I : Nat → Prop} {β : Nat → Value} : ∀ {cs : List AV} {vs : List Value} (_ : DenAs w I β cs vs) (n : Nat), DenAs w I β (cs.take n) (vs.take n)
  | [], _, h, _ => by rw [DenAs] at h; subst h; simp [DenAs]
  | _ :: _, _, _, 0 => by simp [DenAs]
  | _ :: _, _, h, n + 1 => by obtain ⟨v, vs', rfl, h1, h2⟩ := h; exact ⟨v, _, rfl, h1, DenAs.take h2 n⟩

theorem DenAs.drop {w : World} {I : Nat → Prop} {β : Nat → Value} : ∀ {cs : List AV} {vs : List Value} (_ : DenAs w I β cs vs) (n : Nat), DenAs w I β (cs.drop n) (vs.drop n)
  | [], _, h, _ => by rw [DenAs] at h; subst h; simp [DenAs]
  | _ :: _, _, h, 0 => by simpa using h
  | _ :: _, _, h, n + 1 => by obtain ⟨v, vs', rfl, h1, h2⟩ := h; simpa using DenAs.drop h2 n

/-- A list of data, seen as abstract values. -/
theorem DenAs.of_dens {w : World} {I : Nat → Prop} {β : Nat → Value} : ∀ {cs : List D} {vs : List Value}, Dens w I cs vs → DenAs w I β (cs.map .d) vs
  | [], _, h => by rw [Dens] at h; subst h; simp [DenAs]
  | _ :: _, _, h => by obtain ⟨v, vs', rfl, h1, h2⟩ := h; exact ⟨v, vs', rfl, h1, DenAs.of_dens h2⟩

theorem DenAs.to_dens {w : World} {I : Nat → Prop} {β : Nat → Value} : ∀ {cs : List D} {vs : List Value}, DenAs w I β (cs.map .d) vs → Dens w I cs vs
  | [], _, h => by simpa [DenAs, Dens] using h
  | _ :: _, _, h => by obtain ⟨v, vs', rfl, h1, h2⟩ := h; exact ⟨v, vs', rfl, h1, DenAs.to_dens h2⟩

theorem DenAt.cell {w : World} {I : Nat → Prop} : ∀ {cs : List D} {b off : Nat} (_ : DenAt w I cs b off) {i : Nat} {c : D}, cs[i]? = some c → ∃ x, I b ∧ w.cell? ⟨b, off + i, none⟩ = some x ∧ x.oneCell' = true ∧ Den w I c x
  | [], _, _, _, _, _, hx => by simp at hx
  | _ :: _, _, _, h, 0, _, hx => by simp at hx; subst hx; simpa using h.1
  | _ :: _, b, off, h, i + 1, _, hx => by
    have := DenAt.cell h.2 (i := i) (by simpa using hx)
    rwa [Nat.add_assoc, Nat.add_comm 1 i] at this

theorem DenAt.drop {w : World} {I : Nat → Prop} : ∀ {cs : List D} {b off : Nat} (_ : DenAt w I cs b off) (n : Nat), DenAt w I (cs.drop n) b (off + n)
  | [], _, _, _, _ => by simp [DenAt]
  | _ :: _, _, _, h, 0 => by simpa using h
  | _ :: _, b, off, h, n + 1 => by
    have := DenAt.drop h.2 n
    rw [Nat.add_assoc, Nat.add_comm 1 n] at this
    simpa using this

theorem DenAt.take {w : World} {I : Nat → Prop} : ∀ {cs : List D} {b off : Nat} (_ : DenAt w I cs b off) (n : Nat), DenAt w I (cs.take n) b off
  | [], _, _, _, _ => by simp [DenAt]
  | _ :: _, _, _, _, 0 => by simp [DenAt]
  | _ :: _, _, _, h, n + 1 => ⟨h.1, DenAt.take h.2 n⟩

theorem DenAt.append {w : World} {I : Nat → Prop} : ∀ {cs cs' : List D} {b off : Nat} (_ : DenAt w I cs b off) (_ : DenAt w I cs' b (off + cs.length)), DenAt w I (cs ++ cs') b off
  | [], _, _, _, _, h' => by simpa using h'
  | _ :: _, _, b, off, h, h' => ⟨h.1, DenAt.append h.2 (by simpa [Nat.add_assoc, Nat.add_comm 1] using h')⟩

/-- The cells read one after the other. -/
theorem DenAt.dens {w : World} {I : Nat → Prop} : ∀ {cs : List D} {b off : Nat} (_ : DenAt w I cs b off), ∃ vs : List Value, Dens w I cs vs ∧ (∀ v ∈ vs, v.oneCell' = true) ∧ ∀ j v, vs[j]? = some v → w.cell? ⟨b, off + j, none⟩ = some v
  | [], _, _, _ => ⟨[], rfl, by simp, by simp⟩
  | _ :: _, b, off, h => by
    obtain ⟨⟨x, _, hc, ho, hd⟩, h2⟩ := h
    obtain ⟨vs, h3, h4, h5⟩ := DenAt.dens h2
    refine ⟨x :: vs, ⟨x, vs, rfl, hd, h3⟩, by simpa using ⟨ho, h4⟩, ?_⟩
    intro j v hv
    cases j with
    | zero => simp at hv; subst hv; simpa using hc
    | succ j => have := h5 j v (by simpa using hv); rwa [Nat.add_assoc, Nat.add_comm 1 j] at this

/-- Cells of a block that has just been given up to 'I'. -/
theorem DenAt.of_dens {w : World} {I : Nat → Prop} {b : Nat} (hI : I b) : ∀ {cs : List D} {vs : List Value} {off : Nat}, Dens w I cs vs → (∀ v ∈ vs, v.oneCell' = true) → (∀ j v, vs[j]? = some v → w.cell? ⟨b, off + j, none⟩ = some v) → DenAt w I cs b off
  | [], _, _, _, _, _ => trivial
  | _ :: _, _, off, h, ho, hc => by
    obtain ⟨v, vs', rfl, h1, h2⟩ := h
    refine ⟨⟨v, hI, by simpa using hc 0 v rfl, ho v (by simp), h1⟩, DenAt.of_dens hI h2 (fun u hu => ho u (by simp [hu])) ?_⟩
    intro j u hu
    have := hc (j + 1) u (by simpa using hu)
    rwa [Nat.add_assoc, Nat.add_comm 1 j]

theorem Dens.length {w : World} {I : Nat → Prop} : ∀ {cs : List D} {vs : List Value}, Dens w I cs vs → cs.length = vs.length
  | [], _, h => by rw [Dens] at h; subst h; rfl
  | _ :: _, _, h => by obtain ⟨v, vs', rfl, _, h2⟩ := h; simp [Dens.length h2]

end Go.Xe
