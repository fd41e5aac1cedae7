/-
  Joined texts.
-/
import Derived.Test.YtjjaabidbeoomaaGreatDoorK8
import Derived.Shelf.SlSortCmp.Whole1
import Derived.Test.YtjjaabidbeoomaaGreatDoorKEngMa
import Derived.Maps.RangeRun
set_option linter.unusedVariables false
set_option linter.unusedSimpArgs false
set_option linter.unusedSectionVars false
/-
  The engine: the library's sort of a row of one-cell data (pointers, say) by a key, by the kit's contract.
-/
set_option linter.unusedSectionVars false
set_option linter.unusedVariables false
set_option linter.unusedSimpArgs false
namespace Go.Xe
open Go.RowKit Go.Sort Go.Shelf
variable [Glob]

section
variable {α : Type} [Inhabited α]
theorem sortW1_heap (enc : α → Value) (w : World) (b n : Nat) (d : Array α) (os : Array Obj) (i : Nat) (hi : i < w.heap.size) (hne : i ≠ b) : (Go.Proofs.sortWorld enc w b 0 n d os).heap[i]? = w.heap[i]? := by
  simp only [Go.Proofs.sortWorld, grow, putRow, mapBlock, ahead]
  rw [Array.getElem?_append_left (by simpa using hi), Array.getElem?_modify, if_neg (Ne.symm hne)]
  rfl
theorem sortW1_size (enc : α → Value) (w : World) (b n : Nat) (d : Array α) (os : Array Obj) : w.heap.size ≤ (Go.Proofs.sortWorld enc w b 0 n d os).heap.size := by
  simp only [Go.Proofs.sortWorld, grow, putRow, mapBlock, ahead]
  simp
theorem sortW1_own (enc : α → Value) (w : World) (b n : Nat) (d : Array α) (os : Array Obj) {T : TypeId} {cap : Nat} {cur : Array Value} (hb : w.heap[b]? = some (.cells cur T (0, 0))) (hnc : d.size ≤ cap) (hcm : cap ≤ maxLen)
    (hcs : cur.size = cap * 1) : (Go.Proofs.sortWorld enc w b 0 n d os).ownsRow 0 T 1 (.slice (some ⟨b, 0, none⟩) d.size cap) d.size (d.toList.map enc) := by
  have hlt : b < w.heap.size := by
    rcases Nat.lt_or_ge b w.heap.size with h | h
    · exact h
    · rw [Array.getElem?_eq_none h] at hb; cases hb
  have hdk : d.size ≤ cur.size := by rw [hcs]; omega
  refine ⟨by simp, .inr ⟨b, cap, putCells enc 0 d cur, rfl, Nat.zero_le _, ?_, hnc, hcm, by simp [putCells, hcs], ?_⟩⟩
  · simp only [Go.Proofs.sortWorld, grow, putRow, mapBlock, ahead]
    rw [Array.getElem?_append_left (by simpa using hlt), Array.getElem?_modify, if_pos rfl, show (Go.Sort.ahead w n).heap = w.heap from rfl, hb]
    rfl
  · refine List.ext_getElem? fun t => ?_
    rw [List.getElem?_take, Nat.mul_one]
    by_cases h : t < d.size
    · rw [if_pos h, Array.getElem?_toList, List.getElem?_map, Array.getElem?_toList, Array.getElem?_eq_getElem (by simp [putCells]; omega), Array.getElem?_eq_getElem h]
      simp only [Option.map_some]
      congr 1
      simp only [putCells, Array.getElem_mapIdx, Nat.zero_le, Nat.zero_add, h, and_self, if_true, Nat.sub_zero]
      rw [getElem!_pos _ t h]
    · rw [if_neg h, List.getElem?_eq_none (by simp; omega)]
end

/-- What says less and less. -/
theorem dens_split {w : World} {I : Nat → Prop} : ∀ {ds : List D} {vs : List Value}, Dens w I ds vs → (∀ v ∈ vs, v.oneCell' = true) → ∃ l : List (D × Value), l.map (·.1) = ds ∧ l.map (·.2) = vs ∧ ∀ q ∈ l, q.1 ∈ ds ∧ Den w I q.1 q.2 ∧ q.2.oneCell' = true
  | [], _, h, _ => by rw [Dens] at h; subst h; exact ⟨[], rfl, rfl, by simp⟩
  | d :: ds, _, h, ho => by
    obtain ⟨v, vs', rfl, h1, h2⟩ := h
    obtain ⟨l, e1, e2, e3⟩ := dens_split h2 fun u hu => ho u (by simp [hu])
    refine ⟨(d, v) :: l, by simp [e1], by simp [e2], fun q hq => ?_⟩
    rcases List.mem_cons.1 hq with rfl | hq
    · exact ⟨by simp, h1, ho v (by simp)⟩
    · obtain ⟨a, b, c⟩ := e3 q hq
      exact ⟨by simp [a], b, c⟩
theorem dens_join {w : World} {I : Nat → Prop} : ∀ {l : List (D × Value)}, (∀ q ∈ l, Den w I q.1 q.2) → Dens w I (l.map (·.1)) (l.map (·.2))
  | [], _ => rfl
  | q :: l, h => ⟨q.2, _, rfl, h q (by simp), dens_join fun r hr => h r (by simp [hr])⟩
theorem sorted_key {β : Type} (key : β → Int) : ∀ {l m : List β}, l.Perm m → l.Pairwise (fun a b => key a ≤ key b) → m.Pairwise (fun a b => key a < key b) → l = m
  | [], m, hp, _, _ => hp.nil_eq
  | x :: l, [], hp, _, _ => absurd hp.length_eq (by simp)
  | x :: l, y :: m, hp, hl, hm => by
    obtain ⟨l1, l2⟩ := List.pairwise_cons.1 hl
    obtain ⟨m1, m2⟩ := List.pairwise_cons.1 hm
    have e : x = y := by
      rcases List.mem_cons.1 (hp.mem_iff.1 (show x ∈ x :: l by simp)) with e | h1
      · exact e
      · rcases List.mem_cons.1 (hp.mem_iff.2 (show y ∈ y :: m by simp)) with e | h2
        · exact e.symm
        · have := m1 x h1; have := l1 y h2; omega
    subst e
    rw [sorted_key key hp.cons_inv l2 m2]

/-- slices.SortFunc of a row of one-cell data, whose keys are different. -/
theorem Fun.sortFunc1 {P : Program} {ρ : Ren} (L : Go.Proofs.SlLaysF.n6 P ρ) (L0 : Go.Proofs.SlLaysF0.n6 P ρ) (key : D → Int) (ck : Int → Int → Int) (hck : ∀ a b, ck a b < 0 ↔ a < b) {g : FuncId} (eg : ∀ args w, (callFunc g args).run P w = .ok (.enter g args) w)
    (ds ds' : List D) (hcf : ∀ x ∈ ds, ∀ y ∈ ds, Fn0 P g [x, y] (.v (.int .i64 (ck (key x) (key y))))) (hp : ds'.Perm ds) (hs : ds'.Pairwise fun a b => key a < key b) (hl : ds.length < 4611686018427387904) :
    Fun P (ρ.f 6) [.row 1000, .d (.v (.func (.func g) #[] #[]))] [(1000, .row (ρ.t 24) 1 ds.length (ds.map .d))] (.d .any) [(1000, .row (ρ.t 24) 1 ds.length (ds'.map .d))] fun _ => False := by
  intro w I β vs hm hd
  obtain ⟨v, vs', rfl, hv, fv, vs'', rfl, hfv, hnil⟩ := hd
  rw [DenA_v] at hfv
  subst hfv
  rw [DenA] at hv
  obtain ⟨rfl, _⟩ := hv
  have hnil : vs'' = [] := hnil
  subst hnil
  obtain ⟨xs, how, hdx, hox⟩ := hm.bxs 1000 _ rfl
  obtain ⟨q, hq1, hq2, hq3⟩ := dens_split hdx.to_dens hox
  rcases how.2 with ⟨hn, hn0⟩ | ⟨b, cap, cur, hβ, _, hb, hnc, hcm, hcs, htk⟩
  · have hl0 : ds = [] := List.eq_nil_of_length_eq_zero hn0
    subst hl0
    have hs0 : ds' = [] := List.eq_nil_of_length_eq_zero (by rw [hp.length_eq]; rfl)
    subst hs0
    rw [hn]
    refine Calls.mono (Go.Proofs.AnyF.slices_SortFunc_none L0 none 0 _ w) fun e w' ⟨he, hw⟩ => ?_
    subst he
    subst hw
    exact ⟨I, β, hm, trivial, fun _ _ => rfl⟩
  · have hlt : b < w.heap.size := by
      rcases Nat.lt_or_ge b w.heap.size with h | h
      · exact h
      · rw [Array.getElem?_eq_none h] at hb; cases hb
    have hblk : blk (β 1000) = some b := by rw [hβ]; rfl
    have hnI : ¬ I b := (hm.sep 1000 _ b rfl (.inl hblk)).1
    have hql : q.length = ds.length := by rw [← hq1, List.length_map]
    cases hds : ds with
    | nil =>
      -- an empty row with a block of its own
      subst hds
      have hs0 : ds' = [] := List.eq_nil_of_length_eq_zero (by rw [hp.length_eq]; rfl)
      subst hs0
      rw [hβ]
      refine Calls.mono (Go.Proofs.AnyF.slices_SortFunc_none L0 (some ⟨b, 0, none⟩) cap _ w) fun e w' ⟨he, hw⟩ => ?_
      subst he
      subst hw
      exact ⟨I, β, hm, trivial, fun _ _ => rfl⟩
    | cons d0 ds0 =>
    rw [← hds]
    let α : Type := {r : D × Value // r.1 ∈ ds ∧ Den w I r.1 r.2 ∧ r.2.oneCell' = true}
    obtain ⟨A, hA⟩ : ∃ A : List α, A.map (·.1) = q := ⟨q.attach.map fun r => ⟨r.1, hq3 r.1 r.2⟩, by
      rw [List.map_map]
      exact List.attach_map_subtype_val q⟩
    have hAl : A.length = ds.length := by
      have := congrArg List.length hA
      rw [List.length_map] at this
      rw [this, hql]
    have hne : A ≠ [] := fun h => by rw [h, hds] at hAl; cases hAl
    haveI : Inhabited α := ⟨A.head hne⟩
    let enc : α → Value := fun r => r.1.2
    let cf : α → α → Int := fun x y => ck (key x.1.1) (key y.1.1)
    have hltO : ∀ x y : α, Go.Proofs.ltOf cf x y = decide (key x.1.1 < key y.1.1) := fun x y => by
      show decide (ck (key x.1.1) (key y.1.1) < 0) = _
      rw [Bool.eq_iff_iff, decide_eq_true_eq, decide_eq_true_eq, hck]
    have hO : SWO (Go.Proofs.ltOf cf) := by
      constructor
      · intro x; rw [hltO]; simp
      · intro x y z h1 h2; rw [hltO, decide_eq_true_eq] at *; omega
      · intro x y z h1 h2; rw [hltO, decide_eq_false_iff_not] at *; omega
    have h1 : Go.Proofs.OneCell enc := fun r => r.2.2.2
    have hxs : A.map enc = xs := by
      have e0 : A.map enc = (A.map (·.1)).map (·.2) := (List.map_map ..).symm
      rw [e0, hA, hq2]
    have hH : Holds enc w b 0 A.toArray := by
      intro j hj
      have hj' : j < ds.length := by rw [← hAl]; simpa using hj
      have e1 : cur[j]? = some (enc (A.toArray[j]!)) := by
        have := congrArg (fun q => q[j]?) htk
        simp only [List.getElem?_take, Nat.mul_one, hj', if_true, Array.getElem?_toList] at this
        rw [this, ← hxs, List.getElem?_map, getElem!_pos _ j hj]
        have hj2 : j < A.length := by simpa using hj
        rw [List.getElem?_eq_getElem hj2]
        rfl
      constructor
      · simp [World.cell?, hb, Nat.zero_add, e1]
      · simp [World.frozen?, hb]
    have hcl : Go.Proofs.CmpLays1 P g #[] enc cf b 0 A.toArray.size w := by
      intro m os dk _ x y
      generalize hW : Go.Proofs.sortWorld enc w b 0 m dk os = W
      have hk : Kept w I W I := ⟨fun _ h => h, fun n hn => by rw [← hW]; exact sortW1_heap enc w b m dk os n (hm.im n hn) (fun e => hnI (e ▸ hn))⟩
      have hsz : w.heap.size ≤ W.heap.size := by rw [← hW]; exact sortW1_size enc w b m dk os
      have hmW : Mem W I (Fp [] fun _ => undef) [] I (fun _ => undef) W :=
        ⟨fun k b h => (by cases h), fun k b n h => (by cases h), fun k j b c n h => (by cases h), fun n h => Nat.lt_of_lt_of_le (hm.im n h) hsz, fun n h => .inl h, .refl W _, fun _ _ _ => rfl, Nat.le_refl _, rfl, rfl, rfl, Nat.le_refl _, hm.gl.mono hk⟩
      have hdd : DenAs W I (fun _ => undef) ([x.1.1, y.1.1].map .d) [enc x, enc y] := ⟨_, _, rfl, Den.mono hk _ _ x.2.2.1, _, _, rfl, Den.mono hk _ _ y.2.2.1, rfl⟩
      have hc := hcf x.1.1 x.2.1 y.1.1 y.2.1 W I (fun _ => undef) _ hmW hdd
      refine Calls.mono hc fun e w' he => ?_
      cases e with
      | returned v =>
        obtain ⟨I', β', h1, h2, _⟩ := he
        rw [DenA_v] at h2
        subst h2
        refine ⟨rfl, w'.drawn - W.drawn, w'.heap.extract W.heap.size w'.heap.size, ?_⟩
        have hh : w'.heap = W.heap ++ w'.heap.extract W.heap.size w'.heap.size := by
          apply Array.ext_getElem?
          intro i
          by_cases hi : i < W.heap.size
          · rw [Array.getElem?_append_left hi]
            exact h1.fr i hi (by rintro ⟨k, b, hb, _⟩; cases hb)
          · rw [Array.getElem?_append_right (by omega)]
            by_cases hi2 : i < w'.heap.size
            · rw [Array.getElem?_eq_getElem hi2, Array.getElem?_eq_getElem (by simp; omega)]
              simp
              congr 1
              omega
            · rw [Array.getElem?_eq_none (by omega), Array.getElem?_eq_none (by simp; omega)]
        have hdr := h1.dr
        cases w' with
        | mk heap tape drawn os output =>
          have a1 := h1.os
          have a2 := h1.tape
          have a3 := h1.out
          simp only at a1 a2 a3 hh hdr
          subst a1; subst a2; subst a3
          simp only [grow, World.drewN]
          rw [← hh, show W.drawn + (drawn - W.drawn) = drawn by omega]
      | panicked ch => exact he.1.elim
      | outgrown => exact he.elim
    have hAs : A.toArray.size = ds.length := by simpa using hAl
    rw [hβ]
    have hcall := Go.Proofs.Any.slices_SortFunc L enc h1 cf hO g #[] b 0 cap A.toArray w eg hcl hH hlt (by rw [hAs]; exact hl)
    rw [hAs] at hcall
    refine Calls.mono hcall fun e w' ⟨he, d', n, os, hpi, hsi, hw⟩ => ?_
    subst he
    obtain ⟨s1, _, s2⟩ := hpi
    have hsz' : d'.size = ds.length := by rw [← hAs]; exact s1
    have hperm : d'.toList.Perm A := by
      have e1 : (d'.extract 0 ds.length) = d' := by rw [← hsz']; simp
      have e2 : (A.toArray.extract 0 ds.length) = A.toArray := by rw [← hAs]; simp
      rw [e1, e2] at s2
      simpa using s2
    have hsorted : d'.toList.Pairwise fun x y => key x.1.1 ≤ key y.1.1 := by
      rw [List.pairwise_iff_getElem]
      intro i j hi hj hij
      have hj' : j < d'.size := by simpa using hj
      have hi' : i < d'.size := by omega
      have := hsi i j (Nat.zero_le _) hij (by omega)
      rw [getElem!_pos d' j hj', getElem!_pos d' i hi', hltO, decide_eq_false_iff_not] at this
      simp only [Array.getElem_toList]
      omega
    have hds' : d'.toList.map (fun r => r.1.1) = ds' := by
      refine sorted_key key ?_ ?_ hs
      · have := hperm.map (fun r : α => r.1.1)
        refine this.trans ?_
        have e1 : A.map (fun r : α => r.1.1) = ds := by
          have e0 : A.map (fun r : α => r.1.1) = (A.map (·.1)).map (·.1) := (List.map_map ..).symm
          rw [e0, hA, hq1]
        rw [e1]
        exact hp.symm
      · rw [List.pairwise_map]; exact hsorted
    subst hw
    have hown := sortW1_own enc w b n d' os hb (by rw [hsz']; exact hnc) hcm hcs
    rw [hsz'] at hown
    have hkp : Kept w I (Go.Proofs.sortWorld enc w b 0 n d' os) I := ⟨fun _ h => h, fun m hm' => sortW1_heap enc w b n d' os m (hm.im m hm') (fun e => hnI (e ▸ hm'))⟩
    have hdens : Dens (Go.Proofs.sortWorld enc w b 0 n d' os) I ds' (d'.toList.map enc) := by
      have := dens_join (l := d'.toList.map (fun r : α => r.1)) (w := w) (I := I) fun r hr => by
        obtain ⟨x, _, rfl⟩ := List.mem_map.1 hr
        exact x.2.2.1
      rw [List.map_map, List.map_map] at this
      rw [← hds']
      exact Dens.mono hkp _ _ this
    refine ⟨I, β, ⟨fun j c hj => ?_, fun j c m hj hm' => ?_, fun i j c c' m hi hj => ?_, fun m hm' => Nat.lt_of_lt_of_le (hm.im m hm') (sortW1_size enc w b n d' os), hm.inew, hm.kept.trans hkp, fun m hm' hF => ?_, sortW1_size enc w b n d' os, rfl, rfl, rfl, ?_, hm.gl⟩, trivial, fun _ _ => rfl⟩
    · have hj1 : j = 1000 ∧ c = .row (ρ.t 24) 1 ds.length (ds'.map .d) := by
        simp only [getB] at hj
        split at hj
        · rename_i e; cases hj; exact ⟨by simpa using e.symm, rfl⟩
        · cases hj
      obtain ⟨rfl, rfl⟩ := hj1
      rw [hβ]
      refine ⟨_, hown, .of_dens hdens, fun u hu => ?_⟩
      obtain ⟨x, _, rfl⟩ := List.mem_map.1 hu
      exact x.2.2.2
    · have hj1 : j = 1000 := by
        simp only [getB] at hj
        split at hj
        · rename_i e; simpa using e.symm
        · cases hj
      subst hj1
      exact hm.sep 1000 _ m rfl hm'
    · have hi1 : i = 1000 := by
        simp only [getB] at hi
        split at hi
        · rename_i e; simpa using e.symm
        · cases hi
      have hj1 : j = 1000 := by
        simp only [getB] at hj
        split at hj
        · rename_i e; simpa using e.symm
        · cases hj
      intro _ _
      rw [hi1, hj1]
    · refine sortW1_heap enc w b n d' os m hm' fun e => hF ?_
      subst e
      exact ⟨1000, _, rfl, .inl hblk⟩
    · show w.drawn ≤ w.drawn + n
      exact Nat.le_add_right _ _
end Go.Xe

/-
  The engine, part Bu. Bundles: boxes that are held together under one tag, their values told as they are; contracts that come back in one of several ways.
-/
set_option linter.unusedVariables false
set_option linter.unusedSimpArgs false
set_option linter.unusedSectionVars false
namespace Go.Xe
open Go.RowKit
variable [Glob]

/-! ### other boxes over the same memory -/
theorem Mem.rebox {w0 : World} {I0 F : Nat → Prop} {bx bx' : Bxs} {I I' : Nat → Prop} {β β' : Nat → Value} {w : World} (h : Mem w0 I0 F bx I β w)
    (hI : ∀ n, I n → I' n) (hnew : ∀ n, I' n → I n ∨ ∃ k b, getB bx k = some b ∧ Blk (β k) n)
    (hbx : ∀ k b, getB bx' k = some b → BoxRel w I' β' (β' k) b)
    (hblk : ∀ k b n, getB bx' k = some b → Blk (β' k) n → ¬ I' n ∧ ∃ k0 b0, getB bx k0 = some b0 ∧ Blk (β k0) n)
    (hinj : ∀ k j b c n, getB bx' k = some b → getB bx' j = some c → Blk (β' k) n → Blk (β' j) n → k = j) : Mem w0 I0 F bx' I' β' w := by
  refine ⟨hbx, fun k b n hk hn => ?_, hinj, fun n hn => ?_, fun n hn => ?_, h.kept.trans ⟨hI, fun _ _ => rfl⟩, h.fr, h.sz, h.os, h.tape, h.out, h.dr, h.gl⟩
  · obtain ⟨h1, k0, b0, h2, h3⟩ := hblk k b n hk hn
    exact ⟨h1, (h.sep k0 b0 n h2 h3).2⟩
  · rcases hnew n hn with h1 | ⟨k, b, h1, h2⟩
    · exact h.im n h1
    · exact (h.bxs k b h1).lt h2
  · rcases hnew n hn with h1 | ⟨k, b, h1, h2⟩
    · exact h.inew n h1
    · exact .inr (h.sep k b n h1 h2).2

/-! ### bundles -/
def BunP (l : List (Value × Box)) (y : Value) (w : World) (I : Nat → Prop) : Prop :=
  y = .tuple (l.map (·.1)).toArray ∧ (∀ q ∈ l, BoxRel w I (fun _ => undef) q.1 q.2) ∧ l.Pairwise fun a b => ∀ n, Blk a.1 n → ¬ Blk b.1 n
/-- Boxes of the call's own, each with its value. -/
def Bun (l : List (Value × Box)) : Box := .opq (BunP l)
/-- A box that speaks of no tag, and is no bundle. -/
def Clo (b : Box) : Prop := b.single = true ∧ ∀ k, AV.hasL k b.cs = false
theorem blk_bun {l : List (Value × Box)} {n : Nat} : Blk (.tuple (l.map (·.1)).toArray) n ↔ ∃ q ∈ l, blk q.1 = some n := by
  constructor
  · rintro (h | ⟨vs, e, v, hv, hb⟩)
    · cases h
    · cases e
      simp only [List.mem_map] at hv
      obtain ⟨q, hq, rfl⟩ := hv
      exact ⟨q, hq, hb⟩
  · rintro ⟨q, hq, hb⟩
    exact .inr ⟨_, rfl, q.1, by simpa using ⟨q.2, hq⟩, hb⟩
theorem Bun.out {l : List (Value × Box)} {w : World} {I : Nat → Prop} {β : Nat → Value} {y : Value} (hc : ∀ q ∈ l, Clo q.2) (h : BoxRel w I β y (Bun l)) :
    y = .tuple (l.map (·.1)).toArray ∧ (∀ q ∈ l, ∀ β', BoxRel w I β' q.1 q.2) ∧ l.Pairwise fun a b => ∀ n, Blk a.1 n → ¬ Blk b.1 n := by
  obtain ⟨w1, I1, ⟨h1, h2, h3⟩, hk, hb⟩ := h
  refine ⟨h1, fun q hq β' => ?_, h3⟩
  have h4 := h2 q hq
  refine h4.mono hk (fun k hk => ?_) fun n hn => (hb n ?_).2
  · rw [(hc q hq).2 k] at hk; cases hk
  · rw [h1, blk_bun]
    exact ⟨q, hq, h4.blk (hc q hq).1 hn⟩
theorem Bun.mk {l : List (Value × Box)} {w : World} {I : Nat → Prop} {β : Nat → Value} (hc : ∀ q ∈ l, Clo q.2) (h : ∀ q ∈ l, ∀ β', BoxRel w I β' q.1 q.2) (hp : l.Pairwise fun a b => ∀ n, Blk a.1 n → ¬ Blk b.1 n) :
    BoxRel w I β (.tuple (l.map (·.1)).toArray) (Bun l) := by
  refine ⟨w, I, ⟨rfl, fun q hq => h q hq _, hp⟩, .refl w I, fun n hn => ⟨?_, rfl⟩⟩
  obtain ⟨q, hq, hb⟩ := blk_bun.1 hn
  exact (h q hq β).lt (.inl hb)

/-! ### values that are said in another way, where tag j leads to v -/
def PLe (j : Nat) (v : Value) (x y : AV) : Prop := ∀ w I β u, β j = v → DenA w I β x u → DenA w I β y u
def PLeL (j : Nat) (v : Value) : List AV → List AV → Prop
  | [], [] => True
  | x :: xs, y :: ys => PLe j v x y ∧ PLeL j v xs ys
  | _, _ => False
@[simp] theorem PLe.refl (j : Nat) (v : Value) (x : AV) : PLe j v x x := fun _ _ _ _ _ h => h
@[simp] theorem PLe.any (j : Nat) (v : Value) (x : AV) : PLe j v x (.d .any) := fun w I β u _ _ => DenA_any w I β u
@[simp] theorem PLeL.refl (j : Nat) (v : Value) : ∀ l, PLeL j v l l
  | [] => trivial
  | x :: xs => ⟨.refl j v x, PLeL.refl j v xs⟩
abbrev ptrV (p off : Nat) : Value := .pointer (some ⟨p, off, none⟩)
@[simp] theorem PLe.ofPtr (j p off : Nat) : PLe j (ptrV p 0) (.ptr j off) (.d (.v (ptrV p off))) := fun w I β u hj h => by
  obtain ⟨b, h1, h2⟩ := h
  rw [hj] at h1
  cases h1
  rw [DenA_v]; exact h2
@[simp] theorem PLe.toPtr (j p off : Nat) : PLe j (ptrV p 0) (.d (.v (ptrV p off))) (.ptr j off) := fun w I β u hj h => by
  rw [DenA_v] at h
  exact ⟨p, hj, h⟩
@[simp] theorem PLe.ofRow (j : Nat) (v : Value) : PLe j v (.row j) (.d (.v v)) := fun w I β u hj h => by
  rw [DenA_v, h.1, hj]
theorem PLe.toRow (j : Nat) {v : Value} (hv : (∃ a n c, v = .slice a n c) ∨ ∃ r, v = .map r) : PLe j v (.d (.v v)) (.row j) := fun w I β u hj h => by
  rw [DenA_v] at h
  rw [DenA, hj]
  exact ⟨h, by rw [h]; exact hv⟩
theorem PLeL.ok {j : Nat} {v : Value} {w : World} {I : Nat → Prop} {β : Nat → Value} (hj : β j = v) : ∀ {l l' : List AV} {vs : List Value}, PLeL j v l l' → DenAs w I β l vs → DenAs w I β l' vs
  | [], [], _, _, h => h
  | x :: xs, y :: ys, _, hl, h => by obtain ⟨u, vs', rfl, h1, h2⟩ := h; exact ⟨u, vs', rfl, hl.1 _ _ _ _ hj h1, PLeL.ok hj hl.2 h2⟩
  | [], _ :: _, _, hl, _ => hl.elim
  | _ :: _, [], _, hl, _ => hl.elim
def PLeB (j : Nat) (v : Value) : Box → Box → Prop
  | .cells T cs, .cells T' cs' => T = T' ∧ PLeL j v cs cs'
  | .row T sz n cs, .row T' sz' n' cs' => T = T' ∧ sz = sz' ∧ n = n' ∧ PLeL j v cs cs'
  | b, b' => b = b'
theorem PLeB.ok {j : Nat} {v : Value} {w : World} {I : Nat → Prop} {β : Nat → Value} {y : Value} (hj : β j = v) {b b' : Box} (h : PLeB j v b b') (hb : BoxRel w I β y b) : BoxRel w I β y b' := by
  cases b <;> cases b' <;> simp only [PLeB] at h <;> first
    | (obtain ⟨rfl, h⟩ := h; obtain ⟨g, vs, e, hh, hd, ho⟩ := hb; exact ⟨g, vs, e, hh, h.ok hj hd, ho⟩)
    | (obtain ⟨rfl, rfl, rfl, h⟩ := h; obtain ⟨vs, hh, hd, ho⟩ := hb; exact ⟨vs, hh, h.ok hj hd, ho⟩)
    | (cases h; exact hb)
    | cases h
/-- The other boxes, but those of tags j and k. -/
def PLeBx (j k : Nat) (v : Value) (bx : Bxs) : Bxs → Prop
  | [] => True
  | (i, c') :: r => (i ≠ j ∧ i ≠ k ∧ match getB bx i with
    | some c => PLeB j v c c'
    | none => False) ∧ PLeBx j k v bx r
theorem PLeBx.get {j k : Nat} {v : Value} {bx : Bxs} : ∀ {bx' : Bxs}, PLeBx j k v bx bx' → ∀ i c', getB bx' i = some c' → i ≠ j ∧ i ≠ k ∧ ∃ c, getB bx i = some c ∧ PLeB j v c c'
  | (i0, c0) :: r, h, i, c', hi => by
    simp only [getB] at hi
    split at hi
    · rename_i e
      subst e
      cases hi
      obtain ⟨⟨h1, h2, h3⟩, _⟩ := h
      refine ⟨h1, h2, ?_⟩
      cases hg : getB bx i0 with
      | none => rw [hg] at h3; exact h3.elim
      | some c => rw [hg] at h3; exact ⟨c, rfl, h3⟩
    · exact h.2.get i c' hi

/-- A state that is one of several. -/
def Opn {α : Type} (S : St) (S' : α → St) : Prop := ∀ ds w0 I0 F I β a w, Rel ds w0 I0 F S I β a w → ∃ x I' β', Rel ds w0 I0 F (S' x) I' β' a w
theorem Wk.opn {α : Type} {S S1 : St} {S' : α → St} (h : Wk S S1) (h' : Opn S1 S') : Opn S S' := fun ds w0 I0 F I β a w hr => by
  obtain ⟨I1, β1, hr1⟩ := h ds w0 I0 F I β a w hr
  exact h' ds w0 I0 F I1 β1 a w hr1
theorem Opn.wk {α : Type} {S : St} {S' S2 : α → St} (h : Opn S S') (h' : ∀ x, Wk (S' x) (S2 x)) : Opn S S2 := fun ds w0 I0 F I β a w hr => by
  obtain ⟨x, I1, β1, hr1⟩ := h ds w0 I0 F I β a w hr
  exact ⟨x, h' x ds w0 I0 F I1 β1 a w hr1⟩
theorem WP.opn {P : Program} {ds : Dn} {pn : Pn} {c : Code} {Q : Exit → St → Prop} {S : St} {α : Type} {S' : α → St} (h : Opn S S') (hw : ∀ x, WP P ds pn c Q (S' x)) : WP P ds pn c Q S := fun w0 I0 F I β a w hr => by
  obtain ⟨x, I', β', hr'⟩ := h ds w0 I0 F I β a w hr
  exact hw x w0 I0 F I' β' a w hr'

/-- What the value of a box looks like. -/
def Shp (b : Box) (v : Value) : Prop := match b with
  | .row .. | .mp _ => (∃ a n c, v = .slice a n c) ∨ ∃ r, v = .map r
  | .cells .. => ∃ p, v = ptrV p 0
  | _ => True
theorem BoxRel.shp {w : World} {I : Nat → Prop} {β : Nat → Value} {v : Value} {b : Box} (h : BoxRel w I β v b) : Shp b v := by
  cases b with
  | cells T cs => obtain ⟨g, vs, rfl, _⟩ := h; exact ⟨g, rfl⟩
  | row T sz n cs =>
    obtain ⟨vs, ho, _⟩ := h
    rcases ho.2 with ⟨rfl, _⟩ | ⟨g, cap, cur, rfl, _⟩
    · exact .inl ⟨_, _, _, rfl⟩
    · exact .inl ⟨_, _, _, rfl⟩
  | obj b o => trivial
  | mp kvs => obtain ⟨g, es, clock, rfl, _⟩ := h; exact .inr ⟨_, rfl⟩
  | opq p => trivial
@[simp] theorem PLeB.refl (j : Nat) (v : Value) : ∀ b, PLeB j v b b
  | .cells _ _ => ⟨rfl, .refl ..⟩
  | .row .. => ⟨rfl, rfl, rfl, .refl ..⟩
  | .obj .. => rfl
  | .mp _ => rfl
  | .opq _ => rfl
theorem hasL_false {k : Nat} {l : List AV} (h : AV.hasL k l = false) : ∀ j, AV.hasL j l = true → j ≠ k := fun j hj e => by subst e; rw [h] at hj; cases hj

section
variable {dn : Dn} {w0 : World} {I0 F : Nat → Prop} {S S' : St} {I : Nat → Prop} {β : Nat → Value} {a : Act} {w : World}
/-- A box goes into a bundle. -/
theorem Rel.push (hr : Rel dn w0 I0 F S I β a w) {j k : Nat} {l : List (Value × Box)} {b : Box} (hj : getB S.bx j = some b) (hk : getB S.bx k = some (Bun l)) (hjk : j ≠ k) (hlt : k < 1000) (hc : ∀ q ∈ l, Clo q.2) (hb : Clo b)
    {bx' : Bxs} (hs : PLeL j (β j) S.sl S'.sl) (hbx : S'.bx = (k, Bun ((β j, b) :: l)) :: bx') (hpb : PLeBx j k (β j) S.bx bx') (hdf : S'.df = S.df) (hf1 : AV.hasL k S'.sl = false) (hf2 : hasB k bx' = false) : ∃ β', Rel dn w0 I0 F S' I β' a w := by
  obtain ⟨o1, o2, o3⟩ := Bun.out hc (hr.mem.bxs k _ hk)
  have hjb := hr.mem.bxs j b hj
  have hcl : ∀ β', BoxRel w I β' (β j) b := fun β' => hjb.mono (.refl w I) (fun t ht => by rw [hb.2 t] at ht; cases ht) fun _ _ => rfl
  have hall : ∀ q ∈ (β j, b) :: l, ∀ β', BoxRel w I β' q.1 q.2 := fun q hq β' => by
    rcases List.mem_cons.1 hq with rfl | hq
    · exact hcl β'
    · exact o2 q hq β'
  have hin : ∀ q ∈ l, ∀ n, blk q.1 = some n → Blk (β k) n := fun q hq n hn => by rw [o1, blk_bun]; exact ⟨q, hq, hn⟩
  have hcc : ∀ q ∈ (β j, b) :: l, Clo q.2 := fun q hq => by
    rcases List.mem_cons.1 hq with rfl | hq
    · exact hb
    · exact hc q hq
  have hpw : ((β j, b) :: l).Pairwise fun a b => ∀ n, Blk a.1 n → ¬ Blk b.1 n := by
    refine List.pairwise_cons.2 ⟨fun q hq n h1 h2 => ?_, o3⟩
    exact hjk (hr.mem.inj j k b _ n hj hk h1 (hin q hq n ((o2 q hq β).blk (hc q hq).1 h2)))
  obtain ⟨g1, g2⟩ := hasB_get hf2
  have hget : ∀ i c', getB S'.bx i = some c' → (i = k ∧ c' = Bun ((β j, b) :: l)) ∨ (i ≠ k ∧ getB bx' i = some c') := fun i c' h => by
    rw [hbx] at h
    simp only [getB] at h
    split at h
    · rename_i e; cases h; exact .inl ⟨e.symm, rfl⟩
    · rename_i e; exact .inr ⟨fun e' => e e'.symm, h⟩
  have hT : ∀ n, Blk (.tuple (((β j, b) :: l).map (·.1)).toArray) n → ∃ k0 b0, getB S.bx k0 = some b0 ∧ Blk (β k0) n ∧ (k0 = j ∨ k0 = k) := fun n hn => by
    obtain ⟨q, hq, hqn⟩ := blk_bun.1 hn
    rcases List.mem_cons.1 hq with rfl | hq
    · exact ⟨j, b, hj, .inl hqn, .inl rfl⟩
    · exact ⟨k, _, hk, hin q hq n hqn, .inr rfl⟩
  refine ⟨upd β k (.tuple (((β j, b) :: l).map (·.1)).toArray), ⟨hr.mem.rebox (fun _ h => h) (fun n h => .inl h) (fun i c' h => ?_) (fun i c' n h hn => ?_) (fun i i' c c' n h1 h2 hn1 hn2 => ?_), ?_, ?_, fun i hi => ?_⟩⟩
  · rcases hget i c' h with ⟨rfl, rfl⟩ | ⟨hne, hi⟩
    · rw [upd_same]; exact Bun.mk hcc hall hpw
    · rw [upd_other _ _ hne]
      obtain ⟨_, _, c, h1, h2⟩ := hpb.get i c' hi
      refine (h2.ok rfl (hr.mem.bxs i c h1)).mono (.refl w I) (fun t ht => upd_other _ _ fun e => ?_) fun _ _ => rfl
      subst e; rw [g2 i c' hi] at ht; cases ht
  · rcases hget i c' h with ⟨rfl, rfl⟩ | ⟨hne, hi⟩
    · rw [upd_same] at hn
      obtain ⟨k0, b0, h1, h2, _⟩ := hT n hn
      exact ⟨(hr.mem.sep k0 b0 n h1 h2).1, k0, b0, h1, h2⟩
    · rw [upd_other _ _ hne] at hn
      obtain ⟨_, _, c, h1, _⟩ := hpb.get i c' hi
      exact ⟨(hr.mem.sep i c n h1 hn).1, i, c, h1, hn⟩
  · rcases hget i c h1 with ⟨rfl, rfl⟩ | ⟨hne, hi⟩ <;> rcases hget i' c' h2 with ⟨rfl, rfl⟩ | ⟨hne', hi'⟩
    · rfl
    · rw [upd_same] at hn1
      rw [upd_other _ _ hne'] at hn2
      obtain ⟨k0, b0, e1, e2, e3⟩ := hT n hn1
      obtain ⟨f1, f2, c0, f3, _⟩ := hpb.get i' c' hi'
      have := hr.mem.inj k0 i' b0 c0 n e1 f3 e2 hn2
      rcases e3 with rfl | rfl
      · exact absurd this.symm f1
      · exact this
    · rw [upd_same] at hn2
      rw [upd_other _ _ hne] at hn1
      obtain ⟨k0, b0, e1, e2, e3⟩ := hT n hn2
      obtain ⟨f1, f2, c0, f3, _⟩ := hpb.get i c hi
      have := hr.mem.inj k0 i b0 c0 n e1 f3 e2 hn1
      rcases e3 with rfl | rfl
      · exact absurd this.symm f1
      · exact this.symm
    · rw [upd_other _ _ hne] at hn1
      rw [upd_other _ _ hne'] at hn2
      obtain ⟨_, _, c0, f3, _⟩ := hpb.get i c hi
      obtain ⟨_, _, c1, f4, _⟩ := hpb.get i' c' hi'
      exact hr.mem.inj i i' c0 c1 n f3 f4 hn1 hn2
  · exact DenAs.mono (.refl w I) _ _ (fun t ht => upd_other _ _ (hasL_false hf1 t ht)) (hs.ok rfl hr.sl)
  · rw [hdf]; exact hr.dn
  · rw [upd_other _ _ (by omega)]; exact hr.fx i hi
/-- A box comes out of a bundle. -/
theorem Rel.pull0 (hr : Rel dn w0 I0 F S I β a w) {j k : Nat} {l1 l2 : List (Value × Box)} {v : Value} {b : Box} (hk : getB S.bx k = some (Bun (l1 ++ (v, b) :: l2))) (jl : AV.hasL j S.sl = false) (jb : hasB j S.bx = false) (hc : ∀ q ∈ l1 ++ (v, b) :: l2, Clo q.2)
    {bx' : Bxs} (hs : Shp b v → PLeL j v S.sl S'.sl) (hbx : S'.bx = (k, Bun (l1 ++ l2)) :: (j, b) :: bx') (hpb : Shp b v → PLeBx j k v S.bx bx') (hf1 : AV.hasL k S'.sl = false) (hf2 : hasB k bx' = false) :
    ∃ β', Mem w0 I0 F S'.bx I β' w ∧ DenAs w I β' S'.sl a.tmps.toList ∧ β' j = v ∧ ∀ i, i ≠ k → i ≠ j → β' i = β i := by
  obtain ⟨o1, o2, o3⟩ := Bun.out hc (hr.mem.bxs k _ hk)
  have hbv := o2 (v, b) (by simp)
  have hsh : Shp b v := (hbv β).shp
  have hpb := hpb hsh
  obtain ⟨j1, j2⟩ := hasB_get jb
  have hjk : j ≠ k := fun e => by rw [e, hk] at j1; cases j1
  have hin : ∀ q ∈ l1 ++ (v, b) :: l2, ∀ n, blk q.1 = some n → Blk (β k) n := fun q hq n hn => by rw [o1, blk_bun]; exact ⟨q, hq, hn⟩
  have hsub : ∀ q ∈ l1 ++ l2, q ∈ l1 ++ (v, b) :: l2 := fun q hq => by
    rcases List.mem_append.1 hq with h | h
    · simp [h]
    · simp [h]
  have hsl : (l1 ++ l2).Sublist (l1 ++ (v, b) :: l2) := (List.Sublist.refl l1).append (List.sublist_cons_self _ _)
  have hap : ∀ q ∈ l1 ++ l2, ∀ n, Blk q.1 n → ¬ Blk v n := fun q hq n h1 h2 => by
    obtain ⟨_, p2, p3⟩ := List.pairwise_append.1 o3
    rcases List.mem_append.1 hq with h | h
    · exact p3 q h (v, b) (by simp) n h1 h2
    · exact (List.pairwise_cons.1 p2).1 q h n h2 h1
  obtain ⟨g1, g2⟩ := hasB_get hf2
  have hget : ∀ i c', getB S'.bx i = some c' → (i = k ∧ c' = Bun (l1 ++ l2)) ∨ (i = j ∧ i ≠ k ∧ c' = b) ∨ (i ≠ k ∧ i ≠ j ∧ getB bx' i = some c') := fun i c' h => by
    rw [hbx] at h
    simp only [getB] at h
    split at h
    · rename_i e; cases h; exact .inl ⟨e.symm, rfl⟩
    · rename_i e
      split at h
      · rename_i e2; cases h; exact .inr (.inl ⟨e2.symm, fun e' => e e'.symm, rfl⟩)
      · rename_i e2; exact .inr (.inr ⟨fun e' => e e'.symm, fun e' => e2 e'.symm, h⟩)
  let β' := upd (upd β j v) k (.tuple ((l1 ++ l2).map (·.1)).toArray)
  have bk : β' k = .tuple ((l1 ++ l2).map (·.1)).toArray := upd_same _ _ _
  have bj : β' j = v := by show upd _ _ _ _ = _; rw [upd_other _ _ hjk, upd_same]
  have bo : ∀ i, i ≠ k → i ≠ j → β' i = β i := fun i h1 h2 => by show upd _ _ _ _ = _; rw [upd_other _ _ h1, upd_other _ _ h2]
  -- whence a block comes
  have hT : ∀ i c' n, getB S'.bx i = some c' → Blk (β' i) n → (∃ k0 b0, getB S.bx k0 = some b0 ∧ Blk (β k0) n ∧ ((k0 = k ∧ (i = k ∨ i = j)) ∨ (k0 = i ∧ i ≠ k ∧ i ≠ j))) := fun i c' n h hn => by
    rcases hget i c' h with ⟨rfl, rfl⟩ | ⟨rfl, hne, rfl⟩ | ⟨h1, h2, h3⟩
    · rw [bk] at hn
      obtain ⟨q, hq, hqn⟩ := blk_bun.1 hn
      exact ⟨_, _, hk, hin q (hsub q hq) n hqn, .inl ⟨rfl, .inl rfl⟩⟩
    · rw [bj] at hn
      exact ⟨k, _, hk, hin (v, c') (by simp) n ((hbv β).blk (hc (v, c') (by simp)).1 hn), .inl ⟨rfl, .inr rfl⟩⟩
    · rw [bo i h1 h2] at hn
      obtain ⟨_, _, c, f3, _⟩ := hpb.get i c' h3
      exact ⟨i, c, f3, hn, .inr ⟨rfl, h1, h2⟩⟩
  refine ⟨β', hr.mem.rebox (fun _ h => h) (fun n h => .inl h) (fun i c' h => ?_) (fun i c' n h hn => ?_) (fun i i' c c' n h1 h2 hn1 hn2 => ?_), ?_, bj, bo⟩
  · rcases hget i c' h with ⟨rfl, rfl⟩ | ⟨rfl, hne, rfl⟩ | ⟨h1, h2, h3⟩
    · rw [bk]; exact Bun.mk (fun q hq => hc q (hsub q hq)) (fun q hq β'' => o2 q (hsub q hq) β'') (o3.sublist hsl)
    · rw [bj]; exact hbv _
    · rw [bo i h1 h2]
      obtain ⟨_, _, c, f3, f4⟩ := hpb.get i c' h3
      have hb0 : BoxRel w I (upd β j v) (β i) c := (hr.mem.bxs i c f3).mono (.refl w I) (fun t ht => upd_other _ _ fun e => by subst e; rw [j2 i c f3] at ht; cases ht) fun _ _ => rfl
      refine (f4.ok (upd_same _ _ _) hb0).mono (.refl w I) (fun t ht => upd_other _ _ fun e => ?_) fun _ _ => rfl
      subst e; rw [g2 i c' h3] at ht; cases ht
  · obtain ⟨k0, b0, h1, h2, _⟩ := hT i c' n h hn
    exact ⟨(hr.mem.sep k0 b0 n h1 h2).1, k0, b0, h1, h2⟩
  · obtain ⟨k0, b0, e1, e2, e3⟩ := hT i c n h1 hn1
    obtain ⟨k1, b1, f1, f2, f3⟩ := hT i' c' n h2 hn2
    have e := hr.mem.inj k0 k1 b0 b1 n e1 f1 e2 f2
    rcases e3 with ⟨e4, e5⟩ | ⟨e4, e5, e6⟩ <;> rcases f3 with ⟨f4, f5⟩ | ⟨f4, f5, f6⟩
    · -- both out of the bundle
      rcases hget i c h1 with ⟨rfl, rfl⟩ | ⟨rfl, hne, rfl⟩ | ⟨x1, x2, _⟩
      · rcases hget i' c' h2 with ⟨rfl, rfl⟩ | ⟨rfl, hne', rfl⟩ | ⟨y1, y2, _⟩
        · rfl
        · exfalso
          rw [bk] at hn1
          rw [bj] at hn2
          obtain ⟨q, hq, hqn⟩ := blk_bun.1 hn1
          exact hap q hq n (.inl hqn) hn2
        · rcases f5 with f5 | f5
          · exact absurd f5 y1
          · exact absurd f5 y2
      · rcases hget i' c' h2 with ⟨rfl, rfl⟩ | ⟨rfl, hne', rfl⟩ | ⟨y1, y2, _⟩
        · exfalso
          rw [bk] at hn2
          rw [bj] at hn1
          obtain ⟨q, hq, hqn⟩ := blk_bun.1 hn2
          exact hap q hq n (.inl hqn) hn1
        · rfl
        · rcases f5 with f5 | f5
          · exact absurd f5 y1
          · exact absurd f5 y2
      · rcases e5 with e5 | e5
        · exact absurd e5 x1
        · exact absurd e5 x2
    · exact absurd (f4.symm.trans (e.symm.trans e4)) f5
    · exact absurd (e4.symm.trans (e.trans f4)) e5
    · exact e4.symm.trans (e.trans f4)
  · have h0 : DenAs w I (upd β j v) S.sl a.tmps.toList := DenAs.mono (.refl w I) _ _ (fun t ht => upd_other _ _ (hasL_false jl t ht)) hr.sl
    exact DenAs.mono (.refl w I) _ _ (fun t ht => upd_other _ _ (hasL_false hf1 t ht)) ((hs hsh).ok (upd_same _ _ _) h0)
theorem Rel.pull (hr : Rel dn w0 I0 F S I β a w) {j k : Nat} {l1 l2 : List (Value × Box)} {v : Value} {b : Box} (hk : getB S.bx k = some (Bun (l1 ++ (v, b) :: l2))) (hj : S.has j = false) (hlt : k < 1000) (hc : ∀ q ∈ l1 ++ (v, b) :: l2, Clo q.2)
    {bx' : Bxs} (hs : Shp b v → PLeL j v S.sl S'.sl) (hbx : S'.bx = (k, Bun (l1 ++ l2)) :: (j, b) :: bx') (hpb : Shp b v → PLeBx j k v S.bx bx') (hdf : S'.df = S.df) (hf1 : AV.hasL k S'.sl = false) (hf2 : hasB k bx' = false) : ∃ β', Rel dn w0 I0 F S' I β' a w := by
  obtain ⟨β', h1, h2, _, h4⟩ := hr.pull0 hk (St.has_sl' hj).1 (St.has_sl' hj).2 hc hs hbx hpb hf1 hf2
  have jlt := St.has_lt hj
  exact ⟨β', h1, h2, by rw [hdf]; exact hr.dn, fun i hi => (h4 i (by omega) (by omega)).trans (hr.fx i hi)⟩
end

section
variable {S : St}
theorem Opn.pushC (j k : Nat) {T : TypeId} {cs : List AV} {l : List (Value × Box)} (hj : getB S.bx j = some (.cells T cs)) (hk : getB S.bx k = some (Bun l)) (hjk : j ≠ k) (hlt : k < 1000) (hc : ∀ q ∈ l, Clo q.2) (hb : ∀ t, AV.hasL t cs = false) (sl' : Nat → List AV) (bx' : Nat → Bxs)
    (hs : ∀ p, PLeL j (ptrV p 0) S.sl (sl' p)) (hpb : ∀ p, PLeBx j k (ptrV p 0) S.bx (bx' p)) (hf : ∀ p, AV.hasL k (sl' p) = false ∧ hasB k (bx' p) = false) : Opn S fun p => ⟨sl' p, (k, Bun ((ptrV p 0, .cells T cs) :: l)) :: bx' p, S.df⟩ := fun dn w0 I0 F I β a w hr => by
  obtain ⟨p, hp⟩ := (hr.mem.bxs j _ hj).shp
  obtain ⟨β', h'⟩ := Rel.push (S' := ⟨sl' p, (k, Bun ((ptrV p 0, .cells T cs) :: l)) :: bx' p, S.df⟩) hr hj hk hjk hlt hc ⟨rfl, hb⟩ (bx' := bx' p) (by rw [hp]; exact hs p) (by rw [hp]) (by rw [hp]; exact hpb p) rfl (hf p).1 (hf p).2
  exact ⟨p, I, β', h'⟩
theorem Opn.pushR (j k : Nat) {T : TypeId} {sz n : Nat} {cs : List AV} {l : List (Value × Box)} (hj : getB S.bx j = some (.row T sz n cs)) (hk : getB S.bx k = some (Bun l)) (hjk : j ≠ k) (hlt : k < 1000) (hc : ∀ q ∈ l, Clo q.2) (hb : ∀ t, AV.hasL t cs = false) (sl' : Value → List AV) (bx' : Value → Bxs)
    (hs : ∀ v, PLeL j v S.sl (sl' v)) (hpb : ∀ v, PLeBx j k v S.bx (bx' v)) (hf : ∀ v, AV.hasL k (sl' v) = false ∧ hasB k (bx' v) = false) : Opn S fun v => ⟨sl' v, (k, Bun ((v, .row T sz n cs) :: l)) :: bx' v, S.df⟩ := fun dn w0 I0 F I β a w hr => by
  obtain ⟨β', h'⟩ := Rel.push (S' := ⟨sl' (β j), (k, Bun ((β j, .row T sz n cs) :: l)) :: bx' (β j), S.df⟩) hr hj hk hjk hlt hc ⟨rfl, hb⟩ (bx' := bx' (β j)) (hs _) rfl (hpb _) rfl (hf _).1 (hf _).2
  exact ⟨β j, I, β', h'⟩
theorem Wk.pull (j k : Nat) {l1 l2 : List (Value × Box)} {v : Value} {b : Box} (hk : getB S.bx k = some (Bun (l1 ++ (v, b) :: l2))) (hj : S.has j = false) (hlt : k < 1000) (hc : ∀ q ∈ l1 ++ (v, b) :: l2, Clo q.2) (sl' : List AV) (bx' : Bxs)
    (hs : Shp b v → PLeL j v S.sl sl') (hpb : Shp b v → PLeBx j k v S.bx bx') (hf1 : AV.hasL k sl' = false) (hf2 : hasB k bx' = false) : Wk S ⟨sl', (k, Bun (l1 ++ l2)) :: (j, b) :: bx', S.df⟩ := fun dn w0 I0 F I β a w hr => by
  obtain ⟨β', h'⟩ := Rel.pull (S' := ⟨sl', (k, Bun (l1 ++ l2)) :: (j, b) :: bx', S.df⟩) hr hk hj hlt hc (bx' := bx') hs rfl hpb rfl hf1 hf2
  exact ⟨I, β', h'⟩
end

/-! ### tags whose values are known for a while -/
/-- The same, where tag t leads to v. -/
def Dn.fix (ds : Dn) (t : Nat) (v : Value) : Dn := { ds with β0 := upd ds.β0 t v }
/-- From one state to another, under what is known of the tags from 1000 on. -/
def Cv (ds ds' : Dn) (S S' : St) : Prop := (ds'.ds = ds.ds ∧ ds'.ro = ds.ro ∧ ds'.rf = ds.rf) ∧ ∀ w0 I0 F I β a w, Rel ds w0 I0 F S I β a w → ∃ I' β', Rel ds' w0 I0 F S' I' β' a w
theorem Cv.trans {ds ds' ds'' : Dn} {S S' S'' : St} (h : Cv ds ds' S S') (h' : Cv ds' ds'' S' S'') : Cv ds ds'' S S'' :=
  ⟨⟨h'.1.1.trans h.1.1, h'.1.2.1.trans h.1.2.1, h'.1.2.2.trans h.1.2.2⟩, fun w0 I0 F I β a w hr => by
    obtain ⟨I1, β1, h1⟩ := h.2 w0 I0 F I β a w hr
    exact h'.2 w0 I0 F I1 β1 a w h1⟩
theorem Wk.cv {ds : Dn} {S S' : St} (h : Wk S S') : Cv ds ds S S' := ⟨⟨rfl, rfl, rfl⟩, fun w0 I0 F I β a w hr => h ds w0 I0 F I β a w hr⟩
theorem DnOk.cv {ds ds' : Dn} (h1 : ds'.ds = ds.ds) (h2 : ds'.rf = ds.rf) {df : List Nat} {a : Act} (h : DnOk ds df a) : DnOk ds' df a := ⟨by rw [h1]; exact h.1, fun hh => h.2 (by rw [← h2]; exact hh)⟩
theorem Cv.pull {ds : Dn} {S : St} (j k : Nat) {l1 l2 : List (Value × Box)} {v : Value} {b : Box} (hk : getB S.bx k = some (Bun (l1 ++ (v, b) :: l2))) (hj : AV.hasL j S.sl = false ∧ hasB j S.bx = false) (hlt : k < 1000) (hc : ∀ q ∈ l1 ++ (v, b) :: l2, Clo q.2) (sl' : List AV) (bx' : Bxs)
    (hs : Shp b v → PLeL j v S.sl sl') (hpb : Shp b v → PLeBx j k v S.bx bx') (hf1 : AV.hasL k sl' = false) (hf2 : hasB k bx' = false) : Cv ds (ds.fix j v) S ⟨sl', (k, Bun (l1 ++ l2)) :: (j, b) :: bx', S.df⟩ :=
  ⟨⟨rfl, rfl, rfl⟩, fun w0 I0 F I β a w hr => by
    obtain ⟨β', h1, h2, h3, h4⟩ := Rel.pull0 (S' := ⟨sl', (k, Bun (l1 ++ l2)) :: (j, b) :: bx', S.df⟩) hr hk hj.1 hj.2 hc (bx' := bx') hs rfl hpb hf1 hf2
    refine ⟨I, β', h1, h2, hr.dn.cv rfl rfl, fun i hi => ?_⟩
    show β' i = upd ds.β0 j v i
    by_cases e : i = j
    · subst e; rw [h3, upd_same]
    · rw [upd_other _ _ e, h4 i (by omega) e]; exact hr.fx i hi⟩
/-- What is known of a tag that occurs nowhere. -/
theorem Cv.unfix {ds ds' : Dn} {S : St} (t : Nat) (ht : 1000 ≤ t) (h : ds'.ds = ds.ds ∧ ds'.ro = ds.ro ∧ ds'.rf = ds.rf) (hb : ∀ i, i ≠ t → ds'.β0 i = ds.β0 i) (h1 : AV.hasL t S.sl = false) (h2 : hasB t S.bx = false) : Cv ds ds' S S :=
  ⟨h, fun w0 I0 F I β a w hr => by
    obtain ⟨g1, g2⟩ := hasB_get h2
    have hne : ∀ i c, getB S.bx i = some c → i ≠ t := fun i c hi e => by rw [e, g1] at hi; cases hi
    refine ⟨I, upd β t (ds'.β0 t), hr.mem.rebox (fun _ h => h) (fun n h => .inl h) (fun i c hi => ?_) (fun i c n hi hn => ?_) (fun i i' c c' n h3 h4 hn1 hn2 => ?_), ?_, hr.dn.cv h.1 h.2.2, fun i hi => ?_⟩
    · rw [upd_other _ _ (hne i c hi)]
      exact (hr.mem.bxs i c hi).mono (.refl w I) (fun s hs => upd_other _ _ fun e => by subst e; rw [g2 i c hi] at hs; cases hs) fun _ _ => rfl
    · rw [upd_other _ _ (hne i c hi)] at hn
      exact ⟨(hr.mem.sep i c n hi hn).1, i, c, hi, hn⟩
    · rw [upd_other _ _ (hne i c h3)] at hn1
      rw [upd_other _ _ (hne i' c' h4)] at hn2
      exact hr.mem.inj i i' c c' n h3 h4 hn1 hn2
    · exact DenAs.mono (.refl w I) _ _ (fun s hs => upd_other _ _ (hasL_false h1 s hs)) hr.sl
    · by_cases e : i = t
      · subst e; rw [upd_same]
      · rw [upd_other _ _ e, hb i e]; exact hr.fx i hi⟩
/-- A box of such a tag goes into a bundle. -/
theorem Cv.push {ds : Dn} {S : St} (j k : Nat) {l : List (Value × Box)} {b : Box} (hj : getB S.bx j = some b) (hk : getB S.bx k = some (Bun l)) (hj0 : 1000 ≤ j) (hlt : k < 1000) (hc : ∀ q ∈ l, Clo q.2) (hb : Clo b) (sl' : List AV) (bx' : Bxs)
    (hs : PLeL j (ds.β0 j) S.sl sl') (hpb : PLeBx j k (ds.β0 j) S.bx bx') (hf1 : AV.hasL k sl' = false) (hf2 : hasB k bx' = false) : Cv ds ds S ⟨sl', (k, Bun ((ds.β0 j, b) :: l)) :: bx', S.df⟩ :=
  ⟨⟨rfl, rfl, rfl⟩, fun w0 I0 F I β a w hr => by
    have hv := hr.fx j hj0
    rw [← hv] at hs hpb ⊢
    obtain ⟨β', h'⟩ := Rel.push (S' := ⟨sl', (k, Bun ((β j, b) :: l)) :: bx', S.df⟩) hr hj hk (by omega) hlt hc hb (bx' := bx') hs rfl hpb rfl hf1 hf2
    exact ⟨I, β', h'⟩⟩
theorem PRel.cv {ds ds' : Dn} (h : ds'.ds = ds.ds ∧ ds'.ro = ds.ro ∧ ds'.rf = ds.rf) {w0 : World} {I0 F : Nat → Prop} {pn : Pn} {bx : Bxs} {I : Nat → Prop} {β : Nat → Value} {a : Act} {w : World} (hp : PRel ds w0 I0 F pn bx I β a w) : PRel ds' w0 I0 F pn bx I β a w :=
  ⟨hp.mem, fun hh => by rw [h.1]; exact hp.dn (by rw [← h.2.2]; exact hh), hp.zs⟩
/-- The same, to one of several states. -/
def CvO (ds ds' : Dn) (S : St) {α : Type} (S' : α → St) : Prop := (ds'.ds = ds.ds ∧ ds'.ro = ds.ro ∧ ds'.rf = ds.rf) ∧ ∀ w0 I0 F I β a w, Rel ds w0 I0 F S I β a w → ∃ x I' β', Rel ds' w0 I0 F (S' x) I' β' a w
theorem Opn.cvo {ds : Dn} {S : St} {α : Type} {S' : α → St} (h : Opn S S') : CvO ds ds S S' := ⟨⟨rfl, rfl, rfl⟩, fun w0 I0 F I β a w hr => h ds w0 I0 F I β a w hr⟩
theorem Cv.cvo {ds ds' : Dn} {S S' : St} (h : Cv ds ds' S S') : CvO ds ds' S (α := Unit) fun _ => S' := ⟨h.1, fun w0 I0 F I β a w hr => ⟨(), h.2 w0 I0 F I β a w hr⟩⟩
theorem CvO.then {ds ds' ds'' : Dn} {S : St} {α : Type} {S' S2 : α → St} (h : CvO ds ds' S S') (hd : ds''.ds = ds'.ds ∧ ds''.ro = ds'.ro ∧ ds''.rf = ds'.rf) (h' : ∀ x, Cv ds' ds'' (S' x) (S2 x)) : CvO ds ds'' S S2 :=
  ⟨⟨hd.1.trans h.1.1, hd.2.1.trans h.1.2.1, hd.2.2.trans h.1.2.2⟩, fun w0 I0 F I β a w hr => by
    obtain ⟨x, I1, β1, h1⟩ := h.2 w0 I0 F I β a w hr
    exact ⟨x, (h' x).2 w0 I0 F I1 β1 a w h1⟩⟩
theorem Cv.thenO {ds ds' ds'' : Dn} {S S1 : St} {α : Type} {S2 : α → St} (h : Cv ds ds' S S1) (h' : CvO ds' ds'' S1 S2) : CvO ds ds'' S S2 :=
  ⟨⟨h'.1.1.trans h.1.1, h'.1.2.1.trans h.1.2.1, h'.1.2.2.trans h.1.2.2⟩, fun w0 I0 F I β a w hr => by
    obtain ⟨I1, β1, h1⟩ := h.2 w0 I0 F I β a w hr
    exact h'.2 w0 I0 F I1 β1 a w h1⟩
/-- A piece of code, under what is known of such tags meanwhile. -/
theorem WP.cv {P : Program} {ds ds' : Dn} {pn : Pn} {c : Code} {Q : Exit → St → Prop} {S S' : St} (h : Cv ds ds' S S') (hw : WP P ds' pn c (fun e S1 => ∃ (α : Type) (S2 : α → St), CvO ds' ds S1 S2 ∧ ∀ x, Q e (S2 x)) S') : WP P ds pn c Q S := fun w0 I0 F I β a w hr => by
  obtain ⟨I', β', hr'⟩ := h.2 w0 I0 F I β a w hr
  have hw := hw w0 I0 F I' β' a w hr'
  rw [h.1.2.1] at hw
  refine wpIn_mono hw fun e a w hh => ?_
  have back : (∃ S1 I1 β1, (∃ (α : Type) (S2 : α → St), CvO ds' ds S1 S2 ∧ ∀ x, Q e (S2 x)) ∧ Rel ds' w0 I0 F S1 I1 β1 a w) → ∃ S I β, Q e S ∧ Rel ds w0 I0 F S I β a w := by
    rintro ⟨S1, I1, β1, ⟨α, S2, hc, hq⟩, h1⟩
    obtain ⟨x, I2, β2, h2⟩ := hc.2 w0 I0 F I1 β1 a w h1
    exact ⟨S2 x, I2, β2, hq x, h2⟩
  cases e with
  | panic ch =>
    obtain ⟨h1, bx, I, β, h2⟩ := hh
    exact ⟨h1, bx, I, β, h2.cv ⟨h.1.1.symm, h.1.2.1.symm, h.1.2.2.symm⟩⟩
  | outgrown => exact hh
  | normal => exact back hh
  | ret => exact back hh
  | exit id => exact back hh
  | goto l => exact back hh
end Go.Xe

/-
  The engine, part Bv. Bundles: a new one, two joined, one given up to be read for ever.
-/
set_option linter.unusedVariables false
set_option linter.unusedSimpArgs false
set_option linter.unusedSectionVars false
namespace Go.Xe
open Go.RowKit
variable [Glob]

theorem Wk.bunNew {S : St} (k : Nat) (hk : S.has k = false) : Wk S ⟨S.sl, (k, Bun []) :: S.bx, S.df⟩ := fun dn w0 I0 F I β a w hr => by
  have hlt := St.has_lt hk
  obtain ⟨k1, k2⟩ := hasB_get (St.has_sl' hk).2
  have kl := (St.has_sl' hk).1
  have hget : ∀ i c', getB ((k, Bun []) :: S.bx) i = some c' → (i = k ∧ c' = Bun []) ∨ (i ≠ k ∧ getB S.bx i = some c') := fun i c' h => by
    simp only [getB] at h
    split at h
    · rename_i e; cases h; exact .inl ⟨e.symm, rfl⟩
    · rename_i e; exact .inr ⟨fun e' => e e'.symm, h⟩
  have hno : ∀ n, ¬ Blk (.tuple (([] : List (Value × Box)).map (·.1)).toArray) n := fun n h => by
    obtain ⟨q, hq, _⟩ := blk_bun.1 h; cases hq
  refine ⟨I, upd β k (.tuple (([] : List (Value × Box)).map (·.1)).toArray), ⟨hr.mem.rebox (fun _ h => h) (fun n h => .inl h) (fun i c' h => ?_) (fun i c' n h hn => ?_) (fun i i' c c' n h1 h2 hn1 hn2 => ?_), ?_, hr.dn, fun i hi => ?_⟩⟩
  · rcases hget i c' h with ⟨rfl, rfl⟩ | ⟨hne, h1⟩
    · rw [upd_same]; exact Bun.mk (fun q hq => by cases hq) (fun q hq => by cases hq) .nil
    · rw [upd_other _ _ hne]
      exact (hr.mem.bxs i c' h1).mono (.refl w I) (fun t ht => upd_other _ _ fun e => by subst e; rw [k2 i c' h1] at ht; cases ht) fun _ _ => rfl
  · rcases hget i c' h with ⟨rfl, rfl⟩ | ⟨hne, h1⟩
    · rw [upd_same] at hn; exact absurd hn (hno n)
    · rw [upd_other _ _ hne] at hn
      exact ⟨(hr.mem.sep i c' n h1 hn).1, i, c', h1, hn⟩
  · rcases hget i c h1 with ⟨rfl, rfl⟩ | ⟨hne, h3⟩
    · rw [upd_same] at hn1; exact absurd hn1 (hno n)
    · rcases hget i' c' h2 with ⟨rfl, rfl⟩ | ⟨hne', h4⟩
      · rw [upd_same] at hn2; exact absurd hn2 (hno n)
      · rw [upd_other _ _ hne] at hn1
        rw [upd_other _ _ hne'] at hn2
        exact hr.mem.inj i i' c c' n h3 h4 hn1 hn2
  · exact DenAs.mono (.refl w I) _ _ (fun t ht => upd_other _ _ (hasL_false kl t ht)) hr.sl
  · rw [upd_other _ _ (by omega)]; exact hr.fx i hi

/-- A slice that is nil, in a bundle. -/
theorem Wk.bunNil {S : St} (k : Nat) (T : TypeId) (sz : Nat) {l : List (Value × Box)} (hk : getB S.bx k = some (Bun l)) (hlt : k < 1000) (hc : ∀ q ∈ l, Clo q.2) (bx' : Bxs) (hb0 : subB S.bx bx') (hf1 : AV.hasL k S.sl = false) (hf2 : hasB k bx' = false) :
    Wk S ⟨S.sl, (k, Bun ((.slice none 0 0, .row T sz 0 []) :: l)) :: bx', S.df⟩ := fun dn w0 I0 F I β a w hr => by
  have hbx : ∀ i c', getB bx' i = some c' → i ≠ k ∧ getB S.bx i = some c' := fun i c' h => ⟨fun e => (by rw [e, (hasB_get hf2).1] at h; cases h), subB_ok hb0 _ _ h⟩
  obtain ⟨o1, o2, o3⟩ := Bun.out hc (hr.mem.bxs k _ hk)
  have hnil : ∀ β', BoxRel w I β' (.slice none 0 0) (.row T sz 0 []) := fun β' => ⟨[], ⟨by simp, .inl ⟨rfl, rfl⟩⟩, rfl, by simp⟩
  have hno : ∀ n, ¬ Blk (.slice none 0 0) n := fun n h => by
    rcases h with h | ⟨vs, e, _⟩
    · cases h
    · cases e
  obtain ⟨g1, g2⟩ := hasB_get hf2
  generalize hl' : ((.slice none 0 0, .row T sz 0 []) :: l : List (Value × Box)) = l'
  have hcc : ∀ q ∈ l', Clo q.2 := fun q hq => by
    subst hl'
    rcases List.mem_cons.1 hq with rfl | hq
    · exact ⟨rfl, fun _ => rfl⟩
    · exact hc q hq
  have hall : ∀ q ∈ l', ∀ β', BoxRel w I β' q.1 q.2 := fun q hq β' => by
    subst hl'
    rcases List.mem_cons.1 hq with rfl | hq
    · exact hnil β'
    · exact o2 q hq β'
  have hpw : l'.Pairwise fun a b => ∀ n, Blk a.1 n → ¬ Blk b.1 n := by
    subst hl'
    exact List.pairwise_cons.2 ⟨fun q _ n h => absurd h (hno n), o3⟩
  have hget : ∀ i c', getB ((k, Bun l') :: bx') i = some c' → (i = k ∧ c' = Bun l') ∨ (i ≠ k ∧ getB bx' i = some c') := fun i c' h => by
    simp only [getB] at h
    split at h
    · rename_i e; cases h; exact .inl ⟨e.symm, rfl⟩
    · rename_i e; exact .inr ⟨fun e' => e e'.symm, h⟩
  have hT : ∀ n, Blk (.tuple (l'.map (·.1)).toArray) n → Blk (β k) n := fun n hn => by
    obtain ⟨q, hq, hqn⟩ := blk_bun.1 hn
    subst hl'
    rcases List.mem_cons.1 hq with rfl | hq
    · cases hqn
    · rw [o1, blk_bun]; exact ⟨q, hq, hqn⟩
  refine ⟨I, upd β k (.tuple (l'.map (·.1)).toArray), ⟨hr.mem.rebox (fun _ h => h) (fun n h => .inl h) (fun i c' h => ?_) (fun i c' n h hn => ?_) (fun i i' c c' n h1 h2 hn1 hn2 => ?_), ?_, hr.dn, fun i hi => ?_⟩⟩
  · rcases hget i c' h with ⟨rfl, rfl⟩ | ⟨hne, hi⟩
    · rw [upd_same]; exact Bun.mk hcc hall hpw
    · rw [upd_other _ _ hne]
      refine (hr.mem.bxs i c' (hbx i c' hi).2).mono (.refl w I) (fun t ht => upd_other _ _ fun e => ?_) fun _ _ => rfl
      subst e; rw [g2 i c' hi] at ht; cases ht
  · rcases hget i c' h with ⟨rfl, rfl⟩ | ⟨hne, hi⟩
    · rw [upd_same] at hn
      exact ⟨(hr.mem.sep i _ n hk (hT n hn)).1, i, _, hk, hT n hn⟩
    · rw [upd_other _ _ hne] at hn
      exact ⟨(hr.mem.sep i c' n (hbx i c' hi).2 hn).1, i, c', (hbx i c' hi).2, hn⟩
  · rcases hget i c h1 with ⟨rfl, rfl⟩ | ⟨hne, hi⟩ <;> rcases hget i' c' h2 with ⟨rfl, rfl⟩ | ⟨hne', hi'⟩
    · rfl
    · rw [upd_same] at hn1
      rw [upd_other _ _ hne'] at hn2
      exact hr.mem.inj i i' _ c' n hk (hbx i' c' hi').2 (hT n hn1) hn2
    · rw [upd_same] at hn2
      rw [upd_other _ _ hne] at hn1
      exact hr.mem.inj i i' c _ n (hbx i c hi).2 hk hn1 (hT n hn2)
    · rw [upd_other _ _ hne] at hn1
      rw [upd_other _ _ hne'] at hn2
      exact hr.mem.inj i i' c c' n (hbx i c hi).2 (hbx i' c' hi').2 hn1 hn2
  · exact DenAs.mono (.refl w I) _ _ (fun t ht => upd_other _ _ (hasL_false hf1 t ht)) hr.sl
  · rw [upd_other _ _ (by omega)]; exact hr.fx i hi

/-- A bundle in another order. -/
theorem Wk.bunPerm {S : St} (k : Nat) {l l' : List (Value × Box)} (hk : getB S.bx k = some (Bun l)) (hlt : k < 1000) (hc : ∀ q ∈ l, Clo q.2) (hp : l.Perm l') (bx' : Bxs)
    (hb0 : subB S.bx bx') (hf1 : AV.hasL k S.sl = false) (hf2 : hasB k bx' = false) : Wk S ⟨S.sl, (k, Bun l') :: bx', S.df⟩ := fun dn w0 I0 F I β a w hr => by
  have hbx : ∀ i c', getB bx' i = some c' → i ≠ k ∧ getB S.bx i = some c' := fun i c' h => ⟨fun e => (by rw [e, (hasB_get hf2).1] at h; cases h), subB_ok hb0 _ _ h⟩
  obtain ⟨o1, o2, o3⟩ := Bun.out hc (hr.mem.bxs k _ hk)
  have hpw : l'.Pairwise fun a b => ∀ n, Blk a.1 n → ¬ Blk b.1 n := hp.pairwise o3 fun {a b} h n h1 h2 => h n h2 h1
  obtain ⟨g1, g2⟩ := hasB_get hf2
  have hget : ∀ i c', getB ((k, Bun l') :: bx') i = some c' → (i = k ∧ c' = Bun l') ∨ (i ≠ k ∧ getB bx' i = some c') := fun i c' h => by
    simp only [getB] at h
    split at h
    · rename_i e; cases h; exact .inl ⟨e.symm, rfl⟩
    · rename_i e; exact .inr ⟨fun e' => e e'.symm, h⟩
  have hT : ∀ n, Blk (.tuple (l'.map (·.1)).toArray) n → Blk (β k) n := fun n hn => by
    obtain ⟨q, hq, hqn⟩ := blk_bun.1 hn
    rw [o1, blk_bun]
    exact ⟨q, hp.mem_iff.2 hq, hqn⟩
  refine ⟨I, upd β k (.tuple (l'.map (·.1)).toArray), ⟨hr.mem.rebox (fun _ h => h) (fun n h => .inl h) (fun i c' h => ?_) (fun i c' n h hn => ?_) (fun i i' c c' n h1 h2 hn1 hn2 => ?_), ?_, hr.dn, fun i hi => ?_⟩⟩
  · rcases hget i c' h with ⟨rfl, rfl⟩ | ⟨hne, hi⟩
    · rw [upd_same]; exact Bun.mk (fun q hq => hc q (hp.mem_iff.2 hq)) (fun q hq => o2 q (hp.mem_iff.2 hq)) hpw
    · rw [upd_other _ _ hne]
      refine (hr.mem.bxs i c' (hbx i c' hi).2).mono (.refl w I) (fun t ht => upd_other _ _ fun e => ?_) fun _ _ => rfl
      subst e; rw [g2 i c' hi] at ht; cases ht
  · rcases hget i c' h with ⟨rfl, rfl⟩ | ⟨hne, hi⟩
    · rw [upd_same] at hn
      exact ⟨(hr.mem.sep i _ n hk (hT n hn)).1, i, _, hk, hT n hn⟩
    · rw [upd_other _ _ hne] at hn
      exact ⟨(hr.mem.sep i c' n (hbx i c' hi).2 hn).1, i, c', (hbx i c' hi).2, hn⟩
  · rcases hget i c h1 with ⟨rfl, rfl⟩ | ⟨hne, hi⟩ <;> rcases hget i' c' h2 with ⟨rfl, rfl⟩ | ⟨hne', hi'⟩
    · rfl
    · rw [upd_same] at hn1
      rw [upd_other _ _ hne'] at hn2
      exact hr.mem.inj i i' _ c' n hk (hbx i' c' hi').2 (hT n hn1) hn2
    · rw [upd_same] at hn2
      rw [upd_other _ _ hne] at hn1
      exact hr.mem.inj i i' c _ n (hbx i c hi).2 hk hn1 (hT n hn2)
    · rw [upd_other _ _ hne] at hn1
      rw [upd_other _ _ hne'] at hn2
      exact hr.mem.inj i i' c c' n (hbx i c hi).2 (hbx i' c' hi').2 hn1 hn2
  · exact DenAs.mono (.refl w I) _ _ (fun t ht => upd_other _ _ (hasL_false hf1 t ht)) hr.sl
  · rw [upd_other _ _ (by omega)]; exact hr.fx i hi

/-! ### given up -/
/-- What a box says once nobody writes it any more. -/
def Fz (w : World) (I : Nat → Prop) (q : Value × Box) : Prop :=
  match q.2 with
  | .cells _ cs => ∀ ds : List D, cs = ds.map .d → ∀ off, off ≤ ds.length → ∃ p, q.1 = ptrV p 0 ∧ DenAt w I ds p 0
  | .row _ sz n cs => ∀ ds : List D, cs = ds.map .d → Den w I (.sl sz ds n false) q.1
  | _ => True
def FLe (l : List (Value × Box)) (x y : AV) : Prop := ∀ w I β u, (∀ q ∈ l, Fz w I q) → DenA w I β x u → DenA w I β y u
def FLeL (l : List (Value × Box)) : List AV → List AV → Prop
  | [], [] => True
  | x :: xs, y :: ys => FLe l x y ∧ FLeL l xs ys
  | _, _ => False
@[simp] theorem FLe.refl (l : List (Value × Box)) (x : AV) : FLe l x x := fun _ _ _ _ _ h => h
@[simp] theorem FLe.any (l : List (Value × Box)) (x : AV) : FLe l x (.d .any) := fun w I β u _ _ => DenA_any w I β u
@[simp] theorem FLeL.refl (l : List (Value × Box)) : ∀ xs, FLeL l xs xs
  | [] => trivial
  | x :: xs => ⟨.refl l x, FLeL.refl l xs⟩
theorem FLeL.ok {l : List (Value × Box)} {w : World} {I : Nat → Prop} {β : Nat → Value} (hf : ∀ q ∈ l, Fz w I q) : ∀ {xs ys : List AV} {vs : List Value}, FLeL l xs ys → DenAs w I β xs vs → DenAs w I β ys vs
  | [], [], _, _, h => h
  | x :: xs, y :: ys, _, hl, h => by obtain ⟨u, vs', rfl, h1, h2⟩ := h; exact ⟨u, vs', rfl, hl.1 _ _ _ _ hf h1, FLeL.ok hf hl.2 h2⟩
  | [], _ :: _, _, hl, _ => hl.elim
  | _ :: _, [], _, hl, _ => hl.elim
/-- Data, given what a bundle says. -/
def FD (l : List (Value × Box)) (d d' : D) : Prop := ∀ w I u, (∀ q ∈ l, Fz w I q) → Den w I d u → Den w I d' u
@[simp] theorem FD.refl (l : List (Value × Box)) (d : D) : FD l d d := fun _ _ _ _ h => h
def FDs (l : List (Value × Box)) : List D → List D → Prop
  | [], [] => True
  | x :: xs, y :: ys => FD l x y ∧ FDs l xs ys
  | _, _ => False
theorem FDs.dens {l : List (Value × Box)} {w : World} {I : Nat → Prop} (hf : ∀ q ∈ l, Fz w I q) : ∀ {xs ys : List D} {vs : List Value}, FDs l xs ys → Dens w I xs vs → Dens w I ys vs
  | [], [], _, _, h => h
  | x :: xs, y :: ys, _, hl, h => by obtain ⟨u, vs', rfl, h1, h2⟩ := h; exact ⟨u, vs', rfl, hl.1 _ _ _ hf h1, FDs.dens hf hl.2 h2⟩
  | [], _ :: _, _, hl, _ => hl.elim
  | _ :: _, [], _, hl, _ => hl.elim
theorem FDs.denAt {l : List (Value × Box)} {w : World} {I : Nat → Prop} (hf : ∀ q ∈ l, Fz w I q) {b : Nat} : ∀ {xs ys : List D} {off : Nat}, FDs l xs ys → DenAt w I xs b off → DenAt w I ys b off
  | [], [], _, _, _ => trivial
  | x :: xs, y :: ys, off, hl, ⟨⟨v, h1, h2, h3, h4⟩, h5⟩ => ⟨⟨v, h1, h2, h3, hl.1 _ _ _ hf h4⟩, FDs.denAt hf hl.2 h5⟩
  | [], _ :: _, _, hl, _ => hl.elim
  | _ :: _, [], _, hl, _ => hl.elim
/-- A pointer to cells that are given up. -/
theorem FD.ip {l : List (Value × Box)} {p : Nat} {T : TypeId} {ds es : List D} (hq : (ptrV p 0, Box.cells T (ds.map .d)) ∈ l) (h : FDs l ds es) : FD l (.v (ptrV p 0)) (.ip es) := fun w I u hf hu => by
  rw [Den] at hu
  subst hu
  obtain ⟨p', e, hd⟩ := hf _ hq ds rfl 0 (Nat.zero_le _)
  cases e
  rw [Den]
  exact ⟨p, 0, rfl, h.denAt hf hd⟩
/-- A slice that is given up. -/
theorem FD.sl {l : List (Value × Box)} {v : Value} {T : TypeId} {sz n : Nat} {ds : List D} (hq : (v, Box.row T sz n (ds.map .d)) ∈ l) : FD l (.v v) (.sl sz ds n false) := fun w I u hf hu => by
  rw [Den] at hu
  subst hu
  exact hf _ hq ds rfl
def FB (l : List (Value × Box)) : Box → Box → Prop
  | .cells T cs, .cells T' cs' => T = T' ∧ FLeL l cs cs'
  | .row T sz n cs, .row T' sz' n' cs' => T = T' ∧ sz = sz' ∧ n = n' ∧ FLeL l cs cs'
  | .mp kvs, .mp kvs' => kvs.map (·.1) = kvs'.map (·.1) ∧ FDs l (kvs.map (·.2)) (kvs'.map (·.2))
  | b, b' => b = b'
@[simp] theorem FDs.refl (l : List (Value × Box)) : ∀ ds, FDs l ds ds
  | [] => trivial
  | x :: xs => ⟨.refl l x, FDs.refl l xs⟩
@[simp] theorem FB.refl (l : List (Value × Box)) : ∀ b, FB l b b
  | .cells _ _ => ⟨rfl, .refl ..⟩
  | .row .. => ⟨rfl, rfl, rfl, .refl ..⟩
  | .obj .. => rfl
  | .mp _ => ⟨rfl, .refl ..⟩
  | .opq _ => rfl
theorem FB.ok {l : List (Value × Box)} {w : World} {I : Nat → Prop} {β : Nat → Value} {y : Value} (hf : ∀ q ∈ l, Fz w I q) {b b' : Box} (h : FB l b b') (hb : BoxRel w I β y b) : BoxRel w I β y b' := by
  cases b <;> cases b' <;> simp only [FB] at h <;> first
    | (obtain ⟨rfl, h⟩ := h; obtain ⟨g, vs, e, hh, hd, ho⟩ := hb; exact ⟨g, vs, e, hh, h.ok hf hd, ho⟩)
    | (obtain ⟨rfl, rfl, rfl, h⟩ := h; obtain ⟨vs, hh, hd, ho⟩ := hb; exact ⟨vs, hh, h.ok hf hd, ho⟩)
    | (obtain ⟨h1, h2⟩ := h; obtain ⟨g, es, clock, e, hg, hk, hd, hst⟩ := hb; exact ⟨g, es, clock, e, hg, hk.trans h1, h2.dens hf hd, hst⟩)
    | (cases h; exact hb)
    | cases h
def FBx (l : List (Value × Box)) (k : Nat) (bx : Bxs) : Bxs → Prop
  | [] => True
  | (i, c') :: r => (i ≠ k ∧ match getB bx i with
    | some c => FB l c c'
    | none => False) ∧ FBx l k bx r
theorem FBx.get {l : List (Value × Box)} {k : Nat} {bx : Bxs} : ∀ {bx' : Bxs}, FBx l k bx bx' → ∀ i c', getB bx' i = some c' → i ≠ k ∧ ∃ c, getB bx i = some c ∧ FB l c c'
  | (i0, c0) :: r, h, i, c', hi => by
    simp only [getB] at hi
    split at hi
    · rename_i e
      subst e
      cases hi
      obtain ⟨⟨h1, h3⟩, _⟩ := h
      refine ⟨h1, ?_⟩
      cases hg : getB bx i0 with
      | none => rw [hg] at h3; exact h3.elim
      | some c => rw [hg] at h3; exact ⟨c, rfl, h3⟩
    · exact h.2.get i c' hi
theorem fz_of {w : World} {I I' : Nat → Prop} {q : Value × Box} (hs : q.2.single = true) (hk : Kept w I w I') (h : BoxRel w I (fun _ => undef) q.1 q.2) (hb : ∀ n, Blk q.1 n → I' n) : Fz w I' q := by
  obtain ⟨v, b⟩ := q
  cases b with
  | cells T cs =>
    obtain ⟨g, vs, e, hg, hd, ho⟩ := h
    intro ds hds off _
    subst hds
    have e : v = ptrV g 0 := e
    subst e
    refine ⟨g, rfl, DenAt.of_dens (vs := vs) (hb g (.inl rfl)) (Dens.mono hk _ _ hd.to_dens) ho fun j u hj => ?_⟩
    rw [Nat.zero_add, cell_of_row w g j _ _ _ hg]
    simpa using hj
  | row T sz n cs =>
    obtain ⟨us, how, hd, ho⟩ := h
    intro ds hds
    subst hds
    have hl : ds.length = n * sz := by have := hd.length; rw [List.length_map] at this; rw [this]; exact how.1
    have how0 := how
    rcases how.2 with ⟨hn, rfl⟩ | ⟨g, cap, cur, hy, _, _, hnc, hcm, _⟩
    · have hn : v = _ := hn
      rw [hn, Den]; exact ⟨none, 0, rfl, Nat.le_refl _, Nat.zero_le _, by simp, hl, fun _ => ⟨rfl, rfl⟩, by simp⟩
    · have hy : v = _ := hy
      rw [hy, Den]
      refine ⟨some ⟨g, 0, none⟩, cap, rfl, hnc, hcm, by simp, hl, by simp, fun ad had => ?_⟩
      cases had
      have hc := how0.cells (g := g) (by simp only [hy]; rfl)
      refine ⟨fun _ => rfl, DenAt.of_dens (vs := us) (hb g (by rw [hy]; exact .inl rfl)) (Dens.mono hk _ _ hd.to_dens) ho fun j u hj => ?_⟩
      have := hc j u hj
      rwa [Addr.add_lit] at this
  | obj b o => trivial
  | mp kvs => trivial
  | opq p => cases hs
/-- A bundle is given up: what was said of its values may now say what lies there. -/
theorem Wk.melt {S : St} (k : Nat) {l : List (Value × Box)} (hk : getB S.bx k = some (Bun l)) (hc : ∀ q ∈ l, Clo q.2) (sl' : List AV) (bx' : Bxs) (hs : FLeL l S.sl sl') (hb : FBx l k S.bx bx') : Wk S ⟨sl', bx', S.df⟩ := fun dn w0 I0 F I β a w hr => by
  obtain ⟨o1, o2, o3⟩ := Bun.out hc (hr.mem.bxs k _ hk)
  let I' : Nat → Prop := fun m => I m ∨ Blk (β k) m
  have hkp : Kept w I w I' := ⟨fun _ h => .inl h, fun _ _ => rfl⟩
  have hf : ∀ q ∈ l, Fz w I' q := fun q hq => fz_of (hc q hq).1 hkp (o2 q hq _) fun n hn => .inr (by rw [o1, blk_bun]; exact ⟨q, hq, (o2 q hq β).blk (hc q hq).1 hn⟩)
  refine ⟨I', β, ⟨hr.mem.rebox (fun _ h => .inl h) (fun n h => ?_) (fun i c' h => ?_) (fun i c' n h hn => ?_) (fun i i' c c' n h1 h2 hn1 hn2 => ?_), ?_, hr.dn, hr.fx⟩⟩
  · rcases h with h | h
    · exact .inl h
    · exact .inr ⟨k, _, hk, h⟩
  · obtain ⟨_, c, h1, h2⟩ := hb.get i c' h
    exact h2.ok hf ((hr.mem.bxs i c h1).mono hkp (fun _ _ => rfl) fun _ _ => rfl)
  · obtain ⟨hne, c, h1, h2⟩ := hb.get i c' h
    refine ⟨?_, i, c, h1, hn⟩
    rintro (h3 | h3)
    · exact (hr.mem.sep i c n h1 hn).1 h3
    · exact hne (hr.mem.inj i k c _ n h1 hk hn h3)
  · obtain ⟨_, d, h3, _⟩ := hb.get i c h1
    obtain ⟨_, d', h4, _⟩ := hb.get i' c' h2
    exact hr.mem.inj i i' d d' n h3 h4 hn1 hn2
  · exact hs.ok hf (DenAs.mono hkp _ _ (fun _ _ => rfl) hr.sl)
end Go.Xe

/-
  The engine, part Mr. Ranges over maps.
-/
set_option linter.unusedVariables false
set_option linter.unusedSimpArgs false
set_option linter.unusedSectionVars false
namespace Go.Xe
open Go.RowKit
variable [Glob]

/-- An entry: its key, its stamp, what it says. -/
structure Ent3 where
  key : Value
  born : Nat
  d : D
  deriving Inhabited
def MapP (g : Nat) (l : List Ent3) (clock : Nat) (y : Value) (w : World) (I : Nat → Prop) : Prop :=
  y = .map (some g) ∧ ∃ es, w.heap[g]? = some (.map es clock) ∧ es.toList.map (fun e => (e.key, e.born)) = l.map (fun e => (e.key, e.born)) ∧ Dens w I (l.map (·.d)) (es.toList.map (·.val))
/-- A map, its entries told. -/
def MapAt (g : Nat) (l : List Ent3) (clock : Nat) : Box := .opq (MapP g l clock)
def EntOk (l : List Ent3) (clock : Nat) : Prop := (∀ e ∈ l, e.born < clock) ∧ (l.map (·.born)).Nodup ∧ (l.map (·.key)).Nodup
def left3 (l : List Ent3) (seen : Array Nat) : List Ent3 := l.filter fun e => !seen.contains e.born
def ItP (g c : Nat) (seen : Array Nat) (y : Value) (w : World) (I : Nat → Prop) : Prop := ∃ r, y = ptrV r 0 ∧ w.heap[r]? = some (.mapIter (some g) c seen c)
/-- An iterator over it. -/
def ItAt (g c : Nat) (seen : Array Nat) : Box := .opq (ItP g c seen)
/-- One that has just stepped. -/
def ItTook (g : Nat) (l : List Ent3) (c : Nat) (seen : Array Nat) : Box := .opq fun y w I => ∃ e ∈ left3 l seen, ItP g c (seen.push e.born) y w I

theorem left3_push {l : List Ent3} (hn : (l.map (·.born)).Nodup) {seen : Array Nat} {e : Ent3} (he : e ∈ left3 l seen) : (e :: left3 l (seen.push e.born)).Perm (left3 l seen) := by
  have hc : ∀ b : Nat, (seen.push e.born).contains b = (seen.contains b || decide (b = e.born)) := fun b => by
    rw [Bool.eq_iff_iff]
    simp [Array.mem_push]
  have h1 : left3 l (seen.push e.born) = (left3 l seen).filter fun y => !decide (y.born = e.born) := by
    unfold left3
    rw [List.filter_filter]
    refine List.filter_congr fun y _ => ?_
    rw [hc, Bool.not_or, Bool.and_comm]
  have hn2 : ((left3 l seen).map (·.born)).Nodup := hn.sublist (List.filter_sublist.map _)
  rw [h1]
  generalize left3 l seen = m at he hn2
  obtain ⟨x, y, rfl⟩ := List.append_of_mem he
  rw [List.map_append, List.map_cons] at hn2
  obtain ⟨_, h3, h4⟩ := List.nodup_append.1 hn2
  have hx : x.filter (fun y => !decide (y.born = e.born)) = x := List.filter_eq_self.2 fun z hz => by
    have := h4 z.born (List.mem_map.2 ⟨z, hz, rfl⟩) e.born (by simp)
    simpa using this
  have hy : y.filter (fun y => !decide (y.born = e.born)) = y := List.filter_eq_self.2 fun z hz => by
    have := (List.nodup_cons.1 h3).1
    have hne : z.born ≠ e.born := fun h => this (h ▸ List.mem_map.2 ⟨z, hz, rfl⟩)
    simpa using hne
  rw [List.filter_append, List.filter_cons, hx, hy]
  simp only [decide_true, Bool.not_true, Bool.false_eq_true, if_false]
  exact List.perm_middle.symm

section
variable {dn : Dn} {w0 : World} {I0 F : Nat → Prop} {S : St} {I : Nat → Prop} {β : Nat → Value} {a : Act} {w : World}
theorem map_now {g : Nat} {l : List Ent3} {c : Nat} {y : Value} (h : BoxRel w I β y (MapAt g l c)) : MapP g l c y w I := by
  obtain ⟨w1, I1, ⟨rfl, es, h1, h2, h3⟩, hk, hb⟩ := h
  exact ⟨rfl, es, by rw [(hb g (.inl rfl)).2]; exact h1, h2, Dens.mono hk _ _ h3⟩
theorem opq_mk {p : Value → World → (Nat → Prop) → Prop} {y : Value} (h : p y w I) (hb : ∀ n, Blk y n → n < w.heap.size) : BoxRel w I β y (.opq p) := ⟨w, I, h, .refl w I, fun n hn => ⟨hb n hn, rfl⟩⟩
theorem it_now {g c : Nat} {seen : Array Nat} {y : Value} (h : BoxRel w I β y (ItAt g c seen)) : ItP g c seen y w I := by
  obtain ⟨w1, I1, ⟨r, rfl, h1⟩, hk, hb⟩ := h
  exact ⟨r, rfl, by rw [(hb r (.inl rfl)).2]; exact h1⟩
theorem took_now {g c : Nat} {l : List Ent3} {seen : Array Nat} {y : Value} (h : BoxRel w I β y (ItTook g l c seen)) : ∃ e ∈ left3 l seen, ItP g c (seen.push e.born) y w I := by
  obtain ⟨w1, I1, ⟨e, he, r, rfl, h1⟩, hk, hb⟩ := h
  exact ⟨e, he, r, rfl, by rw [(hb r (.inl rfl)).2]; exact h1⟩
/-- A box that says something else of the same. -/
theorem Rel.say (hr : Rel dn w0 I0 F S I β a w) {k : Nat} {b b' : Box} (hb : getB S.bx k = some b) (h : BoxRel w I β (β k) b') : Rel dn w0 I0 F ⟨S.sl, setB S.bx k b', S.df⟩ I β a w := by
  have hget : ∀ i c', getB (setB S.bx k b') i = some c' → ∃ c, getB S.bx i = some c ∧ BoxRel w I β (β i) c' := fun i c' h' => by
    rw [getB_set] at h'
    split at h'
    · rename_i e; subst e; cases h'; exact ⟨b, hb, h⟩
    · exact ⟨c', h', hr.mem.bxs i c' h'⟩
  refine ⟨hr.mem.rebox (fun _ h => h) (fun n h => .inl h) (fun i c' h => ?_) (fun i c' n h hn => ?_) (fun i i' c c' n h1 h2 hn1 hn2 => ?_), hr.sl, hr.dn, hr.fx⟩
  · obtain ⟨_, _, h2⟩ := hget i c' h; exact h2
  · obtain ⟨c, h1, _⟩ := hget i c' h; exact ⟨(hr.mem.sep i c n h1 hn).1, i, c, h1, hn⟩
  · obtain ⟨d, h3, _⟩ := hget i c h1
    obtain ⟨d', h4, _⟩ := hget i' c' h2
    exact hr.mem.inj i i' d d' n h3 h4 hn1 hn2
end

section
variable {P : Program} {ds : Dn} {pn : Pn} {c : Code} {Q : Exit → St → Prop} {S : St}
theorem list_unzip {es : List MapEntry} {kvs : List (Value × D)} (h : es.map (·.key) = kvs.map (·.1)) : ∃ l : List Ent3, l.map (fun e => (e.key, e.d)) = kvs ∧ es.map (fun e => (e.key, e.born)) = l.map (fun e => (e.key, e.born)) := by
  induction es generalizing kvs with
  | nil => cases kvs with
    | nil => exact ⟨[], rfl, rfl⟩
    | cons _ _ => cases h
  | cons x es ih => cases kvs with
    | nil => cases h
    | cons q kvs =>
      simp only [List.map_cons, List.cons.injEq] at h
      obtain ⟨l, h1, h2⟩ := ih h.2
      exact ⟨⟨x.key, x.born, q.2⟩ :: l, by simp [h1, h.1], by simp [h2]⟩
/-- A map's entries are told. -/
theorem WP.openMap (j : Nat) {kvs : List (Value × D)} (hj : getB S.bx j = some (.mp kvs)) (h : ∀ g l clock, l.map (fun e : Ent3 => (e.key, e.d)) = kvs → EntOk l clock → WP P ds pn c Q ⟨S.sl, setB S.bx j (MapAt g l clock), S.df⟩) : WP P ds pn c Q S := fun w0 I0 F I β a w hr => by
  obtain ⟨g, es, clock, hβ, hg, hkeys, hvals, hst⟩ := hr.mem.bxs j _ hj
  obtain ⟨l, h1, h2⟩ := list_unzip hkeys
  have e1 : l.map (·.d) = kvs.map (·.2) := by rw [← h1, List.map_map]; rfl
  have b1 : es.toList.map (·.born) = l.map (·.born) := by
    have := congrArg (List.map Prod.snd) h2
    simpa [List.map_map, Function.comp_def] using this
  have k1 : es.toList.map (·.key) = l.map (·.key) := by
    have := congrArg (List.map Prod.fst) h2
    simpa [List.map_map, Function.comp_def] using this
  refine h g l clock h1 ⟨fun e he => ?_, by rw [← b1]; exact hst.2.1, by rw [← k1]; exact hst.2.2⟩ w0 I0 F I β a w (hr.say hj (opq_mk ⟨hβ, es, hg, h2, by rw [e1]; exact hvals⟩ fun n hn => ?_))
  · have : e.born ∈ es.toList.map (·.born) := by rw [b1]; exact List.mem_map.2 ⟨e, he, rfl⟩
    obtain ⟨x, hx, e2⟩ := List.mem_map.1 this
    rw [← e2]; exact hst.1 x hx
  · exact (hr.mem.bxs j _ hj).lt hn
/-- Which entry it was. -/
theorem WP.took (k : Nat) {g : Nat} {l : List Ent3} {cl : Nat} {seen : Array Nat} (hk : getB S.bx k = some (ItTook g l cl seen)) (h : ∀ e ∈ left3 l seen, WP P ds pn c Q ⟨S.sl, setB S.bx k (ItAt g cl (seen.push e.born)), S.df⟩) : WP P ds pn c Q S := fun w0 I0 F I β a w hr => by
  obtain ⟨e, he, hi⟩ := took_now (hr.mem.bxs k _ hk)
  exact h e he w0 I0 F I β a w (hr.say hk (opq_mk hi fun n hn => (hr.mem.bxs k _ hk).lt hn))
end

section
variable {P : Program} {τ : Tab} {dn : Dn} {pn : Pn} {o : Oper} {S : St} {acc : List TI} {rest : St → List TI → Prop}
theorem LCore.range (hτ : TabOk P τ) {T : TypeId} {m : Operand} (ho : o.op = .range T m) {K E : TypeId} {sz1 b1 : Nat} {z1 : List Value} (ht : τ T = some ⟨.map K E, sz1, b1, z1⟩) (k : Nat) {j : Nat} (hm : S.ev m = .row j) {g : Nat} {l : List Ent3} {cl : Nat} (hb : getB S.bx j = some (MapAt g l cl)) :
    LCore P dn pn o S ⟨.ptr k 0, [], [], [(k, ItAt g cl #[])]⟩ [j] := by
  intro S1 hs hf
  have em := hs.1 m (by simp [ho, Op.operands])
  rw [← em] at hm
  obtain ⟨dd, hu, hk⟩ := (hτ T _ ht).und
  simp only [TK.ok] at hk
  subst hk
  have hb1 := (hs.2.2 j (by simp)).trans hb
  have hk0 : S1.has k = false := hf _ (List.mem_singleton.2 rfl)
  refine Core.world fun w0 I0 F I β a w hr => ?_
  obtain ⟨hβ, es, hg, h2, hv⟩ := map_now (hr.mem.bxs j _ hb1)
  have hmv := hr.ev m
  rw [hm, DenA] at hmv
  have hme : a.eval m = .map (some g) := hmv.1.trans hβ
  refine ⟨ptrV w.heap.size 0, w.alloc (.mapIter (some g) cl #[] cl), I, upd β k (ptrV w.heap.size 0), ?_, ?_⟩
  · simp [execOp, ho, hme, Instr.range, run_underlying hu, MapKept.run_getObj_map hg, newObj, Result.andThen, Sem.run]
  · rw [St.app_add]
    refine Rel.put (hr.allocO (o := .mapIter (some g) cl #[] cl) (b := ItAt g cl #[]) (y := ptrV w.heap.size 0) hk0 (fun n h => ?_) (opq_mk ⟨w.heap.size, rfl, heap_alloc_new w _⟩ fun n hn => ?_)) o.dst (DenA_ptr0 k _ 0)
    · exact Blk.one rfl h
    · rw [Blk.one (m := w.heap.size) rfl hn]
      exact (Array.getElem?_eq_some_iff.1 (heap_alloc_new w (.mapIter (some g) cl #[] cl))).1
theorem vcStop.range (hτ : TabOk P τ) {T : TypeId} {m : Operand} (ho : o.op = .range T m) {K E : TypeId} {sz1 b1 : Nat} {z1 : List Value} (ht : τ T = some ⟨.map K E, sz1, b1, z1⟩) (k : Nat) {j : Nat} (hm : S.ev m = .row j) {g : Nat} {l : List Ent3} {cl : Nat} (hb : getB S.bx j = some (MapAt g l cl)) (hk0 : S.has k = false)
    (h : rest (S.app o.dst ⟨.ptr k 0, [], [], [(k, ItAt g cl #[])]⟩) (⟨⟨.ptr k 0, [], [], [(k, ItAt g cl #[])]⟩, [j]⟩ :: acc)) : vcStop P dn pn o rest S acc :=
  ⟨_, _, LCore.range hτ ho ht k hm hb, ⟨hk0, trivial⟩, h⟩

theorem left_of {es : Array MapEntry} {l : List Ent3} (h : es.toList.map (fun e => (e.key, e.born)) = l.map (fun e => (e.key, e.born))) (seen : Array Nat) : (leftOf es seen).toList.map (·.born) = (left3 l seen).map (·.born) := by
  have key : ∀ (xs : List MapEntry) (l : List Ent3), xs.map (fun e => (e.key, e.born)) = l.map (fun e => (e.key, e.born)) → (xs.filter fun e => !seen.contains e.born).map (·.born) = (l.filter fun e => !seen.contains e.born).map (·.born) := by
    intro xs
    induction xs with
    | nil => intro l h; cases l with
      | nil => rfl
      | cons _ _ => cases h
    | cons x xs ih => intro l h; cases l with
      | nil => cases h
      | cons y l =>
        simp only [List.map_cons, List.cons.injEq, Prod.mk.injEq] at h
        have := ih l h.2
        rw [List.filter_cons, List.filter_cons, h.1.2]
        split
        · rw [List.map_cons, List.map_cons, this, h.1.2]
        · exact this
  have := key es.toList l h
  simpa [leftOf, left3] using this

theorem it_blk {r n : Nat} (h : Blk (ptrV r 0) n) : n = r := Blk.one rfl h
theorem LCore.nextMore {it : Operand} (ho : o.op = .next it false) {k j : Nat} (hi : S.ev it = .ptr k 0) {g : Nat} {l : List Ent3} {cl : Nat} {seen : Array Nat} (hk : getB S.bx k = some (ItAt g cl seen)) (hb : getB S.bx j = some (MapAt g l cl)) (hl : EntOk l cl) (hne : left3 l seen ≠ []) :
    LCore P dn pn o S ⟨.tup [.d (.v (.bool true)), .d .any, .d .any], [], [(k, ItTook g l cl seen)], []⟩ [k, j] := by
  intro S1 hs _
  have ei := hs.1 it (by simp [ho, Op.operands])
  rw [← ei] at hi
  have hk1 := (hs.2.2 k (by simp)).trans hk
  have hb1 := (hs.2.2 j (by simp)).trans hb
  refine Core.world fun w0 I0 F I β a w hr => ?_
  obtain ⟨hβ, es, hg, h2, hv⟩ := map_now (hr.mem.bxs j _ hb1)
  obtain ⟨r, hβk, hr0⟩ := it_now (hr.mem.bxs k _ hk1)
  have hiv := hr.ev it
  rw [hi] at hiv
  obtain ⟨b, e1, e2⟩ := hiv
  rw [hβk] at e1
  cases e1
  have b1 : es.toList.map (·.born) = l.map (·.born) := by
    have := congrArg (List.map Prod.snd) h2
    simpa [List.map_map, Function.comp_def] using this
  have hold : ∀ x ∈ es.toList, x.born < cl := fun x hx => by
    have : x.born ∈ l.map (·.born) := by rw [← b1]; exact List.mem_map.2 ⟨x, hx, rfl⟩
    obtain ⟨e, he, e3⟩ := List.mem_map.1 this
    rw [← e3]; exact hl.1 e he
  have hlo := left_of h2 seen
  rcases run_next_at (P := P) w o.type r g cl cl seen es cl hr0 hg hold (Nat.le_refl _) with ⟨h0, _⟩ | ⟨e, he, w1, hw1, hrun⟩
  · exfalso
    have : (leftOf es seen).toList = [] := by
      have : (leftOf es seen).toList.length = 0 := by simpa using h0
      exact List.eq_nil_of_length_eq_zero this
    rw [this] at hlo
    cases hL : left3 l seen with
    | nil => exact hne hL
    | cons _ _ => rw [hL] at hlo; cases hlo
  · have hbn : e.born ∈ (left3 l seen).map (·.born) := by rw [← hlo]; exact List.mem_map.2 ⟨e, he, rfl⟩
    obtain ⟨e', he', hee⟩ := List.mem_map.1 hbn
    have hr1 : Rel dn w0 I0 F S1 I β a w1 := by
      rcases hw1 with rfl | rfl
      · exact hr
      · exact hr.drew
    have hr01 : w1.heap[r]? = some (.mapIter (some g) cl seen cl) := by rcases hw1 with rfl | rfl <;> exact hr0
    have hnI : ¬ I r := (hr.mem.sep k _ r hk1 (by rw [hβk]; exact .inl rfl)).1
    have hgb : Gb w1 (ChangeMaps.setBlock w1 r (.mapIter (some g) cl (seen.push e.born) cl)) (blk (β k)) := by
      rw [hβk]
      exact ⟨⟨rfl, rfl, rfl, by simp [ChangeMaps.setBlock], fun i _ hi => by
        show (w1.heap.setIfInBounds r _)[i]? = _
        exact (MapKept.heap_set hr01).2 i (fun e => hi (by rw [e]; rfl))⟩, Nat.le_refl _⟩
    have hnew : (ChangeMaps.setBlock w1 r (.mapIter (some g) cl (seen.push e.born) cl)).heap[r]? = some (.mapIter (some g) cl (seen.push e.born) cl) := (MapKept.heap_set hr01).1
    have hkp : Kept w1 I (ChangeMaps.setBlock w1 r (.mapIter (some g) cl (seen.push e.born) cl)) I := ⟨fun _ h => h, fun n hn => (MapKept.heap_set hr01).2 n (fun e => hnI (e ▸ hn))⟩
    refine ⟨.tuple #[.bool true, e.key, e.val], ChangeMaps.setBlock w1 r (.mapIter (some g) cl (seen.push e.born) cl), I, β, ?_, ?_⟩
    · simp [execOp, ho, e2, hrun]
    · rw [St.app_upd]
      refine Rel.put (S := ⟨S1.sl, setB S1.bx k (ItTook g l cl seen), S1.df⟩) ⟨hr1.mem.turn (b' := ItTook g l cl seen) hk1 hgb (opq_mk ⟨e', he', r, hβk, ?_⟩ fun n hn => ?_), DenAs.mono hkp _ _ (fun _ _ => rfl) hr1.sl, hr1.dn, hr1.fx⟩ o.dst ?_
      · rw [hee]; exact hnew
      · rw [hβk] at hn
        rw [it_blk hn]
        exact (Array.getElem?_eq_some_iff.1 hnew).1
      · exact ⟨[_, _, _], rfl, _, _, rfl, DenA_v.2 rfl, _, _, rfl, DenA_any _ _ _ _, _, _, rfl, DenA_any _ _ _ _, rfl⟩
theorem LCore.nextOver {it : Operand} (ho : o.op = .next it false) {k j : Nat} (hi : S.ev it = .ptr k 0) {g : Nat} {l : List Ent3} {cl : Nat} {seen : Array Nat} (hk : getB S.bx k = some (ItAt g cl seen)) (hb : getB S.bx j = some (MapAt g l cl)) (hl : EntOk l cl) (hne : left3 l seen = []) :
    LCore P dn pn o S ⟨.tup [.d (.v (.bool false))], [], [], []⟩ [k, j] := by
  intro S1 hs _
  have ei := hs.1 it (by simp [ho, Op.operands])
  rw [← ei] at hi
  have hk1 := (hs.2.2 k (by simp)).trans hk
  have hb1 := (hs.2.2 j (by simp)).trans hb
  refine Core.value fun w0 I0 F I β a w hr => ?_
  obtain ⟨hβ, es, hg, h2, hv⟩ := map_now (hr.mem.bxs j _ hb1)
  obtain ⟨r, hβk, hr0⟩ := it_now (hr.mem.bxs k _ hk1)
  have hiv := hr.ev it
  rw [hi] at hiv
  obtain ⟨b, e1, e2⟩ := hiv
  rw [hβk] at e1
  cases e1
  have b1 : es.toList.map (·.born) = l.map (·.born) := by
    have := congrArg (List.map Prod.snd) h2
    simpa [List.map_map, Function.comp_def] using this
  have hold : ∀ x ∈ es.toList, x.born < cl := fun x hx => by
    have : x.born ∈ l.map (·.born) := by rw [← b1]; exact List.mem_map.2 ⟨x, hx, rfl⟩
    obtain ⟨e, he, e3⟩ := List.mem_map.1 this
    rw [← e3]; exact hl.1 e he
  have hlo := left_of h2 seen
  rcases run_next_at (P := P) w o.type r g cl cl seen es cl hr0 hg hold (Nat.le_refl _) with ⟨_, hrun⟩ | ⟨e, he, _⟩
  · exact ⟨.tuple #[.bool false], by simp [execOp, ho, e2, hrun], [_], rfl, _, _, rfl, DenA_v.2 rfl, rfl⟩
  · exfalso
    have hbn : e.born ∈ (left3 l seen).map (·.born) := by rw [← hlo]; exact List.mem_map.2 ⟨e, he, rfl⟩
    rw [hne] at hbn
    cases hbn
theorem Dens.nth {w : World} {I : Nat → Prop} : ∀ {l : List Ent3} {es : List MapEntry}, es.map (fun e => (e.key, e.born)) = l.map (fun e => (e.key, e.born)) → Dens w I (l.map (·.d)) (es.map (·.val)) → ∀ e ∈ l, ∃ x ∈ es, x.key = e.key ∧ x.born = e.born ∧ Den w I e.d x.val
  | [], _, _, _, _, he => by cases he
  | y :: l, [], h, _, _, _ => by cases h
  | y :: l, x :: es, h, hd, e, he => by
    simp only [List.map_cons, List.cons.injEq, Prod.mk.injEq] at h
    obtain ⟨v, vs, e1, h1, h2⟩ := hd
    simp only [List.map_cons, List.cons.injEq] at e1
    rcases List.mem_cons.1 he with rfl | he
    · exact ⟨x, by simp, h.1.1, h.1.2, by rw [e1.1]; exact h1⟩
    · obtain ⟨z, hz, h3⟩ := Dens.nth h.2 (by rw [e1.2]; exact h2) e he
      exact ⟨z, by simp [hz], h3⟩
theorem LCore.entry {it : Operand} (ho : o.op = .entry it) {k j : Nat} (hi : S.ev it = .ptr k 0) {g : Nat} {l : List Ent3} {cl : Nat} {seen : Array Nat} {e : Ent3} (hk : getB S.bx k = some (ItAt g cl (seen.push e.born))) (hb : getB S.bx j = some (MapAt g l cl)) (hl : EntOk l cl) (he : e ∈ l) :
    LCore P dn pn o S ⟨.tup [.d (.v e.key), .d e.d], [], [], []⟩ [k, j] := by
  intro S1 hs _
  have ei := hs.1 it (by simp [ho, Op.operands])
  rw [← ei] at hi
  have hk1 := (hs.2.2 k (by simp)).trans hk
  have hb1 := (hs.2.2 j (by simp)).trans hb
  refine Core.value fun w0 I0 F I β a w hr => ?_
  obtain ⟨hβ, es, hg, h2, hv⟩ := map_now (hr.mem.bxs j _ hb1)
  obtain ⟨r, hβk, hr0⟩ := it_now (hr.mem.bxs k _ hk1)
  have hiv := hr.ev it
  rw [hi] at hiv
  obtain ⟨b, e1, e2⟩ := hiv
  rw [hβk] at e1
  cases e1
  have b1 : es.toList.map (·.born) = l.map (·.born) := by
    have := congrArg (List.map Prod.snd) h2
    simpa [List.map_map, Function.comp_def] using this
  obtain ⟨x, hx, x1, x2, x3⟩ := Dens.nth h2 hv e he
  have hrun := run_entry_at (P := P) w r g cl seen es cl x (by rw [x2]; exact hr0) hg hx (by rw [b1]; exact hl.2.1)
  refine ⟨.tuple #[x.key, x.val], by simp [execOp, ho, e2, hrun], [_, _], rfl, _, _, rfl, DenA_v.2 x1, _, _, rfl, ?_, rfl⟩
  rw [DenA]; exact x3
theorem vcStop.nextMore {it : Operand} (ho : o.op = .next it false) {k j : Nat} (hi : S.ev it = .ptr k 0) {g : Nat} {l : List Ent3} {cl : Nat} {seen : Array Nat} (hk : getB S.bx k = some (ItAt g cl seen)) (hb : getB S.bx j = some (MapAt g l cl)) (hl : EntOk l cl) (hne : left3 l seen ≠ [])
    (h : rest (S.app o.dst ⟨.tup [.d (.v (.bool true)), .d .any, .d .any], [], [(k, ItTook g l cl seen)], []⟩) (⟨⟨.tup [.d (.v (.bool true)), .d .any, .d .any], [], [(k, ItTook g l cl seen)], []⟩, [k, j]⟩ :: acc)) : vcStop P dn pn o rest S acc :=
  ⟨_, _, LCore.nextMore ho hi hk hb hl hne, trivial, h⟩
theorem vcStop.nextOver {it : Operand} (ho : o.op = .next it false) {k j : Nat} (hi : S.ev it = .ptr k 0) {g : Nat} {l : List Ent3} {cl : Nat} {seen : Array Nat} (hk : getB S.bx k = some (ItAt g cl seen)) (hb : getB S.bx j = some (MapAt g l cl)) (hl : EntOk l cl) (hne : left3 l seen = [])
    (h : rest (S.put o.dst (.tup [.d (.v (.bool false))])) (⟨⟨.tup [.d (.v (.bool false))], [], [], []⟩, [k, j]⟩ :: acc)) : vcStop P dn pn o rest S acc :=
  ⟨_, _, LCore.nextOver ho hi hk hb hl hne, trivial, h⟩
theorem vcStop.entry {it : Operand} (ho : o.op = .entry it) {k j : Nat} (hi : S.ev it = .ptr k 0) {g : Nat} {l : List Ent3} {cl : Nat} {seen : Array Nat} {e : Ent3} (hk : getB S.bx k = some (ItAt g cl (seen.push e.born))) (hb : getB S.bx j = some (MapAt g l cl)) (hl : EntOk l cl) (he : e ∈ l)
    (h : rest (S.put o.dst (.tup [.d (.v e.key), .d e.d])) (⟨⟨.tup [.d (.v e.key), .d e.d], [], [], []⟩, [k, j]⟩ :: acc)) : vcStop P dn pn o rest S acc :=
  ⟨_, _, LCore.entry ho hi hk hb hl he, trivial, h⟩
end
end Go.Xe

/-
  The engine, part Fx. Contracts that come back in one of several ways; a region cut at such a call.
-/
set_option linter.unusedVariables false
set_option linter.unusedSimpArgs false
set_option linter.unusedSectionVars false
namespace Go.Xe
open Go.RowKit
variable [Glob]

/-- Called with such arguments it hands back one of 'res', and leaves that one's boxes. -/
def FunX (P : Program) (f : FuncId) (args : List AV) (bi : Bxs) {α : Type} (res : α → AV) (bo : α → Bxs) : Prop :=
  ∀ w I β vs, Mem w I (Fp bi β) bi I β w → DenAs w I β args vs → Calls P f vs.toArray w fun
    | .returned v, w' => ∃ x, ∃ I' β', Mem w I (Fp bi β) (bo x) I' β' w' ∧ DenA w' I' β' (res x) v ∧ ∀ k, 1000 ≤ k → β' k = β k
    | .panicked ch, w' => False
    | .outgrown, _ => False
theorem FunX.of {P : Program} {f : FuncId} {args : List AV} {bi : Bxs} {α : Type} {res : α → AV} {bo : α → Bxs} (x : α) (h : Fun P f args bi (res x) (bo x) fun _ => False) : FunX P f args bi res bo := fun w I β vs hm hd => by
  refine Calls.mono (h w I β vs hm hd) fun e w' he => ?_
  cases e with
  | returned v => exact ⟨x, he⟩
  | panicked ch => exact he.1
  | outgrown => exact he

def finX (τ : Tab) (rs : List ResultVar) {α : Type} (res : α → AV) (bo : α → Bxs) (e : Exit) (S : Kp2 (τ, rs) (res, bo)) : Prop :=
  match e with
  | .normal => ∃ x, ∃ S', Wk S S' ∧ finS τ rs (res x) (bo x) S'
  | .ret => ∃ x, ∃ S', Wk S S' ∧ finS τ rs (res x) (bo x) S'
  | _ => False
theorem finX.ret {τ : Tab} {rs : List ResultVar} {α : Type} {res : α → AV} {bo : α → Bxs} (x : α) {S : St} (h : finQ τ rs (res x) (bo x) .ret S) : finX τ rs res bo .ret S := ⟨x, h⟩
theorem FunX.of_wp {P : Program} {τ : Tab} (hτ : TabOk P τ) {f : FuncId} {fn : Func} {c : Code} (hf : P.funcs[f]? = some fn) (hb : fn.body = some c) {args : List AV} {bi : Bxs} {α : Type} {res : α → AV} {bo : α → Bxs}
    (h : ∀ β0, WP P ⟨[], β0, none, false⟩ noPn c (finX τ fn.results.toList res bo) (startS fn.ntmps args bi)) : FunX P f args bi res bo := by
  intro w I β vs hm hd
  refine calls_of_wp hf hb (wp_mono (wpIn_wide.1 (h β w I (Fp bi β) I β _ w ⟨hm, ?_, ⟨rfl, fun _ => rfl⟩, fun _ _ => rfl⟩)) fun e a' w' hh => ?_)
  · simp only [startS, Array.toList_append, Array.toList_replicate]
    rw [hd.length]
    have := DenAs.anys (w := w) (I := I) (β := β) (List.replicate (fn.ntmps - vs.length) undef)
    simp only [List.length_replicate] at this
    exact hd.append (by simpa using this)
  · have fin : (∃ S I' β', (∃ x, ∃ S', Wk S S' ∧ finS τ fn.results.toList (res x) (bo x) S') ∧ Rel ⟨[], β, none, false⟩ w I (Fp bi β) S I' β' a' w') → a'.defers = [] ∧ ∃ v, (results fn a'.tmps).run P w' = .ok v w' ∧ ∃ x, ∃ I' β', Mem w I (Fp bi β) (bo x) I' β' w' ∧ DenA w' I' β' (res x) v ∧ ∀ k, 1000 ≤ k → β' k = β k := by
      rintro ⟨S, I1, β1, ⟨x, S', hw, side, l, hl, hs, hle, hbo⟩, hr1⟩
      obtain ⟨I', β', hr⟩ := hw _ _ _ _ _ _ _ _ hr1
      obtain ⟨us, hus, hdu⟩ := resA_ok hτ hr _ hl hs
      exact ⟨hr.dn.pan rfl, _, results_eq fn a'.tmps P w' us hus, x, I', β', hr.mem.sub hbo, hle _ _ _ _ hdu.one, hr.fx⟩
    cases e with
    | normal => exact fin hh
    | ret => exact fin hh
    | panic ch => exact hh.1.elim
    | exit id => obtain ⟨S, I', β', hq, _⟩ := hh; exact hq.elim
    | goto l => obtain ⟨S, I', β', hq, _⟩ := hh; exact hq.elim
    | outgrown => exact hh.elim

/-- An operation that leads to one of several states. -/
def CoreE (P : Program) (ds : Dn) (pn : Pn) (o : Oper) (S : St) (R : St → Prop) : Prop :=
  ∀ w0 I0 F I β a w, Rel ds w0 I0 F S I β a w → ∀ (next : Act → World → Prop) (Q : Exit → Act → World → Prop),
    (∀ S' I' β' a' w', R S' → Rel ds w0 I0 F S' I' β' a' w' → next a' w') →
    (∀ ch I' β' w', pn.ok ch → PRel ds w0 I0 F pn S.bx I' β' a w' → Q (.panic ch) a w') →
    o.wpIn (fO ds.ro) 1 P a w next Q
theorem CoreE.callX {P : Program} {ds : Dn} {pn : Pn} {o : Oper} {S : St} {fx : Operand} {args : Array Operand} {ts : Array TypeId} (ho : o.op = .call ⟨.value fx, args, ts⟩) {f : FuncId} {first caps : List AV}
    (hf : fnOf (S.ev fx) = some (f, first, caps)) (hb : Body P f) {cargs : List AV} {cbi : Bxs} {α : Type} {cres : α → AV} {cbo : α → Bxs} (hc : FunX P f cargs cbi cres cbo) (ρ : Nat → Nat)
    (hargs : LeqL (first ++ args.toList.map S.ev ++ caps) (renL ρ cargs)) (hok0 : CallOk S ρ cbi [] (.d .any)) (hok : ∀ x, CallOk S ρ cbi (cbo x) (cres x)) (hfresh : ∀ x, ∀ p ∈ outAdd ρ cbi (cbo x), S.has p.1 = false) :
    CoreE P ds pn o S fun S' => ∃ x, S' = S.app o.dst (callE ρ cbi (cbo x) (cres x)) := by
  intro w0 I0 F I β a w hr next Q hn hp
  obtain ⟨va, vb, e1, hda, hdb⟩ := fnOf_ok hf (hr.ev fx)
  have hrun := run_call (P := P) (w := w) ho hb e1
  have hdargs : DenAs w I β (renL ρ cargs) (va ++ args.toList.map a.eval ++ vb) := hargs.ok ((hda.append (DenAs_map hr _)).append hdb)
  rw [DenAs_ren] at hdargs
  have hcall := hc w I (fun k => β (ρ k)) _ (hr.handed hok0) hdargs
  refine ⟨fun _ _ => trivial, ?_⟩
  rw [Oper.semAt_eq _ _ _ (fun c h => by rw [ho] at h; cases h), hrun, Oper.uponIn_enter]
  refine ⟨(fun h => by cases h), callsIn_fO (hcall.mono fun e w' he => ?_)⟩
  cases e with
  | outgrown => exact he.elim
  | panicked ch => exact he.elim
  | returned v =>
    obtain ⟨x, I', β', hm, hres, hfx⟩ := he
    obtain ⟨β2, h2⟩ := hr.called (hok x) (hfresh x) hm hres hfx o.dst
    exact hn _ I' β2 _ w' ⟨x, rfl⟩ h2

/-- Where a region is cut. -/
def vcX (P : Program) (ds : Dn) (pn : Pn) (o : Oper) (rest : St → Prop) (S : Kp2 (P, ds, o) (rest, pn)) : Prop := ∃ R, CoreE P ds pn o S R ∧ ∀ S2, R S2 → rest S2
theorem vcX.callX {P : Program} {ds : Dn} {pn : Pn} {o : Oper} {rest : St → Prop} {S : St} {fx : Operand} {args : Array Operand} {ts : Array TypeId} {f : FuncId} {first caps : List AV} {cargs : List AV} {cbi : Bxs} {α : Type} {cres : α → AV} {cbo : α → Bxs}
    (hb : Body P f) (hc : FunX P f cargs cbi cres cbo) (ρ : Nat → Nat) (ho : o.op = .call ⟨.value fx, args, ts⟩) (hf : fnOf (S.ev fx) = some (f, first, caps))
    (hargs : LeqL (first ++ args.toList.map S.ev ++ caps) (renL ρ cargs)) (hok0 : CallOk S ρ cbi [] (.d .any)) (hok : ∀ x, CallOk S ρ cbi (cbo x) (cres x)) (hfresh : ∀ x, freshS S (outAdd ρ cbi (cbo x)))
    (h : ∀ x, ∃ S2, Wk (S.app o.dst (callE ρ cbi (cbo x) (cres x))) S2 ∧ rest S2) : vcX P ds pn o rest S :=
  ⟨fun S2 => ∃ x, Wk (S.app o.dst (callE ρ cbi (cbo x) (cres x))) S2 ∧ rest S2, fun w0 I0 F I β a w hr next Q hn hp => CoreE.callX ho hf hb hc ρ hargs hok0 hok (fun x => (freshS_iff _).1 (hfresh x)) w0 I0 F I β a w hr next Q (fun S' I' β' a' w' ⟨x, e⟩ hr' => by
    subst e
    obtain ⟨S2, h1, h2⟩ := h x
    obtain ⟨I2, β2, h3⟩ := h1 _ _ _ _ _ _ _ _ hr'
    exact hn S2 I2 β2 a' w' ⟨x, h1, h2⟩ h3) hp, fun _ ⟨_, _, h2⟩ => h2⟩
/-- An operation of the engine's own, behind which the state is one of several. -/
theorem vcX.of {P : Program} {ds : Dn} {pn : Pn} {o : Oper} {rest : St → Prop} {S : St} {e : Eff} {fp : List Nat} (hl : LCore P ds pn o S e fp) (hf : freshS S e.add) {α : Type} {S' : α → St} (ho : Opn (S.app o.dst e) S') (h : ∀ x, rest (S' x)) : vcX P ds pn o rest S :=
  ⟨fun S2 => ∃ x, S2 = S' x, fun w0 I0 F I β a w hr next Q hn hp => hl S ⟨fun _ _ => rfl, fun _ _ => rfl, fun _ _ => rfl⟩ ((freshS_iff _).1 hf) w0 I0 F I β a w hr next Q (fun I' β' a' w' hr' => by
    obtain ⟨x, I2, β2, h2⟩ := ho _ _ _ _ _ _ _ _ hr'
    exact hn (S' x) I2 β2 a' w' ⟨x, rfl⟩ h2) hp, fun _ ⟨x, e⟩ => e ▸ h x⟩
/-- The same, by the engine's own reckoning. -/
theorem vcX.op {P : Program} {τ : Tab} (hτ : TabOk P τ) {ds : Dn} {pn : Pn} {o : Oper} {rest : St → Prop} {S : St} {side : Prop} {e : Eff} {fp : List Nat} (hr : opA τ o S = some (side, e, fp)) (hs : side) (hf : freshS S e.add) {α : Type} {S' : α → St} (ho : Opn (S.app o.dst e) S') (h : ∀ x, rest (S' x)) : vcX P ds pn o rest S :=
  vcX.of (serves_opA hτ o ds pn S side e fp hr hs) hf ho h
theorem RunD.soundA {P : Program} {ds : Dn} {pn : Pn} {ops : Array Oper} {Q : Exit → Act → World → Prop} {w0 : World} {I0 F : Nat → Prop} {K : List TI → St → Prop} (rest : List Oper)
    (hQ : ∀ ch a w, pn.ok ch → (∃ bx I β, PRel ds w0 I0 F pn bx I β a w) → Q (.panic ch) a w) :
    ∀ (os : List Oper) (S : St) (acc : List TI) (I : Nat → Prop) (β : Nat → Value) (a : Act) (w : World), RunD P ds pn (ops.toList.map (·.dst)) os S acc K → Rel ds w0 I0 F S I β a w →
      (∀ tis S' I' β' a' w', K tis S' → Rel ds w0 I0 F S' I' β' a' w' → wpListIn (fO ds.ro) 1 P ops Q rest a' w') → wpListIn (fO ds.ro) 1 P ops Q (os ++ rest) a w
  | [], S, acc, I, β, a, w, h, hr, hK => hK _ _ _ _ _ _ h hr
  | o :: os, S, acc, I, β, a, w, h, hr, hK => by
    obtain ⟨e, fp, hl, hf, hrest⟩ := h
    refine wpListIn_step fun K' hK' => ?_
    rw [wantedG_eq]
    have hg := hl S ⟨fun _ _ => rfl, fun _ _ => rfl, fun _ _ => rfl⟩ (fun _ _ => rfl) hf w0 I0 F I β a w hr K' Q (fun I' β' a' w' hr' => hK' a' w' (RunD.soundA rest hQ os _ _ I' β' a' w' hrest hr' hK)) (fun ch I' β' w' hok hp => hQ ch a w' hok ⟨_, _, _, hp⟩)
    split
    · rename_i hw; rw [if_pos hw] at hg; exact hg
    · rename_i hw; rw [if_neg hw] at hg; exact ⟨fun _ _ => trivial, hg⟩
/-- A region in the order of its text, cut at operation n. -/
theorem WP.cut {P : Program} {ds : Dn} {pn : Pn} {Q : Exit → St → Prop} {S : St} (n : Nat) {τ : Tab} (hτ : TabOk P τ) {id : Nat} {l : List Oper} {o : Oper} (ho : l[n]? = some o) (hg : o.guard = none)
    (h : vcOps P ds pn τ (l.map (·.dst)) (fun _ S1 => vcX P ds pn o (fun S2 => vcOps P ds pn τ (l.map (·.dst)) (fun _ S' => Q .normal S') (l.drop (n + 1)) S2 []) S1) (l.take n) S []) : WP P ds pn (.region id l.toArray false) Q S := fun w0 I0 F I β a w hr => by
  have hsplit : l = l.take n ++ o :: l.drop (n + 1) := by
    obtain ⟨hn, he⟩ := List.getElem?_eq_some_iff.1 ho
    rw [← he, ← List.drop_eq_getElem_cons hn, List.take_append_drop]
  have hQ : ∀ (ch : List PanicEntry) (a : Act) (w : World), pn.ok ch → (∃ bx I β, PRel ds w0 I0 F pn bx I β a w) → PostA P ds pn w0 I0 F Q (.panic ch) a w := fun ch a w hok hp => ⟨hok, hp⟩
  refine wpIn_region_list ?_
  have key : wpListIn (fO ds.ro) 1 P l.toArray (PostA P ds pn w0 I0 F Q) (l.take n ++ o :: l.drop (n + 1)) a w := by
    refine RunD.soundA (ops := l.toArray) (o :: l.drop (n + 1)) hQ (l.take n) S [] I β a w (by simpa using vcOps.run hτ (l.take n) S [] h) hr ?_
    rintro _ S1 I1 β1 a1 w1 ⟨R, hc, hR⟩ hr1
    refine wpListIn_step fun K' hK' => ?_
    rw [wantedG_eq]
    have hw : wantedG (l.toArray.toList.map (·.dst)) o a1.tmps = true := by simp [wantedG, hg]
    rw [if_pos hw]
    refine hc w0 I0 F I1 β1 a1 w1 hr1 _ _ (fun S2 I2 β2 a2 w2 h2 hr2 => hK' a2 w2 ?_) (fun ch I' β' w' hok hp => hQ ch a1 w' hok ⟨_, _, _, hp⟩)
    exact RunD.sound (ops := l.toArray) (K := fun _ S' => Q .normal S') hQ (l.drop (n + 1)) S2 [] I2 β2 a2 w2 (by simpa using vcOps.run hτ (l.drop (n + 1)) S2 [] (hR S2 h2)) hr2
      fun _ S' I' β' a' w' hq hr' => ⟨S', I', β', hq, hr'⟩
  rw [← hsplit] at key
  simpa using key
theorem WP.cut4 {P : Program} {ds : Dn} {pn : Pn} {Q : Exit → St → Prop} {S : St} {τ : Tab} (hτ : TabOk P τ) {id : Nat} {o0 o1 o2 o3 o : Oper} {l : List Oper} (hg : o.guard = none)
    (h : vcOps P ds pn τ ((o0 :: o1 :: o2 :: o3 :: o :: l).map (·.dst)) (fun _ S1 => vcX P ds pn o (fun S2 => vcOps P ds pn τ ((o0 :: o1 :: o2 :: o3 :: o :: l).map (·.dst)) (fun _ S' => Q .normal S') l S2 []) S1) [o0, o1, o2, o3] S []) : WP P ds pn (.region id (o0 :: o1 :: o2 :: o3 :: o :: l).toArray false) Q S :=
  WP.cut 4 hτ rfl hg h
/-- The rest of a region. -/
def wpL (P : Program) (ds : Dn) (pn : Pn) (ops : Array Oper) (l : List Oper) (Q : Exit → St → Prop) (S : Kp2 (P, ds, pn) (ops, l, Q)) : Prop :=
  ∀ w0 I0 F I β a w, Rel ds w0 I0 F S I β a w → wpListIn (fO ds.ro) 1 P ops (PostA P ds pn w0 I0 F Q) l a w
theorem wpL.ops {P : Program} {ds : Dn} {pn : Pn} {τ : Tab} (hτ : TabOk P τ) {ops : Array Oper} {l : List Oper} {Q : Exit → St → Prop} {S : St} (h : vcOps P ds pn τ (ops.toList.map (·.dst)) (fun _ S' => Q .normal S') l S []) : wpL P ds pn ops l Q S := fun w0 I0 F I β a w hr =>
  RunD.sound (ops := ops) (K := fun _ S' => Q .normal S') (fun ch a w hok hp => ⟨hok, hp⟩) l S [] I β a w (vcOps.run hτ l S [] h) hr fun _ S' I' β' a' w' hq hr' => ⟨S', I', β', hq, hr'⟩
theorem wpL.weak {P : Program} {ds : Dn} {pn : Pn} {ops : Array Oper} {l : List Oper} {Q : Exit → St → Prop} {S S' : St} (hw : Wk S S') (h : wpL P ds pn ops l Q S') : wpL P ds pn ops l Q S := fun w0 I0 F I β a w hr => by
  obtain ⟨I', β', hr'⟩ := hw _ _ _ _ _ _ _ _ hr
  exact h w0 I0 F I' β' a w hr'
theorem wpL.cvOps {P : Program} {ds ds' : Dn} {pn : Pn} {τ : Tab} (hτ : TabOk P τ) {ops : Array Oper} {l : List Oper} {Q : Exit → St → Prop} {S S' : St} (h : Cv ds ds' S S') (hw : vcOps P ds' pn τ (ops.toList.map (·.dst)) (fun _ S1 => ∃ (α : Type) (S2 : α → St), CvO ds' ds S1 S2 ∧ ∀ x, Q .normal (S2 x)) l S' []) : wpL P ds pn ops l Q S := fun w0 I0 F I β a w hr => by
  obtain ⟨I', β', hr'⟩ := h.2 w0 I0 F I β a w hr
  have key : wpListIn (fO ds'.ro) 1 P ops (PostA P ds pn w0 I0 F Q) l a w := RunD.sound (ops := ops) (ds := ds') (K := fun _ S1 => ∃ (α : Type) (S2 : α → St), CvO ds' ds S1 S2 ∧ ∀ x, Q .normal (S2 x)) (fun ch a w hok ⟨bx, I, β, hp⟩ => ⟨hok, bx, I, β, hp.cv ⟨h.1.1.symm, h.1.2.1.symm, h.1.2.2.symm⟩⟩) l S' [] I' β' a w (vcOps.run hτ l S' [] hw) hr'
    fun _ S1 I1 β1 a1 w1 ⟨α, S2, hc, hq⟩ h1 => by
      obtain ⟨x, I2, β2, h2⟩ := hc.2 w0 I0 F I1 β1 a1 w1 h1
      exact ⟨S2 x, I2, β2, hq x, h2⟩
  rw [h.1.2.1] at key
  exact key
/-- A region in the order of its text, cut at its fifth operation. -/
theorem WP.cut4L {P : Program} {ds : Dn} {pn : Pn} {Q : Exit → St → Prop} {S : St} {τ : Tab} (hτ : TabOk P τ) {id : Nat} {o0 o1 o2 o3 o : Oper} {l : List Oper} (hg : o.guard = none)
    (h : vcOps P ds pn τ ((o0 :: o1 :: o2 :: o3 :: o :: l).map (·.dst)) (fun _ S1 => vcX P ds pn o (fun S2 => wpL P ds pn (o0 :: o1 :: o2 :: o3 :: o :: l).toArray l Q S2) S1) [o0, o1, o2, o3] S []) : WP P ds pn (.region id (o0 :: o1 :: o2 :: o3 :: o :: l).toArray false) Q S := fun w0 I0 F I β a w hr => by
  have hQ : ∀ (ch : List PanicEntry) (a : Act) (w : World), pn.ok ch → (∃ bx I β, PRel ds w0 I0 F pn bx I β a w) → PostA P ds pn w0 I0 F Q (.panic ch) a w := fun ch a w hok hp => ⟨hok, hp⟩
  refine wpIn_region_list ?_
  refine RunD.soundA (ops := (o0 :: o1 :: o2 :: o3 :: o :: l).toArray) (o :: l) hQ [o0, o1, o2, o3] S [] I β a w (by simpa using vcOps.run hτ [o0, o1, o2, o3] S [] h) hr ?_
  rintro _ S1 I1 β1 a1 w1 ⟨R, hc, hR⟩ hr1
  refine wpListIn_step fun K' hK' => ?_
  rw [wantedG_eq]
  have hw : wantedG ((o0 :: o1 :: o2 :: o3 :: o :: l).toArray.toList.map (·.dst)) o a1.tmps = true := by simp [wantedG, hg]
  rw [if_pos hw]
  exact hc w0 I0 F I1 β1 a1 w1 hr1 _ _ (fun S2 I2 β2 a2 w2 h2 hr2 => hK' a2 w2 (hR S2 h2 w0 I0 F I2 β2 a2 w2 hr2)) (fun ch I' β' w' hok hp => hQ ch a1 w' hok ⟨_, _, _, hp⟩)

/-! ### a pointer against nil -/
theorem run_equalIn_ptrNil {P : Program} {w : World} {T E : TypeId} (d : Nat) (q : Option Addr) (h : P.underlying T = some (.pointer E)) : (Op.equalIn (d + 1) T (.pointer q) (.pointer none)).run P w = .ok q.isNone w := by
  cases q <;> simp [Op.equalIn, run_underlying h]
theorem run_equal_ptrNil {P : Program} {w : World} {T E : TypeId} (q : Option Addr) (h : P.underlying T = some (.pointer E)) : (Op.equal T (.pointer q) (.pointer none)).run P w = .ok q.isNone w := run_equalIn_ptrNil 9999 q h
theorem run_eqPtrNil {P : Program} {w : World} {T E : TypeId} {x y : Operand} (hu : P.underlying T = some (.pointer E)) (q : Option Addr) :
    (eqGuard .eql T x y (.pointer q) (.pointer none)).run P w = .ok () w ∧ (binOp .eql T (.pointer q) (.pointer none)).run P w = .ok (.bool q.isNone) w := by
  refine ⟨rfl, ?_⟩
  simp only [binOp]
  simp [run_equal_ptrNil q hu]
theorem LCore.eqPtrNil {P : Program} {τ : Tab} (hτ : TabOk P τ) {ds : Dn} {pn : Pn} {o : Oper} {S : St} {T T' E : TypeId} {x y : Operand} {sz1 b1 : Nat} {z1 : List Value} (ho : o.op = .binOp .eql T x y T') (ht : τ T = some ⟨.ptr E, sz1, b1, z1⟩)
    {q : Option Addr} (hx : S.ev x = .d (.v (.pointer q))) (hy : S.ev y = .d (.v (.pointer none))) : LCore P ds pn o S ⟨.d (.v (.bool q.isNone)), [], [], []⟩ [] := by
  intro S1 hs hf
  have ex := hs.1 x (by simp [ho, Op.operands])
  have ey := hs.1 y (by simp [ho, Op.operands])
  rw [← ex] at hx
  rw [← ey] at hy
  obtain ⟨d, hu, hk⟩ := (hτ T _ ht).und
  simp only [TK.ok] at hk
  subst hk
  refine Core.value fun w0 I0 F I β a w hr => ⟨.bool q.isNone, ?_, DenA_v.2 rfl⟩
  have hv := hr.ev x
  have hv2 := hr.ev y
  rw [hx, DenA_v] at hv
  rw [hy, DenA_v] at hv2
  have h := run_eqPtrNil (w := w) (x := x) (y := y) hu q
  simp [execOp, ho, hv, hv2, h.1, h.2]
theorem vcStop.eqPtrNil {P : Program} {τ : Tab} (hτ : TabOk P τ) {ds : Dn} {pn : Pn} {o : Oper} {S : St} {acc : List TI} {rest : St → List TI → Prop} {T T' E : TypeId} {x y : Operand} {sz1 b1 : Nat} {z1 : List Value} (ho : o.op = .binOp .eql T x y T') (ht : τ T = some ⟨.ptr E, sz1, b1, z1⟩)
    {q : Option Addr} (hx : S.ev x = .d (.v (.pointer q))) (hy : S.ev y = .d (.v (.pointer none))) (h : rest (S.put o.dst (.d (.v (.bool q.isNone)))) (⟨⟨.d (.v (.bool q.isNone)), [], [], []⟩, []⟩ :: acc)) : vcStop P ds pn o rest S acc :=
  ⟨_, _, LCore.eqPtrNil hτ ho ht hx hy, trivial, h⟩
end Go.Xe
