/-
  The engine: the library's insertion sort of a row, by the kit's contract.
-/
import Derived.Test.YtpamincphlfhlaaGreatDoorK8
import Derived.Shelf.SlSortCmp.InsertionK
import Derived.Shelf.SlSortCmp.NoneTotal
set_option linter.unusedSectionVars false
set_option linter.unusedVariables false
set_option linter.unusedSimpArgs false
namespace Go.Xe
open Go.RowKit Go.Sort Go.Shelf
variable [Glob]

section
variable {α : Type} [Inhabited α]
/-- What the insertion sort makes of a list. -/
def insL (cf : α → α → Int) (l : List α) : List α := (Sort.insertionSort (Go.Proofs.ltOf cf) l.toArray 0 l.length).toList
theorem insInner_size (lt : α → α → Bool) (a : Nat) : ∀ (j : Nat) (d : Array α), (insInner lt a j d).size = d.size
  | 0, d => by simp [insInner]
  | j + 1, d => by
    rw [insInner]
    split
    · rw [insInner_size lt a j, swp_size]
    · rfl
theorem insOuter_size (lt : α → α → Bool) (a b : Nat) : ∀ (n i : Nat) (d : Array α), b - i = n → (insOuter lt a b i d).size = d.size
  | 0, i, d, h => by rw [insOuter, if_neg (by omega)]
  | n + 1, i, d, h => by rw [insOuter, if_pos (by omega), insOuter_size lt a b n (i + 1) _ (by omega), insInner_size]
theorem insL_len (cf : α → α → Int) (l : List α) : (insL cf l).length = l.length := by
  unfold insL Sort.insertionSort
  rw [Array.length_toList, insOuter_size _ _ _ _ _ _ rfl]
  simp
theorem insL_ok {cf : α → α → Int} (hO : SWO (Go.Proofs.ltOf cf)) (l : List α) : (insL cf l).Perm l ∧ (insL cf l).Pairwise fun a b => Go.Proofs.ltOf cf b a = false := by
  obtain ⟨⟨h1, _, h2⟩, h3⟩ := insertionSort_holds (lt := Go.Proofs.ltOf cf) hO l.toArray 0 l.length (Nat.zero_le _) (by simp)
  unfold insL
  generalize Sort.insertionSort (Go.Proofs.ltOf cf) l.toArray 0 l.length = d at *
  constructor
  · have e1 : (d.extract 0 l.length) = d := by rw [show l.length = d.size by simpa using h1.symm]; simp
    have e2 : (l.toArray.extract 0 l.length) = l.toArray := by simp
    rw [e1, e2] at h2
    simpa using h2
  · rw [List.pairwise_iff_getElem]
    intro i j hi hj hij
    have hj' : j < d.size := by simpa using hj
    have hi' : i < d.size := by omega
    have hdl : d.size = l.length := by simpa using h1
    have := h3 i j (Nat.zero_le _) hij (by omega)
    rw [getElem!_pos d j hj', getElem!_pos d i hi'] at this
    simpa using this

/-- The library's insertion sort of a row of aggregates, plain values all. -/
theorem Fun.insertSort {P : Program} {ρ : Ren} (L : Go.Proofs.SlLaysF0.n20 P ρ) (k : Nat) (aE : ∀ w, (isAgg (ρ.t 24)).run P w = .ok true w) (zE : ∀ w, (Go.sizeOf (ρ.t 24)).run P w = .ok k w) (enc : α → List Value) (hk : ∀ x, (enc x).length = k)
    (h1 : ∀ x, ∀ v ∈ enc x, v.oneCell' = true) (cf : α → α → Int) {g : FuncId} (eg : ∀ args w, (callFunc g args).run P w = .ok (.enter g args) w)
    (hcf : ∀ x y, Fn0 P g [.agg ((enc x).map .v), .agg ((enc y).map .v)] (.v (.int .i64 (cf x y)))) (l : List α) (hl : l.length < 4611686018427387904) :
    Fun P (ρ.f 20) [.row 1000, .d (.v (.int .i64 0)), .d (.v (.int .i64 l.length)), .d (.v (.func (.func g) #[] #[]))] [(1000, .row (ρ.t 24) k l.length (rowV enc l))] (.d .any) [(1000, .row (ρ.t 24) k l.length (rowV enc (insL cf l)))] fun _ => False := by
  intro w I β vs hm hd
  obtain ⟨v, vs', rfl, hv, z0, vs1, rfl, hz0, zn, vs2, rfl, hzn, fv, vs'', rfl, hfv, hnil⟩ := hd
  rw [DenA_v] at hfv hz0 hzn
  subst hfv
  subst hz0
  subst hzn
  rw [DenA] at hv
  obtain ⟨rfl, _⟩ := hv
  have hnil : vs'' = [] := hnil
  subst hnil
  obtain ⟨xs, how, hdx, hox⟩ := hm.bxs 1000 _ rfl
  have hxs := den_vals.1 hdx
  subst hxs
  have hsl := insL_len cf l
  rcases how.2 with ⟨hn, hn0⟩ | ⟨b, cap, cur, hβ, _, hb, hnc, hcm, hcs, htk⟩
  · have hl0 : l = [] := List.eq_nil_of_length_eq_zero hn0
    subst hl0
    have hs0 : insL cf ([] : List α) = [] := List.eq_nil_of_length_eq_zero (by rw [hsl]; rfl)
    rw [hs0, hn]
    refine Calls.mono (Go.Proofs.AnyF.insertionSortCmpFunc_none L none 0 _ w) fun e w' ⟨he, hw⟩ => ?_
    subst he
    subst hw
    exact ⟨I, β, hm, trivial, fun _ _ => rfl⟩
  · have hlt : b < w.heap.size := by
      rcases Nat.lt_or_ge b w.heap.size with h | h
      · exact h
      · rw [Array.getElem?_eq_none h] at hb; cases hb
    have hblk : blk (β 1000) = some b := by rw [hβ]; rfl
    have hnI : ¬ I b := (hm.sep 1000 _ b rfl (.inl hblk)).1
    have hH : HoldsK enc k w b 0 l.toArray := by
      intro j hj
      have hj' : j < l.length * k := by simpa using hj
      have hcap : l.length * k ≤ cur.size := by rw [hcs]; exact Nat.mul_le_mul_right _ hnc
      have e1 : cur[j]? = some ((flatK enc k l.toArray)[j]!) := by
        have := congrArg (fun q => q[j]?) htk
        simp only [List.getElem?_take, hj', if_true, Array.getElem?_toList] at this
        rw [this, ← show l.toArray.toList = l from rfl, ← flatK_list enc k hk, Array.getElem?_toList, Array.getElem?_eq_getElem (by simpa using hj), getElem!_pos]
      constructor
      · simp [World.cell?, hb, Nat.zero_add, e1, id]
      · simp [World.frozen?, hb]
    rw [hβ]
    refine Calls.mono (Go.Proofs.AnyQ.insertionSortCmpFunc L k aE zE enc hk h1 cf g #[] b 0 cap 0 l.length l.toArray w eg (cmpLays_of enc k cf hcf hm.gl hm.im hnI _) hH hlt (Nat.zero_le _) (by simp) (by simpa using hl)) fun e w' ⟨he, n, os, hw⟩ => ?_
    subst he
    generalize hd' : Sort.insertionSort (Go.Proofs.ltOf cf) l.toArray 0 l.length = d' at hw
    have hsd : insL cf l = d'.toList := by rw [insL, hd']
    have hsz' : d'.size = l.length := by rw [← hsl, hsd]; simp
    subst hw
    have hown := sortW_own enc k hk w b n d' os hb (by rw [hsz']; exact hnc) hcm hcs
    have hkp : Kept w I (Go.Proofs.sortWorldK enc k w b 0 n d' os) I := ⟨fun _ h => h, fun m hm' => sortW_heap enc k w b n d' os m (hm.im m hm') (fun e => hnI (e ▸ hm'))⟩
    refine ⟨I, β, ⟨fun j c hj => ?_, fun j c m hj hm' => ?_, fun i j c c' m hi hj => ?_, fun m hm' => Nat.lt_of_lt_of_le (hm.im m hm') (sortW_size enc k w b n d' os), hm.inew, hm.kept.trans hkp, fun m hm' hF => ?_, sortW_size enc k w b n d' os, rfl, rfl, rfl, ?_, hm.gl⟩, trivial, fun _ _ => rfl⟩
    · have hj1 : j = 1000 ∧ c = .row (ρ.t 24) k l.length (rowV enc (insL cf l)) := by
        simp only [getB] at hj
        split at hj
        · rename_i e; cases hj; exact ⟨by simpa using e.symm, rfl⟩
        · cases hj
      obtain ⟨rfl, rfl⟩ := hj1
      rw [hβ, hsd, ← hsz']
      refine ⟨_, hown, den_vals.2 rfl, fun u hu => ?_⟩
      rw [List.mem_flatMap] at hu
      obtain ⟨x, _, hx⟩ := hu
      exact h1 x u hx
    · have hj1 : j = 1000 := by
        simp only [getB] at hj
        split at hj
        · rename_i e; simpa using e.symm
        · cases hj
      subst hj1
      exact hm.sep 1000 _ m rfl hm'
    · have hi1 : i = 1000 := by
        simp only [getB] at hi
        split at hi
        · rename_i e; simpa using e.symm
        · cases hi
      have hj1 : j = 1000 := by
        simp only [getB] at hj
        split at hj
        · rename_i e; simpa using e.symm
        · cases hj
      intro _ _
      rw [hi1, hj1]
    · refine sortW_heap enc k w b n d' os m hm' fun e => hF ?_
      subst e
      exact ⟨1000, _, rfl, .inl hblk⟩
    · show w.drawn ≤ w.drawn + n
      exact Nat.le_add_right _ _
end
end Go.Xe
