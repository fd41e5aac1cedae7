/-
  Joined texts.
-/
import Derived.Test.YtjjaabidbeoomaaGreatDoorK4
import Derived.Shelf.SlSortCmp.WholeK
import Derived.Shelf.SlSortCmp.NoneTotal
import Derived.RangeFuncLeaves
import Derived.RangeFuncSeq
import Derived.RangeFuncOwn
set_option linter.unusedVariables false
set_option linter.unusedSimpArgs false
set_option linter.unusedSectionVars false
/-
  The engine: the library's sort of a row, by the kit's contract.
-/
set_option linter.unusedSectionVars false
set_option linter.unusedVariables false
set_option linter.unusedSimpArgs false
namespace Go.Xe
open Go.RowKit Go.Sort Go.Shelf
variable [Glob]

section
variable {α : Type} [Inhabited α]
/-- A row's cells: plain values. -/
def rowV (enc : α → List Value) (l : List α) : List AV := (l.flatMap enc).map fun v => .d (.v v)
/-- What the library's sort makes of a list. -/
def srtL (cf : α → α → Int) (l : List α) : List α := (pdq (Go.Proofs.ltOf cf) l.toArray 0 l.toArray.size (Lib.bitLen l.toArray.size) true true).toList
theorem srtL_ok {cf : α → α → Int} (hO : SWO (Go.Proofs.ltOf cf)) (l : List α) : (srtL cf l).Perm l ∧ (srtL cf l).Pairwise fun a b => Go.Proofs.ltOf cf b a = false := by
  obtain ⟨⟨h1, _, h2⟩, h3⟩ := pdq_sorts (Go.Proofs.ltOf cf) hO l.toArray 0 l.toArray.size (Lib.bitLen l.toArray.size) true true (Nat.zero_le _) (Nat.le_refl _) (Or.inl rfl)
  unfold srtL
  generalize pdq (Go.Proofs.ltOf cf) l.toArray 0 l.toArray.size (Lib.bitLen l.toArray.size) true true = d at *
  constructor
  · have e1 : (d.extract 0 l.toArray.size) = d := by rw [← h1]; simp
    have e2 : (l.toArray.extract 0 l.toArray.size) = l.toArray := by simp
    rw [e1, e2] at h2
    simpa using h2
  · rw [List.pairwise_iff_getElem]
    intro i j hi hj hij
    have hj' : j < d.size := by simpa using hj
    have hi' : i < d.size := by omega
    have := h3 i j (Nat.zero_le _) hij (by omega)
    rw [getElem!_pos d j hj', getElem!_pos d i hi'] at this
    simpa using this
theorem srtL_len (cf : α → α → Int) (hO : SWO (Go.Proofs.ltOf cf)) (l : List α) : (srtL cf l).length = l.length := (srtL_ok hO l).1.length_eq

theorem flatMap_at (enc : α → List Value) (k : Nat) (hk : ∀ x, (enc x).length = k) : ∀ (l : List α) (t : Nat), t < l.length * k → (l.flatMap enc)[t]? = some ((enc l[t / k]!)[t % k]!)
  | [], t, h => by simp at h
  | x :: l, t, h => by
    have k0 : 0 < k := by rcases Nat.eq_zero_or_pos k with h0 | h0; · subst h0; simp at h
                          · exact h0
    rw [List.flatMap_cons]
    by_cases ht : t < k
    · rw [List.getElem?_append_left (by rw [hk]; exact ht), Nat.div_eq_of_lt ht, Nat.mod_eq_of_lt ht]
      have hx : t < (enc x).length := by rw [hk]; exact ht
      rw [List.getElem?_eq_getElem hx]
      simp [hx]
    · rw [List.getElem?_append_right (by rw [hk]; omega), hk]
      have hu : t - k < l.length * k := by rw [List.length_cons, Nat.succ_mul] at h; omega
      rw [flatMap_at enc k hk l (t - k) hu]
      have e1 : t / k = (t - k) / k + 1 := by
        rw [Nat.div_eq_sub_div k0 (by omega)]
      have e2 : t % k = (t - k) % k := by rw [Nat.mod_eq_sub_mod (by omega)]
      rw [e1, e2]
      simp
theorem flatMap_len (enc : α → List Value) (k : Nat) (hk : ∀ x, (enc x).length = k) : ∀ (l : List α), (l.flatMap enc).length = l.length * k
  | [] => by simp
  | x :: l => by rw [List.flatMap_cons, List.length_append, hk, flatMap_len enc k hk l, List.length_cons, Nat.succ_mul, Nat.add_comm]
theorem flatK_list (enc : α → List Value) (k : Nat) (hk : ∀ x, (enc x).length = k) (d : Array α) : (flatK enc k d).toList = d.toList.flatMap enc := by
  refine List.ext_getElem? fun t => ?_
  by_cases h : t < d.size * k
  · rw [flatMap_at enc k hk d.toList t (by simpa using h), Array.getElem?_toList, Array.getElem?_eq_getElem (by simpa using h)]
    have := get_flatK enc k d t h
    rw [getElem!_pos _ t (by simpa using h)] at this
    rw [this]
    have hd : d[t / k]! = d.toList[t / k]! := by simp [Array.getElem!_eq_getD, Array.getD_eq_getD_getElem?]
    rw [hd]
  · rw [List.getElem?_eq_none (by simp; omega), List.getElem?_eq_none (by rw [flatMap_len enc k hk]; simp; omega)]
theorem den_vals {w : World} {I : Nat → Prop} {β : Nat → Value} : ∀ {vs xs : List Value}, DenAs w I β (vs.map fun v => AV.d (.v v)) xs ↔ xs = vs
  | [], xs => Iff.rfl
  | v :: vs, xs => by
    constructor
    · rintro ⟨u, us, rfl, h1, h2⟩
      rw [DenA_v] at h1
      rw [h1, den_vals.1 h2]
    · rintro rfl
      exact ⟨_, _, rfl, DenA_v.2 rfl, den_vals.2 rfl⟩

/-- The sort's worlds: block 'b' turned, blocks grown, the tape read on. -/
theorem sortW_heap (enc : α → List Value) (k : Nat) (w : World) (b n : Nat) (d : Array α) (os : Array Obj) (i : Nat) (hi : i < w.heap.size) (hne : i ≠ b) : (Go.Proofs.sortWorldK enc k w b 0 n d os).heap[i]? = w.heap[i]? := by
  simp only [Go.Proofs.sortWorldK, grow, putRowK, putRow, mapBlock, ahead]
  rw [Array.getElem?_append_left (by simpa using hi), Array.getElem?_modify, if_neg (Ne.symm hne)]
  rfl
theorem sortW_size (enc : α → List Value) (k : Nat) (w : World) (b n : Nat) (d : Array α) (os : Array Obj) : w.heap.size ≤ (Go.Proofs.sortWorldK enc k w b 0 n d os).heap.size := by
  simp only [Go.Proofs.sortWorldK, grow, putRowK, putRow, mapBlock, ahead]
  simp
theorem sortW_own (enc : α → List Value) (k : Nat) (hk : ∀ x, (enc x).length = k) (w : World) (b n : Nat) (d : Array α) (os : Array Obj) {T : TypeId} {cap : Nat} {cur : Array Value} (hb : w.heap[b]? = some (.cells cur T (0, 0))) (hnc : d.size ≤ cap) (hcm : cap ≤ maxLen)
    (hcs : cur.size = cap * k) : (Go.Proofs.sortWorldK enc k w b 0 n d os).ownsRow 0 T k (.slice (some ⟨b, 0, none⟩) d.size cap) d.size (d.toList.flatMap enc) := by
  have hlt : b < w.heap.size := by
    rcases Nat.lt_or_ge b w.heap.size with h | h
    · exact h
    · rw [Array.getElem?_eq_none h] at hb; cases hb
  have hdk : d.size * k ≤ cur.size := by rw [hcs]; exact Nat.mul_le_mul_right _ hnc
  refine ⟨by rw [flatMap_len enc k hk]; simp, .inr ⟨b, cap, putCells id 0 (flatK enc k d) cur, rfl, Nat.zero_le _, ?_, hnc, hcm, by simp [putCells, hcs], ?_⟩⟩
  · simp only [Go.Proofs.sortWorldK, grow, putRowK, putRow, mapBlock, ahead]
    rw [Array.getElem?_append_left (by simpa using hlt), Array.getElem?_modify, if_pos rfl, show (Go.Sort.ahead w n).heap = w.heap from rfl, hb]
    rfl
  · rw [← flatK_list enc k hk]
    refine List.ext_getElem? fun t => ?_
    rw [List.getElem?_take]
    by_cases h : t < d.size * k
    · rw [if_pos h, Array.getElem?_toList, Array.getElem?_toList, Array.getElem?_eq_getElem (by simp [putCells]; omega), Array.getElem?_eq_getElem (by simpa using h)]
      congr 1
      simp only [putCells, Array.getElem_mapIdx, Nat.zero_le, Nat.zero_add, size_flatK, h, and_self, if_true, Nat.sub_zero, id]
      rw [getElem!_pos _ t (by simpa using h)]
    · rw [if_neg h, Array.getElem?_toList, Array.getElem?_eq_none (by simp; omega)]

/-- A closure's contract, in every world of the sort's. -/
theorem cmpLays_of {P : Program} {g : FuncId} (enc : α → List Value) (k : Nat) (cf : α → α → Int) (hcf : ∀ x y, Fn0 P g [.agg ((enc x).map .v), .agg ((enc y).map .v)] (.v (.int .i64 (cf x y))))
    {w : World} {I : Nat → Prop} (hgl : Gl w I) (him : ∀ n, I n → n < w.heap.size) {b : Nat} (hb : ¬ I b) (size : Nat) : Go.Proofs.CmpLays P g #[] enc k cf b 0 size w := by
  intro m os dk _ x y
  generalize hW : Go.Proofs.sortWorldK enc k w b 0 m dk os = W
  have hk : Kept w I W I := ⟨fun _ h => h, fun n hn => by rw [← hW]; exact sortW_heap enc k w b m dk os n (him n hn) (fun e => hb (e ▸ hn))⟩
  have hsz : w.heap.size ≤ W.heap.size := by rw [← hW]; exact sortW_size enc k w b m dk os
  have hm : Mem W I (Fp [] fun _ => undef) [] I (fun _ => undef) W :=
    ⟨fun k b h => (by cases h), fun k b n h => (by cases h), fun k j b c n h => (by cases h), fun n h => Nat.lt_of_lt_of_le (him n h) hsz, fun n h => .inl h, .refl W _, fun _ _ _ => rfl, Nat.le_refl _, rfl, rfl, rfl, Nat.le_refl _, hgl.mono hk⟩
  have hv : ∀ vs : List Value, Dens W I (vs.map .v) vs := fun vs => by
    induction vs with
    | nil => rfl
    | cons v vs ih => exact ⟨_, _, rfl, rfl, ih⟩
  have hd : DenAs W I (fun _ => undef) ([D.agg ((enc x).map .v), .agg ((enc y).map .v)].map .d) [.agg (enc x).toArray, .agg (enc y).toArray] :=
    ⟨_, _, rfl, ⟨_, rfl, hv _⟩, _, _, rfl, ⟨_, rfl, hv _⟩, rfl⟩
  have hc := hcf x y W I (fun _ => undef) _ hm hd
  refine Calls.mono hc fun e w' he => ?_
  cases e with
  | returned v =>
    obtain ⟨I', β', h1, h2, _⟩ := he
    rw [DenA_v] at h2
    subst h2
    refine ⟨rfl, w'.drawn - W.drawn, w'.heap.extract W.heap.size w'.heap.size, ?_⟩
    have hh : w'.heap = W.heap ++ w'.heap.extract W.heap.size w'.heap.size := by
      apply Array.ext_getElem?
      intro i
      by_cases hi : i < W.heap.size
      · rw [Array.getElem?_append_left hi]
        exact h1.fr i hi (by rintro ⟨k, b, hb, _⟩; cases hb)
      · rw [Array.getElem?_append_right (by omega)]
        by_cases hi2 : i < w'.heap.size
        · rw [Array.getElem?_eq_getElem hi2, Array.getElem?_eq_getElem (by simp; omega)]
          simp
          congr 1
          omega
        · rw [Array.getElem?_eq_none (by omega), Array.getElem?_eq_none (by simp; omega)]
    have hdr := h1.dr
    cases w' with
    | mk heap tape drawn os output =>
      have a1 := h1.os
      have a2 := h1.tape
      have a3 := h1.out
      simp only at a1 a2 a3 hh hdr
      subst a1; subst a2; subst a3
      simp only [grow, World.drewN]
      rw [← hh, show W.drawn + (drawn - W.drawn) = drawn by omega]
  | panicked ch => exact he.1.elim
  | outgrown => exact he.elim

/-- slices.SortFunc of a row of aggregates, plain values all. -/
theorem Fun.sortFunc {P : Program} {ρ : Ren} (L : Go.Proofs.SlLaysF0.n6 P ρ) (k : Nat) (aE : ∀ w, (isAgg (ρ.t 24)).run P w = .ok true w) (zE : ∀ w, (Go.sizeOf (ρ.t 24)).run P w = .ok k w) (enc : α → List Value) (hk : ∀ x, (enc x).length = k)
    (h1 : ∀ x, ∀ v ∈ enc x, v.oneCell' = true) (cf : α → α → Int) (hO : SWO (Go.Proofs.ltOf cf)) {g : FuncId} (eg : ∀ args w, (callFunc g args).run P w = .ok (.enter g args) w)
    (hcf : ∀ x y, Fn0 P g [.agg ((enc x).map .v), .agg ((enc y).map .v)] (.v (.int .i64 (cf x y)))) (l : List α) (hl : l.length < 4611686018427387904) :
    Fun P (ρ.f 6) [.row 1000, .d (.v (.func (.func g) #[] #[]))] [(1000, .row (ρ.t 24) k l.length (rowV enc l))] (.d .any) [(1000, .row (ρ.t 24) k l.length (rowV enc (srtL cf l)))] fun _ => False := by
  intro w I β vs hm hd
  obtain ⟨v, vs', rfl, hv, fv, vs'', rfl, hfv, hnil⟩ := hd
  rw [DenA_v] at hfv
  subst hfv
  rw [DenA] at hv
  obtain ⟨rfl, _⟩ := hv
  have hnil : vs'' = [] := hnil
  subst hnil
  obtain ⟨xs, how, hdx, hox⟩ := hm.bxs 1000 _ rfl
  have hxs := den_vals.1 hdx
  subst hxs
  have hsl := srtL_len cf hO l
  rcases how.2 with ⟨hn, hn0⟩ | ⟨b, cap, cur, hβ, _, hb, hnc, hcm, hcs, htk⟩
  · have hl0 : l = [] := List.eq_nil_of_length_eq_zero hn0
    subst hl0
    have hs0 : srtL cf ([] : List α) = [] := List.eq_nil_of_length_eq_zero (by rw [hsl]; rfl)
    rw [hs0, hn]
    refine Calls.mono (Go.Proofs.AnyF.slices_SortFunc_none L none 0 _ w) fun e w' ⟨he, hw⟩ => ?_
    subst he
    subst hw
    exact ⟨I, β, hm, trivial, fun _ _ => rfl⟩
  · have hlt : b < w.heap.size := by
      rcases Nat.lt_or_ge b w.heap.size with h | h
      · exact h
      · rw [Array.getElem?_eq_none h] at hb; cases hb
    have hblk : blk (β 1000) = some b := by rw [hβ]; rfl
    have hnI : ¬ I b := (hm.sep 1000 _ b rfl (.inl hblk)).1
    have hH : HoldsK enc k w b 0 l.toArray := by
      intro j hj
      have hj' : j < l.length * k := by simpa using hj
      have hcap : l.length * k ≤ cur.size := by rw [hcs]; exact Nat.mul_le_mul_right _ hnc
      have e1 : cur[j]? = some ((flatK enc k l.toArray)[j]!) := by
        have := congrArg (fun q => q[j]?) htk
        simp only [List.getElem?_take, hj', if_true, Array.getElem?_toList] at this
        rw [this, ← show l.toArray.toList = l from rfl, ← flatK_list enc k hk, Array.getElem?_toList, Array.getElem?_eq_getElem (by simpa using hj), getElem!_pos]
      constructor
      · simp [World.cell?, hb, Nat.zero_add, e1, id]
      · simp [World.frozen?, hb]
    rw [hβ]
    refine Calls.mono (Go.Proofs.AnyQ.slices_SortFunc_eq L k aE zE enc hk h1 cf hO g #[] b 0 cap l.toArray w eg (cmpLays_of enc k cf hcf hm.gl hm.im hnI _) hH hlt (by simpa using hl)) fun e w' ⟨he, n, os, hw⟩ => ?_
    subst he
    generalize hd' : pdq (Go.Proofs.ltOf cf) l.toArray 0 l.toArray.size (Lib.bitLen l.toArray.size) true true = d' at hw
    have hsd : srtL cf l = d'.toList := by rw [srtL, hd']
    have hsz' : d'.size = l.length := by rw [← hsl, hsd]; simp
    subst hw
    have hown := sortW_own enc k hk w b n d' os hb (by rw [hsz']; exact hnc) hcm hcs
    have hkp : Kept w I (Go.Proofs.sortWorldK enc k w b 0 n d' os) I := ⟨fun _ h => h, fun m hm' => sortW_heap enc k w b n d' os m (hm.im m hm') (fun e => hnI (e ▸ hm'))⟩
    refine ⟨I, β, ⟨fun j c hj => ?_, fun j c m hj hm' => ?_, fun i j c c' m hi hj => ?_, fun m hm' => Nat.lt_of_lt_of_le (hm.im m hm') (sortW_size enc k w b n d' os), hm.inew, hm.kept.trans hkp, fun m hm' hF => ?_, sortW_size enc k w b n d' os, rfl, rfl, rfl, ?_, hm.gl⟩, trivial, fun _ _ => rfl⟩
    · have hj1 : j = 1000 ∧ c = .row (ρ.t 24) k l.length (rowV enc (srtL cf l)) := by
        simp only [getB] at hj
        split at hj
        · rename_i e; cases hj; exact ⟨by simpa using e.symm, rfl⟩
        · cases hj
      obtain ⟨rfl, rfl⟩ := hj1
      rw [hβ, hsd, ← hsz']
      refine ⟨_, hown, den_vals.2 rfl, fun u hu => ?_⟩
      rw [List.mem_flatMap] at hu
      obtain ⟨x, _, hx⟩ := hu
      exact h1 x u hx
    · have hj1 : j = 1000 := by
        simp only [getB] at hj
        split at hj
        · rename_i e; simpa using e.symm
        · cases hj
      subst hj1
      exact hm.sep 1000 _ m rfl hm'
    · have hi1 : i = 1000 := by
        simp only [getB] at hi
        split at hi
        · rename_i e; simpa using e.symm
        · cases hi
      have hj1 : j = 1000 := by
        simp only [getB] at hj
        split at hj
        · rename_i e; simpa using e.symm
        · cases hj
      intro _ _
      rw [hi1, hj1]
    · refine sortW_heap enc k w b n d' os m hm' fun e => hF ?_
      subst e
      exact ⟨1000, _, rfl, .inl hblk⟩
    · show w.drawn ≤ w.drawn + n
      exact Nat.le_add_right _ _
end
end Go.Xe

/-
  The engine, part Zg. What slices.Grow does to a nil slice: its capacity, a part of it, zeros appended; a part of a row from its beginning.
-/
set_option linter.unusedVariables false
set_option linter.unusedSimpArgs false
set_option linter.unusedSectionVars false
namespace Go.Xe
open Go.RowKit
variable [Glob]

theorem mem_zeroCells {z : Array Value} {m : Nat} (h0 : 0 < z.size) {u : Value} (h : u ∈ (Builtin.zeroCells z m).toList) : u ∈ z.toList := by
  simp only [Builtin.zeroCells, Array.toList_map, List.mem_map] at h
  obtain ⟨i, _, rfl⟩ := h
  have hlt : i % z.size < z.size := Nat.mod_lt _ h0
  rw [getElem!_pos z _ hlt]
  exact Array.mem_toList_iff.2 (Array.getElem_mem hlt)

/-- A row from its beginning up to there: the same block. -/
theorem LCore.sliceRow {P : Program} {τ : Tab} (hτ : TabOk P τ) {ds : Dn} {pn : Pn} {o : Oper} {S : St} {T E : TypeId} {x y : Operand} {sz1 b1 : Nat} {z1 : List Value} {te : TE} {kx : IntKind} (ho : o.op = .slice T x none (some y) none) (ht : τ T = some ⟨.slice E, sz1, b1, z1⟩) (hte : τ E = some te)
    {j k : Nat} (hx : S.ev x = .row j) {n : Nat} {cs : List AV} (hb : getB S.bx j = some (.row E te.size n cs)) (hn : 0 < n) {m : Nat} (hm : m ≤ n) (hy : S.ev y = .d (.v (.int kx m))) (hk0 : S.has k = false) :
    LCore P ds pn o S ⟨.row k, [j], [], [(k, .row E te.size m (cs.take (m * te.size)))]⟩ [j] := by
  intro S1 hs hf
  have ex := hs.1 x (by simp [ho, Op.operands])
  have ey := hs.1 y (by simp [ho, Op.operands])
  rw [← ex] at hx
  rw [← ey] at hy
  obtain ⟨d, hu, hk⟩ := (hτ T _ ht).und
  simp only [TK.ok] at hk
  subst hk
  have hk0 : S1.has k = false := hf _ (List.mem_singleton.2 rfl)
  have hk1 := St.has_sl' hk0
  have hb1 := (hs.2.2 j (by simp)).trans hb
  refine Core.world fun w0 I0 F I β a w hr => ?_
  obtain ⟨xs, how, hdx, hox⟩ := hr.mem.bxs j _ hb1
  have hv := hr.ev x
  rw [hx, DenA] at hv
  obtain ⟨hl, how2⟩ := how
  rcases how2 with ⟨_, h0⟩ | ⟨g, cap, cur, hyv, hz0, hg, hnc, hcm, hcs, htk⟩
  · omega
  have hbd := run_bounds2 (P := P) (isS := true) (n := n) (cap := cap) (lo := none) (hi := some y) hr rfl (h := m) (by show intA (S1.ev y) = _; rw [hy]; rfl) (Int.le_refl _) (by omega) (by omega)
  simp only [Option.map_none, Option.map_some] at hbd
  have hown : w.ownsRow 0 E te.size (β j) n xs := ⟨hl, .inr ⟨g, cap, cur, hyv, hz0, hg, hnc, hcm, hcs, htk⟩⟩
  have hxe : a.eval x = .slice (some ⟨g, 0, none⟩) n cap := by rw [hv.1]; exact hyv
  refine ⟨.slice (some ⟨g, 0, none⟩) m cap, w, I, upd β k (.slice (some ⟨g, 0, none⟩) m cap), ?_, hr.appended (v := β j) hk0 (us := xs.take (m * te.size)) ⟨⟨rfl, rfl, rfl, Nat.le_refl _, fun _ _ _ => rfl⟩, Nat.le_refl _⟩ (.inl (by rw [hyv]; rfl)) ⟨_, _, _, rfl⟩ (.inr ⟨j, _, rfl, hb1, rfl, blk_own hown⟩) ⟨?_, .inr ⟨g, cap, cur, rfl, hz0, hg, by omega, hcm, hcs, ?_⟩⟩ (hdx.take _) (fun u hu => hox u (List.mem_of_mem_take hu)) ?_ o.dst⟩
  · simp [execOp, ho, Instr.sliceAt, Instr.slice, hxe, run_underlying hu, hbd, (hτ E te hte).size]
    intro _; simp [Addr.add_lit]
  · rw [List.length_take, hl]; exact Nat.min_eq_left (Nat.mul_le_mul_right _ hm)
  · rw [← htk, List.take_take, Nat.min_eq_left (Nat.mul_le_mul_right _ hm)]
  · have h5 := (hasB_get hk1.2).2 j _ hb1
    simp only [Box.cs] at h5
    have h6 : ∀ (q : Nat) (l : List AV), AV.hasL k l = false → AV.hasL k (l.take q) = false := fun q => by
      induction q with
      | zero => intro l _; simp [AV.hasL]
      | succ q ih =>
        intro l h
        cases l with
        | nil => rfl
        | cons c l =>
          rw [AV.hasL, Bool.or_eq_false_iff] at h
          rw [List.take_succ_cons, AV.hasL, h.1, ih l h.2]; rfl
    exact h6 _ _ h5
theorem vcStop.sliceRow {P : Program} {τ : Tab} (hτ : TabOk P τ) {ds : Dn} {pn : Pn} {o : Oper} {S : St} {acc : List TI} {rest : St → List TI → Prop} {T E : TypeId} {x y : Operand} {sz1 b1 : Nat} {z1 : List Value} {te : TE} {kx : IntKind} (ho : o.op = .slice T x none (some y) none) (ht : τ T = some ⟨.slice E, sz1, b1, z1⟩) (hte : τ E = some te)
    {j k : Nat} (hx : S.ev x = .row j) {n : Nat} {cs : List AV} (hb : getB S.bx j = some (.row E te.size n cs)) (hn : 0 < n) {m : Nat} (hm : m ≤ n) (hy : S.ev y = .d (.v (.int kx m))) (hk0 : S.has k = false)
    (h : rest (S.app o.dst ⟨.row k, [j], [], [(k, .row E te.size m (cs.take (m * te.size)))]⟩) (⟨⟨.row k, [j], [], [(k, .row E te.size m (cs.take (m * te.size)))]⟩, [j]⟩ :: acc)) : vcStop P ds pn o rest S acc :=
  ⟨_, _, LCore.sliceRow hτ ho ht hte hx hb hn hm hy hk0, ⟨hk0, trivial⟩, h⟩
end Go.Xe

/-
  The engine, part Rf. A range over a function: calls of yield, and how a function ends that has run such a range.
-/
set_option linter.unusedVariables false
set_option linter.unusedSimpArgs false
set_option linter.unusedSectionVars false
namespace Go.Xe
open Go.RowKit
variable [Glob]

theorem Blk.of_bundle {vs : List Value} {n : Nat} : Blk (.tuple vs.toArray) n ↔ ∃ v ∈ vs, blk v = some n := by
  constructor
  · rintro (h | ⟨us, e, v, hv, h⟩)
    · cases h
    · cases e; exact ⟨v, by simpa using hv, h⟩
  · rintro ⟨v, hv, h⟩
    exact .inr ⟨_, rfl, v, by simpa using hv, h⟩

/-! ### how a function ends that has run such a range -/
/-- The marks' blocks are there, in boxes that the function does not hand over. -/
def marksOk (bx bo : Bxs) : List Nat → List Nat → Prop
  | [], [] => True
  | D :: df, k :: ks => getB bx k = some (.obj D (.deferred (some []))) ∧ getB bo k = none ∧ k ∉ ks ∧ marksOk bx bo df ks
  | _, _ => False
def finQR (τ : Tab) (rs : List ResultVar) (res : AV) (bo : Bxs) (e : Exit) (S : Kp2 (τ, rs) (res, bo)) : Prop :=
  (e = .normal ∨ e = .ret) ∧ ∃ S', Wk S S' ∧ finS τ rs res bo S' ∧ ∃ ks, marksOk S'.bx bo S'.df ks

end Go.Xe

/-
  The engine, part Rg. A range over a function: the bundle of the loop's boxes; a round.
-/
set_option linter.unusedVariables false
set_option linter.unusedSimpArgs false
set_option linter.unusedSectionVars false
namespace Go.Xe
open Go.RowKit
variable [Glob]

def bundleL (γ : Nat → Value) (bx : Bxs) (D L : Nat) : List Value := (bx.map fun p => γ p.1) ++ [Value.pointer (some ⟨D, 0, none⟩), Value.pointer (some ⟨L, 0, none⟩)]
def bundle (γ : Nat → Value) (bx : Bxs) (D L : Nat) : Value := .tuple (bundleL γ bx D L).toArray
/-- A loop's bundle: its boxes, the block for deferred calls, the loop's record; and what the slots held ahead of the loop. -/
structure Pack (β0 : Nat → Value) (D L : Nat) (sl0 : List AV) (bx : Bxs) (rec : Loop) (y : Value) (w : World) (I : Nat → Prop) (γ : Nat → Value) : Prop where
  fx : ∀ k, 1000 ≤ k → γ k = β0 k
  y : y = bundle γ bx D L
  bxs : ∀ k b, getB bx k = some b → BoxRel w I γ (γ k) b
  inj : ∀ k j b c n, getB bx k = some b → getB bx j = some c → Blk (γ k) n → Blk (γ j) n → k = j
  ap : ∀ k b n, getB bx k = some b → Blk (γ k) n → n ≠ D ∧ n ≠ L
  ne : D ≠ L
  hD : w.heap[D]? = some (.deferred (some []))
  hL : w.heap[L]? = some (.loop rec)
  sl : DenAs w I γ sl0 rec.tmps.toList
def packP (β0 : Nat → Value) (D L : Nat) (sl0 : List AV) (bx : Bxs) (rec : Loop) (y : Value) (w : World) (I : Nat → Prop) : Prop := ∃ γ, Pack β0 D L sl0 bx rec y w I γ

/-- No bundles among them. -/
def singles (bx : Bxs) : Prop := ∀ k b, getB bx k = some b → b.single = true
theorem getB_mem {bx : Bxs} {p : Nat × Box} (h : p ∈ bx) : ∃ b, getB bx p.1 = some b := by
  induction bx with
  | nil => cases h
  | cons q r ih =>
    obtain ⟨k, b⟩ := q
    simp only [getB]
    split
    · exact ⟨_, rfl⟩
    · rename_i hne
      rcases List.mem_cons.1 h with rfl | h
      · exact absurd rfl hne
      · exact ih h

section
variable {β0 : Nat → Value} {D L : Nat} {sl0 : List AV} {bx : Bxs} {rec : Loop} {y : Value} {w w' : World} {I I' : Nat → Prop} {γ : Nat → Value}

theorem Pack.blk (h : Pack β0 D L sl0 bx rec y w I γ) (hs : singles bx) (n : Nat) : Blk y n ↔ (∃ k b, getB bx k = some b ∧ Blk (γ k) n) ∨ n = D ∨ n = L := by
  rw [h.y, bundle, Blk.of_bundle, bundleL]
  constructor
  · rintro ⟨v, hv, hn⟩
    simp only [List.mem_append, List.mem_map, List.mem_cons, List.not_mem_nil, or_false] at hv
    rcases hv with ⟨p, hp, rfl⟩ | rfl | rfl
    · obtain ⟨b, hb⟩ := getB_mem hp
      exact .inl ⟨p.1, b, hb, .inl hn⟩
    · simp only [Go.Xe.blk, Option.some.injEq] at hn; exact .inr (.inl hn.symm)
    · simp only [Go.Xe.blk, Option.some.injEq] at hn; exact .inr (.inr hn.symm)
  · rintro (⟨k, b, hb, hn⟩ | rfl | rfl)
    · exact ⟨γ k, by simp only [List.mem_append, List.mem_map]; exact .inl ⟨(k, b), mem_of_getB hb, rfl⟩, (h.bxs k b hb).blk (hs k b hb) hn⟩
    · exact ⟨.pointer (some ⟨n, 0, none⟩), by simp, rfl⟩
    · exact ⟨.pointer (some ⟨n, 0, none⟩), by simp, rfl⟩
theorem Pack.mono (h : Pack β0 D L sl0 bx rec y w I γ) (hs : singles bx) (hk : Kept w I w' I') (hb : ∀ n, Blk y n → w'.heap[n]? = w.heap[n]?) : Pack β0 D L sl0 bx rec y w' I' γ :=
  ⟨h.fx, h.y, fun k b hkb => (h.bxs k b hkb).mono hk (fun _ _ => rfl) (fun n hn => hb n ((h.blk hs n).2 (.inl ⟨k, b, hkb, hn⟩))), h.inj, h.ap, h.ne, (hb D ((h.blk hs D).2 (.inr (.inl rfl)))).trans h.hD,
    (hb L ((h.blk hs L).2 (.inr (.inr rfl)))).trans h.hL, DenAs.mono hk _ _ (fun _ _ => rfl) h.sl⟩
theorem Pack.open {β : Nat → Value} (h : BoxRel w I β y (.opq (packP β0 D L sl0 bx rec))) (hs : singles bx) : ∃ γ, Pack β0 D L sl0 bx rec y w I γ := by
  obtain ⟨w1, I1, ⟨γ, hp⟩, hk, hb⟩ := h
  exact ⟨γ, hp.mono hs hk fun n hn => (hb n hn).2⟩
theorem Pack.lt (h : Pack β0 D L sl0 bx rec y w I γ) (hs : singles bx) {n : Nat} (hn : Blk y n) : n < w.heap.size := by
  rcases (h.blk hs n).1 hn with ⟨k, b, hb, hn⟩ | rfl | rfl
  · exact (h.bxs k b hb).lt hn
  · exact (Array.getElem?_eq_some_iff.1 h.hD).1
  · exact (Array.getElem?_eq_some_iff.1 h.hL).1
theorem Pack.box {β : Nat → Value} (h : Pack β0 D L sl0 bx rec y w I γ) (hs : singles bx) : BoxRel w I β y (.opq (packP β0 D L sl0 bx rec)) :=
  ⟨w, I, ⟨γ, h⟩, .refl w I, fun _ hn => ⟨h.lt hs hn, rfl⟩⟩
end

theorem Fp.one {k : Nat} {b : Box} {β : Nat → Value} {n : Nat} : Fp [(k, b)] β n ↔ Blk (β k) n := by
  constructor
  · rintro ⟨j, c, h, hn⟩
    simp only [getB] at h
    split at h
    · rename_i e; subst e; exact hn
    · cases h
  · intro h; exact ⟨k, b, by simp [getB], h⟩

/-- More may turn. -/
theorem Mem.wide {w0 : World} {I0 F F' : Nat → Prop} {bx : Bxs} {I : Nat → Prop} {β : Nat → Value} {w : World} (h : Mem w0 I0 F bx I β w) (hF : ∀ n, F n → F' n) : Mem w0 I0 F' bx I β w :=
  ⟨h.bxs, fun k b n hk hn => ⟨(h.sep k b n hk hn).1, (h.sep k b n hk hn).2.imp (hF n) id⟩, h.inj, h.im, fun n hn => (h.inew n hn).imp id (Or.imp (hF n) id), h.kept, fun n hn hf => h.fr n hn fun h => hf (hF n h), h.sz, h.os, h.tape, h.out, h.dr, h.gl⟩

/-- The slots of a round: the parameters hold what yield was handed. -/
def setP : List AV → List Tmp → List AV → List AV
  | sl, p :: ps, x :: xs => setP (sl.set p x) ps xs
  | sl, _, _ => sl
theorem DenAs.setP {w : World} {I : Nat → Prop} {β : Nat → Value} : ∀ (ps : List Tmp) {xs : List AV} {vs : List Value} {sl : List AV} {t : Array Value}, DenAs w I β sl t.toList → DenAs w I β xs vs →
    DenAs w I β (Go.Xe.setP sl ps xs) ((ps.zip vs).foldl (fun t (p, v) => t.setIfInBounds p v) t).toList
  | [], _, _, _, _, h, _ => by simpa [Go.Xe.setP] using h
  | p :: ps, [], vs, sl, t, h, hx => by rw [DenAs] at hx; subst hx; simpa [Go.Xe.setP] using h
  | p :: ps, x :: xs, _, sl, t, h, hx => by
    obtain ⟨v, vs', rfl, h1, h2⟩ := hx
    rw [Go.Xe.setP, List.zip_cons_cons, List.foldl_cons]
    refine DenAs.setP ps ?_ h2
    have := DenAs.set h1 h p
    simpa only [Array.toList_setIfInBounds] using this

/-- How a round is left. -/
def exitJ : Exit → Option (Option Code)
  | .normal => some none
  | .ret => some (some .ret)
  | .exit id => some (some (.exit id))
  | .goto t => some (some (.goto t))
  | _ => none
def rdQ (jump : Option Code) (bx : Bxs) (e : Exit) (S : Kp2 jump bx) : Prop := exitJ e = some jump ∧ ∃ S', Wk S S' ∧ ∀ k b, getB bx k = some b → getB S'.bx k = some b
theorem rdQ.mk {bx : Bxs} {e : Exit} {S S' : St} {jump : Option Code} (he : exitJ e = some jump) (hw : Wk S S') (hb : subB S'.bx bx) : rdQ jump bx e S := ⟨he, S', hw, subB_ok hb⟩

end Go.Xe

/-
  The engine, part Rh. A range over a function: the statement.
-/
set_option linter.unusedVariables false
set_option linter.unusedSimpArgs false
set_option linter.unusedSectionVars false
namespace Go.Xe
open Go.RowKit
variable [Glob]

theorem run_enterFn {P : Program} {gf : FuncId} (hb : Body P gf) (args : Array Value) (w : World) : (callFunc gf args).run P w = .ok (.enter gf args) w := by
  obtain ⟨fn, c, h1, h2, h3⟩ := hb.ok
  simp only [callFunc, Sem.run_bind, run_program, Result.andThen_ok, h1, h3, h2, Bool.false_eq_true, if_false, Option.isNone_some, Sem.run_pure]

theorem finQR.retW {τ : Tab} {rs : List ResultVar} {res : AV} {bo : Bxs} {S S' : St} (hw : Wk S S') (h : finE τ rs res bo S') (D k : Nat) (hdf : S'.df = [D]) (hk : getB S'.bx k = some (.obj D (.deferred (some [])))) (hb : getB bo k = none) : finQR τ rs res bo .ret S :=
  ⟨.inr rfl, S', hw, h.fin.fin, [k], by rw [hdf]; exact ⟨hk, hb, by simp, trivial⟩⟩
theorem finQR.retE {τ : Tab} {rs : List ResultVar} {res : AV} {bo : Bxs} {S : St} (hdf : S.df = []) (h : finE τ rs res bo S) : finQR τ rs res bo .ret S := ⟨.inr rfl, S, .refl S, h.fin.fin, [], by rw [hdf]; trivial⟩
attribute [simp] setP

end Go.Xe

/-
  The engine, part Zh. A slice written out that nobody writes any more: data at once (under a guard, too).
-/
set_option linter.unusedVariables false
set_option linter.unusedSimpArgs false
set_option linter.unusedSectionVars false
namespace Go.Xe
open Go.RowKit
variable [Glob]

/-- A new block, given up at once. -/
theorem Rel.given {dn : Dn} {w0 : World} {I0 F : Nat → Prop} {S : St} {I : Nat → Prop} {β : Nat → Value} {a : Act} {w : World} (hr : Rel dn w0 I0 F S I β a w) (o : Obj) :
    Rel dn w0 I0 F S (fun n => I n ∨ n = w.heap.size) β a (w.alloc o) ∧ Kept w I (w.alloc o) (fun n => I n ∨ n = w.heap.size) := by
  have h1 := hr.mem.world (Gb.alloc w o none) (r := none) (by simp) (bx' := S.bx) fun k b h => ⟨h, .inl rfl⟩
  have hk0 : Kept (w.alloc o) I (w.alloc o) (fun n => I n ∨ n = w.heap.size) := ⟨fun _ h => .inl h, fun _ _ => rfl⟩
  have hk : Kept w I (w.alloc o) I := ⟨fun _ h => h, fun n hn => alloc_old w o n (hr.mem.im n hn)⟩
  refine ⟨⟨⟨fun k b h => (h1.bxs k b h).mono hk0 (fun _ _ => rfl) (fun _ _ => rfl), fun k b n h hn => ⟨?_, (h1.sep k b n h hn).2⟩, h1.inj, fun n hn => ?_, fun n hn => ?_, h1.kept.trans hk0, h1.fr, h1.sz, h1.os, h1.tape, h1.out, h1.dr, h1.gl⟩,
    DenAs.mono (hk.trans hk0) _ _ (fun _ _ => rfl) hr.sl, hr.dn, hr.fx⟩, hk.trans hk0⟩
  · rintro (hI | rfl)
    · exact (h1.sep k b n h hn).1 hI
    · have := (hr.mem.bxs k b h).lt hn; omega
  · rcases hn with hn | rfl
    · exact h1.im n hn
    · rw [World.size_alloc]; omega
  · rcases hn with hn | rfl
    · exact h1.inew n hn
    · exact .inr (.inr hr.mem.sz)

theorem LCore.buildData {P : Program} {τ : Tab} (hτ : TabOk P τ) {dn : Dn} {pn : Pn} {o : Oper} {S : St} {T : TypeId} {len : Nat} {parts : Array (Nat × Operand)} (ho : o.op = .buildSlice T len parts) {E : TypeId} {te : TE} {sz1 b1 : Nat} {z1 : List Value}
    (ht : τ T = some ⟨.slice E, sz1, b1, z1⟩) (hte : τ E = some te) {ds : List D} {p : Prop} {cs : List AV} (hfa : fillA (fun i => some (i * te.size, te.size)) (constsA (List.replicate len te.zero).flatten) (parts.toList.map fun q => (q.1, S.ev q.2)) = some (p, cs)) (hcs : LeqL cs (ds.map .d))
    (hl1 : len * te.size ≤ 16777216) (hl2 : te.size ≠ 0) (hp : p) : LCore P dn pn o S ⟨.d (.sl te.size ds len false), [], [], []⟩ [] := by
  intro S1 hs hf
  have hpc := parts_congr (o := o) parts.toList hs.1 (fun q hq => by simp [ho, Op.operands]; exact ⟨q.1, by simpa using hq⟩)
  rw [hpc] at hfa
  obtain ⟨d, hu, hk⟩ := (hτ T _ ht).und
  simp only [TK.ok] at hk
  subst hk
  have tk := hτ E te hte
  refine Core.world fun w0 I0 F I β a w hr => ?_
  have hzo : ∀ v ∈ (List.replicate len te.zero).flatten, v.oneCell' = true := fun v hv => by
    simp only [List.mem_flatten, List.mem_replicate] at hv
    obtain ⟨l, ⟨_, rfl⟩, hv⟩ := hv
    exact tk.zone v hv
  obtain ⟨vs', e1, e2, e3⟩ := fillA_ok hr parts.toList (DenAs_consts (w := w) (I := I) (β := β) _) hzo hfa hp
  have hlen : vs'.length = len * te.size := by rw [fillV_length _ _ _ _ e1, setV_flat_len, tk.zlen]
  have hcap : len ≤ maxLen := by
    simp only [maxLen]
    have : len ≤ len * te.size := Nat.le_mul_of_pos_right _ (by omega)
    omega
  obtain ⟨hr2, hk2⟩ := hr.given (.cells vs'.toArray E)
  have hden := (hcs.ok e2).to_dens
  refine ⟨.slice (some ⟨w.heap.size, 0, none⟩) len len, w.alloc (.cells vs'.toArray E), _, β, ?_, hr2.put o.dst (x := .d (.sl te.size ds len false)) ?_⟩
  · obtain ⟨z, hz, hzc⟩ := tk.zero w
    have hzs : z.cells.size = te.size := by rw [← Array.length_toList, hzc, tk.zlen]
    have hbase : ((Array.range (len * te.size)).map (fun i => (if len * te.size = 0 then #[] else z.cells)[i % (if len * te.size = 0 then #[] else z.cells).size]!)).toList = (List.replicate len te.zero).flatten := by
      by_cases h0 : len * te.size = 0
      · have : len = 0 := by rcases Nat.mul_eq_zero.1 h0 with h | h; exact h; exact (hl2 h).elim
        subst this; simp
      · simp only [h0, if_false]; rw [← hzs, zeros_eq, hzc]
    have hfe := fill_eq (fun i => some (i * te.size, te.size)) (parts.toList.map fun q => (q.1, a.eval q.2)) _ vs' (by rw [hbase]; exact e1)
    simp only [execOp, ho, Instr.buildSlice, Sem.run_bind, run_underlying hu, Result.andThen_ok, tk.size w]
    rw [if_neg (by simpa using hl1)]
    by_cases h0 : len * te.size = 0
    · simp only [h0, if_true] at hfe ⊢
      simp only [Sem.run_bind, Sem.run_pure, Result.andThen_ok, Array.toList_map] at hfe ⊢
      rw [hfe]
      simp [newRow]
    · simp only [h0, if_false] at hfe ⊢
      simp only [Sem.run_bind, hz, Sem.run_pure, Result.andThen_ok, Array.toList_map] at hfe ⊢
      rw [hfe]
      simp [newRow]
  · rw [DenA, Den]
    have hdl : ds.length = len * te.size := by rw [← hlen]; exact hden.length
    refine ⟨some ⟨w.heap.size, 0, none⟩, len, rfl, Nat.le_refl _, hcap, by simp, hdl, by simp, fun ad had => ?_⟩
    cases had
    refine ⟨fun _ => rfl, DenAt.of_dens (vs := vs') (.inr rfl) (Dens.mono hk2 _ _ hden) e3 fun j v hj => ?_⟩
    rw [Nat.zero_add]
    have := cell_of_row (w.alloc (.cells vs'.toArray E)) w.heap.size j vs'.toArray E _ (heap_alloc_new w _)
    rw [this]
    simpa using hj
theorem vcStopG.buildData {P : Program} {τ : Tab} (hτ : TabOk P τ) {dn : Dn} {pn : Pn} {o : Oper} {g : Bool} {S : St} {acc : List TI} {rest : St → List TI → Prop} {T : TypeId} {len : Nat} {parts : Array (Nat × Operand)} (ho : o.op = .buildSlice T len parts) {E : TypeId} {te : TE} {sz1 b1 : Nat} {z1 : List Value}
    (ht : τ T = some ⟨.slice E, sz1, b1, z1⟩) (hte : τ E = some te) {ds : List D} {p : Prop} {cs : List AV} (hfa : fillA (fun i => some (i * te.size, te.size)) (constsA (List.replicate len te.zero).flatten) (parts.toList.map fun q => (q.1, (S.under g).ev q.2)) = some (p, cs)) (hcs : LeqL cs (ds.map .d))
    (hl1 : len * te.size ≤ 16777216) (hl2 : te.size ≠ 0) (hp : p) (h : rest (S.put o.dst (.when g (.d (.sl te.size ds len false)))) (⟨⟨.when g (.d (.sl te.size ds len false)), [], [], []⟩, []⟩ :: acc)) : vcStopG P dn pn o rest g S acc :=
  ⟨_, _, fun _ => LCore.buildData hτ ho ht hte hfa hcs hl1 hl2 hp, h⟩
end Go.Xe
