/-
  The engine, part G. Conversions, builtins, values that are put together, slices that are made and grow.
-/
import Derived.Test.YtnbanfpelgcmoaaEngF
namespace Go.Xe
open Go.RowKit

/-! ### new memory that nobody will write -/
theorem Mem.share {w0 : World} {I0 F : Nat → Prop} {bx : Bxs} {I : Nat → Prop} {β : Nat → Value} {w w' : World} (h : Mem w0 I0 F bx I β w) (hg : w.grownBy w' none) :
    Mem w0 I0 F bx (fun n => I n ∨ (w.heap.size ≤ n ∧ n < w'.heap.size)) β w' := by
  have h1 := h.world hg (r := none) (by simp) (bx' := bx) (fun k b hk => ⟨hk, .inl rfl⟩)
  have hk : Kept w' I w' (fun n => I n ∨ (w.heap.size ≤ n ∧ n < w'.heap.size)) := ⟨fun _ h => .inl h, fun _ _ => rfl⟩
  refine ⟨fun k b hkb => BoxRel.mono hk (fun _ _ => rfl) (fun _ _ => rfl) (h1.bxs k b hkb), fun k b n hkb hn => ⟨?_, (h1.sep k b n hkb hn).2⟩, h1.inj, fun n hn => ?_, fun n hn => ?_, h1.kept.trans hk, h1.fr, h1.sz, h1.os, h1.tape, h1.out⟩
  · rintro (hI | ⟨h2, _⟩)
    · exact (h1.sep k b n hkb hn).1 hI
    · have := (h.bxs k b hkb).lt hn; omega
  · rcases hn with hn | hn
    · exact h1.im n hn
    · exact hn.2
  · rcases hn with hn | hn
    · exact h1.inew n hn
    · exact .inr (.inr (Nat.le_trans h.sz hn.1))

theorem kept_share {w w' : World} {I : Nat → Prop} (hI : ∀ n, I n → n < w.heap.size) (hg : w.grownBy w' none) : Kept w I w' (fun n => I n ∨ (w.heap.size ≤ n ∧ n < w'.heap.size)) :=
  ⟨fun _ h => .inl h, fun n hn => hg.block n (hI n hn) (by simp)⟩

theorem Rel.share {ds : Dn} {w0 : World} {I0 F : Nat → Prop} {S : St} {I : Nat → Prop} {β : Nat → Value} {a : Act} {w w' : World} (hr : Rel ds w0 I0 F S I β a w) (hg : w.grownBy w' none) :
    Rel ds w0 I0 F S (fun n => I n ∨ (w.heap.size ≤ n ∧ n < w'.heap.size)) β a w' :=
  ⟨hr.mem.share hg, DenAs.mono (kept_share hr.mem.im hg) _ _ (fun _ _ => rfl) hr.sl, hr.dn, hr.fx⟩

/-! ### bytes -/
def byteD (b : UInt8) : D := .v (.int .u8 b.toNat)
def unBV : Value → UInt8
  | .int _ n => UInt8.ofNat n.toNat
  | _ => 0
def unBD : D → UInt8
  | .v x => unBV x
  | _ => 0
def unB : AV → UInt8
  | .d x => unBD x
  | _ => 0
theorem unBD_byteD (b : UInt8) : unBD (byteD b) = b := by simp [unBD, byteD, unBV]
theorem unB_byteD (b : UInt8) : unB (.d (byteD b)) = b := unBD_byteD b
theorem map_unBD (l : List UInt8) : (l.map byteD).map unBD = l := by
  rw [List.map_map]; conv => rhs; rw [← List.map_id l]
  exact List.map_congr_left fun b _ => unBD_byteD b
theorem map_unB (l : List UInt8) : (l.map fun b => AV.d (byteD b)).map unB = l := by
  rw [List.map_map]; conv => rhs; rw [← List.map_id l]
  exact List.map_congr_left fun b _ => unB_byteD b

theorem foldl_push (l : List UInt8) : ∀ acc : ByteArray, (l.map fun b => ((b.toNat : Nat) : Int)).foldl (fun r n => r.push (UInt8.ofNat n.toNat)) acc = ⟨acc.data ++ l.toArray⟩ := by
  induction l with
  | nil => intro acc; simp
  | cons b l ih =>
    intro acc
    simp only [List.map_cons, List.foldl_cons, Int.toNat_natCast, UInt8.ofNat_toNat]
    rw [ih]
    congr 1
    simp [ByteArray.push]

theorem run_bytes {P : Program} {w : World} {ad : Addr} {n cap : Nat} (l : List UInt8) (hl : l.length = n) (hc : ∀ j v, (l.map fun b => Value.int .u8 b.toNat)[j]? = some v → w.cell? (ad.add j) = some v) :
    (Conv.bytesToString (.slice (some ad) n cap)).run P w = .ok (.string ⟨l.toArray⟩) w := by
  have h1 := run_loadCells_list (P := P) w ad (l.map fun b => Value.int .u8 b.toNat) hc
  rw [List.length_map, hl] at h1
  have h2 := run_bytesToString (P := P) w ad n cap (l.map fun b => ((b.toNat : Nat) : Int)) (by rw [h1, List.map_map]; rfl)
  rw [h2, foldl_push]
  simp [ByteArray.empty, ByteArray.emptyWithCapacity]
  rfl

/-- What a value says as the source of bytes or elements: how many, their size, their cells, the boxes looked at. -/
def srcA (bx : Bxs) (sz0 : Nat) : AV → Option (Nat × Nat × List AV × List Nat)
  | .d (.sl sz cs m _) => some (m, sz, cs.map .d, [])
  | .row j => match getB bx j with
    | some (.row _ sz m cs) => some (m, sz, cs, [j])
    | _ => none
  | .psl k off m _ => match getB bx k with
    | some (.cells _ cs) => some (m, sz0, (cs.drop off).take (m * sz0), [k])
    | _ => none
  | .d (.v (.slice none 0 0)) => some (0, sz0, [], [])
  | _ => none

theorem srcA_congr {bx bx' : Bxs} {sz0 : Nat} {x : AV} {m sz : Nat} {cs : List AV} {fp : List Nat} (h : srcA bx sz0 x = some (m, sz, cs, fp)) (hb : ∀ k ∈ fp, getB bx' k = getB bx k) : srcA bx' sz0 x = some (m, sz, cs, fp) := by
  unfold srcA at h ⊢
  split at h
  · exact h
  · rename_i j
    split at h
    · rename_i hj; cases h; simp only [hb j (by simp), hj]
    · cases h
  · rename_i k off m' cap
    split at h
    · rename_i hj; cases h; simp only [hb k (by simp), hj]
    · cases h
  · exact h
  · cases h

theorem srcA_ok {ds : Dn} {w0 : World} {I0 F : Nat → Prop} {S : St} {I : Nat → Prop} {β : Nat → Value} {a : Act} {w : World} (hr : Rel ds w0 I0 F S I β a w) {sz0 : Nat} {x : Operand} {m sz : Nat} {cs : List AV} {fp : List Nat}
    (h : srcA S.bx sz0 (S.ev x) = some (m, sz, cs, fp)) (hlen : cs.length = m * sz) : ∃ (ad : Option Addr) (c : Nat) (us : List Value), a.eval x = .slice ad m c ∧ DenAs w I β cs us ∧ (∀ u ∈ us, u.oneCell' = true) ∧
      (ad = none → m = 0 ∧ c = 0) ∧ ∀ b, ad = some b → ∀ j u, us[j]? = some u → w.cell? (b.add j) = some u := by
  have hv := hr.ev x
  unfold srcA at h
  split at h
  · rename_i sz' cs' m' full hx
    cases h
    rw [hx, DenA, Den] at hv
    obtain ⟨ad, cap, e1, h1, h2, h3, h4, h5, h6⟩ := hv
    cases ad with
    | none =>
      obtain ⟨rfl, rfl⟩ := h5 rfl
      have : cs' = [] := List.eq_nil_of_length_eq_zero (by simpa using h4)
      subst this
      exact ⟨none, 0, [], e1, rfl, by simp, fun _ => ⟨rfl, rfl⟩, by simp⟩
    | some b =>
      obtain ⟨hsp, hat⟩ := h6 b rfl
      obtain ⟨us, hd, ho, hc⟩ := hat.dens
      refine ⟨some b, cap, us, e1, DenAs.of_dens hd, ho, by simp, fun b' hb' j u hu => ?_⟩
      cases hb'
      have hm0 : 0 < m := by
        rcases Nat.eq_zero_or_pos m with h0 | h0
        · have hl := hd.length
          have := (List.getElem?_eq_some_iff.1 hu).1
          rw [h0] at h4
          omega
        · exact h0
      have hsp := hsp hm0
      obtain ⟨bb, off, sp⟩ := b
      simp only at hsp; subst hsp
      rw [Addr.add_lit]; exact hc j u hu
  · rename_i j hx
    split at h
    · rename_i T sz' m' cs' hb
      cases h
      rw [hx, DenA] at hv
      obtain ⟨us, how, hd, ho⟩ := hr.mem.bxs j _ hb
      rw [hv.1]
      rcases how.2 with ⟨hnil, hz⟩ | ⟨g, cap, cur, hy, _⟩
      · subst hz
        have : us = [] := List.eq_nil_of_length_eq_zero (by simpa using how.1)
        subst this
        exact ⟨none, 0, [], hnil, hd, ho, fun _ => ⟨rfl, rfl⟩, by simp⟩
      · refine ⟨some ⟨g, 0, none⟩, cap, us, hy, hd, ho, by simp, fun b' hb' i u hu => ?_⟩
        cases hb'
        exact how.cells (by rw [hy]; rfl) i u hu
    · cases h
  · rename_i k off m' cap hx
    split at h
    · rename_i T cs' hb
      cases h
      rw [hx] at hv
      obtain ⟨b, e1, e2⟩ := hv
      obtain ⟨b', vs, e3, hh, hd, ho⟩ := hr.mem.bxs k _ hb
      rw [e1] at e3; cases e3
      refine ⟨some ⟨b, off, none⟩, cap, (vs.drop off).take (m * sz0), e2, (hd.drop off).take _, fun u hu => ho u (List.mem_of_mem_drop (List.mem_of_mem_take hu)), by simp, fun b' hb' i u hu => ?_⟩
      cases hb'
      rw [Addr.add_lit, cell_of_row w b (off + i) _ _ _ hh]
      simp only [List.getElem?_take, List.getElem?_drop] at hu
      split at hu
      · simpa using hu
      · cases hu
    · cases h
  · rename_i hx
    cases h
    rw [hx, DenA_v] at hv
    exact ⟨none, 0, [], hv, rfl, by simp, fun _ => ⟨rfl, rfl⟩, by simp⟩
  · cases h

theorem bytes_us {w : World} {I : Nat → Prop} {β : Nat → Value} : ∀ {cs : List AV} {us : List Value}, DenAs w I β cs us → (∀ c ∈ cs, c = .d (byteD (unB c))) → us = (cs.map unB).map fun b => Value.int .u8 b.toNat
  | [], _, h, _ => by rw [DenAs] at h; subst h; rfl
  | c :: cs, _, h, h3 => by
    obtain ⟨v, vs, rfl, hv, hd⟩ := h
    have := h3 c (by simp)
    rw [this, byteD, DenA_v] at hv
    subst hv
    rw [bytes_us hd (fun c hc => h3 c (by simp [hc]))]
    rfl

/-! ### convert -/
def convA (τ : Tab) (bx : Bxs) (src dst : TypeId) (x : AV) : OpR :=
  match τ dst with
  | some ⟨.int k, _, _, _⟩ => match x with
    | .d (.v (.int _ n)) => some ((τ src).isSome = true, ⟨.d (.v (.int k (k.wrap n))), [], [], []⟩, [])
    | _ => none
  | some ⟨.string, _, _, _⟩ => match τ src with
    | some ⟨.string, _, _, _⟩ => match x with
      | .d (.v (.string s)) => okV (.d (.v (.string s)))
      | _ => none
    | some ⟨.slice e, _, _, _⟩ => match τ e with
      | some ⟨.int .u8, _, _, _⟩ => (srcA bx 1 x).bind fun r => some (r.2.1 = 1 ∧ r.2.2.1.length = r.1 * r.2.1 ∧ (∀ c ∈ r.2.2.1, c = .d (byteD (unB c))), ⟨.d (.v (.string ⟨(r.2.2.1.map unB).toArray⟩)), [], [], []⟩, r.2.2.2)
      | _ => none
    | _ => none
  | some ⟨.slice e, _, _, _⟩ => match τ e, τ src with
    | some ⟨.int .u8, _, _, _⟩, some ⟨.string, _, _, _⟩ => match x with
      | .d (.v (.string s)) => some (s.size ≤ 140737488355328, ⟨.d (.sl 1 (s.data.toList.map byteD) s.size false), [], [], []⟩, [])
      | _ => none
    | _, _ => none
  | _ => none
def opConv (τ : Tab) (src dst : TypeId) (x : Operand) (S : St) : OpR := convA τ S.bx src dst (S.ev x)

theorem freeze_new (w : World) (c : Array Value) (T : TypeId) (off : Nat) : ((w.alloc (.cells c T)).freeze ⟨w.heap.size, off, none⟩ 1).heap[w.heap.size]? = some (.cells c T (off, off + 1)) := by
  simp only [World.freeze, Nat.one_ne_zero, if_false, Array.getElem?_modify, if_true, heap_alloc_new]
  rfl
theorem freeze_old (w : World) (c : Array Value) (T : TypeId) (off : Nat) : w.grownBy ((w.alloc (.cells c T)).freeze ⟨w.heap.size, off, none⟩ 1) none := by
  have h := World.grownBy_alloc w (.cells c T) none
  refine ⟨h.os, h.tape, h.output, ?_, fun k hk _ => ?_⟩
  · simp only [World.freeze, Nat.one_ne_zero, if_false, Array.size_modify]; exact h.size
  · simp only [World.freeze, Nat.one_ne_zero, if_false, Array.getElem?_modify]
    rw [if_neg (by omega)]
    exact h.block k hk (by simp)

theorem grownBy_drew (w : World) {w' : World} {r : Option Nat} (h : w.drew.grownBy w' r) : w.grownBy w' r := ⟨h.os, h.tape, h.output, h.size, h.block⟩

theorem run_stringToBytes {P : Program} (w : World) (e : TypeId) (s : ByteArray) : ∃ cap w', s.size ≤ cap ∧ (s.size ≤ 140737488355328 → cap ≤ maxLen) ∧
    (Conv.stringToBytes e s).run P w = .ok (.slice (some ⟨w.heap.size, 0, none⟩) s.size cap) w' ∧ w.grownBy w' none ∧ w.heap.size < w'.heap.size ∧
    ∀ j v, (s.data.toList.map fun b => Value.int .u8 b.toNat)[j]? = some v → w'.cell? ⟨w.heap.size, j, none⟩ = some v := by
  refine ⟨grownCap w s.size 0 e, ((w.drew.alloc (.cells (s.data.map (fun b : UInt8 => Value.int .u8 b.toNat) ++ Array.replicate (grownCap w s.size 0 e - s.size) (Value.int .u8 0)) e)).freeze ⟨w.heap.size, (s.data.map (fun b : UInt8 => Value.int .u8 b.toNat) ++ Array.replicate (grownCap w s.size 0 e - s.size) (Value.int .u8 0)).size, none⟩ 1),
    grownCap_ge w s.size 0 e, fun h => grownCap_le_maxLen w s.size 0 e (by simp only [maxLen]; omega), ?_, grownBy_drew w (freeze_old w.drew _ _ _), ?_, ?_⟩
  · have hs : ∀ (c : Array Value), (w.drew.alloc (.cells c e)).shape? w.heap.size = some (e, c.size) := fun c => by
      have : (w.drew.alloc (.cells c e)).heap[w.heap.size]? = some (.cells c e) := heap_alloc_new w.drew _
      unfold World.shape?; rw [this]
    simp only [Conv.stringToBytes, newRow, markStringish, Sem.run_bind, run_choose, Question.forced, Bool.false_eq_true, if_false, Result.andThen_ok, run_newObj, World.alloc_eq, World.drew_eq, run_shape, hs, Sem.run_pure, run_freeze, World.size_drew, grownCap]
  · exact (Array.getElem?_eq_some_iff.1 (freeze_new w.drew _ e _)).1
  · intro j v hj
    refine (cell_of_row _ _ _ _ _ _ (freeze_new w.drew _ e _)).trans ?_
    simp only [List.getElem?_map, Array.getElem?_toList] at hj
    rw [Array.getElem?_append]
    cases hjj : s.data[j]? with
    | none => rw [hjj] at hj; cases hj
    | some b =>
      rw [hjj] at hj
      have hlt := (Array.getElem?_eq_some_iff.1 hjj).1
      rw [if_pos (by simpa using hlt), Array.getElem?_map, hjj]
      exact hj

theorem serves_conv {P : Program} {τ : Tab} (hτ : TabOk P τ) {o : Oper} {src dst : TypeId} {x : Operand} (ho : o.op = .convert src dst x) : Serves P o (opConv τ src dst x) := by
  intro ds pn S side e fp h hside S1 hs _
  have ex := hs.1 x (by simp [ho, Op.operands])
  unfold opConv convA at h
  rw [← ex] at h
  split at h
  · rename_i k _ _ _ ht
    obtain ⟨d, hu, hk⟩ := (hτ dst _ ht).und
    simp only [TK.ok] at hk
    subst hk
    split at h
    · rename_i k' n hx
      cases h
      cases hts : τ src with
      | none => rw [hts] at hside; cases hside
      | some te =>
        obtain ⟨d, hus, _⟩ := (hτ src te hts).und
        refine Core.value fun w0 I0 F I β a w hr => ⟨_, ?_, DenA_v.2 rfl⟩
        have hv := hr.ev x
        rw [hx, DenA_v] at hv
        simp [execOp, ho, convert, run_underlying hu, run_underlying hus, hv, Conv.intToInt]
    · cases h
  · rename_i _ _ _ ht
    obtain ⟨d, hu, hk⟩ := (hτ dst _ ht).und
    simp only [TK.ok] at hk
    subst hk
    split at h
    · rename_i _ _ _ hts
      obtain ⟨d, hus, hk⟩ := (hτ src _ hts).und
      simp only [TK.ok] at hk
      subst hk
      split at h
      · rename_i s hx
        cases h
        refine Core.value fun w0 I0 F I β a w hr => ⟨_, ?_, DenA_v.2 rfl⟩
        have hv := hr.ev x
        rw [hx, DenA_v] at hv
        simp [execOp, ho, convert, run_underlying hu, run_underlying hus, hv]
      · cases h
    · rename_i el _ _ _ hts
      obtain ⟨d, hus, hk⟩ := (hτ src _ hts).und
      simp only [TK.ok] at hk
      subst hk
      split at h
      · rename_i _ _ _ hte
        obtain ⟨d, hue, hk⟩ := (hτ el _ hte).und
        simp only [TK.ok] at hk
        subst hk
        cases hsrc : srcA S.bx 1 (S1.ev x) with
        | none => rw [hsrc] at h; cases h
        | some r =>
          obtain ⟨m, sz, cs, fp'⟩ := r
          rw [hsrc] at h
          cases h
          obtain ⟨h1, h2, h3⟩ := hside
          simp only at h1 h2 h3
          subst h1
          have hsrc1 := srcA_congr hsrc (fun k hk => hs.2.2 k hk)
          refine Core.value fun w0 I0 F I β a w hr => ⟨_, ?_, DenA_v.2 rfl⟩
          obtain ⟨ad, c, us, e1, hd, _, hnil, hc⟩ := srcA_ok hr hsrc1 h2
          have hus' := bytes_us hd h3
          cases ad with
          | none =>
            obtain ⟨rfl, rfl⟩ := hnil rfl
            have : cs = [] := List.eq_nil_of_length_eq_zero (by simpa using h2)
            subst this
            simp [execOp, ho, convert, run_underlying hu, run_underlying hus, run_underlying hue, e1, Conv.bytesToString]
            rfl
          | some b =>
            have hc := hc b rfl
            rw [hus'] at hc
            simp [execOp, ho, convert, run_underlying hu, run_underlying hus, run_underlying hue, e1, run_bytes (P := P) (w := w) (ad := b) (n := m) (cap := c) (cs.map unB) (by simpa using h2) hc]
      · cases h
    · cases h
  · rename_i el _ _ _ ht
    obtain ⟨d, hu, hk⟩ := (hτ dst _ ht).und
    simp only [TK.ok] at hk
    subst hk
    split at h
    · rename_i _ _ _ _ _ _ hte hts
      obtain ⟨d, hue, hk⟩ := (hτ el _ hte).und
      simp only [TK.ok] at hk
      subst hk
      obtain ⟨d, hus, hk⟩ := (hτ src _ hts).und
      simp only [TK.ok] at hk
      subst hk
      split at h
      · rename_i s hx
        cases h
        refine Core.world fun w0 I0 F I β a w hr => ?_
        have hv := hr.ev x
        rw [hx, DenA_v] at hv
        obtain ⟨cap, w', hcap, hmax, hrun, hg, hlt, hcells⟩ := run_stringToBytes (P := P) w el s
        refine ⟨.slice (some ⟨w.heap.size, 0, none⟩) s.size cap, w', (fun n => I n ∨ (w.heap.size ≤ n ∧ n < w'.heap.size)), β, by simp [execOp, ho, convert, run_underlying hu, run_underlying hus, run_underlying hue, hv, hrun], ?_⟩
        refine Rel.put (hr.share hg) o.dst ?_
        rw [DenA, Den]
        refine ⟨_, cap, rfl, hcap, hmax hside, by simp, by simp, by simp, fun ad had => ?_⟩
        cases had
        refine ⟨fun _ => rfl, ?_⟩
        refine DenAt.of_dens (vs := s.data.toList.map fun b => Value.int .u8 b.toNat) (.inr ⟨Nat.le_refl _, hlt⟩) ?_ ?_ ?_
        · generalize s.data.toList = l
          induction l with
          | nil => rfl
          | cons b l ih => exact ⟨_, _, rfl, by rw [byteD, Den], ih⟩
        · intro v hv; simp only [List.mem_map] at hv; obtain ⟨b, _, rfl⟩ := hv; rfl
        · intro j v hj
          rw [Nat.zero_add]; exact hcells j v hj
      · cases h
    · cases h
  · cases h

end Go.Xe
