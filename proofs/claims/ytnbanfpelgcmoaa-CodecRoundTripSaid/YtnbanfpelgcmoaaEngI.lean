/-
  The engine, part I. Structs, arrays and slices that are put together; make; interfaces.
-/
import Derived.Test.YtnbanfpelgcmoaaEngH
namespace Go.Xe
open Go.RowKit

theorem zip_fold (off : Nat) : ∀ (l : List Value) (k : Nat) (cells : Array Value), ((l.zipIdx k).foldl (fun (cs : Array Value) (p : Value × Nat) => cs.setIfInBounds (off + p.2) p.1) cells).toList = setV cells.toList (off + k) l
  | [], _, _ => by simp [setV]
  | v :: l, k, cells => by
    simp only [List.zipIdx_cons, List.foldl_cons]
    rw [zip_fold off l (k + 1), setV]
    simp [Nat.add_assoc]

/-- What 'fill' does, on lists. -/
def fillV (place : Nat → Option (Nat × Nat)) : List Value → List (Nat × Value) → Option (List Value)
  | cs, [] => some cs
  | cs, (i, v) :: r => match place i with
    | none => none
    | some (off, size) => if v.cells.toList.length ≠ size ∨ off + size > cs.length then none else fillV place (setV cs off v.cells.toList) r

theorem fill_eq (place : Nat → Option (Nat × Nat)) : ∀ (parts : List (Nat × Value)) (cells : Array Value) (r : List Value), fillV place cells.toList parts = some r → Instr.fill place cells parts = some r.toArray
  | [], cells, r, h => by simp only [fillV, Option.some.injEq] at h; subst h; simp [Instr.fill]
  | (i, v) :: parts, cells, r, h => by
    unfold fillV at h
    unfold Instr.fill
    cases hp : place i with
    | none => rw [hp] at h; cases h
    | some q =>
      obtain ⟨off, size⟩ := q
      rw [hp] at h
      simp only at h ⊢
      split at h
      · cases h
      · rename_i hc
        simp only [Array.length_toList, not_or, Decidable.not_not, Nat.not_lt, gt_iff_lt] at hc
        rw [if_neg (by simp; omega)]
        refine fill_eq place parts _ r ?_
        rw [← h]
        congr 1
        rw [← Array.foldl_toList, Array.toList_zipIdx]
        have := zip_fold off v.cells.toList 0 cells
        simpa using this

def fillA (place : Nat → Option (Nat × Nat)) : List AV → List (Nat × AV) → Option (Prop × List AV)
  | cs, [] => some (True, cs)
  | cs, (i, x) :: r => (place i).bind fun q => (fillA place (setL cs q.1 x.cells) r).map fun s => ((x.cells.length = q.2 ∧ q.1 + q.2 ≤ cs.length ∧ (∀ c ∈ x.cells, oneA c = true)) ∧ s.1, s.2)

theorem fillA_ok {ds : Dn} {w0 : World} {I0 F : Nat → Prop} {S : St} {I : Nat → Prop} {β : Nat → Value} {a : Act} {w : World} (hr : Rel ds w0 I0 F S I β a w) {place : Nat → Option (Nat × Nat)} :
    ∀ (parts : List (Nat × Operand)) {cs : List AV} {vs : List Value} {p : Prop} {cs' : List AV}, DenAs w I β cs vs → (∀ v ∈ vs, v.oneCell' = true) → fillA place cs (parts.map fun q => (q.1, S.ev q.2)) = some (p, cs') → p →
      ∃ vs', fillV place vs (parts.map fun q => (q.1, a.eval q.2)) = some vs' ∧ DenAs w I β cs' vs' ∧ ∀ v ∈ vs', v.oneCell' = true
  | [], cs, vs, p, cs', hd, ho, h, _ => by
    simp only [List.map_nil, fillA, Option.some.injEq, Prod.mk.injEq] at h
    obtain ⟨_, rfl⟩ := h
    exact ⟨vs, rfl, hd, ho⟩
  | (i, x) :: parts, cs, vs, p, cs', hd, ho, h, hp => by
    simp only [List.map_cons, fillA] at h
    cases hpl : place i with
    | none => rw [hpl] at h; cases h
    | some q =>
      obtain ⟨off, size⟩ := q
      rw [hpl, Option.bind_some] at h
      cases hf : fillA place (setL cs off (S.ev x).cells) (parts.map fun q => (q.1, S.ev q.2)) with
      | none => rw [hf] at h; cases h
      | some s =>
        obtain ⟨p', cs''⟩ := s
        rw [hf] at h
        simp only [Option.map_some, Option.some.injEq, Prod.mk.injEq] at h
        obtain ⟨rfl, rfl⟩ := h
        obtain ⟨⟨h1, h2, h3⟩, hp'⟩ := hp
        have hx := cells_ok (hr.ev x) h3
        have hox := oneAs_ok hx h3
        have hl : (a.eval x).cells.toList.length = size := by rw [← hx.length]; exact h1
        obtain ⟨vs', e1, e2, e3⟩ := fillA_ok hr parts (hx.setL hd off) (fun v hv => by rcases mem_setV _ _ _ _ hv with hv | hv; exact ho v hv; exact hox v hv) hf hp'
        refine ⟨vs', ?_, e2, e3⟩
        simp only [List.map_cons, fillV, hpl]
        rw [if_neg (by rw [hl, ← hd.length]; omega)]
        exact e1

/-! ### build -/
def placeS (τ : Tab) (fs : List (Nat × Nat)) (i : Nat) : Option (Nat × Nat) := (fs[i]?).bind fun f => (τ f.2).map fun te => (f.1, te.size)
def constsA (l : List Value) : List AV := l.map fun x => .d (.v x)
def opBuild (τ : Tab) (T : TypeId) (parts : Array (Nat × Operand)) (S : St) : OpR :=
  match τ T with
  | some ⟨.struct fs, _, _, zero⟩ => (fillA (placeS τ fs) (constsA zero) (parts.toList.map fun q => (q.1, S.ev q.2))).bind fun r => some ((fs.all fun f => (τ f.2).isSome) = true ∧ r.1, ⟨.agg r.2, [], [], []⟩, [])
  | some ⟨.array _ e, _, _, zero⟩ => (τ e).bind fun te => (fillA (fun i => some (i * te.size, te.size)) (constsA zero) (parts.toList.map fun q => (q.1, S.ev q.2))).bind fun r => some (r.1, ⟨.agg r.2, [], [], []⟩, [])
  | _ => none

theorem mapM_places {P : Program} {τ : Tab} (hτ : TabOk P τ) (w : World) : ∀ (fs : List Field), (fs.all fun f => (τ f.type).isSome) = true →
    ∃ l : List (Nat × Nat), ((fs.mapM fun f => do pure (f.offset, ← sizeOf f.type) : Sem (List (Nat × Nat))).run P w = .ok l w) ∧ ∀ i, l[i]? = placeS τ (fs.map fun f => (f.offset, f.type)) i
  | [], _ => ⟨[], by simp [List.mapM_nil], by simp [placeS]⟩
  | f :: fs, h => by
    simp only [List.all_cons, Bool.and_eq_true] at h
    obtain ⟨l, h1, h2⟩ := mapM_places hτ w fs h.2
    cases ht : τ f.type with
    | none => rw [ht] at h; simp at h
    | some te =>
      refine ⟨(f.offset, te.size) :: l, by simp only [List.mapM_cons, Sem.run_bind, (hτ _ _ ht).size w, Result.andThen_ok, Sem.run_pure, h1], fun i => ?_⟩
      cases i with
      | zero => simp [placeS, ht]
      | succ i => simpa [placeS] using h2 i

theorem parts_congr {o : Oper} {S S1 : St} (parts : List (Nat × Operand)) (h : ∀ x ∈ o.op.operands, S1.ev x = S.ev x) (hp : ∀ q ∈ parts, q.2 ∈ o.op.operands) : (parts.map fun q => (q.1, S.ev q.2)) = parts.map fun q => (q.1, S1.ev q.2) :=
  List.map_congr_left fun q hq => by rw [h q.2 (hp q hq)]

theorem serves_build {P : Program} {τ : Tab} (hτ : TabOk P τ) {o : Oper} {T : TypeId} {parts : Array (Nat × Operand)} (ho : o.op = .build T parts) : Serves P o (opBuild τ T parts) := by
  intro ds pn S side e fp h hside S1 hs _
  have hpc := parts_congr (o := o) parts.toList hs.1 (fun q hq => by simp [ho, Op.operands]; exact ⟨q.1, by simpa using hq⟩)
  unfold opBuild at h
  rw [hpc] at h
  have fin : ∀ (place : Nat → Option (Nat × Nat)) (zero : List Value) (p : Prop) (cs' : List AV), (∀ v ∈ zero, v.oneCell' = true) → fillA place (constsA zero) (parts.toList.map fun q => (q.1, S1.ev q.2)) = some (p, cs') → p →
      (∀ (a : Act) (w : World) (vs' : List Value), fillV place zero (parts.toList.map fun q => (q.1, a.eval q.2)) = some vs' → (Instr.build T (parts.map fun (i, x) => (i, a.eval x))).run P w = .ok (.agg vs'.toArray) w) →
      Core P ds pn o S1 (S1.app o.dst ⟨.agg cs', [], [], []⟩) := by
    intro place zero p cs' hz hf hp hrun
    refine Core.value fun w0 I0 F I β a w hr => ?_
    obtain ⟨vs', e1, e2, _⟩ := fillA_ok hr parts.toList (DenAs_consts (w := w) (I := I) (β := β) zero) hz hf hp
    refine ⟨.agg vs'.toArray, ?_, vs', rfl, e2⟩
    have := hrun a w vs' e1
    simp only [execOp, ho, Sem.run_bind, this, Result.andThen_ok, Sem.run_pure]
  split at h
  · rename_i fs _ _ zero ht
    have tk := hτ T _ ht
    obtain ⟨d, hu, fa, rfl, hfs⟩ := tk.und
    cases hf : fillA (placeS τ fs) (constsA zero) (parts.toList.map fun q => (q.1, S1.ev q.2)) with
    | none => rw [hf] at h; cases h
    | some r =>
      obtain ⟨p, cs'⟩ := r
      rw [hf] at h
      cases h
      refine fin _ zero p cs' tk.zone hf hside.2 fun a w vs' hv => ?_
      obtain ⟨z, hz, hzc⟩ := tk.zero w
      have hall : (fa.toList.all fun f => (τ f.type).isSome) = true := by
        have := hside.1
        rw [← hfs, List.all_map] at this
        exact this
      obtain ⟨l, hl, hpl⟩ := mapM_places hτ w fa.toList hall
      have hmap : (fa.mapM fun f => do pure (f.offset, ← sizeOf f.type) : Sem (Array (Nat × Nat))).run P w = .ok l.toArray w := by
        rw [← Array.toArray_toList (xs := fa), List.mapM_toArray, Sem.run_map, hl]; rfl
      have hpl' : (fun i => l.toArray[i]?) = placeS τ fs := by
        funext i; rw [List.getElem?_toArray, hpl i, hfs]
      have hfe := fill_eq (placeS τ fs) (parts.toList.map fun q => (q.1, a.eval q.2)) z.cells vs' (by rw [hzc]; exact hv)
      unfold Instr.build
      simp only [Sem.run_bind, hz, Result.andThen_ok, run_underlying hu, hmap, Array.toList_map]
      rw [hpl', hfe]
      rfl
  · rename_i n el _ _ zero ht
    have tk := hτ T _ ht
    obtain ⟨d, hu, hk⟩ := tk.und
    simp only [TK.ok] at hk
    subst hk
    cases hte : τ el with
    | none => rw [hte] at h; cases h
    | some te =>
      rw [hte, Option.bind_some] at h
      cases hf : fillA (fun i => some (i * te.size, te.size)) (constsA zero) (parts.toList.map fun q => (q.1, S1.ev q.2)) with
      | none => rw [hf] at h; cases h
      | some r =>
        obtain ⟨p, cs'⟩ := r
        rw [hf] at h
        cases h
        refine fin _ zero p cs' tk.zone hf hside fun a w vs' hv => ?_
        obtain ⟨z, hz, hzc⟩ := tk.zero w
        have hfe := fill_eq (fun i => some (i * te.size, te.size)) (parts.toList.map fun q => (q.1, a.eval q.2)) z.cells vs' (by rw [hzc]; exact hv)
        unfold Instr.build
        simp only [Sem.run_bind, hz, Result.andThen_ok, run_underlying hu, (hτ el te hte).size w, Array.toList_map]
        rw [hfe]
        rfl
  · cases h

/-! ### buildSlice, makeSlice -/
theorem zeros_eq (zero : Array Value) : ∀ n, ((Array.range (n * zero.size)).map (fun i => zero[i % zero.size]!)).toList = (List.replicate n zero.toList).flatten
  | 0 => by simp
  | n + 1 => by
    rw [List.replicate_succ', List.flatten_append, ← zeros_eq zero n]
    simp only [Array.toList_map, Array.toList_range, List.flatten_cons, List.flatten_nil, List.append_nil]
    rw [Nat.add_mul, Nat.one_mul, List.range_add, List.map_append]
    congr 1
    apply List.ext_getElem?
    intro i
    simp only [List.map_map, List.getElem?_map, Array.getElem?_toList]
    by_cases hi : i < zero.size
    · rw [List.getElem?_range hi]
      simp only [Option.map_some, Function.comp_apply]
      have : (n * zero.size + i) % zero.size = i := by rw [Nat.mul_comm, Nat.mul_add_mod]; exact Nat.mod_eq_of_lt hi
      rw [this]
      simp [hi]
    · rw [List.getElem?_eq_none (by simpa using hi), Array.getElem?_eq_none (by omega)]
      rfl

def opBuildSlice (τ : Tab) (dst : Option Tmp) (T : TypeId) (len : Nat) (parts : Array (Nat × Operand)) (S : St) : OpR :=
  match dst, τ T with
  | some k, some ⟨.slice E, _, _, _⟩ => (τ E).bind fun te => (fillA (fun i => some (i * te.size, te.size)) (constsA (List.replicate len te.zero).flatten) (parts.toList.map fun q => (q.1, S.ev q.2))).bind fun r =>
      some ((len * te.size ≤ 16777216 ∧ te.size ≠ 0) ∧ r.1, ⟨.row k, [], [], [(k, .row E te.size len r.2)]⟩, [])
  | _, _ => none

theorem setV_flat_len (n : Nat) (zero : List Value) : ((List.replicate n zero).flatten).length = n * zero.length := by
  induction n with
  | zero => simp
  | succ n ih => rw [List.replicate_succ, List.flatten_cons, List.length_append, ih, Nat.add_mul]; omega

theorem fillV_length (place : Nat → Option (Nat × Nat)) : ∀ (parts : List (Nat × Value)) (cs r : List Value), fillV place cs parts = some r → r.length = cs.length
  | [], cs, r, h => by simp only [fillV, Option.some.injEq] at h; rw [h]
  | (i, v) :: parts, cs, r, h => by
    unfold fillV at h
    split at h
    · cases h
    · split at h
      · cases h
      · rw [fillV_length place parts _ r h, setV_length]

theorem hasL_fill {k : Nat} {place : Nat → Option (Nat × Nat)} : ∀ (parts : List (Nat × AV)) {cs : List AV} {p : Prop} {cs' : List AV}, fillA place cs parts = some (p, cs') → AV.hasL k cs = false → (∀ q ∈ parts, AV.has k q.2 = false) → AV.hasL k cs' = false
  | [], cs, p, cs', h, hc, _ => by simp only [fillA, Option.some.injEq, Prod.mk.injEq] at h; rw [← h.2]; exact hc
  | (i, x) :: parts, cs, p, cs', h, hc, hq => by
    unfold fillA at h
    cases hp : place i with
    | none => rw [hp] at h; cases h
    | some q =>
      rw [hp, Option.bind_some] at h
      cases hf : fillA place (setL cs q.1 x.cells) parts with
      | none => rw [hf] at h; cases h
      | some s =>
        rw [hf] at h
        simp only [Option.map_some, Option.some.injEq, Prod.mk.injEq] at h
        rw [← h.2]
        refine hasL_fill parts (p := s.1) (cs' := s.2) hf ?_ (fun q hq' => hq q (by simp [hq']))
        have hx := has_cells (hq (i, x) (by simp))
        have gen : ∀ (xs cs : List AV) (off : Nat), AV.hasL k cs = false → AV.hasL k xs = false → AV.hasL k (setL cs off xs) = false := by
          intro xs
          induction xs with
          | nil => intro cs off h _; exact h
          | cons y ys ih =>
            intro cs off h h'
            simp only [AV.hasL, Bool.or_eq_false_iff] at h'
            refine ih _ _ ?_ h'.2
            have hs : ∀ (cs : List AV) (off : Nat), AV.hasL k cs = false → AV.hasL k (cs.set off y) = false := by
              intro cs
              induction cs with
              | nil => intro off _; rfl
              | cons c cs ih2 =>
                intro off hh
                simp only [AV.hasL, Bool.or_eq_false_iff] at hh
                cases off with
                | zero => simp only [List.set_cons_zero, AV.hasL, h'.1, hh.2, Bool.or_self]
                | succ off => simp only [List.set_cons_succ, AV.hasL, hh.1, ih2 off hh.2, Bool.or_self]
            exact hs cs off h
        exact gen _ _ _ hc hx

theorem hasL_consts (k : Nat) (l : List Value) : AV.hasL k (constsA l) = false := by
  unfold constsA
  induction l with
  | nil => rfl
  | cons c cs ih => simp [AV.hasL, AV.has, ih]

theorem serves_buildSlice {P : Program} {τ : Tab} (hτ : TabOk P τ) {o : Oper} {T : TypeId} {len : Nat} {parts : Array (Nat × Operand)} (ho : o.op = .buildSlice T len parts) : Serves P o (opBuildSlice τ o.dst T len parts) := by
  intro ds pn S side e fp h hside S1 hs hf
  have hpc := parts_congr (o := o) parts.toList hs.1 (fun q hq => by simp [ho, Op.operands]; exact ⟨q.1, by simpa using hq⟩)
  unfold opBuildSlice at h
  rw [hpc] at h
  split at h
  · rename_i k E _ _ _ hd ht
    obtain ⟨d, hu, hk⟩ := (hτ T _ ht).und
    simp only [TK.ok] at hk
    subst hk
    cases hte : τ E with
    | none => rw [hte] at h; cases h
    | some te =>
      have tk := hτ E te hte
      rw [hte, Option.bind_some] at h
      cases hfa : fillA (fun i => some (i * te.size, te.size)) (constsA (List.replicate len te.zero).flatten) (parts.toList.map fun q => (q.1, S1.ev q.2)) with
      | none => rw [hfa] at h; cases h
      | some r =>
        obtain ⟨p, cs'⟩ := r
        rw [hfa] at h
        cases h
        obtain ⟨⟨hl1, hl2⟩, hp⟩ := hside
        have hk0 : S1.has k = false := hf _ (List.mem_singleton.2 rfl)
        refine Core.world fun w0 I0 F I β a w hr => ?_
        have hzo : ∀ v ∈ (List.replicate len te.zero).flatten, v.oneCell' = true := fun v hv => by
          simp only [List.mem_flatten, List.mem_replicate] at hv
          obtain ⟨l, ⟨_, rfl⟩, hv⟩ := hv
          exact tk.zone v hv
        obtain ⟨vs', e1, e2, e3⟩ := fillA_ok hr parts.toList (DenAs_consts (w := w) (I := I) (β := β) _) hzo hfa hp
        have hlen : vs'.length = len * te.size := by rw [fillV_length _ _ _ _ e1, setV_flat_len, tk.zlen]
        have hcap : len ≤ maxLen := by
          simp only [maxLen]
          have : len ≤ len * te.size := Nat.le_mul_of_pos_right _ (by omega)
          omega
        have hgr := World.grownBy_alloc w (.cells vs'.toArray E) none
        have how : (w.alloc (.cells vs'.toArray E)).ownsRow 0 E te.size (.slice (some ⟨w.heap.size, 0, none⟩) len len) len vs' :=
          ⟨hlen, .inr ⟨w.heap.size, len, vs'.toArray, rfl, Nat.zero_le _, heap_alloc_new w _, Nat.le_refl _, hcap, by simpa using hlen, by simp [List.take_of_length_le, hlen]⟩⟩
        refine ⟨.slice (some ⟨w.heap.size, 0, none⟩) len len, w.alloc (.cells vs'.toArray E), I, upd β k (.slice (some ⟨w.heap.size, 0, none⟩) len len), ?_, ?_⟩
        · obtain ⟨z, hz, hzc⟩ := tk.zero w
          have hzs : z.cells.size = te.size := by rw [← Array.length_toList, hzc, tk.zlen]
          have hbase : ((Array.range (len * te.size)).map (fun i => (if len * te.size = 0 then #[] else z.cells)[i % (if len * te.size = 0 then #[] else z.cells).size]!)).toList = (List.replicate len te.zero).flatten := by
            by_cases h0 : len * te.size = 0
            · have : len = 0 := by rcases Nat.mul_eq_zero.1 h0 with h | h; exact h; exact absurd h hl2
              subst this; simp
            · simp only [h0, if_false]; rw [← hzs, zeros_eq, hzc]
          have hfe := fill_eq (fun i => some (i * te.size, te.size)) (parts.toList.map fun q => (q.1, a.eval q.2)) _ vs' (by rw [hbase]; exact e1)
          simp only [execOp, ho, Instr.buildSlice, Sem.run_bind, run_underlying hu, Result.andThen_ok, tk.size w]
          rw [if_neg (by simpa using hl1)]
          by_cases h0 : len * te.size = 0
          · simp only [h0, if_true] at hfe ⊢
            simp only [Sem.run_bind, Sem.run_pure, Result.andThen_ok, Array.toList_map] at hfe ⊢
            rw [hfe]
            simp [newRow]
          · simp only [h0, if_false] at hfe ⊢
            simp only [Sem.run_bind, hz, Sem.run_pure, Result.andThen_ok, Array.toList_map] at hfe ⊢
            rw [hfe]
            simp [newRow]
        · refine hr.appended (v := .slice none 0 0) hk0 (l := []) hgr (.inr fun g hg => by simp [Value.ownBlock] at hg; omega) ⟨_, _, _, rfl⟩ (.inl rfl) how e2 e3 ?_ o.dst
          refine hasL_fill _ hfa (hasL_consts k _) fun q hq => ?_
          simp only [List.mem_map] at hq
          obtain ⟨q', _, rfl⟩ := hq
          exact has_at hk0 q'.2
  · cases h

/-! ### makeInterface, typeAssert -/
def opIface (τ : Tab) (T : TypeId) (x : Operand) (S : St) : OpR :=
  match τ T with
  | some ⟨.iface, _, _, _⟩ => none
  | some _ => match S.ev x with
    | .d (.v y) => okV (.d (.v (.iface T y)))
    | y => okV (.iface T y)
  | none => none
theorem serves_iface {P : Program} {τ : Tab} (hτ : TabOk P τ) {o : Oper} {T : TypeId} {x : Operand} (ho : o.op = .makeInterface T x) : Serves P o (opIface τ T x) := by
  intro ds pn S side e fp h hside S1 hs _
  have ex := hs.1 x (by simp [ho, Op.operands])
  unfold opIface at h
  rw [← ex] at h
  split at h
  · cases h
  · rename_i te hne ht
    have run : ∀ (a : Act) (w : World), (execOp a.eval o).run P w = .ok (.value (.iface T (a.eval x))) w := by
      intro a w
      obtain ⟨d, hu, hk⟩ := (hτ T _ ht).und
      have : ∀ m, d ≠ .interface m := by
        rintro m rfl
        obtain ⟨k, s, b, z⟩ := te
        cases k <;> simp only [TK.ok, reduceCtorEq] at hk
        · obtain ⟨_, h, _⟩ := hk; cases h
        · obtain ⟨_, _, _, h⟩ := hk; cases h
        · exact hne _ _ _ rfl
      simp only [execOp, ho, Instr.makeInterface, Sem.run_bind, run_underlying hu, Result.andThen_ok]
      cases d <;> first | rfl | exact absurd rfl (this _)
    split at h
    · rename_i y hx
      cases h
      refine Core.value fun w0 I0 F I β a w hr => ⟨_, run a w, ?_⟩
      have hv := hr.ev x
      rw [hx, DenA_v] at hv
      rw [DenA_v, hv]
    · rename_i hx
      cases h
      exact Core.value fun w0 I0 F I β a w hr => ⟨_, run a w, _, rfl, hr.ev x⟩
  · cases h

end Go.Xe
