/-
  The engine, part C. The operations, one by one: what each does to a state.
-/
import Derived.Test.YtnbanfpelgcmoaaEngB
namespace Go.Xe
open Go.RowKit

/-! ### Types -/
inductive TK where
  | int (k : IntKind) | bool | string | ptr (e : Nat) | slice (e : Nat) | struct (fs : List (Nat × Nat)) | array (n e : Nat) | func | map (k e : Nat) | iface
structure TE where
  k : TK
  size : Nat
  bytes : Nat
  zero : List Value
def TK.ok : TK → TypeDesc → Prop
  | .int k, d => d = .int k
  | .bool, d => d = .bool
  | .string, d => d = .string
  | .ptr e, d => d = .pointer e
  | .slice e, d => d = .slice e
  | .struct fs, d => ∃ a : Array Field, d = .struct a ∧ a.toList.map (fun f => (f.offset, f.type)) = fs
  | .array n e, d => d = .array n e
  | .func, d => ∃ a b c, d = .func a b c
  | .map k e, d => d = .map k e
  | .iface, d => ∃ m, d = .interface m
structure TyOk (P : Program) (T : TypeId) (e : TE) : Prop where
  info : ∃ i z, P.info? T = some i ∧ i.size = e.size ∧ i.bytes = e.bytes ∧ i.zero = some z ∧ z.cells.toList = e.zero ∧ e.zero.length = e.size ∧ e.zero.all (·.oneCell') = true
  und : ∃ d, P.underlying T = some d ∧ e.k.ok d
abbrev Tab := Nat → Option TE
def TabOk (P : Program) (τ : Tab) : Prop := ∀ T e, τ T = some e → TyOk P T e

def TK.agg : TK → Bool
  | .struct _ | .array _ _ => true
  | _ => false

section
variable {P : Program} {T : TypeId} {e : TE} (w : World)
theorem TyOk.size (h : TyOk P T e) : (sizeOf T).run P w = .ok e.size w := by
  obtain ⟨i, z, hi, h1, _⟩ := h.info
  simp [sizeOf, typeInfo, hi, h1]
theorem TyOk.isAgg (h : TyOk P T e) : (isAgg T).run P w = .ok e.k.agg w := by
  obtain ⟨d, hd, hk⟩ := h.und
  have hu := run_underlying hd w
  unfold Go.isAgg
  rw [Sem.run_bind, hu, Result.andThen_ok]
  cases hk' : e.k <;> rw [hk'] at hk <;> simp only [TK.ok] at hk <;> first
    | (subst hk; rfl)
    | (obtain ⟨a, rfl, _⟩ := hk; rfl)
    | (obtain ⟨a, b, c, rfl⟩ := hk; rfl)
    | (obtain ⟨a, rfl⟩ := hk; rfl)
theorem TyOk.zero (h : TyOk P T e) : ∃ z, (zeroValue T).run P w = .ok z w ∧ z.cells.toList = e.zero := by
  obtain ⟨i, z, hi, _, _, hz, hc, _⟩ := h.info
  exact ⟨z, by simp [zeroValue, typeInfo, hi, hz], hc⟩
theorem TyOk.zlen (h : TyOk P T e) : e.zero.length = e.size := by obtain ⟨i, z, _, _, _, _, _, hl, _⟩ := h.info; exact hl
theorem TyOk.zone (h : TyOk P T e) : ∀ v ∈ e.zero, v.oneCell' = true := by
  obtain ⟨i, z, _, _, _, _, _, _, ho⟩ := h.info
  intro v hv
  exact List.all_eq_true.1 ho v hv
end

/-! ### Values -/
/-- A value as the cells that hold it. -/
def AV.cells : AV → List AV
  | .agg cs => cs
  | .d (.agg cs) => cs.map .d
  | .d (.v (.agg a)) => a.toList.map fun x => .d (.v x)
  | x => [x]
/-- Is it a value of one cell, for certain? -/
def oneD : D → Bool
  | .v x => x.oneCell'
  | .sl .. => true
  | .ip _ => true
  | _ => false
def oneA : AV → Bool
  | .d x => oneD x
  | .ptr .. | .row _ | .rptr .. | .psl .. | .fn .. | .iface .. => true
  | _ => false

section
variable {w : World} {I : Nat → Prop} {β : Nat → Value}
theorem oneD_ok : ∀ {x : D} {y : Value}, Den w I x y → oneD x = true → y.oneCell' = true
  | .v _, _, h, ho => by rw [Den] at h; subst h; exact ho
  | .sl .., _, h, _ => by obtain ⟨a, cap, rfl, _⟩ := h; rfl
  | .ip _, _, h, _ => by obtain ⟨b, off, rfl, _⟩ := h; rfl
  | .any, _, _, ho => by cases ho
  | .agg _, _, _, ho => by cases ho
  | .tup _, _, _, ho => by cases ho
theorem oneA_ok : ∀ {x : AV} {y : Value}, DenA w I β x y → oneA x = true → y.oneCell' = true
  | .d _, _, h, ho => oneD_ok h ho
  | .ptr .., _, h, _ => by obtain ⟨b, _, rfl⟩ := h; rfl
  | .row _, _, h, _ => by obtain ⟨_, a, n, c, rfl⟩ := h; rfl
  | .rptr .., _, h, _ => by obtain ⟨b, n, c, _, rfl⟩ := h; rfl
  | .psl .., _, h, _ => by obtain ⟨b, _, rfl⟩ := h; rfl
  | .fn .., _, h, _ => by obtain ⟨a, b, rfl, _⟩ := h; rfl
  | .iface .., _, h, _ => by obtain ⟨z, rfl, _⟩ := h; rfl
  | .agg _, _, _, ho => by cases ho
  | .tup _, _, _, ho => by cases ho
  | .when .., _, _, ho => by cases ho

theorem oneAs_ok : ∀ {cs : List AV} {vs : List Value}, DenAs w I β cs vs → (∀ c ∈ cs, oneA c = true) → ∀ v ∈ vs, v.oneCell' = true
  | [], _, h, _ => by rw [DenAs] at h; subst h; simp
  | c :: cs, _, h, ho => by
    obtain ⟨v, vs', rfl, h1, h2⟩ := h
    intro u hu
    rcases List.mem_cons.1 hu with rfl | hu
    · exact oneA_ok h1 (ho c (by simp))
    · exact oneAs_ok h2 (fun d hd => ho d (by simp [hd])) u hu

theorem cells_of_one {y : Value} (h : y.oneCell' = true) : y.cells.toList = [y] := by cases y <;> first | rfl | cases h

theorem DenAs_consts : ∀ (l : List Value), DenAs w I β (l.map fun x => .d (.v x)) l
  | [] => rfl
  | x :: l => ⟨x, l, rfl, DenA_v.2 rfl, DenAs_consts l⟩

/-- The cells of a value that is stored. -/
theorem cells_ok {x : AV} {y : Value} (h : DenA w I β x y) (ho : ∀ c ∈ x.cells, oneA c = true) : DenAs w I β x.cells y.cells.toList := by
  have one : oneA x = true → x.cells = [x] → DenAs w I β x.cells y.cells.toList := fun h1 h2 => by
    rw [h2, cells_of_one (oneA_ok h h1)]; exact ⟨y, [], rfl, h, rfl⟩
  cases x with
  | agg cs => obtain ⟨vs, rfl, h⟩ := h; simpa [AV.cells, Value.cells] using h
  | d x =>
    cases x with
    | agg cs => obtain ⟨vs, rfl, h⟩ := h; simpa [AV.cells, Value.cells] using DenAs.of_dens h
    | v x =>
      cases x with
      | agg a => rw [DenA_v] at h; subst h; simpa [AV.cells, Value.cells] using DenAs_consts (w := w) (I := I) (β := β) a.toList
      | _ => exact one (ho _ (by simp [AV.cells])) rfl
    | _ => exact one (ho _ (by simp [AV.cells])) rfl
  | _ => exact one (ho _ (by simp [AV.cells])) rfl
end

/-! ### An operation whose run is known -/
section
variable {P : Program} {ds : Dn} {pn : Pn} {o : Oper} {S S' : St}
/-- It yields a value and turns nothing. -/
theorem Core.value {v : AV} (h : ∀ w0 I0 F I β a w, Rel ds w0 I0 F S I β a w → ∃ y, (execOp a.eval o).run P w = .ok (.value y) w ∧ DenA w I β v y) : Core P ds pn o S (S.app o.dst ⟨v, [], [], []⟩) := by
  intro w0 I0 F I β a w hr next Q hn _
  obtain ⟨y, hrun, hd⟩ := h w0 I0 F I β a w hr
  unfold Oper.wp
  rw [hrun, Oper.upon_value]
  exact hn I β _ w (hr.put o.dst hd)
/-- It yields a value and turns the world. -/
theorem Core.world (h : ∀ w0 I0 F I β a w, Rel ds w0 I0 F S I β a w → ∃ y w' I' β', (execOp a.eval o).run P w = .ok (.value y) w' ∧ Rel ds w0 I0 F S' I' β' (a.put o.dst y) w') : Core P ds pn o S S' := by
  intro w0 I0 F I β a w hr next Q hn _
  obtain ⟨y, w', I', β', hrun, hd⟩ := h w0 I0 F I β a w hr
  unfold Oper.wp
  rw [hrun, Oper.upon_value]
  exact hn I' β' _ w' hd
/-- It yields nothing. -/
theorem Core.skip (h : ∀ w0 I0 F I β a w, Rel ds w0 I0 F S I β a w → ∃ w' I' β', (execOp a.eval o).run P w = .ok .skip w' ∧ Rel ds w0 I0 F S' I' β' (a.put o.dst undef) w') : Core P ds pn o S S' := by
  intro w0 I0 F I β a w hr next Q hn _
  obtain ⟨w', I', β', hrun, hd⟩ := h w0 I0 F I β a w hr
  unfold Oper.wp
  rw [hrun, Oper.upon_skip]
  exact hn I' β' _ w' hd
end

theorem alloc_old (w : World) (o : Obj) (n : Nat) (h : n < w.heap.size) : (w.alloc o).heap[n]? = w.heap[n]? := (World.grownBy_alloc w o none).block n h (by simp)

/-- A new block under a new tag. -/
theorem Rel.alloc {ds : Dn} {w0 : World} {I0 F : Nat → Prop} {S : St} {I : Nat → Prop} {β : Nat → Value} {a : Act} {w : World} (hr : Rel ds w0 I0 F S I β a w)
    {k : Nat} (hf : S.has k = false) {cs : Array Value} {T : TypeId} {b : Box} {y : Value} (hy : blk y = some w.heap.size)
    (hb : BoxRel (w.alloc (.cells cs T)) I (upd β k y) y b) : Rel ds w0 I0 F ⟨S.sl, setB S.bx k b⟩ I (upd β k y) a (w.alloc (.cells cs T)) := by
  have hk9 := St.has_lt hf
  have hf := St.has_sl' hf
  have hm := hr.mem.world (World.grownBy_alloc w (.cells cs T) none) (r := none) (by simp) (bx' := S.bx) (fun k b h => ⟨h, .inl rfl⟩)
  refine ⟨hm.add hf.2 hb (fun n hn => ?_), DenAs.mono ⟨fun _ h => h, fun n hn => alloc_old w _ n (hr.mem.im n hn)⟩ _ _ (fun j hj => upd_other _ _ fun e => ?_) hr.sl, hr.dn, fun j hj => (upd_other _ _ (by omega)).trans (hr.fx j hj)⟩
  · rw [hy] at hn
    cases hn
    refine ⟨fun hI => Nat.lt_irrefl _ (hr.mem.im _ hI), .inr hr.mem.sz, fun j c hc hn => ?_⟩
    exact Nat.lt_irrefl _ ((hr.mem.bxs j c hc).lt hn)
  · subst e; rw [hf.1] at hj; cases hj

theorem St.app_add (S : St) (dst : Option Tmp) (v : AV) (k : Nat) (b : Box) : S.app dst ⟨v, [], [], [(k, b)]⟩ = (St.mk S.sl (setB S.bx k b)).put dst v := rfl
theorem St.app_upd (S : St) (dst : Option Tmp) (v : AV) (k : Nat) (b : Box) : S.app dst ⟨v, [], [(k, b)], []⟩ = (St.mk S.sl (setB S.bx k b)).put dst v := rfl
theorem St.app_none (S : St) (dst : Option Tmp) (v : AV) : S.app dst ⟨v, [], [], []⟩ = S.put dst v := rfl

/-- What an operation gives: what must hold, what it does, which boxes it looks at. -/
abbrev OpR := Option (Prop × Eff × List Nat)
def okV (v : AV) : OpR := some (True, ⟨v, [], [], []⟩, [])

/-- One operation serves at a table of types. -/
def Serves (P : Program) (o : Oper) (f : St → OpR) : Prop :=
  ∀ ds pn S side e fp, f S = some (side, e, fp) → side → LCore P ds pn o S e fp

theorem serves_move {P : Program} {o : Oper} {x : Operand} (ho : o.op = .move x) : Serves P o fun S => okV (S.ev x) := by
  intro ds pn S side e fp h _ S1 hs _
  simp only [okV, Option.some.injEq, Prod.mk.injEq] at h
  obtain ⟨_, rfl, _⟩ := h
  have e1 := hs.1 x (by simp [ho, Op.operands])
  exact Core.value fun w0 I0 F I β a w hr => ⟨a.eval x, by simp [execOp, ho], by rw [← e1]; exact hr.ev x⟩
theorem serves_assign {P : Program} {o : Oper} {x : Operand} (ho : o.op = .assign x) : Serves P o fun S => okV (S.ev x) := by
  intro ds pn S side e fp h _ S1 hs _
  simp only [okV, Option.some.injEq, Prod.mk.injEq] at h
  obtain ⟨_, rfl, _⟩ := h
  have e1 := hs.1 x (by simp [ho, Op.operands])
  exact Core.value fun w0 I0 F I β a w hr => ⟨a.eval x, by simp [execOp, ho], by rw [← e1]; exact hr.ev x⟩

/-! ### pick -/
def boolOf : AV → Option (Bool × Bool)
  | .d (.v (.bool p)) => some (p, true)
  | .when b (.d (.v (.bool p))) => some (p, b)
  | _ => none
def pickA (c a b : AV) : OpR :=
  match c with
  | .d (.v (.bool t)) => (boolOf a).bind fun p => (boolOf b).bind fun q => some ((t = true → p.2 = true) ∧ (t = false → q.2 = true), ⟨.d (.v (.bool (cond t p.1 q.1))), [], [], []⟩, [])
  | _ => none
def opPick (c a b : Operand) (S : St) : OpR := pickA (S.ev c) (S.ev a) (S.ev b)

theorem boolOf_ok {w : World} {I : Nat → Prop} {β : Nat → Value} {g p : Bool} {x : AV} {y : Value} (h : DenA w I β x y) (hb : boolOf x = some (p, g)) (hg : g = true) : y = .bool p := by
  unfold boolOf at hb
  split at hb
  · cases hb; rwa [DenA_v] at h
  · cases hb; have := h.1 hg; rwa [DenA_v] at this
  · cases hb

theorem serves_pick {P : Program} {o : Oper} {c a b : Operand} (ho : o.op = .pick c a b) : Serves P o (opPick c a b) := by
  intro ds pn S side e fp h hside S1 hs _
  have ec := hs.1 c (by simp [ho, Op.operands])
  have ea := hs.1 a (by simp [ho, Op.operands])
  have eb := hs.1 b (by simp [ho, Op.operands])
  unfold opPick pickA at h
  rw [← ec, ← ea, ← eb] at h
  split at h
  · rename_i t ht
    cases h1 : boolOf (S1.ev a) with
    | none => rw [h1] at h; cases h
    | some p =>
      cases h2 : boolOf (S1.ev b) with
      | none => rw [h1, h2] at h; cases h
      | some q =>
        rw [h1, h2] at h
        cases h
        refine Core.value fun w0 I0 F I β A w hr => ?_
        have hc := hr.ev c
        have ha := hr.ev a
        have hb := hr.ev b
        rw [ht, DenA_v] at hc
        cases t with
        | true => exact ⟨A.eval a, by simp [execOp, ho, hc, asBool], by rw [boolOf_ok ha h1 (hside.1 rfl), DenA_v]; rfl⟩
        | false => exact ⟨A.eval b, by simp [execOp, ho, hc, asBool], by rw [boolOf_ok hb h2 (hside.2 rfl), DenA_v]; rfl⟩
  · cases h

/-! ### alloc, box -/
def opAlloc (τ : Tab) (dst : Option Tmp) (T : TypeId) (_ : St) : OpR :=
  match dst, τ T with
  | some k, some e => some (True, ⟨.ptr k 0, [], [], [(k, .cells T (e.zero.map fun x => .d (.v x)))]⟩, [])
  | _, _ => none
def opBox (dst : Option Tmp) (T : TypeId) (x : Operand) (S : St) : OpR :=
  match dst with
  | some k => some (∀ c ∈ (S.ev x).cells, oneA c = true, ⟨.ptr k 0, [], [], [(k, .cells T (S.ev x).cells)]⟩, [])
  | _ => none

theorem DenA_ptr0 {w : World} {I : Nat → Prop} {β : Nat → Value} (k b off : Nat) : DenA w I (upd β k (.pointer (some ⟨b, 0, none⟩))) (.ptr k off) (.pointer (some ⟨b, off, none⟩)) :=
  ⟨b, upd_same _ _ _, rfl⟩

theorem St.has_sl {S : St} {k : Nat} (h : S.has k = false) : ∀ j, AV.hasL j S.sl = true → j ≠ k := fun j hj e => by
  subst e; rw [(St.has_sl' h).1] at hj; cases hj

theorem has_at {S : St} {k : Nat} (h : S.has k = false) (x : Operand) : AV.has k (S.ev x) = false := by
  have hl : ∀ (l : List AV), AV.hasL k l = false → ∀ t : Nat, AV.has k (l[t]?.getD (.d .any)) = false := by
    intro l
    induction l with
    | nil => intro _ t; simp [AV.has]
    | cons c cs ih =>
      intro hh t
      simp only [AV.hasL, Bool.or_eq_false_iff] at hh
      cases t with
      | zero => simpa using hh.1
      | succ t => simpa using ih hh.2 t
  have h := St.has_sl' h
  cases x with
  | tmp t => exact hl S.sl h.1 t
  | _ => simp [St.ev, AV.has]

theorem has_cells {k : Nat} {x : AV} (h : AV.has k x = false) : AV.hasL k x.cells = false := by
  have hm : ∀ l : List D, AV.hasL k (l.map .d) = false := fun l => by induction l with | nil => rfl | cons c cs ih => simp [AV.hasL, AV.has, ih]
  have hm2 : ∀ l : List Value, AV.hasL k (l.map fun x => .d (.v x)) = false := fun l => by induction l with | nil => rfl | cons c cs ih => simp [AV.hasL, AV.has, ih]
  cases x with
  | agg cs => simpa [AV.cells, AV.has] using h
  | d x =>
    cases x with
    | agg cs => exact hm cs
    | v x =>
      cases x with
      | agg a => exact hm2 _
      | _ => simp [AV.cells, AV.hasL, AV.has]
    | _ => simp [AV.cells, AV.hasL, AV.has]
  | _ => simp only [AV.cells, AV.hasL, Bool.or_false]; exact h

theorem serves_alloc {P : Program} {τ : Tab} (hτ : TabOk P τ) {o : Oper} {T : TypeId} (ho : o.op = .alloc T) : Serves P o (opAlloc τ o.dst T) := by
  intro ds pn S side e fp h _ S1 _ hf
  unfold opAlloc at h
  split at h
  · rename_i k te hd ht
    cases h
    have hk : S1.has k = false := hf _ (List.mem_singleton.2 rfl)
    have tk := hτ T te ht
    refine Core.world fun w0 I0 F I β a w hr => ?_
    obtain ⟨z, hz, hc⟩ := tk.zero w
    refine ⟨.pointer (some ⟨w.heap.size, 0, none⟩), w.alloc (.cells z.cells T), I, upd β k (.pointer (some ⟨w.heap.size, 0, none⟩)), ?_, ?_⟩
    · simp [execOp, ho, Instr.alloc, hz, newVar, newRow]
    · rw [St.app_add]
      refine Rel.put (hr.alloc (b := .cells T (te.zero.map fun x => .d (.v x))) (y := .pointer (some ⟨w.heap.size, 0, none⟩)) hk rfl ⟨w.heap.size, te.zero, rfl, ?_, DenAs_consts _, tk.zone⟩) o.dst (DenA_ptr0 k _ 0)
      rw [heap_alloc_new, ← hc, Array.toArray_toList]
  · cases h

theorem serves_box {P : Program} {o : Oper} {T : TypeId} {x : Operand} (ho : o.op = .box T x) : Serves P o (opBox o.dst T x) := by
  intro ds pn S side e fp h hside S1 hs hf
  have ex := hs.1 x (by simp [ho, Op.operands])
  unfold opBox at h
  rw [← ex] at h
  split at h
  · rename_i k hd
    cases h
    have hk : S1.has k = false := hf _ (List.mem_singleton.2 rfl)
    refine Core.world fun w0 I0 F I β a w hr => ?_
    have hx := cells_ok (hr.ev x) hside
    refine ⟨.pointer (some ⟨w.heap.size, 0, none⟩), w.alloc (.cells (a.eval x).cells T), I, upd β k (.pointer (some ⟨w.heap.size, 0, none⟩)), ?_, ?_⟩
    · simp [execOp, ho, Instr.box, newVar, newRow]
    · rw [St.app_add]
      refine Rel.put (hr.alloc (b := .cells T (S1.ev x).cells) (y := .pointer (some ⟨w.heap.size, 0, none⟩)) hk rfl ⟨w.heap.size, (a.eval x).cells.toList, rfl, ?_, ?_, oneAs_ok hx hside⟩) o.dst (DenA_ptr0 k _ 0)
      · rw [heap_alloc_new, Array.toArray_toList]
      · refine DenAs.mono ⟨fun _ h => h, fun n hn => alloc_old w _ n (hr.mem.im n hn)⟩ _ _ (fun j hj => upd_other _ _ fun e => ?_) hx
        subst e
        rw [has_cells (has_at hk x)] at hj
        cases hj
  · cases h

end Go.Xe
