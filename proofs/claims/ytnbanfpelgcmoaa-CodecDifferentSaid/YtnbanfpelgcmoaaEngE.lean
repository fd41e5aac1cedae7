/-
  The engine, part E. Addresses, numbers, strings, tuples.
-/
import Derived.Test.YtnbanfpelgcmoaaEngD
namespace Go.Xe
open Go.RowKit

/-! ### nilCheck -/
def nilA (x : AV) : OpR :=
  match x with
  | .ptr .. | .rptr .. | .d (.ip _) => okV x
  | .fn (.func _) _ _ => okV x
  | .d (.v (.func (.func _) _ _)) => okV x
  | _ => none
def opNil (x : Operand) (S : St) : OpR := nilA (S.ev x)
theorem serves_nil {P : Program} {o : Oper} {x : Operand} (ho : o.op = .nilCheck x) : Serves P o (opNil x) := by
  intro ds pn S side e fp h _ S1 hs _
  have ex := hs.1 x (by simp [ho, Op.operands])
  unfold opNil at h
  rw [← ex] at h
  have he : e = ⟨S1.ev x, [], [], []⟩ := by
    unfold nilA at h
    split at h <;> first | (cases h; rfl) | (cases h)
  subst he
  refine Core.value fun w0 I0 F I β a w hr => ⟨a.eval x, ?_, hr.ev x⟩
  have hv := hr.ev x
  unfold nilA at h
  split at h
  · rename_i k off hx; rw [hx] at hv; obtain ⟨b, _, e2⟩ := hv; simp [execOp, ho, e2]
  · rename_i k off hx; rw [hx] at hv; obtain ⟨b, n, c, _, e2⟩ := hv; simp [execOp, ho, e2]
  · rename_i cs hx; rw [hx, DenA, Den] at hv; obtain ⟨b, off, e2, _⟩ := hv; simp [execOp, ho, e2]
  · rename_i f a1 a2 hx; rw [hx] at hv; obtain ⟨v1, v2, e2, _⟩ := hv; simp [execOp, ho, e2]
  · rename_i f a1 a2 hx; rw [hx, DenA_v] at hv; simp [execOp, ho, hv]
  · cases h

/-! ### binOp -/
def shN (k : IntKind) (b : Int) : Nat := min b.toNat k.bits
def binI (op : BinOp) (k : IntKind) (a b : Int) : Option (Prop × Value) :=
  match op with
  | .add => some (True, .int k (k.wrap (a + b)))
  | .sub => some (True, .int k (k.wrap (a - b)))
  | .mul => some (True, .int k (k.wrap (a * b)))
  | .quo => some (b ≠ 0, .int k (k.wrap (a.tdiv b)))
  | .rem => some (b ≠ 0, .int k (a.tmod b))
  | .and => some (True, .int k (bits .and k a b))
  | .or => some (True, .int k (bits .or k a b))
  | .xor => some (True, .int k (bits .xor k a b))
  | .andNot => some (True, .int k (bits .andNot k a b))
  | .eql => some (True, .bool (decide (a = b)))
  | .neq => some (True, .bool (!decide (a = b)))
  | .lss => some (True, .bool (decide (a < b)))
  | .leq => some (True, .bool (decide (a ≤ b)))
  | .gtr => some (True, .bool (decide (b < a)))
  | .geq => some (True, .bool (decide (b ≤ a)))
  | _ => none
def binS (op : BinOp) (a b : ByteArray) : Option (Prop × Value) :=
  match op with
  | .eql => some (True, .bool (decide (a = b)))
  | .neq => some (True, .bool (!decide (a = b)))
  | .lss => some (True, .bool (Op.bytesLess a.data.toList b.data.toList))
  | .gtr => some (True, .bool (!(Op.bytesLess a.data.toList b.data.toList || decide (a = b))))
  | .add => some (a.size + b.size ≤ 9223372036854775807, .string (a ++ b))
  | _ => none
def binV (op : BinOp) (x y : Value) : Option (Prop × Value) :=
  match x, y with
  | .int k a, .int k' b =>
    match op with
    | .shl => some (0 ≤ b, .int k (k.wrap (a * 2 ^ shN k b)))
    | .shr => some (0 ≤ b, .int k (a.fdiv (2 ^ shN k b)))
    | op => if k = k' then binI op k a b else none
  | .string a, .string b => binS op a b
  | _, _ => none

theorem toList_eq_data (a b : ByteArray) : (a.toList == b.toList) = decide (a = b) := by
  rw [ByteArray.toList_eq, ByteArray.toList_eq, Bool.eq_iff_iff]
  simp only [beq_iff_eq, decide_eq_true_eq]
  constructor
  · intro h; cases a; cases b; simp at h; simp [h]
  · rintro rfl; rfl

theorem beq_dec (a b : Int) : (a == b) = decide (a = b) := by rw [Bool.eq_iff_iff]; simp

theorem run_binV {P : Program} {w : World} {op : BinOp} {T : TypeId} {x y v : Value} {side : Prop} (h : binV op x y = some (side, v)) (hs : side) : (binOp op T x y).run P w = .ok v w := by
  unfold binV at h
  split at h
  · rename_i k a k' b
    split at h
    · cases h
      simp only [binOp, Op.shift]
      rw [if_neg (by omega)]; rfl
    · cases h
      simp only [binOp, Op.shift]
      rw [if_neg (by omega)]; rfl
    · rename_i h1 h2
      split at h
      · rename_i hk
        subst hk
        cases op <;> simp only [binI, Option.some.injEq, Prod.mk.injEq, reduceCtorEq] at h <;> try (obtain ⟨rfl, rfl⟩ := h)
        all_goals first
          | (exact absurd rfl h1)
          | (exact absurd rfl h2)
          | (simp [binOp, Op.intArith]; done)
          | (simp [binOp, Op.intDiv, hs]; done)
          | (simp [binOp, Op.intBits, bits]; done)
          | (simp [binOp, Op.intCmp, beq_dec, bne]; done)
      · cases h
  · rename_i a b
    cases op <;> simp only [binS, Option.some.injEq, Prod.mk.injEq, reduceCtorEq] at h <;> try (obtain ⟨rfl, rfl⟩ := h)
    all_goals first
      | (simp only [binOp, Op.stringOp, toList_eq_data]; rfl)
      | (simp only [binOp, Op.stringOp]; rw [toList_eq_data, ByteArray.toList_eq, ByteArray.toList_eq]; rfl)
      | (simp only [binOp, Op.stringOp]; rw [ByteArray.toList_eq, ByteArray.toList_eq]; rfl)
      | (simp only [binOp, Op.stringOp, IntKind.max, IntKind.bits, IntKind.signed]; rw [if_neg (by have := hs; simp; omega)]; rfl)
  · cases h

def opBin (op : BinOp) (x y : Operand) (S : St) : OpR :=
  match S.ev x, S.ev y with
  | .d (.v a), .d (.v b) => (binV op a b).bind fun r => some (r.1, ⟨.d (.v r.2), [], [], []⟩, [])
  | _, _ => none

theorem guard_binV {P : Program} {w : World} {op : BinOp} {T : TypeId} {x y : Operand} {a b : Value} {r : Prop × Value} (h : binV op a b = some r) : (eqGuard op T x y a b).run P w = .ok () w := by
  unfold binV at h
  split at h
  · cases op <;> rfl
  · cases op <;> rfl
  · cases h

theorem serves_bin {P : Program} {o : Oper} {op : BinOp} {T T' : TypeId} {x y : Operand} (ho : o.op = .binOp op T x y T') : Serves P o (opBin op x y) := by
  intro ds pn S side e fp h hside S1 hs _
  have ex := hs.1 x (by simp [ho, Op.operands])
  have ey := hs.1 y (by simp [ho, Op.operands])
  unfold opBin at h
  rw [← ex, ← ey] at h
  split at h
  · rename_i a b hx hy
    cases hb : binV op a b with
    | none => rw [hb] at h; cases h
    | some r =>
      obtain ⟨sd, v⟩ := r
      rw [hb] at h
      cases h
      refine Core.value fun w0 I0 F I β A w hr => ⟨v, ?_, DenA_v.2 rfl⟩
      have h1 := hr.ev x
      have h2 := hr.ev y
      rw [hx, DenA_v] at h1
      rw [hy, DenA_v] at h2
      simp [execOp, ho, h1, h2, guard_binV (P := P) (w := w) (T := T) (x := x) (y := y) hb, run_binV (P := P) (w := w) (T := T) hb hside]
  · cases h

/-! ### unOp -/
def unV (op : UnOp) (x : Value) : Option Value :=
  match op, x with
  | .neg, .int k n => some (.int k (k.wrap (0 - n)))
  | .xor, .int k n => some (.int k (bits .xor k (if k.signed then -1 else k.max) n))
  | .not, .bool b => some (.bool (!b))
  | _, _ => none
def opUn (op : UnOp) (x : Operand) (S : St) : OpR :=
  match S.ev x with
  | .d (.v a) => (unV op a).bind fun r => okV (.d (.v r))
  | _ => none
theorem serves_un {P : Program} {o : Oper} {op : UnOp} {T : TypeId} {x : Operand} (ho : o.op = .unOp op T x) : Serves P o (opUn op x) := by
  intro ds pn S side e fp h hside S1 hs _
  have ex := hs.1 x (by simp [ho, Op.operands])
  unfold opUn at h
  rw [← ex] at h
  split at h
  · rename_i a hx
    cases hb : unV op a with
    | none => rw [hb] at h; cases h
    | some v =>
      rw [hb] at h
      cases h
      refine Core.value fun w0 I0 F I β A w hr => ⟨v, ?_, DenA_v.2 rfl⟩
      have h1 := hr.ev x
      rw [hx, DenA_v] at h1
      unfold unV at hb
      split at hb <;> cases hb <;> simp [execOp, ho, h1, Op.unary, Op.intArith, Op.intBits, bits]
  · cases h

/-! ### makeFunc, extract -/
def opFunc (f : Fn) (first caps : Array Operand) (S : St) : OpR := okV (.fn f (first.toList.map S.ev) (caps.toList.map S.ev))
theorem DenAs_map {ds : Dn} {w0 : World} {I0 F : Nat → Prop} {S : St} {I : Nat → Prop} {β : Nat → Value} {a : Act} {w : World} (hr : Rel ds w0 I0 F S I β a w) : ∀ l : List Operand, DenAs w I β (l.map S.ev) (l.map a.eval)
  | [] => rfl
  | x :: l => ⟨_, _, rfl, hr.ev x, DenAs_map hr l⟩
theorem serves_func {P : Program} {o : Oper} {f : Fn} {first caps : Array Operand} (ho : o.op = .makeFunc f first caps) : Serves P o (opFunc f first caps) := by
  intro ds pn S side e fp h hside S1 hs _
  have e1 : ∀ l : List Operand, (∀ x ∈ l, x ∈ o.op.operands) → l.map S.ev = l.map S1.ev := fun l hl => List.map_congr_left fun x hx => (hs.1 x (hl x hx)).symm
  unfold opFunc at h
  rw [e1 _ (fun x hx => by simp [ho, Op.operands]; exact .inl (by simpa using hx)), e1 _ (fun x hx => by simp [ho, Op.operands]; exact .inr (by simpa using hx))] at h
  cases h
  refine Core.value fun w0 I0 F I β A w hr => ⟨.func f (first.map A.eval) (caps.map A.eval), by simp [execOp, ho, Instr.makeFunc], (first.map A.eval).toList, (caps.map A.eval).toList, by rw [Array.toArray_toList, Array.toArray_toList], ?_, ?_⟩
  · rw [Array.toList_map]; exact DenAs_map hr _
  · rw [Array.toList_map]; exact DenAs_map hr _

def opExtract (t : Operand) (i : Nat) (S : St) : OpR :=
  match S.ev t with
  | .tup cs => (cs[i]?).bind okV
  | .d (.tup cs) => (cs[i]?).bind fun x => okV (.d x)
  | _ => none
theorem serves_extract {P : Program} {o : Oper} {t : Operand} {i : Nat} (ho : o.op = .extract t i) : Serves P o (opExtract t i) := by
  intro ds pn S side e fp h hside S1 hs _
  have ex := hs.1 t (by simp [ho, Op.operands])
  unfold opExtract at h
  rw [← ex] at h
  have key : ∀ (cs : List AV) (x : AV), cs[i]? = some x → (∀ w0 I0 F I β a w, Rel ds w0 I0 F S1 I β a w → ∃ vs : List Value, a.eval t = .tuple vs.toArray ∧ DenAs w I β cs vs) → Core P ds pn o S1 (S1.app o.dst ⟨x, [], [], []⟩) := by
    intro cs x hx hh
    refine Core.value fun w0 I0 F I β A w hr => ?_
    obtain ⟨vs, e1, hd⟩ := hh w0 I0 F I β A w hr
    obtain ⟨y, hy, hyd⟩ := hd.get hx
    exact ⟨y, by simp [execOp, ho, e1, Instr.extract, hy], hyd⟩
  split at h
  · rename_i cs hx
    cases hc : cs[i]? with
    | none => rw [hc] at h; cases h
    | some x =>
      rw [hc] at h; cases h
      exact key cs x hc fun w0 I0 F I β a w hr => by have hv := hr.ev t; rw [hx] at hv; exact hv
  · rename_i cs hx
    cases hc : cs[i]? with
    | none => rw [hc] at h; cases h
    | some x =>
      rw [hc] at h; cases h
      refine key (cs.map .d) (.d x) (by simp [hc]) fun w0 I0 F I β a w hr => ?_
      have hv := hr.ev t
      rw [hx, DenA, Den] at hv
      obtain ⟨vs, e1, hd⟩ := hv
      exact ⟨vs, e1, DenAs.of_dens hd⟩
  · cases h

/-! ### fieldAddr, field -/
def fieldOf (τ : Tab) (T : TypeId) (i : Nat) : Option (Nat × TE) :=
  match τ T with
  | some ⟨.struct fs, _, _, _⟩ => match fs[i]? with
    | some (off, ft) => match τ ft with
      | some te => if te.size = 0 then none else some (off, te)
      | none => none
    | none => none
  | _ => none
def fieldAddrA (off : Nat) (x : AV) : Option AV :=
  match x with
  | .ptr k j => some (.ptr k (j + off))
  | .rptr k j => some (.rptr k (j + off))
  | .d (.ip cs) => some (.d (.ip (cs.drop off)))
  | _ => none
def opFieldAddr (τ : Tab) (T : TypeId) (x : Operand) (i : Nat) (S : St) : OpR :=
  (fieldOf τ T i).bind fun r => (fieldAddrA r.1 (S.ev x)).bind okV

theorem fieldOf_ok {P : Program} {τ : Tab} (hτ : TabOk P τ) {T : TypeId} {i off : Nat} {te : TE} (h : fieldOf τ T i = some (off, te)) :
    ∃ (fs : Array Field) (f : Field), P.underlying T = some (.struct fs) ∧ fs[i]? = some f ∧ f.offset = off ∧ TyOk P f.type te ∧ te.size ≠ 0 := by
  unfold fieldOf at h
  split at h
  · rename_i fs _ _ _ ht
    have tk := hτ T _ ht
    obtain ⟨d, hd, fa, rfl, hfs⟩ := tk.und
    split at h
    · rename_i o ft hi
      split at h
      · rename_i te' hte
        split at h
        · cases h
        · rename_i hz
          cases h
          rw [← hfs] at hi
          simp only [List.getElem?_map, Array.getElem?_toList] at hi
          cases hf : fa[i]? with
          | none => rw [hf] at hi; cases hi
          | some f => rw [hf] at hi; cases hi; exact ⟨fa, f, hd, hf, rfl, hτ _ _ hte, hz⟩
      · cases h
    · cases h
  · cases h

theorem serves_fieldAddr {P : Program} {τ : Tab} (hτ : TabOk P τ) {o : Oper} {T : TypeId} {x : Operand} {i : Nat} (ho : o.op = .fieldAddr T x i) : Serves P o (opFieldAddr τ T x i) := by
  intro ds pn S side e fp h hside S1 hs _
  have ex := hs.1 x (by simp [ho, Op.operands])
  unfold opFieldAddr at h
  rw [← ex] at h
  cases hf : fieldOf τ T i with
  | none => rw [hf] at h; cases h
  | some r =>
    obtain ⟨off, te⟩ := r
    rw [hf, Option.bind_some] at h
    obtain ⟨fs, f, hu, hfi, hoff, tk, hz⟩ := fieldOf_ok hτ hf
    have run : ∀ (a : Act) (w : World) (b j : Nat), a.eval x = .pointer (some ⟨b, j, none⟩) → (execOp a.eval o).run P w = .ok (.value (.pointer (some ⟨b, j + off, none⟩))) w := by
      intro a w b j he
      simp [execOp, ho, Instr.fieldAt, run_underlying hu, hfi, he, Instr.sureAddr, fieldPlace, tk.size, hz, hoff, Addr.add_lit]
    cases hx : fieldAddrA off (S1.ev x) with
    | none => rw [hx] at h; cases h
    | some v =>
      rw [hx] at h; cases h
      refine Core.value fun w0 I0 F I β A w hr => ?_
      have hv := hr.ev x
      unfold fieldAddrA at hx
      split at hx
      · rename_i k j he
        cases hx
        rw [he] at hv
        obtain ⟨b, e1, e2⟩ := hv
        exact ⟨_, run A w b j e2, b, e1, rfl⟩
      · rename_i k j he
        cases hx
        rw [he] at hv
        obtain ⟨b, n, c, e1, e2⟩ := hv
        exact ⟨_, run A w b j e2, b, n, c, e1, rfl⟩
      · rename_i cs he
        cases hx
        rw [he, DenA, Den] at hv
        obtain ⟨b, j, e2, hd⟩ := hv
        refine ⟨_, run A w b j e2, ?_⟩
        rw [DenA, Den]
        exact ⟨b, j + off, rfl, hd.drop off⟩
      · cases hx

def fieldA (off : Nat) (te : TE) (x : AV) : OpR :=
  match x with
  | .agg cs => some (sideR te off cs.length, ⟨readA te off cs, [], [], []⟩, [])
  | .d (.agg cs) => some (sideR te off cs.length, ⟨.d (readD te (cs.drop off)), [], [], []⟩, [])
  | _ => none
def opField (τ : Tab) (T : TypeId) (x : Operand) (i : Nat) (S : St) : OpR :=
  (fieldOf τ T i).bind fun r => fieldA r.1 r.2 (S.ev x)

theorem run_part {P : Program} {T : TypeId} {te : TE} (tk : TyOk P T te) {off : Nat} {vs : List Value} (h : sideR te off vs.length) (w : World) :
    (part T vs.toArray off).run P w = .ok (if te.k.agg = true then .agg ((vs.drop off).take te.size).toArray else ((vs.drop off).take te.size).getD 0 undef) w := by
  unfold part
  rw [Sem.run_bind, tk.isAgg w, Result.andThen_ok]
  cases ha : te.k.agg with
  | true =>
    simp only [if_true, Sem.run_bind, tk.size w, Result.andThen_ok, Sem.run_pure, List.extract_toArray]
    rw [List.extract_eq_take_drop]
    simp
  | false =>
    have h1 := h.2 ha
    have hlt : off < vs.length := by have := h.1; omega
    simp [h1, hlt]

theorem readD_eq {w : World} {I : Nat → Prop} {β : Nat → Value} {te : TE} {off : Nat} {cs : List D} {y : Value} (h : DenA w I β (readA te off (cs.map .d)) y) (hs : sideR te off cs.length) : DenA w I β (.d (readD te (cs.drop off))) y := by
  revert h
  unfold readA readD
  cases ha : te.k.agg with
  | true =>
    rintro ⟨us, e, hh⟩
    rw [DenA, Den]
    refine ⟨us, e, ?_⟩
    rw [← List.map_drop, ← List.map_take] at hh
    exact DenAs.to_dens hh
  | false =>
    intro hh
    simp only [List.getElem?_map, List.getElem?_drop, Nat.add_zero] at hh ⊢
    have hlt : off < cs.length := by have := hs.1; have := hs.2 ha; omega
    simpa [List.getElem?_eq_getElem hlt] using hh

theorem serves_field {P : Program} {τ : Tab} (hτ : TabOk P τ) {o : Oper} {T : TypeId} {x : Operand} {i : Nat} (ho : o.op = .field T x i) : Serves P o (opField τ T x i) := by
  intro ds pn S side e fp h hside S1 hs _
  have ex := hs.1 x (by simp [ho, Op.operands])
  unfold opField at h
  rw [← ex] at h
  cases hf : fieldOf τ T i with
  | none => rw [hf] at h; cases h
  | some r =>
    obtain ⟨off, te⟩ := r
    rw [hf, Option.bind_some] at h
    obtain ⟨fs, f, hu, hfi, hoff, tk, hz⟩ := fieldOf_ok hτ hf
    unfold fieldA at h
    split at h
    · rename_i cs hx
      cases h
      refine Core.value fun w0 I0 F I β A w hr => ?_
      have hv := hr.ev x
      rw [hx] at hv
      obtain ⟨vs, e1, hd⟩ := hv
      have hs' : sideR te off vs.length := by rw [← hd.length]; exact hside
      exact ⟨_, by simp [execOp, ho, Instr.field, run_underlying hu, hfi, e1, asAgg, hoff, run_part tk hs'], den_readA hd hside⟩
    · rename_i cs hx
      cases h
      refine Core.value fun w0 I0 F I β A w hr => ?_
      have hv := hr.ev x
      rw [hx, DenA, Den] at hv
      obtain ⟨vs, e1, hd⟩ := hv
      have hl := hd.length
      have hs' : sideR te off vs.length := by rw [← hl]; exact hside
      exact ⟨_, by simp [execOp, ho, Instr.field, run_underlying hu, hfi, e1, asAgg, hoff, run_part tk hs'], readD_eq (den_readA (e := te) (DenAs.of_dens (β := β) hd) (off := off) (by simpa using hside)) hside⟩
    · cases h

end Go.Xe
