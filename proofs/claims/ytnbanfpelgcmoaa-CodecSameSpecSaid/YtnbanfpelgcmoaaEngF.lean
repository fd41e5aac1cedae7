/-
  The engine, part F. Indexes, slices, conversions, lengths.
-/
import Derived.Test.YtnbanfpelgcmoaaEngE
namespace Go.Xe
open Go.RowKit

def intA : AV → Option Int
  | .d (.v (.int _ n)) => some n
  | _ => none
theorem intA_ok {w : World} {I : Nat → Prop} {β : Nat → Value} {x : AV} {n : Int} {y : Value} (h : intA x = some n) (hd : DenA w I β x y) : ∃ k, y = .int k n := by
  unfold intA at h
  split at h
  · rename_i k m; cases h; rw [DenA_v] at hd; exact ⟨k, hd⟩
  · cases h

/-! ### indexAddr -/
def idxA (τ : Tab) (T : TypeId) (bx : Bxs) (x : AV) (n : Int) : OpR :=
  match τ T with
  | some ⟨.slice e, _, _, _⟩ => match τ e with
    | some te => match x with
      | .d (.sl sz cs m _) => some (0 ≤ n ∧ n < m ∧ te.size = sz, ⟨.d (.ip ((cs.drop (n.toNat * sz)).take sz)), [], [], []⟩, [])
      | .psl k off m _ => some (0 ≤ n ∧ n < m, ⟨.ptr k (off + n.toNat * te.size), [], [], []⟩, [])
      | .row k => match getB bx k with
        | some (.row _ sz m _) => some (0 ≤ n ∧ n < m ∧ te.size = sz, ⟨.rptr k (n.toNat * te.size), [], [], []⟩, [k])
        | _ => none
      | _ => none
    | none => none
  | some ⟨.array len e, _, _, _⟩ => match τ e with
    | some te => match x with
      | .ptr k off => some (0 ≤ n ∧ n < len, ⟨.ptr k (off + n.toNat * te.size), [], [], []⟩, [])
      | .rptr k off => some (0 ≤ n ∧ n < len, ⟨.rptr k (off + n.toNat * te.size), [], [], []⟩, [])
      | .d (.ip cs) => some (0 ≤ n ∧ n < len, ⟨.d (.ip (cs.drop (n.toNat * te.size))), [], [], []⟩, [])
      | _ => none
    | none => none
  | _ => none
def opIdx (τ : Tab) (T : TypeId) (x i : Operand) (S : St) : OpR := (intA (S.ev i)).bind fun n => idxA τ T S.bx (S.ev x) n

theorem serves_idx {P : Program} {τ : Tab} (hτ : TabOk P τ) {o : Oper} {T : TypeId} {x i : Operand} (ho : o.op = .indexAddr T x i) : Serves P o (opIdx τ T x i) := by
  intro ds pn S side e fp h hside S1 hs _
  have ex := hs.1 x (by simp [ho, Op.operands])
  have ei := hs.1 i (by simp [ho, Op.operands])
  unfold opIdx at h
  rw [← ex, ← ei] at h
  cases hn : intA (S1.ev i) with
  | none => rw [hn] at h; cases h
  | some n =>
    rw [hn, Option.bind_some] at h
    have run1 : ∀ {el te} (a : Act) (w : World) (y : Value) (b off m c : Nat), P.underlying T = some (.slice el) → TyOk P el te → (∃ k, a.eval i = .int k n) → a.eval x = .slice (some ⟨b, off, none⟩) m c → 0 ≤ n → n < m →
        (execOp a.eval o).run P w = .ok (.value (.pointer (some ⟨b, off + n.toNat * te.size, none⟩))) w := by
      intro el te a w y b off m c hu tk hi hx h0 h1
      obtain ⟨k, hi⟩ := hi
      simp [execOp, ho, Instr.indexAt, hi, hx, asIntOf, run_underlying hu, tk.size, h0, h1, Addr.add_lit]
    have run2 : ∀ {el te} (a : Act) (w : World) (b off len : Nat), P.underlying T = some (.array len el) → TyOk P el te → (∃ k, a.eval i = .int k n) → a.eval x = .pointer (some ⟨b, off, none⟩) → 0 ≤ n → n < len →
        (execOp a.eval o).run P w = .ok (.value (.pointer (some ⟨b, off + n.toNat * te.size, none⟩))) w := by
      intro el te a w b off len hu tk hi hx h0 h1
      obtain ⟨k, hi⟩ := hi
      simp [execOp, ho, Instr.indexAt, hi, hx, asIntOf, run_underlying hu, tk.size, h0, h1, Addr.add_lit, Instr.sureAddr]
    unfold idxA at h
    split at h
    · rename_i el _ _ _ ht
      obtain ⟨d, hu, hk⟩ := (hτ T _ ht).und
      simp only [TK.ok] at hk
      subst hk
      split at h
      · rename_i te hte
        have tk := hτ el te hte
        split at h
        · rename_i sz cs m full hx
          cases h
          obtain ⟨h0, h1, hsz⟩ := hside
          refine Core.value fun w0 I0 F I β a w hr => ?_
          have hv := hr.ev x
          rw [hx, DenA, Den] at hv
          obtain ⟨ad, cap, e1, _, _, _, hlen, hnil, hat⟩ := hv
          cases ad with
          | none => have := (hnil rfl).1; omega
          | some ad =>
            obtain ⟨hsp, hat⟩ := hat ad rfl
            have hsp := hsp (by omega)
            obtain ⟨b, off, sp⟩ := ad
            simp only at hsp
            subst hsp
            refine ⟨_, run1 a w undef b off m cap hu tk (intA_ok hn (hr.ev i)) e1 h0 h1, ?_⟩
            rw [DenA, Den]
            exact ⟨b, _, rfl, by rw [hsz]; exact (hat.drop _).take _⟩
        · rename_i k off m cap hx
          cases h
          obtain ⟨h0, h1⟩ := hside
          refine Core.value fun w0 I0 F I β a w hr => ?_
          have hv := hr.ev x
          rw [hx] at hv
          obtain ⟨b, e1, e2⟩ := hv
          exact ⟨_, run1 a w undef b off m cap hu tk (intA_ok hn (hr.ev i)) e2 h0 h1, b, e1, rfl⟩
        · rename_i k hx
          split at h
          · rename_i T' sz m cs hb
            cases h
            obtain ⟨h0, h1, hsz⟩ := hside
            have hb1 : getB S1.bx k = some (.row T' sz m cs) := by rw [hs.2.2 k (by simp)]; exact hb
            refine Core.value fun w0 I0 F I β a w hr => ?_
            have hv := hr.ev x
            rw [hx, DenA] at hv
            obtain ⟨e1, _⟩ := hv
            obtain ⟨vs, how, hd, _⟩ := hr.mem.bxs k _ hb1
            rcases how.2 with ⟨_, hz⟩ | ⟨g, cap, cur, hy, _⟩
            · omega
            · rw [hy] at e1
              exact ⟨_, run1 a w undef g 0 m cap hu tk (intA_ok hn (hr.ev i)) e1 h0 h1, g, m, cap, hy, by rw [Nat.zero_add]⟩
          · cases h
        · cases h
      · cases h
    · rename_i len el _ _ _ ht
      obtain ⟨d, hu, hk⟩ := (hτ T _ ht).und
      simp only [TK.ok] at hk
      subst hk
      split at h
      · rename_i te hte
        have tk := hτ el te hte
        split at h
        · rename_i k off hx
          cases h
          refine Core.value fun w0 I0 F I β a w hr => ?_
          have hv := hr.ev x
          rw [hx] at hv
          obtain ⟨b, e1, e2⟩ := hv
          exact ⟨_, run2 a w b off len hu tk (intA_ok hn (hr.ev i)) e2 hside.1 hside.2, b, e1, rfl⟩
        · rename_i k off hx
          cases h
          refine Core.value fun w0 I0 F I β a w hr => ?_
          have hv := hr.ev x
          rw [hx] at hv
          obtain ⟨b, m, c, e1, e2⟩ := hv
          exact ⟨_, run2 a w b off len hu tk (intA_ok hn (hr.ev i)) e2 hside.1 hside.2, b, m, c, e1, rfl⟩
        · rename_i cs hx
          cases h
          refine Core.value fun w0 I0 F I β a w hr => ?_
          have hv := hr.ev x
          rw [hx, DenA, Den] at hv
          obtain ⟨b, off, e2, hd⟩ := hv
          refine ⟨_, run2 a w b off len hu tk (intA_ok hn (hr.ev i)) e2 hside.1 hside.2, ?_⟩
          rw [DenA, Den]
          exact ⟨b, _, rfl, hd.drop _⟩
        · cases h
      · cases h
    · cases h

/-! ### index -/
def idxV (τ : Tab) (T : TypeId) (x : AV) (n : Int) : OpR :=
  match x with
  | .d (.v (.string s)) => match τ T with
    | some ⟨.string, _, _, _⟩ => some (0 ≤ n ∧ n < s.size, ⟨.d (.v (.int .u8 (s.data.toList.getD n.toNat 0).toNat)), [], [], []⟩, [])
    | _ => none
  | .agg cs => match τ T with
    | some ⟨.array len e, _, _, _⟩ => (τ e).bind fun te => some (0 ≤ n ∧ n < len ∧ sideR te (n.toNat * te.size) cs.length, ⟨readA te (n.toNat * te.size) cs, [], [], []⟩, [])
    | _ => none
  | .d (.agg cs) => match τ T with
    | some ⟨.array len e, _, _, _⟩ => (τ e).bind fun te => some (0 ≤ n ∧ n < len ∧ sideR te (n.toNat * te.size) cs.length, ⟨.d (readD te (cs.drop (n.toNat * te.size))), [], [], []⟩, [])
    | _ => none
  | _ => none
def opIndex (τ : Tab) (T : TypeId) (x i : Operand) (S : St) : OpR := (intA (S.ev i)).bind fun n => idxV τ T (S.ev x) n

theorem serves_index {P : Program} {τ : Tab} (hτ : TabOk P τ) {o : Oper} {T : TypeId} {x i : Operand} (ho : o.op = .index T x i) : Serves P o (opIndex τ T x i) := by
  intro ds pn S side e fp h hside S1 hs _
  have ex := hs.1 x (by simp [ho, Op.operands])
  have ei := hs.1 i (by simp [ho, Op.operands])
  unfold opIndex at h
  rw [← ex, ← ei] at h
  cases hn : intA (S1.ev i) with
  | none => rw [hn] at h; cases h
  | some n =>
    rw [hn, Option.bind_some] at h
    unfold idxV at h
    split at h
    · rename_i s hx
      split at h
      · rename_i _ _ _ ht
        obtain ⟨d, hu, hk⟩ := (hτ T _ ht).und
        simp only [TK.ok] at hk
        subst hk
        cases h
        obtain ⟨h0, h1⟩ := hside
        refine Core.value fun w0 I0 F I β a w hr => ?_
        have hv := hr.ev x
        rw [hx, DenA_v] at hv
        obtain ⟨k, hi⟩ := intA_ok hn (hr.ev i)
        have hlt : n.toNat < s.size := by omega
        have hb : s[n.toNat]? = some s[n.toNat] := by simp [hlt]
        have he : s.data.toList.getD n.toNat 0 = s[n.toNat] := by
          have : n.toNat < s.data.size := hlt
          simp only [List.getD, Array.getElem?_toList]
          rw [Array.getElem?_eq_getElem this]; rfl
        refine ⟨_, by simp [execOp, ho, Instr.index, hi, hv, asIntOf, run_underlying hu, h0, hb]; rfl, ?_⟩
        rw [DenA_v, he]
      · cases h
    · rename_i cs hx
      split at h
      · rename_i len el _ _ _ ht
        obtain ⟨d, hu, hk⟩ := (hτ T _ ht).und
        simp only [TK.ok] at hk
        subst hk
        cases hte : τ el with
        | none => rw [hte] at h; cases h
        | some te =>
          have tk := hτ el te hte
          rw [hte] at h
          cases h
          obtain ⟨h0, h1, h2⟩ := hside
          refine Core.value fun w0 I0 F I β a w hr => ?_
          have hv := hr.ev x
          rw [hx] at hv
          obtain ⟨vs, e1, hd⟩ := hv
          obtain ⟨k, hi⟩ := intA_ok hn (hr.ev i)
          have hs' : sideR te (n.toNat * te.size) vs.length := by rw [← hd.length]; exact h2
          exact ⟨_, by simp [execOp, ho, Instr.index, hi, e1, asIntOf, run_underlying hu, h0, h1, tk.size, run_part tk hs'], den_readA hd h2⟩
      · cases h
    · rename_i cs hx
      split at h
      · rename_i len el _ _ _ ht
        obtain ⟨d, hu, hk⟩ := (hτ T _ ht).und
        simp only [TK.ok] at hk
        subst hk
        cases hte : τ el with
        | none => rw [hte] at h; cases h
        | some te =>
          have tk := hτ el te hte
          rw [hte] at h
          cases h
          obtain ⟨h0, h1, h2⟩ := hside
          refine Core.value fun w0 I0 F I β a w hr => ?_
          have hv := hr.ev x
          rw [hx, DenA, Den] at hv
          obtain ⟨vs, e1, hd⟩ := hv
          obtain ⟨k, hi⟩ := intA_ok hn (hr.ev i)
          have hl := hd.length
          have hs' : sideR te (n.toNat * te.size) vs.length := by rw [← hl]; exact h2
          exact ⟨_, by simp [execOp, ho, Instr.index, hi, e1, asIntOf, run_underlying hu, h0, h1, tk.size, run_part tk hs'], readD_eq (den_readA (e := te) (DenAs.of_dens (β := β) hd) (off := _) (by simpa using h2)) h2⟩
      · cases h
    · cases h

/-! ### slice -/
def bndA (S : St) (x : Option Operand) (dflt : Int) : Option Int :=
  match x with
  | none => some dflt
  | some y => intA (S.ev y)
def sliceA (τ : Tab) (T : TypeId) (S : St) (x : AV) (lo hi mx : Option Operand) : OpR :=
  (bndA S lo 0).bind fun l =>
  match x with
  | .d (.v (.string s)) => match τ T, mx with
    | some ⟨.string, _, _, _⟩, none => (bndA S hi s.size).bind fun h => some (0 ≤ l ∧ l ≤ h ∧ h ≤ s.size, ⟨.d (.v (.string (s.extract l.toNat h.toNat))), [], [], []⟩, [])
    | _, _ => none
  | .d (.sl sz cs n full) => match τ T with
    | some ⟨.slice e, _, _, _⟩ => (τ e).bind fun te => (bndA S hi n).bind fun h => match mx with
      | none => some (0 ≤ l ∧ l ≤ h ∧ h ≤ n ∧ te.size = sz, ⟨.d (.sl sz ((cs.drop (l.toNat * sz)).take ((h - l).toNat * sz)) (h - l).toNat (full && hi.isNone)), [], [], []⟩, [])
      | some _ => match hi with
        | none => none
        | some _ => (bndA S mx 0).bind fun m => some (0 ≤ l ∧ l ≤ h ∧ h ≤ m ∧ m ≤ n ∧ te.size = sz, ⟨.d (.sl sz ((cs.drop (l.toNat * sz)).take ((h - l).toNat * sz)) (h - l).toNat (decide (h = m))), [], [], []⟩, [])
    | _ => none
  | .ptr k off => match τ T with
    | some ⟨.array n e, _, _, _⟩ => (τ e).bind fun te => (bndA S hi n).bind fun h => match mx with
      | none => some (0 ≤ l ∧ l ≤ h ∧ h ≤ n ∧ (l = 0 ∨ l < n), ⟨.psl k (off + l.toNat * te.size) (h - l).toNat (n - l).toNat, [], [], []⟩, [])
      | some _ => none
    | _ => none
  | .psl k off n cap => match τ T with
    | some ⟨.slice e, _, _, _⟩ => (τ e).bind fun te => (bndA S hi n).bind fun h => match mx with
      | none => some (0 ≤ l ∧ l ≤ h ∧ h ≤ cap ∧ (l = 0 ∨ l < cap), ⟨.psl k (off + l.toNat * te.size) (h - l).toNat (cap - l).toNat, [], [], []⟩, [])
      | some _ => none
    | _ => none
  | _ => none
def opSlice (τ : Tab) (T : TypeId) (x : Operand) (lo hi mx : Option Operand) (S : St) : OpR := sliceA τ T S (S.ev x) lo hi mx

theorem bnd_ok {ds : Dn} {w0 : World} {I0 F : Nat → Prop} {S : St} {I : Nat → Prop} {β : Nat → Value} {a : Act} {w : World} (hr : Rel ds w0 I0 F S I β a w) {x : Option Operand} {d n : Int} (h : bndA S x d = some n) :
    (x = none ∧ n = d) ∨ ∃ y k, x = some y ∧ a.eval y = .int k n := by
  unfold bndA at h
  split at h
  · cases h; exact .inl ⟨rfl, rfl⟩
  · rename_i y; obtain ⟨k, hk⟩ := intA_ok h (hr.ev y); exact .inr ⟨y, k, rfl, hk⟩

theorem run_sliceBound {P : Program} {w : World} {k : IntKind} {n : Int} {y : Nat} {code : BoundsCode} (h0 : 0 ≤ n) (h1 : n ≤ y) : (Instr.sliceBound (.int k n) y code).run P w = .ok n.toNat w := by
  simp [Instr.sliceBound, asIntOf, h0, h1]

theorem run_bounds2 {P : Program} {w : World} {ds : Dn} {w0 : World} {I0 F : Nat → Prop} {S : St} {I : Nat → Prop} {β : Nat → Value} {a : Act} (hr : Rel ds w0 I0 F S I β a w) {lo hi : Option Operand} {l h : Int} {isS : Bool} {n cap : Nat}
    (hl : bndA S lo 0 = some l) (hh : bndA S hi n = some h) (h0 : 0 ≤ l) (h1 : l ≤ h) (h2 : h ≤ cap) :
    (Instr.sliceBounds isS n cap (lo.map a.eval) (hi.map a.eval) none).run P w = .ok (l.toNat, h.toNat, cap) w := by
  have hb : 0 ≤ h := by omega
  rcases bnd_ok hr hl with ⟨rfl, rfl⟩ | ⟨y, k, rfl, hy⟩ <;> rcases bnd_ok hr hh with ⟨rfl, rfl⟩ | ⟨z, k', rfl, hz⟩
  · simp [Instr.sliceBounds]
  · simp [Instr.sliceBounds, hz, run_sliceBound hb h2]
  · simp [Instr.sliceBounds, hy, run_sliceBound h0 h1]
  · have : l ≤ (h.toNat : Int) := by omega
    simp [Instr.sliceBounds, hy, hz, run_sliceBound hb h2, run_sliceBound h0 this]

theorem run_bounds3 {P : Program} {w : World} {ds : Dn} {w0 : World} {I0 F : Nat → Prop} {S : St} {I : Nat → Prop} {β : Nat → Value} {a : Act} (hr : Rel ds w0 I0 F S I β a w) {lo : Option Operand} {hi mx : Operand} {l h m : Int} {isS : Bool} {n cap : Nat}
    (hl : bndA S lo 0 = some l) (hh : intA (S.ev hi) = some h) (hm : intA (S.ev mx) = some m) (h0 : 0 ≤ l) (h1 : l ≤ h) (h2 : h ≤ m) (h3 : m ≤ cap) :
    (Instr.sliceBounds isS n cap (lo.map a.eval) (some (a.eval hi)) (some (a.eval mx))).run P w = .ok (l.toNat, h.toNat, m.toNat) w := by
  have hb : 0 ≤ h := by omega
  have hc : 0 ≤ m := by omega
  obtain ⟨k1, e1⟩ := intA_ok hh (hr.ev hi)
  obtain ⟨k2, e2⟩ := intA_ok hm (hr.ev mx)
  have hx1 : h ≤ (m.toNat : Int) := by omega
  have hx2 : l ≤ (h.toNat : Int) := by omega
  rcases bnd_ok hr hl with ⟨rfl, rfl⟩ | ⟨y, k, rfl, hy⟩
  · simp [Instr.sliceBounds, e1, e2, run_sliceBound hc h3, run_sliceBound hb hx1]
  · simp [Instr.sliceBounds, hy, e1, e2, run_sliceBound hc h3, run_sliceBound hb hx1, run_sliceBound h0 hx2]

theorem serves_slice {P : Program} {τ : Tab} (hτ : TabOk P τ) {o : Oper} {T : TypeId} {x : Operand} {lo hi mx : Option Operand} (ho : o.op = .slice T x lo hi mx) : Serves P o (opSlice τ T x lo hi mx) := by
  intro ds pn S side e fp h hside S1 hs _
  have ex := hs.1 x (by simp [ho, Op.operands])
  have eb : ∀ (y : Option Operand) d, (∀ z, y = some z → z ∈ o.op.operands) → bndA S y d = bndA S1 y d := fun y d hy => by
    unfold bndA; split
    · rfl
    · rename_i z; rw [hs.1 z (hy z rfl)]
  have el := eb lo 0 (fun z hz => by simp [ho, Op.operands, hz])
  have eh := fun d => eb hi d (fun z hz => by simp [ho, Op.operands, hz])
  have em := fun d => eb mx d (fun z hz => by simp [ho, Op.operands, hz])
  unfold opSlice sliceA at h
  rw [← ex, el] at h
  simp only [eh, em] at h
  cases hl : bndA S1 lo 0 with
  | none => rw [hl] at h; cases h
  | some l =>
    rw [hl, Option.bind_some] at h
    split at h
    · rename_i s hx
      split at h
      · rename_i _ _ _ ht
        obtain ⟨d, hu, hk⟩ := (hτ T _ ht).und
        simp only [TK.ok] at hk
        subst hk
        cases hh : bndA S1 hi s.size with
        | none => rw [hh] at h; cases h
        | some hv =>
          rw [hh] at h; cases h
          obtain ⟨h0, h1, h2⟩ := hside
          refine Core.value fun w0 I0 F I β a w hr => ?_
          have hxv := hr.ev x
          rw [hx, DenA_v] at hxv
          refine ⟨_, ?_, DenA_v.2 rfl⟩
          simp [execOp, ho, Instr.sliceAt, Instr.slice, hxv, run_underlying hu, run_bounds2 (P := P) (isS := false) hr hl hh h0 h1 h2]
      · cases h
    · rename_i sz cs n full hx
      split at h
      · rename_i el _ _ _ ht
        obtain ⟨d, hu, hk⟩ := (hτ T _ ht).und
        simp only [TK.ok] at hk
        subst hk
        cases hte : τ el with
        | none => rw [hte] at h; cases h
        | some te =>
          have tk := hτ el te hte
          rw [hte, Option.bind_some] at h
          cases hh : bndA S1 hi n with
          | none => rw [hh] at h; cases h
          | some hv =>
            rw [hh, Option.bind_some] at h
            have den : ∀ w0 I0 F I β a w, Rel ds w0 I0 F S1 I β a w → ∀ m : Nat, 0 ≤ l → l ≤ hv → hv ≤ n → te.size = sz → hv ≤ m → ∃ ad cap, a.eval x = .slice ad n cap ∧ n ≤ cap ∧ (full = true → cap = n) ∧
                (m ≤ cap → ∀ full', (full' = true → hv = m) → DenA w I β (.d (.sl sz ((cs.drop (l.toNat * sz)).take ((hv - l).toNat * sz)) (hv - l).toNat full')) (.slice (if m = l.toNat then ad else ad.map (·.add (l.toNat * te.size))) (hv.toNat - l.toNat) (m - l.toNat))) := by
              intro w0 I0 F I β a w hr m h0 h1 h2 hsz hm
              have hxv := hr.ev x
              rw [hx, DenA, Den] at hxv
              obtain ⟨ad, cap, e1, hnc, hcm, hfl, hlen, hnil, hat⟩ := hxv
              refine ⟨ad, cap, e1, hnc, hfl, fun hmc full' hf' => ?_⟩
              rw [DenA, Den]
              have hm1 : (hv - l).toNat * sz + l.toNat * sz ≤ n * sz := by
                rw [← Nat.add_mul]; exact Nat.mul_le_mul_right _ (by omega)
              refine ⟨_, _, by rw [show hv.toNat - l.toNat = (hv - l).toNat from by omega], by omega, by omega, fun ht => by have := hf' ht; omega, by simp; omega, fun hnn => ?_, fun ad' had => ?_⟩
              · cases ad with
                | none => have := hnil rfl; omega
                | some ad => split at hnn <;> cases hnn
              · cases ad with
                | none => split at had <;> cases had
                | some ad0 =>
                  obtain ⟨hsp, hat⟩ := hat ad0 rfl
                  by_cases hn0 : n = 0
                  · have h00 : (hv - l).toNat = 0 := by omega
                    rw [h00]
                    exact ⟨fun h => absurd h (Nat.lt_irrefl 0), by simp [DenAt]⟩
                  have hsp := hsp (by omega)
                  obtain ⟨b, off, sp⟩ := ad0
                  simp only at hsp; subst hsp
                  split at had
                  · rename_i hml
                    cases had
                    have : (hv - l).toNat = 0 := by omega
                    rw [this]; simp [DenAt]
                  · simp only [Option.map_some, Addr.add_lit, Option.some.injEq] at had
                    subst had
                    refine ⟨fun _ => rfl, ?_⟩
                    rw [hsz]
                    exact (hat.drop _).take _
            split at h
            · cases h
              obtain ⟨h0, h1, h2, hsz⟩ := hside
              refine Core.value fun w0 I0 F I β a w hr => ?_
              have hcapx := hr.ev x
              rw [hx, DenA, Den] at hcapx
              obtain ⟨ad0, cap0, e0, hnc0, _⟩ := hcapx
              obtain ⟨ad, cap, e1, hnc, hfl, hden⟩ := den w0 I0 F I β a w hr cap0 h0 h1 h2 hsz (by omega)
              rw [e0] at e1
              cases e1
              refine ⟨_, ?_, hden (Nat.le_refl _) (full && hi.isNone) (fun hf => ?_)⟩
              · simp [execOp, ho, Instr.sliceAt, Instr.slice, e0, run_underlying hu, run_bounds2 (P := P) (isS := true) (cap := cap0) hr hl hh h0 h1 (by omega), tk.size]
              · simp only [Bool.and_eq_true] at hf
                have := hfl hf.1
                rcases bnd_ok hr hh with ⟨rfl, rfl⟩ | ⟨y, k, rfl, _⟩
                · omega
                · simp at hf
            · rename_i mxv
              split at h
              · cases h
              · rename_i hiv
                cases hm : bndA S1 (some mxv) 0 with
                | none => rw [hm] at h; cases h
                | some m =>
                  rw [hm] at h; cases h
                  obtain ⟨h0, h1, h2, h3, hsz⟩ := hside
                  refine Core.value fun w0 I0 F I β a w hr => ?_
                  obtain ⟨ad, cap, e1, hnc, hfl, hden⟩ := den w0 I0 F I β a w hr m.toNat h0 h1 (by omega) hsz (by omega)
                  refine ⟨_, ?_, hden (by omega) (decide (hv = m)) (fun hf => by simp at hf; omega)⟩
                  simp [execOp, ho, Instr.sliceAt, Instr.slice, e1, run_underlying hu, run_bounds3 (P := P) (isS := true) (cap := cap) hr hl hh hm h0 h1 h2 (by omega), tk.size]
      · cases h
    · rename_i k off hx
      split at h
      · rename_i n el _ _ _ ht
        obtain ⟨d, hu, hk⟩ := (hτ T _ ht).und
        simp only [TK.ok] at hk
        subst hk
        cases hte : τ el with
        | none => rw [hte] at h; cases h
        | some te =>
          have tk := hτ el te hte
          rw [hte, Option.bind_some] at h
          cases hh : bndA S1 hi n with
          | none => rw [hh] at h; cases h
          | some hv =>
            rw [hh, Option.bind_some] at h
            split at h
            · cases h
              obtain ⟨h0, h1, h2, h3⟩ := hside
              refine Core.value fun w0 I0 F I β a w hr => ?_
              have hxv := hr.ev x
              rw [hx] at hxv
              obtain ⟨b, e1, e2⟩ := hxv
              refine ⟨.slice (some ⟨b, off + l.toNat * te.size, none⟩) (hv - l).toNat (n - l).toNat, ?_, b, e1, rfl⟩
              simp [execOp, ho, Instr.sliceAt, e2, run_underlying hu, Instr.sureAddr, run_bounds2 (P := P) (isS := false) hr hl hh h0 h1 h2, tk.size, Addr.add_lit]
              refine ⟨?_, by omega, by omega⟩
              intro hml
              have : l.toNat = 0 := by omega
              rw [this]; simp
            · cases h
      · cases h
    · rename_i k off n cap hx
      split at h
      · rename_i el _ _ _ ht
        obtain ⟨d, hu, hk⟩ := (hτ T _ ht).und
        simp only [TK.ok] at hk
        subst hk
        cases hte : τ el with
        | none => rw [hte] at h; cases h
        | some te =>
          have tk := hτ el te hte
          rw [hte, Option.bind_some] at h
          cases hh : bndA S1 hi n with
          | none => rw [hh] at h; cases h
          | some hv =>
            rw [hh, Option.bind_some] at h
            split at h
            · cases h
              obtain ⟨h0, h1, h2, h3⟩ := hside
              refine Core.value fun w0 I0 F I β a w hr => ?_
              have hxv := hr.ev x
              rw [hx] at hxv
              obtain ⟨b, e1, e2⟩ := hxv
              refine ⟨.slice (some ⟨b, off + l.toNat * te.size, none⟩) (hv - l).toNat (cap - l).toNat, ?_, b, e1, rfl⟩
              simp [execOp, ho, Instr.sliceAt, Instr.slice, e2, run_underlying hu, run_bounds2 (P := P) (isS := true) hr hl hh h0 h1 h2, tk.size, Addr.add_lit]
              refine ⟨?_, by omega, by omega⟩
              intro hml
              have : l.toNat = 0 := by omega
              rw [this]; simp
            · cases h
      · cases h
    · cases h

end Go.Xe
