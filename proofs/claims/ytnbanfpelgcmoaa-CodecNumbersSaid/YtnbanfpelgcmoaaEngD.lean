/-
  The engine, part D. More operations: loads, stores, addresses, numbers.
-/
import Derived.Test.YtnbanfpelgcmoaaEngC
namespace Go.Xe
open Go.RowKit

theorem DenAs.splice1 {w : World} {I : Nat → Prop} {β : Nat → Value} : ∀ {cs : List AV} {vs : List Value} (_ : DenAs w I β cs vs) {xs : List AV} {us : List Value} (_ : DenAs w I β xs us) (off : Nat),
    DenAs w I β (cs.take off ++ xs ++ cs.drop (off + xs.length)) (vs.take off ++ us ++ vs.drop (off + us.length)) := by
  intro cs vs h xs us h' off
  rw [← h'.length]
  exact ((h.take off).append h').append (h.drop _)

/-- Cells that are written from a place on. -/
def setL : List AV → Nat → List AV → List AV
  | cs, _, [] => cs
  | cs, off, x :: xs => setL (cs.set off x) (off + 1) xs

def setV : List Value → Nat → List Value → List Value
  | cs, _, [] => cs
  | cs, off, x :: xs => setV (cs.set off x) (off + 1) xs

theorem setV_eq : ∀ (xs cs : List Value) (off : Nat), off + xs.length ≤ cs.length → setV cs off xs = cs.take off ++ xs ++ cs.drop (off + xs.length)
  | [], cs, off, _ => by simp [setV]
  | x :: xs, cs, off, h => by
    simp only [List.length_cons] at h
    rw [setV, setV_eq xs (cs.set off x) (off + 1) (by simp; omega)]
    have := list_seg_step cs off x xs (by omega)
    simpa [Nat.add_assoc, Nat.add_comm 1] using this

theorem setV_length : ∀ (xs cs : List Value) (off : Nat), (setV cs off xs).length = cs.length
  | [], _, _ => rfl
  | x :: xs, cs, off => by rw [setV, setV_length]; simp

theorem take_splice (l us : List Value) {m off : Nat} (h : off + us.length ≤ m) (hm : m ≤ l.length) :
    (l.take off ++ us ++ l.drop (off + us.length)).take m = (l.take m).take off ++ us ++ (l.take m).drop (off + us.length) := by
  have hl : (l.take off ++ us).length = off + us.length := by simp; omega
  rw [List.take_append, hl, List.take_of_length_le (by omega), List.take_take, Nat.min_eq_left (by omega), List.drop_take]

/-- A store into a row of the call's own. -/
theorem ownsRow_store {w : World} {T : TypeId} {sz n n' c' b : Nat} {vs us : List Value} {off : Nat} (how : w.ownsRow 0 T sz (.slice (some ⟨b, 0, none⟩) n' c') n vs) (hfit : off + us.length ≤ vs.length) :
    ∃ cur : Array Value, w.heap[b]? = some (.cells cur T (0, 0)) ∧ off + us.length ≤ cur.size ∧
      (w.setRow b (cur.toList.take off ++ us ++ cur.toList.drop (off + us.length)).toArray).ownsRow 0 T sz (.slice (some ⟨b, 0, none⟩) n' c') n (setV vs off us) := by
  obtain ⟨hlv, hcase⟩ := how
  rcases hcase with ⟨hnil, _⟩ | ⟨g, cap, cur, hcur, hb0, hg, hn, hcm, hcs, htk⟩
  · cases hnil
  cases hcur
  have hvc : vs.length ≤ cur.size := by rw [← htk]; simp [List.length_take]; omega
  refine ⟨cur, hg, by omega, ⟨by rw [setV_length]; exact hlv, .inr ⟨b, c', _, rfl, hb0, setRow_heap w b _ _ _ _ hg, hn, hcm, by simp; omega, ?_⟩⟩⟩
  have e1 : (cur.toList.take off ++ us ++ cur.toList.drop (off + us.length)).toArray.toList = setV cur.toList off us := by
    rw [setV_eq _ _ _ (by simpa using (by omega : off + us.length ≤ cur.size))]
  rw [e1, setV_eq _ _ _ hfit, setV_eq _ _ _ (by simpa using (by omega : off + us.length ≤ cur.size)), ← htk]
  exact take_splice _ _ (by omega) (by simp; rw [hcs]; exact Nat.mul_le_mul_right _ hn)

theorem DenAs.setL {w : World} {I : Nat → Prop} {β : Nat → Value} : ∀ {xs : List AV} {us : List Value} (_ : DenAs w I β xs us) {cs : List AV} {vs : List Value} (_ : DenAs w I β cs vs) (off : Nat), DenAs w I β (setL cs off xs) (setV vs off us)
  | [], _, h', _, _, h, _ => by rw [DenAs] at h'; subst h'; exact h
  | _ :: _, _, h', _, _, h, off => by obtain ⟨v, vs', rfl, h1, h2⟩ := h'; exact DenAs.setL h2 (DenAs.set h1 h off) (off + 1)

theorem setL_length : ∀ (xs cs : List AV) (off : Nat), (setL cs off xs).length = cs.length
  | [], _, _ => rfl
  | x :: xs, cs, off => by rw [setL, setL_length]; simp

theorem mem_setV : ∀ (xs cs : List Value) (off : Nat) (v : Value), v ∈ setV cs off xs → v ∈ cs ∨ v ∈ xs
  | [], _, _, _, h => .inl h
  | x :: xs, cs, off, v, h => by
    rcases mem_setV xs _ _ v h with h | h
    · rcases List.mem_or_eq_of_mem_set h with h | rfl
      · exact .inl h
      · exact .inr (by simp)
    · exact .inr (by simp [h])

/-! ### load -/
def sideR (e : TE) (off n : Nat) : Prop := off + e.size ≤ n ∧ (e.k.agg = false → e.size = 1)
def readA (e : TE) (off : Nat) (cs : List AV) : AV := match e.k.agg with | true => .agg ((cs.drop off).take e.size) | false => (cs[off]?).getD (.d .any)
def readD (e : TE) (cs : List D) : D := match e.k.agg with | true => .agg (cs.take e.size) | false => (cs[0]?).getD .any
def loadA (te : TE) (bx : Bxs) : AV → OpR
  | .ptr k off => match getB bx k with
    | some (.cells _ cs) => some (sideR te off cs.length, ⟨readA te off cs, [], [], []⟩, [k])
    | _ => none
  | .rptr k off => match getB bx k with
    | some (.row _ _ _ cs) => some (sideR te off cs.length, ⟨readA te off cs, [], [], []⟩, [k])
    | _ => none
  | .d (.ip cs) => some (sideR te 0 cs.length, ⟨.d (readD te cs), [], [], []⟩, [])
  | _ => none
def opLoad (τ : Tab) (T : TypeId) (x : Operand) (S : St) : OpR := (τ T).bind fun te => loadA te S.bx (S.ev x)

section
variable {P : Program} {T : TypeId} {e : TE} {w : World} {I : Nat → Prop} {β : Nat → Value}
theorem run_loadVar_cells (h : TyOk P T e) {b off : Nat} {us : List Value} (hc : ∀ j v, us[j]? = some v → w.cell? ⟨b, off + j, none⟩ = some v) (hl : us.length = e.size) (h1 : e.k.agg = false → e.size = 1) :
    (loadVar T ⟨b, off, none⟩).run P w = .ok (if e.k.agg = true then .agg us.toArray else us.getD 0 undef) w := by
  unfold loadVar
  rw [Sem.run_bind, h.isAgg w, Result.andThen_ok]
  cases ha : e.k.agg with
  | true =>
    simp only [if_true, Sem.run_bind, h.size w, Result.andThen_ok]
    rw [← hl, run_loadCells_list (P := P) w ⟨b, off, none⟩ us (fun j v hv => by rw [Addr.add_lit]; exact hc j v hv)]
    rfl
  | false =>
    have h1 := h1 ha
    rw [h1] at hl
    obtain ⟨u, rfl⟩ := List.length_eq_one_iff.1 hl
    have := hc 0 u rfl
    simp only [Nat.add_zero] at this
    simp [run_load, this]

theorem den_readA {cs : List AV} {vs : List Value} (h : DenAs w I β cs vs) {off : Nat} (hs : sideR e off cs.length) :
    DenA w I β (readA e off cs) (if e.k.agg = true then .agg ((vs.drop off).take e.size).toArray else ((vs.drop off).take e.size).getD 0 undef) := by
  unfold readA
  cases ha : e.k.agg with
  | true => exact ⟨_, rfl, (h.drop off).take e.size⟩
  | false =>
    have h1 := hs.2 ha
    have hlt : off < cs.length := by have := hs.1; omega
    obtain ⟨y, hy, hd⟩ := h.get (List.getElem?_eq_getElem hlt)
    simp only [List.getElem?_eq_getElem hlt, Option.getD_some, Bool.false_eq_true, if_false]
    have : ((vs.drop off).take e.size).getD 0 undef = y := by
      rw [h1]; simp [hy]
    rw [this]; exact hd
end

theorem serves_load {P : Program} {τ : Tab} (hτ : TabOk P τ) {o : Oper} {T : TypeId} {x : Operand} (ho : o.op = .load T x) : Serves P o (opLoad τ T x) := by
  intro ds pn S side e fp h hside S1 hs _
  have ex := hs.1 x (by simp [ho, Op.operands])
  unfold opLoad at h
  cases ht : τ T with
  | none => rw [ht] at h; cases h
  | some te =>
    have tk := hτ T te ht
    rw [ht, Option.bind_some, ← ex] at h
    have key : ∀ w0 I0 F I β a w, Rel ds w0 I0 F S1 I β a w → ∀ (b off : Nat) (us : List Value) (v : AV), a.eval x = .pointer (some ⟨b, off, none⟩) → (∀ j v, us[j]? = some v → w.cell? ⟨b, off + j, none⟩ = some v) → us.length = te.size → (te.k.agg = false → te.size = 1) →
        DenA w I β v (if te.k.agg = true then .agg us.toArray else us.getD 0 undef) → ∃ y, (execOp a.eval o).run P w = .ok (.value y) w ∧ DenA w I β v y := by
      intro w0 I0 F I β a w hr b off us v he hc hl h1 hd
      refine ⟨_, ?_, hd⟩
      simp [execOp, ho, Instr.loadAt, he, Instr.sureAddr, run_loadVar_cells tk hc hl h1]
    unfold loadA at h
    split at h
    · rename_i k off hx
      split at h
      · rename_i T' cs hb
        cases h
        have hb1 : getB S1.bx k = some (.cells T' cs) := by rw [hs.2.2 k (by simp)]; exact hb
        refine Core.value fun w0 I0 F I β a w hr => ?_
        have hv := hr.ev x
        rw [hx] at hv
        obtain ⟨b, e1, e2⟩ := hv
        obtain ⟨b', vs, e3, hh, hd, _⟩ := hr.mem.bxs k _ hb1
        rw [e1] at e3
        cases e3
        have hl : vs.length = cs.length := hd.length.symm
        refine key w0 I0 F I β a w hr b off ((vs.drop off).take te.size) _ e2 (fun j v hj => ?_) (by have := hside.1; simp; omega) hside.2 (den_readA hd hside)
        rw [cell_of_row w b (off + j) _ _ _ hh]
        simp only [List.getElem?_take, List.getElem?_drop] at hj
        split at hj
        · simpa using hj
        · cases hj
      · cases h
    · rename_i k off hx
      split at h
      · rename_i T' sz n cs hb
        cases h
        have hb1 : getB S1.bx k = some (.row T' sz n cs) := by rw [hs.2.2 k (by simp)]; exact hb
        refine Core.value fun w0 I0 F I β a w hr => ?_
        have hv := hr.ev x
        rw [hx] at hv
        obtain ⟨b, n', c', e1, e2⟩ := hv
        obtain ⟨vs, how, hd, _⟩ := hr.mem.bxs k _ hb1
        rw [e1] at how
        have hcell := how.cells (g := b) rfl
        have hl : vs.length = cs.length := hd.length.symm
        refine key w0 I0 F I β a w hr b off ((vs.drop off).take te.size) _ e2 (fun j v hj => ?_) (by have := hside.1; simp; omega) hside.2 (den_readA hd hside)
        simp only [List.getElem?_take, List.getElem?_drop] at hj
        split at hj
        · have := hcell (off + j) v hj
          rwa [Addr.add_lit, Nat.zero_add] at this
        · cases hj
      · cases h
    · rename_i cs hx
      cases h
      refine Core.value fun w0 I0 F I β a w hr => ?_
      have hv := hr.ev x
      rw [hx, DenA, Den] at hv
      obtain ⟨b, off, e1, hat⟩ := hv
      obtain ⟨vs, hd, _, hc⟩ := hat.dens
      have hl : vs.length = cs.length := hd.length.symm
      have hda : DenAs w I β (cs.map .d) vs := DenAs.of_dens hd
      have hda' := den_readA (e := te) hda (off := 0) (by simpa [sideR] using hside)
      simp only [List.drop_zero] at hda'
      refine key w0 I0 F I β a w hr b off (vs.take te.size) _ e1 (fun j v hj => ?_) (by have := hside.1; simp; omega) hside.2 ?_
      · simp only [List.getElem?_take] at hj
        split at hj
        · exact hc j v hj
        · cases hj
      · revert hda'
        unfold readA readD
        cases te.k.agg with
        | true =>
          intro hh
          obtain ⟨us, e, hh⟩ := hh
          refine ⟨us, e, ?_⟩
          rw [List.drop_zero, ← List.map_take] at hh
          exact DenAs.to_dens hh
        | false =>
          intro hh
          cases cs with
          | nil => simp only [List.getElem?_nil, Option.getD_none]; exact DenA_any _ _ _ _
          | cons c cs => simpa using hh
    · cases h

/-! ### store -/
def storeA (te : TE) (bx : Bxs) (v : AV) : AV → OpR
  | .ptr k off => match getB bx k with
    | some (.cells T cs) => some (v.cells.length = te.size ∧ off + te.size ≤ cs.length ∧ (∀ c ∈ v.cells, oneA c = true), ⟨.d .any, [], [(k, .cells T (setL cs off v.cells))], []⟩, [k])
    | _ => none
  | .rptr k off => match getB bx k with
    | some (.row T sz n cs) => some (v.cells.length = te.size ∧ off + te.size ≤ cs.length ∧ (∀ c ∈ v.cells, oneA c = true), ⟨.d .any, [], [(k, .row T sz n (setL cs off v.cells))], []⟩, [k])
    | _ => none
  | _ => none
def opStore (τ : Tab) (T : TypeId) (x v : Operand) (S : St) : OpR := (τ T).bind fun te => storeA te S.bx (S.ev v) (S.ev x)

theorem grownBy_setRow (w : World) (g : Nat) (cs : Array Value) : w.grownBy (w.setRow g cs) (some g) :=
  ⟨rfl, rfl, rfl, by simp, fun k _ hk => setRow_other w g k cs (fun e => hk (by rw [e]))⟩

theorem serves_store {P : Program} {τ : Tab} (hτ : TabOk P τ) {o : Oper} {T : TypeId} {x v : Operand} (ho : o.op = .store T x v) : Serves P o (opStore τ T x v) := by
  intro ds pn S side e fp h hside S1 hs _
  have ex := hs.1 x (by simp [ho, Op.operands])
  have ev := hs.1 v (by simp [ho, Op.operands])
  unfold opStore at h
  cases ht : τ T with
  | none => rw [ht] at h; cases h
  | some te =>
    have tk := hτ T te ht
    rw [ht, Option.bind_some, ← ex, ← ev] at h
    have und : ∀ w I β (d : Option Tmp) (y : Value), DenA w I β (.d .any) y := fun _ _ _ _ _ => DenA_any _ _ _ _
    unfold storeA at h
    split at h
    · rename_i k off hx
      split at h
      · rename_i T' cs hb
        cases h
        have hb1 : getB S1.bx k = some (.cells T' cs) := by rw [hs.2.2 k (by simp)]; exact hb
        refine Core.skip fun w0 I0 F I β a w hr => ?_
        have hv := hr.ev x
        rw [hx] at hv
        obtain ⟨b, e1, e2⟩ := hv
        obtain ⟨b', vs, e3, hh, hd, h1⟩ := hr.mem.bxs k _ hb1
        rw [e1] at e3
        cases e3
        have hval := cells_ok (hr.ev v) hside.2.2
        have hone := oneAs_ok hval hside.2.2
        have hlen : (a.eval v).cells.toList.length = te.size := by rw [← hval.length]; exact hside.1
        have hfit : off + (a.eval v).cells.toList.length ≤ vs.length := by rw [hlen, ← hd.length]; exact hside.2.1
        have hst := run_storeCells_at P b off T' (a.eval v).cells.toList 0 vs.toArray w hh (by simpa using hfit) hone
        simp only [Nat.add_zero] at hst
        rw [← setV_eq _ _ _ hfit] at hst
        refine ⟨w.setRow b (setV vs off (a.eval v).cells.toList).toArray, I, β, ?_, ?_⟩
        rotate_left
        · rw [St.app_upd]
          refine Rel.put ⟨hr.mem.turn (b' := .cells T' (setL cs off (S1.ev v).cells)) hb1 (by rw [e1]; exact grownBy_setRow w b _) (by rw [e1]; simp [blk]) ?_, ?_, hr.dn, hr.fx⟩ o.dst (und _ _ _ o.dst _)
          · have hk : Kept w I (w.setRow b (setV vs off (a.eval v).cells.toList).toArray) I :=
              ⟨fun _ h => h, fun n hn => setRow_other w b n _ (fun e => (hr.mem.sep k _ b hb1 (by rw [e1]; rfl)).1 (e ▸ hn))⟩
            refine ⟨b, setV vs off (a.eval v).cells.toList, e1, setRow_heap w b _ _ _ _ hh, DenAs.setL (DenAs.mono hk _ _ (fun _ _ => rfl) hval) (DenAs.mono hk _ _ (fun _ _ => rfl) hd) off, fun u hu => ?_⟩
            rcases mem_setV _ _ _ _ hu with hu | hu
            · exact h1 u hu
            · exact hone u hu
          · refine DenAs.mono ⟨fun _ h => h, fun n hn => setRow_other w b n _ (fun e => (hr.mem.sep k _ b hb1 (by rw [e1]; rfl)).1 (e ▸ hn))⟩ _ _ (fun _ _ => rfl) hr.sl
        · simp [execOp, ho, Instr.storeAt, e2, Instr.sureAddr, storeVar, tk.size, hst]
          simpa using hlen
      · cases h
    · rename_i k off hx
      split at h
      · rename_i T' sz n cs hb
        cases h
        have hb1 : getB S1.bx k = some (.row T' sz n cs) := by rw [hs.2.2 k (by simp)]; exact hb
        refine Core.skip fun w0 I0 F I β a w hr => ?_
        have hv := hr.ev x
        rw [hx] at hv
        obtain ⟨b, n', c', e1, e2⟩ := hv
        obtain ⟨vs, how, hd, h1⟩ := hr.mem.bxs k _ hb1
        rw [e1] at how
        have hval := cells_ok (hr.ev v) hside.2.2
        have hone := oneAs_ok hval hside.2.2
        have hlen : (a.eval v).cells.toList.length = te.size := by rw [← hval.length]; exact hside.1
        have hfit : off + (a.eval v).cells.toList.length ≤ vs.length := by rw [hlen, ← hd.length]; exact hside.2.1
        obtain ⟨cur, hg, hfc, hown⟩ := ownsRow_store how hfit
        have hst := run_storeCells_at P b off T' (a.eval v).cells.toList 0 cur w hg (by simpa only [Nat.add_zero] using hfc) hone
        simp only [Nat.add_zero] at hst
        refine ⟨w.setRow b (cur.toList.take off ++ (a.eval v).cells.toList ++ cur.toList.drop (off + (a.eval v).cells.toList.length)).toArray, I, β, ?_, ?_⟩
        rotate_left
        · rw [St.app_upd]
          have hk : ∀ r, Kept w I (w.setRow b r) I := fun r =>
              ⟨fun _ h => h, fun n hn => setRow_other w b n _ (fun e => (hr.mem.sep k _ b hb1 (by rw [e1]; rfl)).1 (e ▸ hn))⟩
          refine Rel.put ⟨hr.mem.turn (b' := .row T' sz n (setL cs off (S1.ev v).cells)) hb1 (by rw [e1]; exact grownBy_setRow w b _) (by rw [e1]; simp [blk]) ?_, ?_, hr.dn, hr.fx⟩ o.dst (und _ _ _ o.dst _)
          · rw [e1]
            refine ⟨setV vs off (a.eval v).cells.toList, hown, DenAs.setL (DenAs.mono (hk _) _ _ (fun _ _ => rfl) hval) (DenAs.mono (hk _) _ _ (fun _ _ => rfl) hd) off, fun u hu => ?_⟩
            rcases mem_setV _ _ _ _ hu with hu | hu
            · exact h1 u hu
            · exact hone u hu
          · exact DenAs.mono (hk _) _ _ (fun _ _ => rfl) hr.sl
        · simp [execOp, ho, Instr.storeAt, e2, Instr.sureAddr, storeVar, tk.size, hst]
          simpa using hlen
      · cases h
    · cases h

end Go.Xe
