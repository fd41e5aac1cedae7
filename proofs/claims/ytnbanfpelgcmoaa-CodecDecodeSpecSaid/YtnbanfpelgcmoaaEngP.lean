/-
  The engine, part P. append of a string's bytes.
-/
import Derived.Test.YtnbanfpelgcmoaaEngI
namespace Go.Xe
open Go.RowKit

def strV (s : ByteArray) : List Value := s.data.toList.map fun b => .int .u8 b.toNat
theorem strV_length (s : ByteArray) : (strV s).length = s.size := by simp only [strV, List.length_map, Array.length_toList]; rfl
theorem strV_arr (s : ByteArray) : (strV s).toArray = s.data.map fun b => Value.int .u8 b.toNat := by
  apply Array.ext'; simp [strV]
theorem run_firstCells_str {P : Program} (w : World) (size : Nat) (s : ByteArray) : (Builtin.firstCells size s.size (.string s)).run P w = .ok (strV s).toArray w := by
  simp [Builtin.firstCells, strV_arr]

theorem run_append_row_s {P : Program} (w : World) {t u ty e : TypeId} {i : TypeInfo} {z : Value} {bytes : Nat} (ht : P.underlying t = some (.slice e)) (hu : P.underlying u = some .string) (hi : P.info? e = some i) (hz : i.zero = some z)
    (hsize : i.size = 1) (hby : i.bytes = bytes) (hzs : z.cells.size = 1)
    {v : Value} {n : Nat} {xs : List Value} (hown : w.ownsRow 0 e 1 v n xs) (s : ByteArray)
    (h63 : n + s.size ≤ maxLen) (hbytes : (n + s.size) * bytes ≤ 140737488355328) :
    ∃ v' w', (Builtin.append_ #[t, u] ty #[v, .string s]).run P w = .ok v' w' ∧ w'.ownsRow 0 e 1 v' (n + s.size) (xs ++ strV s) ∧ w.grownBy w' v.ownBlock ∧ (v'.ownBlock = v.ownBlock ∨ ∀ g, v'.ownBlock = some g → w.heap.size ≤ g) := by
  subst hby
  have hsmall : n + s.size ≤ 9223372036854775807 := by simp only [maxLen] at h63; omega
  have hlen : (xs ++ strV s).length = (n + s.size) * 1 := by rw [List.length_append, hown.1, strV_length, Nat.add_mul]; omega
  have hxl : xs.length = n := by have := hown.1; omega
  have hf := run_firstCells_str (P := P) w 1 s
  have hfd := run_firstCells_str (P := P) w.drew 1 s
  have grown : ∀ (old : Nat),
      (w.drew.alloc (.cells (xs.toArray ++ (strV s).toArray ++ Builtin.zeroCells z.cells (grownCap w (n + s.size) old e - (n + s.size))) e)).ownsRow 0 e 1
        (.slice (some ⟨w.heap.size, 0, none⟩) (n + s.size) (grownCap w (n + s.size) old e)) (n + s.size) (xs ++ strV s) ∧
      ∀ row, w.grownBy (w.drew.alloc (.cells (xs.toArray ++ (strV s).toArray ++ Builtin.zeroCells z.cells (grownCap w (n + s.size) old e - (n + s.size))) e)) row := by
    intro old
    have hge := grownCap_ge w (n + s.size) old e
    have hcm : grownCap w (n + s.size) old e ≤ maxLen := grownCap_le_maxLen w (n + s.size) old e h63
    refine ⟨⟨hlen, .inr ⟨w.heap.size, _, _, rfl, Nat.zero_le _, heap_alloc_new w.drew _, hge, hcm, ?_, ?_⟩⟩, fun row => grownBy_drew w (World.grownBy_alloc w.drew _ row)⟩
    · simp only [Array.size_append, List.size_toArray, size_zeroCells, hzs, hxl, strV_length]
      omega
    · simp only [Array.toList_append, List.append_assoc]
      rw [← List.append_assoc, ← hlen]
      exact List.take_left
  have fresh : ∀ (cap : Nat) g, Value.ownBlock (.slice (some ⟨w.heap.size, 0, none⟩) (n + s.size) cap) = some g → w.heap.size ≤ g := fun cap g hg => by simp [Value.ownBlock] at hg; omega
  rcases hown.2 with ⟨rfl, rfl⟩ | ⟨g, cap, cur, rfl, _, hg, hnc, hcm, hcs, htk⟩
  · have hx : xs = [] := List.eq_nil_of_length_eq_zero (by simpa using hown.1)
    subst hx
    by_cases hm : s.size = 0
    · have hn : strV s = [] := List.eq_nil_of_length_eq_zero (by rw [strV_length]; exact hm)
      rw [hm] at hf
      refine ⟨.slice none 0 0, w, ?_, by rw [hn, hm]; exact World.ownsRow_nil w 0 e 1, ⟨rfl, rfl, rfl, Nat.le_refl _, fun _ _ _ => rfl⟩, .inl rfl⟩
      simp [Builtin.append_, run_underlying ht, run_underlying hu, sizeOf, typeInfo, hi, hsize, Builtin.lenOf, hm, hf]
    · have hr := run_append_nil_string (P := P) w t u ty e i z ht hu hi hz s (by omega) (by omega) (by have hb := hbytes; simp only [Nat.zero_add] at hb; omega)
      rw [← strV_arr] at hr
      have hgr := grown 0
      simp only [Nat.zero_add, List.nil_append, Array.empty_append] at hgr ⊢
      refine ⟨_, _, hr, hgr.1, hgr.2 _, .inr fun g hg => ?_⟩
      have := fresh (grownCap w s.size 0 e) g
      simp only [Nat.zero_add] at this
      exact this hg
  · have hcs : cur.size = cap := by omega
    by_cases hroom : n + s.size ≤ cap
    · have hst := run_storeCells_at P g n e (strV s) 0 cur w hg (by rw [strV_length]; omega) (fun u hu => by
        simp only [strV, List.mem_map] at hu
        obtain ⟨b, _, rfl⟩ := hu
        rfl)
      simp only [Nat.add_zero] at hst
      refine ⟨_, _, ?_, ⟨hlen, .inr ⟨g, cap, _, rfl, Nat.zero_le _, setRow_heap w g cur (cur.toList.take n ++ strV s ++ cur.toList.drop (n + (strV s).length)).toArray e _ hg, hroom, hcm, ?_, ?_⟩⟩, grownBy_setRow w g _, .inl rfl⟩
      · simp [Builtin.append_, run_underlying ht, run_underlying hu, sizeOf, typeInfo, hi, hsize, Builtin.lenOf, hroom, hf, Addr.add_lit, hst]
      · simp only [List.size_toArray, List.length_append, List.length_take, List.length_drop, Array.length_toList, strV_length]
        omega
      · have htk : cur.toList.take n = xs := by rw [← htk, Nat.mul_one]
        rw [htk, ← hlen]
        exact List.take_left
    · have holds : ∀ j u, xs[j]? = some u → w.cell? ((⟨g, 0, none⟩ : Addr).add j) = some u := hown.cells (g := g) rfl
      have hn : ¬ (n + s.size ≤ cap) := hroom
      have h63' : ¬ (9223372036854775807 < ((n : Int) + (s.size : Int))) := by omega
      have h48' : ¬ (281474976710656 < Builtin.nextslicecap (n + s.size) cap * i.bytes) := by have := growslice_fits (old := cap) (by omega : cap < n + s.size) hbytes; omega
      have hfo := run_firstCells_some (P := P) w.drew 1 n ⟨g, 0, none⟩ n cap xs (by omega) (by simpa using holds)
      refine ⟨_, _, ?_, (grown cap).1, (grown cap).2 _, .inr (fresh _)⟩
      simp [Builtin.append_, run_underlying ht, run_underlying hu, sizeOf, typeInfo, zeroValue, hi, hz, hsize, Builtin.lenOf, hn, h63', h48', Question.forced, hfd, hfo, newRow, grownCap]
      congr 2
      apply Array.ext'
      simp [List.append_assoc]

def opAppendS (τ : Tab) (dst : Option Tmp) (T T' : TypeId) (x y : Operand) (S : St) : OpR :=
  match dst, τ T, τ T', S.ev y with
  | some k, some ⟨.slice E, _, _, _⟩, some ⟨.string, _, _, _⟩, .d (.v (.string s)) => (τ E).bind fun te => match S.ev x with
    | .row j => match getB S.bx j with
      | some (.row T2 sz n cs) => some (sz = 1 ∧ te.size = 1 ∧ T2 = E ∧ (n + s.size) * (te.bytes + 1) ≤ 140737488355328,
          ⟨.row k, [j], [], [(k, .row E 1 (n + s.size) (cs ++ (s.data.toList.map byteD).map .d))]⟩, [j])
      | _ => none
    | .d (.v (.slice none 0 0)) => some (te.size = 1 ∧ s.size * (te.bytes + 1) ≤ 140737488355328, ⟨.row k, [], [], [(k, .row E 1 s.size ((s.data.toList.map byteD).map .d))]⟩, [])
    | _ => none
  | _, _, _, _ => none

theorem strV_den {w : World} {I : Nat → Prop} {β : Nat → Value} (l : List UInt8) : DenAs w I β ((l.map byteD).map .d) (l.map fun b => .int .u8 b.toNat) := by
  induction l with
  | nil => rfl
  | cons b l ih => exact ⟨_, _, rfl, by rw [DenA, byteD, Den], ih⟩

theorem serves_appendS {P : Program} {τ : Tab} (hτ : TabOk P τ) {o : Oper} {T T' : TypeId} {x y : Operand} (ho : o.op = .call ⟨.builtin .append, #[x, y], #[T, T']⟩) : Serves P o (opAppendS τ o.dst T T' x y) := by
  intro ds pn S side e fp h hside S1 hs hf
  have ex := hs.1 x (by simp [ho, Op.operands, Call.operands])
  have ey := hs.1 y (by simp [ho, Op.operands, Call.operands])
  unfold opAppendS at h
  rw [← ex, ← ey] at h
  split at h
  · rename_i k E _ _ _ _ _ _ s hd ht ht' hy
    obtain ⟨d, hu, hk⟩ := (hτ T _ ht).und
    obtain ⟨d', hu', hk'⟩ := (hτ T' _ ht').und
    simp only [TK.ok] at hk hk'
    subst hk; subst hk'
    cases hte : τ E with
    | none => rw [hte] at h; cases h
    | some te =>
      obtain ⟨i, z, hi, his, hib, hiz, hzc, hzl, _⟩ := (hτ E te hte).info
      rw [hte, Option.bind_some] at h
      have hzs : z.cells.size = te.size := by rw [← Array.length_toList, hzc, hzl]
      split at h
      · rename_i j hx
        split at h
        · rename_i T2 sz n cs hb
          cases h
          simp only at hside hf hs ⊢
          obtain ⟨rfl, hts, rfl, hbnd⟩ := hside
          have hk0 : S1.has k = false := hf _ (List.mem_singleton.2 rfl)
          have hk1 := St.has_sl' hk0
          have hmax : n + s.size ≤ maxLen := by
            simp only [maxLen]
            have : n + s.size ≤ (n + s.size) * (te.bytes + 1) := Nat.le_mul_of_pos_right _ (by omega)
            omega
          have hbyt : (n + s.size) * te.bytes ≤ 140737488355328 := Nat.le_trans (Nat.mul_le_mul_left _ (by omega)) hbnd
          refine Core.world fun w0 I0 F I β a w hr => ?_
          have hb1 := (hs.2.2 j (by simp)).trans hb
          obtain ⟨xs, how, hdx, hox⟩ := hr.mem.bxs j _ hb1
          have hv := hr.ev x
          have hvy := hr.ev y
          rw [hx, DenA] at hv
          rw [hy, DenA_v] at hvy
          obtain ⟨v', w', hrun, how', hg, hfr⟩ := run_append_row_s (P := P) w (ty := o.type) hu hu' hi hiz (his.trans hts) hib (hzs.trans hts) how s hmax hbyt
          refine ⟨v', w', I, upd β k v', ?_, ?_⟩
          · obtain ⟨C, hC⟩ := run_builtin (P := P) ho; rw [hC]; simp [builtin, hv.1, hvy, hrun]
          · exact hr.appended hk0 hg hfr (ownsRow_slice how') (.inr ⟨j, _, rfl, hb1, rfl, blk_own how⟩) how' (hdx.append (strV_den _))
              (fun u hu => by
                rcases List.mem_append.1 hu with hu | hu
                · exact hox u hu
                · simp only [strV, List.mem_map] at hu
                  obtain ⟨b, _, rfl⟩ := hu
                  rfl) (by have h5 := (hasB_get hk1.2).2 j _ hb1; simp only [Box.cs] at h5; rw [hasL_append, h5, hasL_d]; rfl) o.dst
        · cases h
      · rename_i hx
        cases h
        simp only at hside hf hs ⊢
        obtain ⟨hts, hbnd⟩ := hside
        have hk0 : S1.has k = false := hf _ (List.mem_singleton.2 rfl)
        have hk1 := St.has_sl' hk0
        have hmax : 0 + s.size ≤ maxLen := by
          simp only [maxLen]
          have : s.size ≤ s.size * (te.bytes + 1) := Nat.le_mul_of_pos_right _ (by omega)
          omega
        have hbyt : (0 + s.size) * te.bytes ≤ 140737488355328 := by
          rw [Nat.zero_add]; exact Nat.le_trans (Nat.mul_le_mul_left _ (by omega)) hbnd
        refine Core.world fun w0 I0 F I β a w hr => ?_
        have hv := hr.ev x
        have hvy := hr.ev y
        rw [hx, DenA_v] at hv
        rw [hy, DenA_v] at hvy
        obtain ⟨v', w', hrun, how', hg, hfr⟩ := run_append_row_s (P := P) w (ty := o.type) hu hu' hi hiz (his.trans hts) hib (hzs.trans hts) (World.ownsRow_nil w 0 E 1) s hmax hbyt
        rw [Nat.zero_add, List.nil_append] at how'
        refine ⟨v', w', I, upd β k v', ?_, ?_⟩
        · obtain ⟨C, hC⟩ := run_builtin (P := P) ho; rw [hC]; simp [builtin, hv, hvy, hrun]
        · exact hr.appended (v := .slice none 0 0) hk0 (l := []) hg hfr (ownsRow_slice how') (.inl rfl) how' (strV_den _)
            (fun u hu => by
              simp only [strV, List.mem_map] at hu
              obtain ⟨b, _, rfl⟩ := hu
              rfl) (hasL_d _) o.dst
      · cases h
  · cases h

/-! ### the type that an interface's value has -/
def TK.isI : TK → Bool
  | .iface => true
  | _ => false
def assertA (b : Bool) (T : TypeId) (x : AV) : OpR :=
  match b with
  | true => none
  | false => match x with
    | .d (.v (.iface t v)) => some (t = T, ⟨.d (.v v), [], [], []⟩, [])
    | .iface t y => some (t = T, ⟨y, [], [], []⟩, [])
    | _ => none
def opAssert (τ : Tab) (x : Operand) (T : TypeId) (b : Bool) (S : St) : OpR :=
  (τ T).bind fun te => assertA (te.k.isI || b) T (S.ev x)
theorem run_assert {P : Program} {T : TypeId} {te : TE} (h : TyOk P T te) (hk : te.k.isI = false) (v : Value) (xT : TypeId) (w : World) : (Instr.typeAssert (.iface T v) xT T false).run P w = .ok v w := by
  obtain ⟨d, hd, hok⟩ := h.und
  unfold Instr.typeAssert
  cases hkk : te.k <;> rw [hkk] at hok hk <;> simp only [TK.ok, TK.isI] at hok hk
  case iface => cases hk
  case struct => obtain ⟨a, rfl, _⟩ := hok; simp [run_underlying hd]
  case func => obtain ⟨a, b, c, rfl⟩ := hok; simp [run_underlying hd]
  all_goals (subst hok; simp [run_underlying hd])
theorem serves_assert {P : Program} {τ : Tab} (hτ : TabOk P τ) {o : Oper} {x : Operand} {xT T : TypeId} {b : Bool} (ho : o.op = .typeAssert x xT T b) : Serves P o (opAssert τ x T b) := by
  intro ds pn S side e fp h hside S1 hs _
  unfold opAssert at h
  cases ht : τ T with
  | none => rw [ht] at h; cases h
  | some te =>
    rw [ht, Option.bind_some] at h
    have ex : S1.ev x = S.ev x := hs.1 x (by simp [ho, Op.operands])
    unfold assertA at h
    split at h
    · cases h
    · rename_i hb
      simp only [Bool.or_eq_false_iff] at hb
      split at h
      · rename_i t v hx
        cases h
        subst hside
        refine Core.value fun w0 I0 F I β a w hr => ⟨v, ?_, DenA_v.2 rfl⟩
        have hv := hr.ev x
        rw [ex, hx, DenA_v] at hv
        simp [execOp, ho, hv, hb.2, run_assert (hτ _ te ht) hb.1]
      · rename_i t y hx
        cases h
        subst hside
        refine Core.value fun w0 I0 F I β a w hr => ?_
        have hv := hr.ev x
        rw [ex, hx, DenA] at hv
        obtain ⟨z, hz, hd⟩ := hv
        exact ⟨z, by simp [execOp, ho, hz, hb.2, run_assert (hτ _ te ht) hb.1], hd⟩
      · cases h

/-! ### equality of booleans -/
def eqBA (op : BinOp) (x y : AV) : OpR :=
  match x, y with
  | .d (.v (.bool a)), .d (.v (.bool b)) => match op with
    | .eql => okV (.d (.v (.bool (a == b))))
    | .neq => okV (.d (.v (.bool (!(a == b)))))
    | _ => none
  | _, _ => none
def isBoolT : Option TE → Bool
  | some ⟨.bool, _, _, _⟩ => true
  | _ => false
def opEqB (τ : Tab) (op : BinOp) (T : TypeId) (x y : Operand) (S : St) : OpR :=
  match isBoolT (τ T) with
  | true => eqBA op (S.ev x) (S.ev y)
  | false => none
theorem run_equalIn_bool {P : Program} {T : TypeId} (d : Nat) (hu : P.underlying T = some .bool) (a b : Bool) (w : World) : (Op.equalIn (d + 1) T (.bool a) (.bool b)).run P w = .ok (a == b) w := by
  simp [Op.equalIn, run_underlying hu]
theorem serves_eqB {P : Program} {τ : Tab} (hτ : TabOk P τ) {o : Oper} {op : BinOp} {T T' : TypeId} {x y : Operand} (ho : o.op = .binOp op T x y T') : Serves P o (opEqB τ op T x y) := by
  intro ds pn S side e fp h hside S1 hs _
  have ex := hs.1 x (by simp [ho, Op.operands])
  have ey := hs.1 y (by simp [ho, Op.operands])
  unfold opEqB at h
  cases hb : isBoolT (τ T) with
  | false => rw [hb] at h; cases h
  | true =>
    rw [hb] at h
    have hu : P.underlying T = some .bool := by
      unfold isBoolT at hb
      split at hb
      · rename_i ht
        obtain ⟨d, hd, hok⟩ := (hτ T _ ht).und
        simp only [TK.ok] at hok
        rw [hd, hok]
      · cases hb
    simp only at h
    unfold eqBA at h
    split at h
    · rename_i a b hx hy
      have heq : ∀ w : World, (Op.equal T (.bool a) (.bool b)).run P w = .ok (a == b) w := fun w => run_equalIn_bool 9999 hu a b w
      split at h
      · cases h
        refine Core.value fun w0 I0 F I β A w hr => ⟨_, ?_, DenA_v.2 rfl⟩
        have h1 := hr.ev x
        have h2 := hr.ev y
        rw [ex, hx, DenA_v] at h1
        rw [ey, hy, DenA_v] at h2
        simp [execOp, ho, h1, h2, eqGuard, binOp, heq]
      · cases h
        refine Core.value fun w0 I0 F I β A w hr => ⟨_, ?_, DenA_v.2 rfl⟩
        have h1 := hr.ev x
        have h2 := hr.ev y
        rw [ex, hx, DenA_v] at h1
        rw [ey, hy, DenA_v] at h2
        simp [execOp, ho, h1, h2, eqGuard, binOp, heq]
      · cases h
    · cases h
def orE (a b : OpR) : OpR :=
  match a with
  | some r => some r
  | none => b
theorem serves_orE {P : Program} {o : Oper} {f g : St → OpR} (hf : Serves P o f) (hg : Serves P o g) : Serves P o fun S => orE (f S) (g S) := by
  intro ds pn S side e fp h hside
  change orE (f S) (g S) = _ at h
  unfold orE at h
  cases hfs : f S with
  | some r => rw [hfs] at h; cases h; exact hf ds pn S side e fp hfs hside
  | none => rw [hfs] at h; exact hg ds pn S side e fp h hside

end Go.Xe
