/-
  Joined texts.
-/
import Derived.Test.YtpamincphlfhlaaGreatDoorKB
import Derived.Test.YtpamincphlfhlaaGreatDoorKEngSs
import Derived.Test.YtpamincphlfhlaaGreatDoorK8
import Derived.Laws.Cover3
set_option linter.unusedVariables false
set_option linter.unusedSimpArgs false
set_option linter.unusedSectionVars false
/-
  Ledgers: the laying of the insertion sort at facts.
-/
set_option linter.unusedSimpArgs false
set_option linter.unusedVariables false
namespace Go.Proofs.YtpamincphlfhlaaGreatDoor
open Go.Xe Go.RowKit

def factSortR : Go.Shelf.Ren := ⟨fun n => match n with
  | 20 => 186
  | n => n, fun n => match n with
  | 0 => 0
  | 3 => 3
  | 4 => 4
  | 22 => 81
  | 24 => 63
  | 25 => 122
  | n => n, fun n => n⟩
set_option maxRecDepth 100000 in
theorem factSort_lay : Go.Proofs.SlLaysF0.n20 Tryz.prog factSortR where
  mixed := Tryz.mixed
  f20 := ⟨(Tryz.f186).name, by kernel_rfl, by kernel_rfl⟩
  t0 := Tryz.underlying0
  a0 := Tryz.isAgg0
  z0 := Tryz.sizeOf0
  v0 := Tryz.zeroValue0
  t3 := Tryz.underlying3
  a3 := Tryz.isAgg3
  z3 := Tryz.sizeOf3
  v3 := Tryz.zeroValue3
  t4 := Tryz.underlying4
  a4 := Tryz.isAgg4
  z4 := Tryz.sizeOf4
  v4 := Tryz.zeroValue4
  t22 := Tryz.underlying81
  a22 := Tryz.isAgg81
  z22 := Tryz.sizeOf81
  v22 := Tryz.zeroValue81
  t25 := Tryz.underlying122
  a25 := Tryz.isAgg122
  z25 := Tryz.sizeOf122
  v25 := Tryz.zeroValue122
/-- A fact whose cells are numbers within their kind. -/
abbrev Fk := {f : Nat → Int // fOk f}
theorem fOk0 : fOk f0 := ⟨fun _ => isI0, .inl rfl, fun _ _ => rfl⟩
instance : Inhabited Fk := ⟨⟨f0, fOk0⟩⟩
def fval (f : Nat → Int) (i : Nat) : Value := if i = 54 then .bool (decide (f 54 = 1)) else .int .i64 (f i)
def fvs (x : Fk) : List Value := (List.range' 0 57).map (fval x.1)
theorem fvs_fcs (x : Fk) : (fvs x).map D.v = fcs x.1 0 57 := by
  rw [fvs, fcs, List.map_map]
  refine List.map_congr_left fun i _ => ?_
  show D.v (fval x.1 i) = fcell x.1 i
  unfold fval fcell
  split <;> rfl
theorem rowV_fsC : ∀ l : List Fk, rowV fvs l = (fsC (l.map (·.1))).map .d
  | [] => rfl
  | x :: l => by
    have h := rowV_fsC l
    unfold rowV at *
    rw [List.flatMap_cons, List.map_append, h, List.map_cons, fsC_cons, List.map_append, ← fvs_fcs, List.map_map]
    rfl
def cmpK (x y : Fk) : Int := cmpF x.1 y.1
theorem ltK (x y : Fk) : Go.Proofs.ltOf cmpK x y = decide (cmpF x.1 y.1 < 0) := rfl
theorem swo_cmp : Go.Sort.SWO (Go.Proofs.ltOf cmpK) := by
  have h := cmp_fact
  constructor
  · intro x
    have := h.anti x.1 x.1
    rw [ltK, decide_eq_false_iff_not]
    omega
  · intro x y z h1 h2
    rw [ltK, decide_eq_true_eq] at *
    have a := h.trans x.1 y.1 z.1 (by omega) (by omega)
    by_cases e : cmpF x.1 z.1 = 0
    · have b := h.same x.1 z.1 y.1 e
      have c := h.anti z.1 y.1
      omega
    · omega
  · intro x y z h1 h2
    rw [ltK, decide_eq_false_iff_not] at *
    have a := h.anti x.1 y.1
    have b := h.anti y.1 z.1
    have c := h.trans z.1 y.1 x.1 (by omega) (by omega)
    have d := h.anti x.1 z.1
    omega
/-- The sort of a list of facts. -/
def sortK (l : List Fk) : List Fk := insL cmpK l
theorem insert_ok (l : List Fk) (hl : l.length ≤ 1000000) : Fun Tryz.prog 186 [.row 1000, .d (.v (.int .i64 0)), .d (.v (.int .i64 l.length)), .d (.v (.func (.func 58) #[] #[]))] [(1000, .row 63 57 l.length ((fsC (l.map (·.1))).map .d))] (.d .any) [(1000, .row 63 57 l.length ((fsC ((sortK l).map (·.1))).map .d))] fun _ => False := by
  have h := Fun.insertSort (ρ := factSortR) factSort_lay 57 Tryz.isAgg63 Tryz.sizeOf63 fvs (fun x => by simp [fvs]) (fun x v hv => by
    rw [fvs, List.mem_map] at hv
    obtain ⟨i, _, rfl⟩ := hv
    unfold fval
    split <;> rfl) cmpK (g := 58) (run_enterFn Tryz.body58) (fun x y => by
    have h := factsCompare_ok x.1 y.1 x.2 y.2
    unfold fD at h
    rw [← fvs_fcs x, ← fvs_fcs y] at h
    exact h) l (by omega)
  rw [rowV_fsC, rowV_fsC] at h
  exact h
end Go.Proofs.YtpamincphlfhlaaGreatDoor

/-
  The engine: a part of a row of the call's own, looked into while the row is written.
-/
set_option linter.unusedVariables false
set_option linter.unusedSimpArgs false
set_option linter.unusedSectionVars false
namespace Go.Xe
open Go.RowKit
variable [Glob]

theorem LCore.sliceSub {P : Program} {τ : Tab} (hτ : TabOk P τ) {ds : Dn} {pn : Pn} {o : Oper} {S : St} {T E : TypeId} {x y : Operand} {sz1 b1 : Nat} {z1 : List Value} {te : TE} {kx : IntKind} (ho : o.op = .slice T x (some y) none none) (ht : τ T = some ⟨.slice E, sz1, b1, z1⟩) (hte : τ E = some te)
    {k : Nat} (hx : S.ev x = .row k) {n : Nat} {cs : List AV} (hb : getB S.bx k = some (.row E te.size n cs)) {m : Nat} (hm : m < n) (hy : S.ev y = .d (.v (.int kx m))) :
    LCore P ds pn o S ⟨.rsl k (m * te.size) (n - m), [], [], []⟩ [k] := by
  intro S1 hs hf
  have ex := hs.1 x (by simp [ho, Op.operands])
  have ey := hs.1 y (by simp [ho, Op.operands])
  rw [← ex] at hx
  rw [← ey] at hy
  obtain ⟨d, hu, hk⟩ := (hτ T _ ht).und
  simp only [TK.ok] at hk
  subst hk
  have hb1 := (hs.2.2 k (by simp)).trans hb
  refine Core.value fun w0 I0 F I β a w hr => ?_
  obtain ⟨xs, how, hdx, hox⟩ := hr.mem.bxs k _ hb1
  have hv := hr.ev x
  rw [hx, DenA] at hv
  obtain ⟨hl, how2⟩ := how
  rcases how2 with ⟨_, h0⟩ | ⟨g, cap, cur, hyv, hz0, hg, hnc, hcm, hcs, htk⟩
  · omega
  have hbd := run_bounds2 (P := P) (isS := true) (n := n) (cap := cap) (lo := some y) (hi := none) hr (l := m) (by show intA (S1.ev y) = _; rw [hy]; rfl) rfl (by omega) (by omega) (by omega)
  simp only [Option.map_none, Option.map_some] at hbd
  have hxe : a.eval x = .slice (some ⟨g, 0, none⟩) n cap := by rw [hv.1]; exact hyv
  refine ⟨.slice (some ⟨g, m * te.size, none⟩) (n - m) (cap - m), ?_, g, n, cap, cap - m, hyv, rfl⟩
  simp [execOp, ho, Instr.sliceAt, Instr.slice, hxe, run_underlying hu, hbd, (hτ E te hte).size]
  simp [Addr.add_lit]
  omega
theorem vcStop.sliceSub {P : Program} {τ : Tab} (hτ : TabOk P τ) {ds : Dn} {pn : Pn} {o : Oper} {S : St} {acc : List TI} {rest : St → List TI → Prop} {T E : TypeId} {x y : Operand} {sz1 b1 : Nat} {z1 : List Value} {te : TE} {kx : IntKind} (ho : o.op = .slice T x (some y) none none) (ht : τ T = some ⟨.slice E, sz1, b1, z1⟩) (hte : τ E = some te)
    {k : Nat} (hx : S.ev x = .row k) {n : Nat} {cs : List AV} (hb : getB S.bx k = some (.row E te.size n cs)) {m : Nat} (hm : m < n) (hy : S.ev y = .d (.v (.int kx m)))
    (h : rest (S.app o.dst ⟨.rsl k (m * te.size) (n - m), [], [], []⟩) (⟨⟨.rsl k (m * te.size) (n - m), [], [], []⟩, [k]⟩ :: acc)) : vcStop P ds pn o rest S acc :=
  ⟨_, _, LCore.sliceSub hτ ho ht hte hx hb hm hy, trivial, h⟩
theorem LCore.clearSub {P : Program} {τ : Tab} (hτ : TabOk P τ) {ds : Dn} {pn : Pn} {o : Oper} {S : St} {T E : TypeId} {x : Operand} {sz1 b1 : Nat} {z1 : List Value} {te : TE} (ho : o.op = .call ⟨.builtin .clear, #[x], #[T]⟩) (hd0 : o.dst = none) (ht : τ T = some ⟨.slice E, sz1, b1, z1⟩) (hte : τ E = some te)
    {k off m : Nat} (hx : S.ev x = .rsl k off m) {n : Nat} {cs : List AV} (hb : getB S.bx k = some (.row E te.size n cs)) (hm : off + m * te.size ≤ cs.length) (hm0 : 0 < m) :
    LCore P ds pn o S ⟨.d .any, [], [(k, .row E te.size n (setL cs off (List.replicate (m * te.size) (.d .any))))], []⟩ [k] := by
  intro S1 hs hf
  have ex := hs.1 x (by simp [ho, Op.operands, Call.operands])
  rw [← ex] at hx
  obtain ⟨d, hu, hk⟩ := (hτ T _ ht).und
  simp only [TK.ok] at hk
  subst hk
  obtain ⟨i, z, hi, his, hib, hiz, hzc, hzl', hz1⟩ := (hτ E te hte).info
  have hb1 := (hs.2.2 k (by simp)).trans hb
  have hzs : z.cells.size = te.size := by rw [← Array.length_toList, hzc]; exact hzl'
  refine Core.world fun w0 I0 F I β a w hr => ?_
  obtain ⟨vs, how, hdx, hox⟩ := hr.mem.bxs k _ hb1
  have hv := hr.ev x
  rw [hx] at hv
  obtain ⟨b, n', c', c'', e1, e2⟩ := hv
  rw [e1] at how
  let us := (Builtin.zeroCells z.cells m).toList
  have hul : us.length = m * te.size := by simp [us, size_zeroCells, hzs]
  have hone : ∀ u ∈ us, u.oneCell' = true := fun u hu => by
    by_cases h0 : te.size = 0
    · exfalso
      have h1 : us = [] := List.eq_nil_of_length_eq_zero (by rw [hul, h0, Nat.mul_zero])
      rw [h1] at hu; cases hu
    · have := mem_zeroCells (by rw [hzs]; omega) hu
      rw [hzc] at this
      exact List.all_eq_true.1 hz1 u this
  have hfit : off + us.length ≤ vs.length := by rw [hul, ← hdx.length]; exact hm
  obtain ⟨cur, hg, hfc, hown⟩ := ownsRow_store how hfit
  have hst := run_storeCells_at P b off E us 0 cur w hg (by simpa only [Nat.add_zero] using hfc) hone
  simp only [Nat.add_zero] at hst
  have hany : ∀ (q : Nat) (l : List Value), l.length = q → DenAs w I β (List.replicate q (.d .any)) l := fun q => by
    induction q with
    | zero => intro l h; cases l with
      | nil => rfl
      | cons _ _ => cases h
    | succ q ih => intro l h; cases l with
      | nil => cases h
      | cons u l => exact ⟨u, l, rfl, DenA_any _ _ _ _, ih l (by simpa using h)⟩
  have hkp : ∀ r, Kept w I (w.setRow b r) I := fun r =>
    ⟨fun _ h => h, fun n hn => setRow_other w b n _ (fun e => (hr.mem.sep k _ b hb1 (by rw [e1]; exact .inl rfl)).1 (e ▸ hn))⟩
  refine ⟨.tuple #[], w.setRow b (cur.toList.take off ++ us ++ cur.toList.drop (off + us.length)).toArray, I, β, ?_, ?_⟩
  · obtain ⟨C, hC⟩ := run_builtin (P := P) ho
    rw [hC]
    obtain ⟨m', rfl⟩ : ∃ m', m = m' + 1 := ⟨m - 1, by omega⟩
    have hst' : (storeCells ⟨b, off, none⟩ (Builtin.zeroCells z.cells (m' + 1)).toList).run P w = .ok () (w.setRow b (cur.toList.take off ++ us ++ cur.toList.drop (off + us.length)).toArray) := hst
    simp [builtin, Builtin.clear_, run_underlying hu, e2, zeroValue, typeInfo, hi, hiz, hst']
  · rw [St.app_upd, hd0]
    refine Rel.put (S := ⟨S1.sl, setB S1.bx k (.row E te.size n (setL cs off (List.replicate (m * te.size) (.d .any)))), S1.df⟩) (w := w.setRow b (cur.toList.take off ++ us ++ cur.toList.drop (off + us.length)).toArray) ⟨hr.mem.turn (b' := .row E te.size n (setL cs off (List.replicate (m * te.size) (.d .any)))) hb1 (by rw [e1]; exact grownBy_setRow w b _) ?_, ?_, hr.dn, hr.fx⟩ none (DenA_any _ _ _ _)
    · rw [e1]
      refine ⟨setV vs off us, hown, DenAs.setL (DenAs.mono (hkp _) _ _ (fun _ _ => rfl) (hany _ _ hul)) (DenAs.mono (hkp _) _ _ (fun _ _ => rfl) hdx) off, fun u hu => ?_⟩
      rcases mem_setV _ _ _ _ hu with hu | hu
      · exact hox u hu
      · exact hone u hu
    · exact DenAs.mono (hkp _) _ _ (fun _ _ => rfl) hr.sl
theorem vcStop.clearSub {P : Program} {τ : Tab} (hτ : TabOk P τ) {ds : Dn} {pn : Pn} {o : Oper} {S : St} {acc : List TI} {rest : St → List TI → Prop} {T E : TypeId} {x : Operand} {sz1 b1 : Nat} {z1 : List Value} {te : TE} (ho : o.op = .call ⟨.builtin .clear, #[x], #[T]⟩) (hd0 : o.dst = none) (ht : τ T = some ⟨.slice E, sz1, b1, z1⟩) (hte : τ E = some te)
    {k off m : Nat} (hx : S.ev x = .rsl k off m) {n : Nat} {cs : List AV} (hb : getB S.bx k = some (.row E te.size n cs)) (hm : off + m * te.size ≤ cs.length) (hm0 : 0 < m)
    (h : rest (S.app o.dst ⟨.d .any, [], [(k, .row E te.size n (setL cs off (List.replicate (m * te.size) (.d .any))))], []⟩) (⟨⟨.d .any, [], [(k, .row E te.size n (setL cs off (List.replicate (m * te.size) (.d .any))))], []⟩, [k]⟩ :: acc)) : vcStop P ds pn o rest S acc :=
  ⟨_, _, LCore.clearSub hτ ho hd0 ht hte hx hb hm hm0, trivial, h⟩
theorem run_eqNilS {P : Program} {w : World} {T E : TypeId} {x y : Operand} (hu : P.underlying T = some (.slice E)) (a : Option Addr) (l c : Nat) :
    (eqGuard .eql T x y (.slice a l c) (.slice none 0 0)).run P w = .ok () w ∧ (binOp .eql T (.slice a l c) (.slice none 0 0)).run P w = .ok (.bool a.isNone) w := by
  refine ⟨rfl, ?_⟩
  simp only [binOp]
  simp [run_equal_slice_nil w T E a l c hu]
theorem LCore.eqNilRow {P : Program} {τ : Tab} (hτ : TabOk P τ) {ds : Dn} {pn : Pn} {o : Oper} {S : St} {T T' E : TypeId} {x y : Operand} {sz1 b1 : Nat} {z1 : List Value} (ho : o.op = .binOp .eql T x y T') (ht : τ T = some ⟨.slice E, sz1, b1, z1⟩)
    {k : Nat} (hx : S.ev x = .row k) (hy : S.ev y = .d (.v (.slice none 0 0))) {E2 : TypeId} {sz n : Nat} {cs : List AV} (hb : getB S.bx k = some (.row E2 sz n cs)) (hn : 0 < n) :
    LCore P ds pn o S ⟨.d (.v (.bool false)), [], [], []⟩ [k] := by
  intro S1 hs hf
  have ex := hs.1 x (by simp [ho, Op.operands])
  have ey := hs.1 y (by simp [ho, Op.operands])
  rw [← ex] at hx
  rw [← ey] at hy
  obtain ⟨d, hu, hk⟩ := (hτ T _ ht).und
  simp only [TK.ok] at hk
  subst hk
  have hb1 := (hs.2.2 k (by simp)).trans hb
  refine Core.value fun w0 I0 F I β a w hr => ⟨.bool false, ?_, DenA_v.2 rfl⟩
  obtain ⟨xs, how, hdx, hox⟩ := hr.mem.bxs k _ hb1
  have hv := hr.ev x
  have hv2 := hr.ev y
  rw [hx, DenA] at hv
  rw [hy, DenA_v] at hv2
  rcases how.2 with ⟨_, h0⟩ | ⟨g, cap, cur, hyv, _⟩
  · omega
  have hxe : a.eval x = .slice (some ⟨g, 0, none⟩) n cap := by rw [hv.1]; exact hyv
  have h := run_eqNilS (w := w) (x := x) (y := y) hu (some ⟨g, 0, none⟩) n cap
  simp [execOp, ho, hxe, hv2, h.1, h.2]
theorem vcStop.eqNilRow {P : Program} {τ : Tab} (hτ : TabOk P τ) {ds : Dn} {pn : Pn} {o : Oper} {S : St} {acc : List TI} {rest : St → List TI → Prop} {T T' E : TypeId} {x y : Operand} {sz1 b1 : Nat} {z1 : List Value} (ho : o.op = .binOp .eql T x y T') (ht : τ T = some ⟨.slice E, sz1, b1, z1⟩)
    {k : Nat} (hx : S.ev x = .row k) (hy : S.ev y = .d (.v (.slice none 0 0))) {E2 : TypeId} {sz n : Nat} {cs : List AV} (hb : getB S.bx k = some (.row E2 sz n cs)) (hn : 0 < n)
    (h : rest (S.app o.dst ⟨.d (.v (.bool false)), [], [], []⟩) (⟨⟨.d (.v (.bool false)), [], [], []⟩, [k]⟩ :: acc)) : vcStop P ds pn o rest S acc :=
  ⟨_, _, LCore.eqNilRow hτ ho ht hx hy hb hn, trivial, h⟩
theorem LCore.eqNilNil {P : Program} {τ : Tab} (hτ : TabOk P τ) {ds : Dn} {pn : Pn} {o : Oper} {S : St} {T T' E : TypeId} {x y : Operand} {sz1 b1 : Nat} {z1 : List Value} (ho : o.op = .binOp .eql T x y T') (ht : τ T = some ⟨.slice E, sz1, b1, z1⟩)
    (hx : S.ev x = .d (.v (.slice none 0 0))) (hy : S.ev y = .d (.v (.slice none 0 0))) :
    LCore P ds pn o S ⟨.d (.v (.bool true)), [], [], []⟩ [] := by
  intro S1 hs hf
  have ex := hs.1 x (by simp [ho, Op.operands])
  have ey := hs.1 y (by simp [ho, Op.operands])
  rw [← ex] at hx
  rw [← ey] at hy
  obtain ⟨d, hu, hk⟩ := (hτ T _ ht).und
  simp only [TK.ok] at hk
  subst hk
  refine Core.value fun w0 I0 F I β a w hr => ⟨.bool true, ?_, DenA_v.2 rfl⟩
  have hv := hr.ev x
  have hv2 := hr.ev y
  rw [hx, DenA_v] at hv
  rw [hy, DenA_v] at hv2
  have h := run_eqNilS (w := w) (x := x) (y := y) hu none 0 0
  simp [execOp, ho, hv, hv2, h.1, h.2]
theorem vcStop.eqNilNil {P : Program} {τ : Tab} (hτ : TabOk P τ) {ds : Dn} {pn : Pn} {o : Oper} {S : St} {acc : List TI} {rest : St → List TI → Prop} {T T' E : TypeId} {x y : Operand} {sz1 b1 : Nat} {z1 : List Value} (ho : o.op = .binOp .eql T x y T') (ht : τ T = some ⟨.slice E, sz1, b1, z1⟩)
    (hx : S.ev x = .d (.v (.slice none 0 0))) (hy : S.ev y = .d (.v (.slice none 0 0)))
    (h : rest (S.app o.dst ⟨.d (.v (.bool true)), [], [], []⟩) (⟨⟨.d (.v (.bool true)), [], [], []⟩, []⟩ :: acc)) : vcStop P ds pn o rest S acc :=
  ⟨_, _, LCore.eqNilNil hτ ho ht hx hy, trivial, h⟩
end Go.Xe

/-
  Ledgers: a list of facts in order, each once.
-/
set_option linter.unusedSimpArgs false
set_option linter.unusedVariables false
namespace Go.Proofs.YtpamincphlfhlaaGreatDoor
open Go.Xe Go.RowKit

abbrev cmpD : D := .v (.func (.func 58) #[] #[])
@[simp] theorem Leq_fD (f : F) : Leq (.agg ((fcs f 0 57).map .d)) (.d (fD f)) ↔ True := ⟨fun _ => trivial, fun _ => Leq.aggD _⟩
theorem eqCmp_ok (f g : F) (hf : fOk f) (hg : fOk g) : Fun Tryz.prog 106 [.d (fD f), .d (fD g), .ptr 1000 0] [(1000, .cells 122 [.d cmpD])] (.d (.v (.bool (decide (cmpF f g = 0))))) [(1000, .cells 122 [.d cmpD])] fun _ => False := by
  refine Fun.of_wp (pn := noPn) Tryz.tab Tryz.func106 rfl fun β0 => ?_
  simp only [Tryz.f106]
  simp only [fD]
  repeat (first | apply wS | apply wB | ((first | apply wR | apply wD); simp -dsimp) | refine aI ?_)
  refine vcStop.call0 Tryz.body58 (factsCompare_ok f g hf hg) rfl rfl (by simp [fD]) ?_
  simp -dsimp
  repeat (first | apply wS | apply wB | ((first | apply wR | apply wD); simp -dsimp) | refine aI ?_)
  refine WP.ret (finQ.retE ?_)
  simp -dsimp
@[simp] theorem fsC_any (k : Nat) (l : List F) : AV.hasL k ((fsC l).map .d) = false := by
  induction fsC l with
  | nil => rfl
  | cons c cs ih => rw [List.map_cons, AV.hasL, ih]; rfl
theorem clone_row (l : List F) (h0 : 0 < l.length) (hl : l.length ≤ 14) : Fun Tryz.prog 103 [.row 1000] [(1000, .row 63 57 l.length ((fsC l).map .d))] (.row 0) [(1000, .row 63 57 l.length ((fsC l).map .d)), (0, .row 63 57 l.length ((fsC l).map .d))] fun _ => False := by
  refine Fun.of_wp (pn := noPn) Tryz.tab Tryz.func103 rfl fun β0 => ?_
  simp only [Tryz.f103]
  repeat (first | apply wS | apply wB | ((first | apply wR | apply wD); simp -dsimp) | refine aI ?_)
  refine vcStop.eqNilRow Tryz.tab rfl rfl rfl rfl rfl h0 ?_
  simp -dsimp
  repeat (first | apply wS | apply wB | ((first | apply wR | apply wD); simp -dsimp) | refine aI ?_)
  refine cF (by simp) ?_
  refine WP.skip ?_
  simp -dsimp
  repeat (first | apply wS | apply wB | ((first | apply wR | apply wD); simp -dsimp) | refine aI ?_)
  refine And.intro ⟨fsC_len l, by omega⟩ ?_
  refine WP.ret (finQ.retWE (S' := mkS 8 [(2, .row 0)] [(1000, .row 63 57 l.length ((fsC l).map .d)), (0, .row 63 57 l.length ((fsC l).map .d))]) (Wk.go [] 7 0 (by decide) (by simp) (by simp) (by simp)) ?_)
  simp -dsimp
theorem clone_nil : Fn0 Tryz.prog 103 [.v (.slice none 0 0)] (.v (.slice none 0 0)) := by
  refine Fun.of_wp (pn := noPn) Tryz.tab Tryz.func103 rfl fun β0 => ?_
  simp only [Tryz.f103]
  repeat (first | apply wS | apply wB | ((first | apply wR | apply wD); simp -dsimp) | refine aI ?_)
  refine vcStop.eqNilNil Tryz.tab rfl rfl rfl rfl ?_
  simp -dsimp
  repeat (first | apply wS | apply wB | ((first | apply wR | apply wD); simp -dsimp) | refine aI ?_)
  refine cT (by simp) ?_
  repeat (first | apply wS | apply wB | ((first | apply wR | apply wD); simp -dsimp) | refine aI ?_)
  refine WP.ret (finQ.retE ?_)
  simp -dsimp
theorem stable_ok (l : List Fk) (hl : l.length ≤ 14) : Fun Tryz.prog 145 [.row 1000, .d (.v (.int .i64 l.length)), .d cmpD] [(1000, .row 63 57 l.length ((fsC (l.map (·.1))).map .d))] (.tup []) [(1000, .row 63 57 l.length ((fsC ((sortK l).map (·.1))).map .d))] fun _ => False := by
  refine Fun.of_wp (pn := noPn) Tryz.tab Tryz.func145 rfl fun β0 => ?_
  simp only [Tryz.f145]
  repeat (first | apply wS | apply wB | ((first | apply wR | apply wD); simp -dsimp) | refine aI ?_)
  refine WP.loopWk (fun m S => S = mkS 63 [(0, .row 1000), (1, .d (.v (.int .i64 l.length))), (2, .d cmpD), (6, .d (.v (.int .i64 20))), (7, .d (.v (.int .i64 0))), (8, .d (.v (.int .i64 20)))] [(1000, .row 63 57 l.length ((fsC (l.map (·.1))).map .d))]) 1
    (S0 := mkS 63 [(0, .row 1000), (1, .d (.v (.int .i64 l.length))), (2, .d cmpD), (6, .d (.v (.int .i64 20))), (7, .d (.v (.int .i64 0))), (8, .d (.v (.int .i64 20)))] [(1000, .row 63 57 l.length ((fsC (l.map (·.1))).map .d))]) (Wk.lessE [] (by simp) (by simp)) rfl ?_
  rintro _ _ rfl
  simp -dsimp
  repeat (first | apply wS | apply wB | ((first | apply wR | apply wD); simp -dsimp) | refine aI ?_)
  refine cF (by simp; omega) ?_
  refine WP.exit ?_
  simp -dsimp
  repeat (first | apply wS | apply wB | ((first | apply wR | apply wD); simp -dsimp) | refine aI ?_)
  refine vcStop.call Tryz.body186 (insert_ok l (by omega)) (rl []) rfl rfl (by simp [BoxLeq]) (CallOk.of (by simp [BoxLeq]) rfl (by first | rfl | (simp [BoxLeq]; done)) (by simp [BoxLeq]) (by simp [BoxLeq])) (fun _ h => h.elim) (fun ⟨_, h⟩ => h.elim) (fun ⟨_, h⟩ => h.elim) (by simp [BoxLeq]) ?_
  simp -dsimp
  repeat (first | apply wS | apply wB | ((first | apply wR | apply wD); simp -dsimp) | refine aI ?_)
  refine WP.loopWk (fun m S => S = mkS 63 [(0, .row 1000), (1, .d (.v (.int .i64 l.length))), (2, .d cmpD), (6, .d (.v (.int .i64 20)))] [(1000, .row 63 57 l.length ((fsC ((sortK l).map (·.1))).map .d))]) 1
    (S0 := mkS 63 [(0, .row 1000), (1, .d (.v (.int .i64 l.length))), (2, .d cmpD), (6, .d (.v (.int .i64 20)))] [(1000, .row 63 57 l.length ((fsC ((sortK l).map (·.1))).map .d))]) (Wk.lessE [] (by simp) (by simp)) rfl ?_
  rintro _ _ rfl
  simp -dsimp
  repeat (first | apply wS | apply wB | ((first | apply wR | apply wD); simp -dsimp) | refine aI ?_)
  refine cF (by simp; omega) ?_
  refine WP.exit ?_
  simp -dsimp
  refine finQ.normalWE (S' := mkS 63 [] [(1000, .row 63 57 l.length ((fsC ((sortK l).map (·.1))).map .d))]) (Wk.lessE [] (by simp) (by simp)) ?_
  simp -dsimp
theorem sortStable_ok (l : List Fk) (hl : l.length ≤ 14) : Fun Tryz.prog 104 [.row 1000, .d cmpD] [(1000, .row 63 57 l.length ((fsC (l.map (·.1))).map .d))] (.tup []) [(1000, .row 63 57 l.length ((fsC ((sortK l).map (·.1))).map .d))] fun _ => False := by
  refine Fun.of_wp (pn := noPn) Tryz.tab Tryz.func104 rfl fun β0 => ?_
  simp only [Tryz.f104]
  repeat (first | apply wS | apply wB | ((first | apply wR | apply wD); simp -dsimp) | refine aI ?_)
  refine vcStop.call Tryz.body145 (stable_ok l hl) (rl []) rfl rfl (by simp [BoxLeq]) (CallOk.of (by simp [BoxLeq]) rfl (by first | rfl | (simp [BoxLeq]; done)) (by simp [BoxLeq]) (by simp [BoxLeq])) (fun _ h => h.elim) (fun ⟨_, h⟩ => h.elim) (fun ⟨_, h⟩ => h.elim) (by simp [BoxLeq]) ?_
  simp -dsimp
  refine finQ.normalWE (S' := mkS 9 [] [(1000, .row 63 57 l.length ((fsC ((sortK l).map (·.1))).map .d))]) (Wk.lessE [] (by simp) (by simp)) ?_
  simp -dsimp
end Go.Proofs.YtpamincphlfhlaaGreatDoor
