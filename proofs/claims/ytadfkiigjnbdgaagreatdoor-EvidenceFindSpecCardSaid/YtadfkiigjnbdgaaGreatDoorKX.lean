/-
  Joined texts.
-/
import Derived.Test.YtadfkiigjnbdgaaGreatDoorKY
import Derived.Test.YtadfkiigjnbdgaaGreatDoorKV
import Derived.Lib.AppendZerosOnto
import Derived.Lib.Overlaps
import Derived.Test.YtadfkiigjnbdgaaGreatDoorKEngMa
import Derived.Test.YtadfkiigjnbdgaaGreatDoorK8
set_option linter.unusedVariables false
set_option linter.unusedSimpArgs false
set_option linter.unusedSectionVars false
/-
  The engine: a row of the call's own whose block and room are told; its parts; copy; zeros appended where there is no room; whether two slices overlap.
-/
set_option linter.unusedVariables false
set_option linter.unusedSimpArgs false
set_option linter.unusedSectionVars false
namespace Go.Xe
open Go.RowKit
variable [Glob]

def ExP (T : TypeId) (sz g n c : Nat) (xs : List D) (y : Value) (w : World) (I : Nat → Prop) : Prop :=
  y = .slice (some ⟨g, 0, none⟩) n c ∧ n ≤ c ∧ c ≤ maxLen ∧ ∃ (cur : Array Value) (us : List Value), w.heap[g]? = some (.cells cur T (0, 0)) ∧ cur.size = c * sz ∧ cur.toList.take us.length = us ∧ Dens w I xs us ∧ ∀ u ∈ us, u.oneCell' = true
def Ex (T : TypeId) (sz g n c : Nat) (xs : List D) : Box := .opq (ExP T sz g n c xs)

section
variable {T : TypeId} {sz g n c : Nat} {xs : List D} {w : World} {I : Nat → Prop} {β : Nat → Value} {y : Value}
theorem Ex.out (h : BoxRel w I β y (Ex T sz g n c xs)) : ExP T sz g n c xs y w I := by
  obtain ⟨w1, I1, ⟨rfl, hn, hc, cur, us, hg, hs, htk, hd, ho⟩, hk, hb⟩ := h
  refine ⟨rfl, hn, hc, cur, us, ?_, hs, htk, Dens.mono hk _ _ hd, ho⟩
  rw [(hb g (.inl rfl)).2]; exact hg
theorem Ex.in (h : ExP T sz g n c xs y w I) : BoxRel w I β y (Ex T sz g n c xs) := by
  refine ⟨w, I, h, .refl w I, fun m hm => ⟨?_, rfl⟩⟩
  obtain ⟨rfl, _, _, cur, us, hg, _⟩ := h
  have e : m = g := Blk.one rfl hm
  subst e
  exact (Array.getElem?_eq_some_iff.1 hg).1
end

def exA (k : Nat) (v : Value) : AV → AV
  | .row j => if j = k then .d (.v v) else .row j
  | x => x
theorem Dens.take' {w : World} {I : Nat → Prop} : ∀ {cs : List D} {vs : List Value} (_ : Dens w I cs vs) (n : Nat), Dens w I (cs.take n) (vs.take n) := fun h n => by
  have := (DenAs.of_dens (β := fun _ => undef) h).take n
  rw [← List.map_take] at this
  exact this.to_dens
theorem Dens.drop' {w : World} {I : Nat → Prop} : ∀ {cs : List D} {vs : List Value} (_ : Dens w I cs vs) (n : Nat), Dens w I (cs.drop n) (vs.drop n) := fun h n => by
  have := (DenAs.of_dens (β := fun _ => undef) h).drop n
  rw [← List.map_drop] at this
  exact this.to_dens
theorem exA_den {w : World} {I : Nat → Prop} {β : Nat → Value} {k : Nat} {v : Value} (hk : β k = v) : ∀ {l : List AV} {vs : List Value}, DenAs w I β l vs → DenAs w I β (l.map (exA k v)) vs
  | [], _, h => h
  | x :: l, vs, h => by
    obtain ⟨y, ys, rfl, h1, h2⟩ := h
    refine ⟨y, ys, rfl, ?_, exA_den hk h2⟩
    cases x with
    | row j =>
      show DenA w I β (if j = k then .d (.v v) else .row j) y
      split
      · rename_i e
        subst e
        rw [DenA] at h1
        rw [DenA_v, h1.1, hk]
      · exact h1
    | d _ => exact h1
    | ptr _ _ => exact h1
    | agg _ => exact h1
    | tup _ => exact h1
    | fn _ _ _ => exact h1
    | rptr _ _ => exact h1
    | psl _ _ _ _ => exact h1
    | rsl _ _ _ => exact h1
    | iface _ _ => exact h1
    | _          => exact h1
theorem Opn.ex {S : St} {k : Nat} {T : TypeId} {sz n : Nat} {xs : List D} (hb : getB S.bx k = some (.row T sz n (xs.map .d))) (hn : 0 < n) :
    Opn (α := {p : Nat × Nat // n ≤ p.2 ∧ p.2 ≤ maxLen}) S fun p => ⟨S.sl.map (exA k (.slice (some ⟨p.1.1, 0, none⟩) n p.1.2)), setB S.bx k (Ex T sz p.1.1 n p.1.2 xs), S.df⟩ := fun ds w0 I0 F I β a w hr => by
  obtain ⟨vs, ⟨hl, how⟩, hd, ho⟩ := hr.mem.bxs k _ hb
  rcases how with ⟨_, h0⟩ | ⟨g, cap, cur, hyv, hz0, hg, hnc, hcm, hcs, htk⟩
  · omega
  refine ⟨⟨(g, cap), hnc, hcm⟩, I, β, ?_⟩
  have h1 := hr.say hb (b' := Ex T sz g n cap xs) (Ex.in ⟨hyv, hnc, hcm, cur, vs, hg, by simpa using hcs, by rw [hl]; exact htk, hd.to_dens, ho⟩)
  exact ⟨h1.mem, exA_den hyv hr.sl, hr.dn, hr.fx⟩
theorem Wk.ofEx {S : St} (t k j m : Nat) {T : TypeId} {sz g n c : Nat} {xs : List D} (hb : getB S.bx k = some (Ex T sz g n c xs)) (hm : m ≤ c) (hx : xs.length = m * sz)
    (ht : S.sl[t]? = some (.d (.v (.slice (some ⟨g, 0, none⟩) m c)))) (hj : S.has j = false) : Wk S ⟨S.sl.set t (.row j), setB (delB S.bx k) j (.row T sz m (xs.map .d)), S.df⟩ := fun ds w0 I0 F I β a w hr => by
  obtain ⟨hs, hb2⟩ := St.has_sl' hj
  have hlt := St.has_lt hj
  obtain ⟨e, hnc, hcm, cur, us, hg, hcs, htk, hd, ho⟩ := Ex.out (hr.mem.bxs k _ hb)
  have hbk : ∀ q, Blk (.slice (some ⟨g, 0, none⟩) m c) q → q = g := fun q hq => Blk.one rfl hq
  have hkg : Blk (β k) g := by rw [e]; exact .inl rfl
  have hul : us.length = m * sz := by rw [← hd.length]; exact hx
  have hm2 : Mem w0 I0 F (setB (delB S.bx k) j (.row T sz m (xs.map .d))) I (upd β j (.slice (some ⟨g, 0, none⟩) m c)) w := by
    refine (hr.mem.del k).add (hasB_del hb2) ⟨us, ⟨hul, .inr ⟨g, c, cur, rfl, Nat.zero_le _, hg, hm, hcm, by simpa using hcs, by rw [← hul]; exact htk⟩⟩, DenAs.of_dens hd, ho⟩ fun q hq => ?_
    have hq := hbk q hq
    subst hq
    obtain ⟨h1, h2⟩ := hr.mem.sep k _ q hb hkg
    refine ⟨h1, h2, fun i b hi hiq => ?_⟩
    rw [getB_del] at hi
    split at hi
    · cases hi
    · rename_i hne
      exact hne (hr.mem.inj k i _ b q hb hi hkg hiq)
  refine ⟨I, upd β j (.slice (some ⟨g, 0, none⟩) m c), hm2, ?_, hr.dn, fun i hi => by rw [upd_other _ _ (by omega)]; exact hr.fx i hi⟩
  have h1 : DenAs w I (upd β j (.slice (some ⟨g, 0, none⟩) m c)) S.sl a.tmps.toList := DenAs.mono (Kept.refl w I) _ _ (fun i hi => upd_other _ _ fun e => by subst e; rw [hs] at hi; cases hi) hr.sl
  obtain ⟨y, hy, hd⟩ := hr.sl.get ht
  rw [DenA_v] at hd
  subst hd
  have h2 := DenAs.set (x := .row j) (y := .slice (some ⟨g, 0, none⟩) m c) (w := w) (I := I) (β := upd β j (.slice (some ⟨g, 0, none⟩) m c)) (by rw [DenA, upd_same]; exact ⟨rfl, .inl ⟨_, _, _, rfl⟩⟩) h1 t
  rwa [show a.tmps.toList.set t (.slice (some ⟨g, 0, none⟩) m c) = a.tmps.toList from by rw [set_self hy]] at h2

/-! ### its room, its parts -/
theorem LCore.capEx {P : Program} {τ : Tab} (hτ : TabOk P τ) {ds : Dn} {pn : Pn} {o : Oper} {S : St} {T E : TypeId} {x : Operand} {sz1 b1 : Nat} {z1 : List Value} (ho : o.op = .call ⟨.builtin .cap, #[x], #[T]⟩) (ht : τ T = some ⟨.slice E, sz1, b1, z1⟩)
    {q : Option Addr} {n c : Nat} (hx : S.ev x = .d (.v (.slice q n c))) : LCore P ds pn o S ⟨.d (.v (.int .i64 c)), [], [], []⟩ [] := by
  intro S1 hs hf
  have ex := hs.1 x (by simp [ho, Op.operands, Call.operands])
  rw [← ex] at hx
  obtain ⟨d, hu, hk⟩ := (hτ T _ ht).und
  simp only [TK.ok] at hk
  subst hk
  refine Core.value fun w0 I0 F I β a w hr => ⟨_, ?_, DenA_v.2 rfl⟩
  have hv := hr.ev x
  rw [hx, DenA_v] at hv
  obtain ⟨C, hC⟩ := run_builtin (P := P) ho
  rw [hC]
  simp [builtin, Builtin.cap_, run_underlying hu, hv, goInt]
theorem vcStop.capEx {P : Program} {τ : Tab} (hτ : TabOk P τ) {ds : Dn} {pn : Pn} {o : Oper} {S : St} {acc : List TI} {rest : St → List TI → Prop} {T E : TypeId} {x : Operand} {sz1 b1 : Nat} {z1 : List Value} (ho : o.op = .call ⟨.builtin .cap, #[x], #[T]⟩) (ht : τ T = some ⟨.slice E, sz1, b1, z1⟩)
    {q : Option Addr} {n c : Nat} (hx : S.ev x = .d (.v (.slice q n c))) (h : rest (S.app o.dst ⟨.d (.v (.int .i64 c)), [], [], []⟩) (⟨⟨.d (.v (.int .i64 c)), [], [], []⟩, []⟩ :: acc)) : vcStop P ds pn o rest S acc :=
  ⟨_, _, LCore.capEx hτ ho ht hx, trivial, h⟩
theorem LCore.sliceEx {P : Program} {τ : Tab} (hτ : TabOk P τ) {ds : Dn} {pn : Pn} {o : Oper} {S : St} {T E : TypeId} {x : Operand} {lo hi : Option Operand} {sz1 b1 : Nat} {z1 : List Value} {te : TE} (ho : o.op = .slice T x lo hi none) (ht : τ T = some ⟨.slice E, sz1, b1, z1⟩) (hte : τ E = some te)
    {g off n c l h : Nat} (hx : S.ev x = .d (.v (.slice (some ⟨g, off, none⟩) n c))) (hl : bndA S lo 0 = some (l : Int)) (hh : bndA S hi n = some (h : Int)) (h1 : l ≤ h) (h2 : h ≤ c) (h3 : l < c) :
    LCore P ds pn o S ⟨.d (.v (.slice (some ⟨g, off + l * te.size, none⟩) (h - l) (c - l))), [], [], []⟩ [] := by
  intro S1 hs hf
  have ex := hs.1 x (by simp [ho, Op.operands])
  have eb : ∀ (y : Option Operand) d, (∀ z, y = some z → z ∈ o.op.operands) → bndA S1 y d = bndA S y d := fun y d hy => by
    unfold bndA; split
    · rfl
    · rename_i z; rw [hs.1 z (hy z rfl)]
  have el := eb lo 0 (fun z hz => by simp [ho, Op.operands, hz])
  have eh := eb hi n (fun z hz => by simp [ho, Op.operands, hz])
  rw [← ex] at hx
  rw [← el] at hl
  rw [← eh] at hh
  obtain ⟨d, hu, hk⟩ := (hτ T _ ht).und
  simp only [TK.ok] at hk
  subst hk
  refine Core.value fun w0 I0 F I β a w hr => ⟨_, ?_, DenA_v.2 rfl⟩
  have hv := hr.ev x
  rw [hx, DenA_v] at hv
  have hbd := run_bounds2 (P := P) (isS := true) (n := n) (cap := c) (lo := lo) (hi := hi) hr hl hh (by omega) (by omega) (by omega)
  simp [execOp, ho, Instr.sliceAt, Instr.slice, hv, run_underlying hu, hbd, (hτ E te hte).size]
  simp [Addr.add_lit]
  omega
theorem vcStop.sliceEx {P : Program} {τ : Tab} (hτ : TabOk P τ) {ds : Dn} {pn : Pn} {o : Oper} {S : St} {acc : List TI} {rest : St → List TI → Prop} {T E : TypeId} {x : Operand} {lo hi : Option Operand} {sz1 b1 : Nat} {z1 : List Value} {te : TE} (ho : o.op = .slice T x lo hi none) (ht : τ T = some ⟨.slice E, sz1, b1, z1⟩) (hte : τ E = some te)
    {g off n c l h : Nat} (hx : S.ev x = .d (.v (.slice (some ⟨g, off, none⟩) n c))) (hl : bndA S lo 0 = some (l : Int)) (hh : bndA S hi n = some (h : Int)) (h1 : l ≤ h) (h2 : h ≤ c) (h3 : l < c)
    (hr : rest (S.app o.dst ⟨.d (.v (.slice (some ⟨g, off + l * te.size, none⟩) (h - l) (c - l))), [], [], []⟩) (⟨⟨.d (.v (.slice (some ⟨g, off + l * te.size, none⟩) (h - l) (c - l))), [], [], []⟩, []⟩ :: acc)) : vcStop P ds pn o rest S acc :=
  ⟨_, _, LCore.sliceEx hτ ho ht hte hx hl hh h1 h2 h3, trivial, hr⟩

theorem cell_of_cells {w : World} {g : Nat} {cur : Array Value} {T : TypeId} (hg : w.heap[g]? = some (.cells cur T (0, 0))) (j : Nat) : w.cell? ⟨g, j, none⟩ = cur[j]? := by simp [World.cell?, hg]
theorem LCore.sliceAny {P : Program} {τ : Tab} (hτ : TabOk P τ) {ds : Dn} {pn : Pn} {o : Oper} {S : St} {T E : TypeId} {x y : Operand} {sz1 b1 : Nat} {z1 : List Value} {te : TE} {kx : IntKind} (ho : o.op = .slice T x (some y) none none) (ht : τ T = some ⟨.slice E, sz1, b1, z1⟩) (hte : τ E = some te)
    {k : Nat} (hx : S.ev x = .row k) {n : Nat} {cs : List AV} (hb : getB S.bx k = some (.row E te.size n cs)) {m : Nat} (hm : m ≤ n) (hy : S.ev y = .d (.v (.int kx m))) :
    LCore P ds pn o S ⟨.d .any, [], [], []⟩ [k] := by
  intro S1 hs hf
  have ex := hs.1 x (by simp [ho, Op.operands])
  have ey := hs.1 y (by simp [ho, Op.operands])
  rw [← ex] at hx
  rw [← ey] at hy
  obtain ⟨d, hu, hk⟩ := (hτ T _ ht).und
  simp only [TK.ok] at hk
  subst hk
  have hb1 := (hs.2.2 k (by simp)).trans hb
  refine Core.value fun w0 I0 F I β a w hr => ?_
  obtain ⟨xs, how, hdx, hox⟩ := hr.mem.bxs k _ hb1
  have hv := hr.ev x
  rw [hx, DenA] at hv
  obtain ⟨q, cap, hxe, hnc⟩ : ∃ q cap, a.eval x = .slice q n cap ∧ n ≤ cap := by
    rcases how.2 with ⟨hyv, h0⟩ | ⟨g, cap, cur, hyv, hz0, hg, hnc, hcm, hcs, htk⟩
    · exact ⟨none, 0, by rw [hv.1, hyv, h0], by omega⟩
    · exact ⟨some ⟨g, 0, none⟩, cap, by rw [hv.1]; exact hyv, hnc⟩
  have hbd := run_bounds2 (P := P) (isS := true) (n := n) (cap := cap) (lo := some y) (hi := none) hr (l := m) (by show intA (S1.ev y) = _; rw [hy]; rfl) rfl (by omega) (by omega) (by omega)
  simp only [Option.map_none, Option.map_some] at hbd
  refine ⟨.slice (if cap = m then q else q.map (·.add (m * te.size))) (n - m) (cap - m), ?_, DenA_any _ _ _ _⟩
  simp [execOp, ho, Instr.sliceAt, Instr.slice, hxe, run_underlying hu, hbd, (hτ E te hte).size]
theorem vcStop.sliceAny {P : Program} {τ : Tab} (hτ : TabOk P τ) {ds : Dn} {pn : Pn} {o : Oper} {S : St} {acc : List TI} {rest : St → List TI → Prop} {T E : TypeId} {x y : Operand} {sz1 b1 : Nat} {z1 : List Value} {te : TE} {kx : IntKind} (ho : o.op = .slice T x (some y) none none) (ht : τ T = some ⟨.slice E, sz1, b1, z1⟩) (hte : τ E = some te)
    {k : Nat} (hx : S.ev x = .row k) {n : Nat} {cs : List AV} (hb : getB S.bx k = some (.row E te.size n cs)) {m : Nat} (hm : m ≤ n) (hy : S.ev y = .d (.v (.int kx m)))
    (h : rest (S.app o.dst ⟨.d .any, [], [], []⟩) (⟨⟨.d .any, [], [], []⟩, [k]⟩ :: acc)) : vcStop P ds pn o rest S acc :=
  ⟨_, _, LCore.sliceAny hτ ho ht hte hx hb hm hy, trivial, h⟩

/-! ### zeros appended to a part of it, where there is no room -/
theorem LCore.appendZEx {P : Program} {τ : Tab} (hτ : TabOk P τ) {ds : Dn} {pn : Pn} {o : Oper} {S : St} {T T' E : TypeId} {x y : Operand} (ho : o.op = .call ⟨.builtin .append, #[x, y], #[T, T']⟩) {j k : Nat}
    {te : TE} {kn kx : IntKind} {sz1 b1 sz2 b2 : Nat} {z1 z2 : List Value} (ht : τ T = some ⟨.slice E, sz1, b1, z1⟩) (ht' : τ T' = some ⟨.int kn, sz2, b2, z2⟩) (hte : τ E = some te) (hts : 0 < te.size)
    {g n c i m : Nat} {xs : List D} (hx : S.ev x = .d (.v (.slice (some ⟨g, 0, none⟩) i c))) (hb : getB S.bx k = some (Ex E te.size g n c xs)) (hi : i * te.size ≤ xs.length) (hm : 0 < m) (hy : S.ev y = .d (.v (.int kx m))) (hroom : c < i + m)
    (hbnd : (i + m) * (te.bytes + 1) ≤ 140737488355328) (hj : S.has j = false) :
    LCore P ds pn o S ⟨.row j, [], [], [(j, .row E te.size (i + m) ((xs.take (i * te.size) ++ List.replicate (m * te.size) D.any).map .d))]⟩ [k] := by
  intro S1 hs hf
  have ex := hs.1 x (by simp [ho, Op.operands, Call.operands])
  have ey := hs.1 y (by simp [ho, Op.operands, Call.operands])
  rw [← ex] at hx
  rw [← ey] at hy
  obtain ⟨d, hu, hk⟩ := (hτ T _ ht).und
  obtain ⟨d', hu', hk'⟩ := (hτ T' _ ht').und
  simp only [TK.ok] at hk hk'
  subst hk; subst hk'
  obtain ⟨inf, z, hinf, his, hib, hiz, hzc, hzl', hz1⟩ := (hτ E te hte).info
  have hzs : z.cells.size = te.size := by rw [← Array.length_toList, hzc]; exact hzl'
  have hk0 : S1.has j = false := hf _ (List.mem_singleton.2 rfl)
  have hb1 := (hs.2.2 k (by simp)).trans hb
  have hmax : i + m ≤ maxLen := by
    simp only [maxLen]
    have : i + m ≤ (i + m) * (te.bytes + 1) := Nat.le_mul_of_pos_right _ (by omega)
    omega
  have hbyt : (i + m) * inf.bytes ≤ 140737488355328 := by rw [hib]; exact Nat.le_trans (Nat.mul_le_mul_left _ (by omega)) hbnd
  have hmb : m * inf.bytes ≤ 281474976710656 := Nat.le_trans (Nat.mul_le_mul_right _ (by omega : m ≤ i + m)) (by omega)
  refine Core.world fun w0 I0 F I β a w hr => ?_
  obtain ⟨e, hnc, hcm, cur, us, hg, hcs, htk, hd, ho1⟩ := Ex.out (hr.mem.bxs k _ hb1)
  have hv := hr.ev x
  have hvy := hr.ev y
  rw [hx, DenA_v] at hv
  rw [hy, DenA_v] at hvy
  have hiu : i * te.size ≤ us.length := by rw [← hd.length]; exact hi
  have hold := run_firstCells_some (P := P) w.drew te.size i ⟨g, 0, none⟩ i c (us.take (i * te.size)) (by simp; omega) (fun q v hj => by
    rw [Addr.add_lit, Nat.zero_add]
    show w.cell? ⟨g, q, none⟩ = some v
    rw [cell_of_cells hg, ← Array.getElem?_toList]
    rw [List.getElem?_take] at hj
    split at hj
    · rw [← htk, List.getElem?_take] at hj
      split at hj
      · exact hj
      · cases hj
    · cases hj)
  rw [show te.size = inf.size from his.symm] at hold hiu
  have e0 : us.take (i * inf.size) = us.take (i * te.size) := by rw [his]
  rw [e0] at hold
  rw [his] at hiu
  have hrun := Lib.run_append_grow_zeros (P := P) w T T' o.type E inf z kx kn hu hu' hinf hiz (some ⟨g, 0, none⟩) i c (us.take (i * te.size)) hold m hm (by omega) hroom (by simp only [maxLen] at hmax; omega) hmb (growslice_fits hroom hbyt)
  let us2 := us.take (i * te.size) ++ (Builtin.zeroCells z.cells m).toList
  have hzl : (Builtin.zeroCells z.cells m).toList.length = m * te.size := by simp [size_zeroCells, hzs]
  have hul2 : us2.length = (i + m) * te.size := by simp only [us2, List.length_append, List.length_take, hzl]; rw [Nat.add_mul]; omega
  have hge := grownCap_ge w (i + m) c E
  have how : (w.drew.alloc (.cells ((us.take (i * te.size)).toArray ++ Builtin.zeroCells z.cells m ++ Builtin.zeroCells z.cells (grownCap w (i + m) c E - (i + m))) E)).ownsRow 0 E te.size
        (.slice (some ⟨w.heap.size, 0, none⟩) (i + m) (grownCap w (i + m) c E)) (i + m) us2 := by
    refine ⟨hul2, .inr ⟨w.heap.size, _, _, rfl, Nat.zero_le _, heap_alloc_new w.drew _, hge, grownCap_le_maxLen w (i + m) c E hmax, ?_, ?_⟩⟩
    · simp only [Array.size_append, List.size_toArray, size_zeroCells, hzs, List.length_take]
      have e1 : min (i * te.size) us.length = i * te.size := by omega
      rw [e1, ← Nat.add_mul, ← Nat.add_mul]
      congr 1
      omega
    · simp only [Array.toList_append]
      rw [← hul2]
      exact List.take_left
  have hany : ∀ (q : Nat) (l : List Value), l.length = q → Dens w I (List.replicate q D.any) l := fun q => by
    induction q with
    | zero => intro l h; cases l with
      | nil => rfl
      | cons _ _ => cases h
    | succ q ih => intro l h; cases l with
      | nil => cases h
      | cons u l => exact ⟨u, l, rfl, Den_any _ _ _, ih l (by simpa using h)⟩
  refine ⟨_, _, I, upd β j _, ?_, hr.appended (v := .slice none 0 0) (l := []) hk0 (grownBy_drew w (Gb.alloc w.drew _ _)) (.inr fun q hq => ?_) ⟨_, _, _, rfl⟩ (.inl rfl) how (DenAs.of_dens ((hd.take' (i * te.size)).app (hany _ _ hzl))) (fun u hu => ?_) (hasL_d _) o.dst⟩
  · obtain ⟨C, hC⟩ := run_builtin (P := P) ho
    rw [hC]
    simp [builtin, hv, hvy, hrun]
  · simp [Value.ownBlock] at hq
    omega
  · rcases List.mem_append.1 hu with hu | hu
    · exact ho1 u (List.mem_of_mem_take hu)
    · have := mem_zeroCells (by rw [hzs]; omega) hu
      rw [hzc] at this
      exact List.all_eq_true.1 hz1 u this
theorem vcStop.appendZEx {P : Program} {τ : Tab} (hτ : TabOk P τ) {ds : Dn} {pn : Pn} {o : Oper} {S : St} {acc : List TI} {rest : St → List TI → Prop} {T T' E : TypeId} {x y : Operand} (ho : o.op = .call ⟨.builtin .append, #[x, y], #[T, T']⟩) (j : Nat) {k : Nat}
    {te : TE} {kn kx : IntKind} {sz1 b1 sz2 b2 : Nat} {z1 z2 : List Value} (ht : τ T = some ⟨.slice E, sz1, b1, z1⟩) (ht' : τ T' = some ⟨.int kn, sz2, b2, z2⟩) (hte : τ E = some te) (hts : 0 < te.size)
    {g n c i m : Nat} {xs : List D} (hx : S.ev x = .d (.v (.slice (some ⟨g, 0, none⟩) i c))) (hb : getB S.bx k = some (Ex E te.size g n c xs)) (hi : i * te.size ≤ xs.length) (hm : 0 < m) (hy : S.ev y = .d (.v (.int kx m))) (hroom : c < i + m)
    (hbnd : (i + m) * (te.bytes + 1) ≤ 140737488355328) (hj : S.has j = false)
    (h : rest (S.app o.dst ⟨.row j, [], [], [(j, .row E te.size (i + m) ((xs.take (i * te.size) ++ List.replicate (m * te.size) D.any).map .d))]⟩) (⟨⟨.row j, [], [], [(j, .row E te.size (i + m) ((xs.take (i * te.size) ++ List.replicate (m * te.size) D.any).map .d))]⟩, [k]⟩ :: acc)) : vcStop P ds pn o rest S acc :=
  ⟨_, _, LCore.appendZEx hτ ho ht ht' hte hts hx hb hi hm hy hroom hbnd hj, ⟨hj, trivial⟩, h⟩

/-! ### copy -/
def CpSrc (S : St) (y : Operand) (fp : List Nat) (m : Nat) (ys : List D) : Prop := ∀ S1, S1.ev y = S.ev y → (∀ k ∈ fp, getB S1.bx k = getB S.bx k) → ∀ ds w0 I0 F I β a w, Rel ds w0 I0 F S1 I β a w →
  ∃ ad sc us, a.eval y = .slice (some ad) m sc ∧ Dens w I ys us ∧ (∀ j v, us[j]? = some v → w.cell? (ad.add j) = some v) ∧ ∀ u ∈ us, u.oneCell' = true
theorem CpSrc.ex {S : St} {y : Operand} {k : Nat} {T : TypeId} {sz g off n c m c' : Nat} {xs : List D} (hy : S.ev y = .d (.v (.slice (some ⟨g, off, none⟩) m c'))) (hb : getB S.bx k = some (Ex T sz g n c xs)) : CpSrc S y [k] m (xs.drop off) := fun S1 ey eb ds w0 I0 F I β a w hr => by
  obtain ⟨e, hnc, hcm, cur, us, hg, hcs, htk, hd, ho⟩ := Ex.out (hr.mem.bxs k _ ((eb k (by simp)).trans hb))
  have hv := hr.ev y
  rw [ey, hy, DenA_v] at hv
  refine ⟨_, _, us.drop off, hv, hd.drop' off, fun j v hj => ?_, fun u hu => ho u (List.mem_of_mem_drop hu)⟩
  rw [Addr.add_lit, cell_of_cells hg, ← Array.getElem?_toList]
  rw [List.getElem?_drop] at hj
  rw [← htk, List.getElem?_take] at hj
  split at hj
  · exact hj
  · cases hj
theorem CpSrc.row {S : St} {y : Operand} {k : Nat} {T : TypeId} {sz m : Nat} {ys : List D} (hy : S.ev y = .row k) (hb : getB S.bx k = some (.row T sz m (ys.map .d))) (hm : 0 < m) : CpSrc S y [k] m ys := fun S1 ey eb ds w0 I0 F I β a w hr => by
  obtain ⟨vs, how, hd, ho⟩ := hr.mem.bxs k _ ((eb k (by simp)).trans hb)
  have hv := hr.ev y
  rw [ey, hy, DenA] at hv
  rcases how.2 with ⟨_, h0⟩ | ⟨g, cap, cur, hyv, _⟩
  · omega
  · exact ⟨_, cap, vs, by rw [hv.1]; exact hyv, hd.to_dens, how.cells (g := g) (by rw [hyv]; rfl), ho⟩
theorem LCore.copyEx {P : Program} {τ : Tab} (hτ : TabOk P τ) {ds : Dn} {pn : Pn} {o : Oper} {S : St} {T T' E T0 : TypeId} {x y : Operand} {sz1 b1 : Nat} {z1 : List Value} {te : TE} (ho : o.op = .call ⟨.builtin .copy, #[x, y], #[T, T']⟩) (ht : τ T = some ⟨.slice E, sz1, b1, z1⟩) (hte : τ E = some te)
    {k g off dl dc n c : Nat} {xs ys : List D} {fp : List Nat} {m : Nat} (hx : S.ev x = .d (.v (.slice (some ⟨g, off, none⟩) dl dc))) (hb : getB S.bx k = some (Ex T0 te.size g n c xs)) (hsrc : CpSrc S y fp m ys) (r : Nat) (hr : Nat.min m dl = r)
    (hys : r * te.size ≤ ys.length) (hof : off ≤ xs.length) (hfit : off + r * te.size ≤ c * te.size) :
    LCore P ds pn o S ⟨.d (.v (.int .i64 r)), [], [(k, Ex T0 te.size g n c (xs.take off ++ ys.take (r * te.size) ++ xs.drop (off + r * te.size)))], []⟩ (k :: fp) := by
  intro S1 hs hf
  have ex := hs.1 x (by simp [ho, Op.operands, Call.operands])
  have ey := hs.1 y (by simp [ho, Op.operands, Call.operands])
  rw [← ex] at hx
  obtain ⟨d, hu, hk⟩ := (hτ T _ ht).und
  simp only [TK.ok] at hk
  subst hk
  have hb1 := (hs.2.2 k (by simp)).trans hb
  refine Core.world fun w0 I0 F I β a w hrel => ?_
  obtain ⟨e, hnc, hcm, cur, us, hg, hcs, htk, hd, ho1⟩ := Ex.out (hrel.mem.bxs k _ hb1)
  obtain ⟨ad, sc, vs, hyv, hdy, hcy, hoy⟩ := hsrc S1 ey (fun i hi => hs.2.2 i (by simp [hi])) _ _ _ _ _ _ _ _ hrel
  have hv := hrel.ev x
  rw [hx, DenA_v] at hv
  have hvl : r * te.size ≤ vs.length := by rw [← hdy.length]; exact hys
  have hul : (vs.take (r * te.size)).length = r * te.size := by simp; omega
  have hfc := run_firstCells_some (P := P) w te.size r ad m sc (vs.take (r * te.size)) hul (fun j v hj => hcy j v (by
    rw [List.getElem?_take] at hj
    split at hj
    · exact hj
    · cases hj))
  have hone : ∀ u ∈ vs.take (r * te.size), u.oneCell' = true := fun u hu => hoy u (List.mem_of_mem_take hu)
  have hst := run_storeCells_at P g off T0 (vs.take (r * te.size)) 0 cur w hg (by rw [hul]; simp only [Nat.add_zero]; omega) hone
  simp only [Nat.add_zero] at hst
  generalize hA : vs.take (r * te.size) = A at hst hul hfc hone
  have hkp : ∀ q, Kept w I (w.setRow g q) I := fun q =>
    ⟨fun _ h => h, fun i hi => setRow_other w g i _ (fun e' => (hrel.mem.sep k _ g hb1 (by rw [e]; exact .inl rfl)).1 (e' ▸ hi))⟩
  refine ⟨.int .i64 r, w.setRow g (cur.toList.take off ++ A ++ cur.toList.drop (off + A.length)).toArray, I, β, ?_, ?_⟩
  · obtain ⟨C, hC⟩ := run_builtin (P := P) ho
    rw [hC]
    simp [builtin, Builtin.copy_, run_underlying hu, hv, hyv, Builtin.lenOf, (hτ E te hte).size, hr, hfc, hst, goInt]
  · rw [St.app_upd]
    have hxl := hd.length
    have hcl : us.length ≤ cur.toList.length := by rw [← htk]; simp [List.length_take]; omega
    refine Rel.put (S := ⟨S1.sl, setB S1.bx k _, S1.df⟩) ⟨hrel.mem.turn (b' := Ex T0 te.size g n c _) hb1 (by rw [e]; exact grownBy_setRow w g _) (Ex.in ⟨e, hnc, hcm, _, us.take off ++ A ++ us.drop (off + A.length), setRow_heap w g cur _ _ _ hg, ?_, ?_, ?_, ?_⟩), DenAs.mono (hkp _) _ _ (fun _ _ => rfl) hrel.sl, hrel.dn, hrel.fx⟩ o.dst (DenA_v.2 rfl)
    · simp
      omega
    · have h1 : us.take off = cur.toList.take off := by
        rw [← htk, List.take_take, Nat.min_eq_left (by omega)]
      have h2 : us.drop (off + A.length) = (cur.toList.drop (off + A.length)).take (us.length - (off + A.length)) := by
        conv => lhs; rw [← htk]
        rw [List.drop_take]
      have hl1 : (us.take off).length = off := by simp; omega
      generalize cur.toList.drop (off + A.length) = R at h2 ⊢
      rw [← h1]
      simp only [List.length_append, hl1]
      rw [List.take_append]
      simp only [List.length_append, hl1]
      rw [List.take_of_length_le (by simp only [List.length_append, hl1]; omega)]
      congr 1
      rw [h2, List.length_take, Nat.add_sub_cancel_left, List.take_eq_take_iff, Nat.min_assoc, Nat.min_self]
    · rw [hul]
      refine Dens.mono (hkp _) _ _ ?_
      exact ((hd.take' off).app (hA ▸ hdy.take' _)).app (hd.drop' _)
    · intro u hu
      rcases List.mem_append.1 hu with hu | hu
      · rcases List.mem_append.1 hu with hu | hu
        · exact ho1 u (List.mem_of_mem_take hu)
        · exact hone u hu
      · exact ho1 u (List.mem_of_mem_drop hu)
theorem vcStop.copyEx {P : Program} {τ : Tab} (hτ : TabOk P τ) {ds : Dn} {pn : Pn} {o : Oper} {S : St} {acc : List TI} {rest : St → List TI → Prop} {T T' E T0 : TypeId} {x y : Operand} {sz1 b1 : Nat} {z1 : List Value} {te : TE} (ho : o.op = .call ⟨.builtin .copy, #[x, y], #[T, T']⟩) (ht : τ T = some ⟨.slice E, sz1, b1, z1⟩) (hte : τ E = some te)
    {k g off dl dc n c : Nat} {xs ys : List D} {fp : List Nat} {m : Nat} (hx : S.ev x = .d (.v (.slice (some ⟨g, off, none⟩) dl dc))) (hb : getB S.bx k = some (Ex T0 te.size g n c xs)) (hsrc : CpSrc S y fp m ys) (r : Nat) (hr : Nat.min m dl = r)
    (hys : r * te.size ≤ ys.length) (hof : off ≤ xs.length) (hfit : off + r * te.size ≤ c * te.size)
    (h : rest (S.app o.dst ⟨.d (.v (.int .i64 r)), [], [(k, Ex T0 te.size g n c (xs.take off ++ ys.take (r * te.size) ++ xs.drop (off + r * te.size)))], []⟩) (⟨⟨.d (.v (.int .i64 r)), [], [(k, Ex T0 te.size g n c (xs.take off ++ ys.take (r * te.size) ++ xs.drop (off + r * te.size)))], []⟩, k :: fp⟩ :: acc)) : vcStop P ds pn o rest S acc :=
  ⟨_, _, LCore.copyEx hτ ho ht hte hx hb hsrc r hr hys hof hfit, trivial, h⟩

/-! ### do two slices overlap? (the model answers itself) -/
theorem LCore.overlapsEx {P : Program} {τ : Tab} (hτ : TabOk P τ) {ds : Dn} {pn : Pn} {o : Oper} {S : St} {x y : Operand} {ts : Array TypeId} {f : FuncId} {fn : Func} {T R E : TypeId} {sz1 b1 : Nat} {z1 : List Value} {te : TE} (hfn : P.funcs[f]? = some fn) (hname : (fn.name == "runtime.NumGoroutine") = false)
    (hb : fn.body.isNone = true) (hn : Extern.findNext fn = none) (he : Extern.find fn = some (Extern.SlicesOverlaps.overlaps #[T, T] #[R])) (ho : o.op = .call ⟨.value (.func f), #[x, y], ts⟩) (ht : τ T = some ⟨.slice E, sz1, b1, z1⟩) (hte : τ E = some te) (hts : 0 < te.size)
    {j k : Nat} (hjk : j ≠ k) {T1 T2 : TypeId} {sz m : Nat} {cs : List AV} {g off lb cb n c : Nat} {xs : List D} (hx : S.ev x = .row j) (hbj : getB S.bx j = some (.row T1 sz m cs)) (hm : 0 < m) (hy : S.ev y = .d (.v (.slice (some ⟨g, off, none⟩) lb cb))) (hbk : getB S.bx k = some (Ex T2 te.size g n c xs)) (hc : 0 < c) :
    LCore P ds pn o S ⟨.d (.v (.bool false)), [], [], []⟩ [j, k] := by
  intro S1 hs _
  have ex := hs.1 x (by simp [ho, Op.operands, Call.operands])
  have ey := hs.1 y (by simp [ho, Op.operands, Call.operands])
  rw [← ex] at hx
  rw [← ey] at hy
  obtain ⟨d, hu, hk⟩ := (hτ T _ ht).und
  simp only [TK.ok] at hk
  subst hk
  refine Core.value fun w0 I0 F I β A w hr => ⟨_, ?_, DenA_v.2 rfl⟩
  have hbj1 := (hs.2.2 j (by simp)).trans hbj
  have hbk1 := (hs.2.2 k (by simp)).trans hbk
  obtain ⟨e, hnc, hcm, cur, us, hg, hcs, htk, hd, ho1⟩ := Ex.out (hr.mem.bxs k _ hbk1)
  obtain ⟨vs, how, hdj, hoj⟩ := hr.mem.bxs j _ hbj1
  have h1 := hr.ev x
  have h2 := hr.ev y
  rw [hx, DenA] at h1
  rw [hy, DenA_v] at h2
  rcases how.2 with ⟨_, h0⟩ | ⟨g', cap, cur', hyv, _, hg', hnc', hcm', hcs', htk'⟩
  · omega
  have hne : g' ≠ g := fun e' => hjk (hr.mem.inj j k _ _ g hbj1 hbk1 (by rw [hyv, e']; exact .inl rfl) (by rw [e]; exact .inl rfl))
  have hc0 : cur.size ≠ 0 := by
    rw [hcs]
    have := Nat.mul_le_mul hc hts
    omega
  have key := Lib.run_overlaps_apart (P := P) w T R E hu te.size (fun w => (hτ E te hte).size w) ⟨g', 0, none⟩ ⟨g, off, none⟩ m cap lb cb hne T1 T2 cur'.size cur.size (by simp [World.shape?, hg']) (by simp [World.shape?, hg]) hc0 (by simp [World.frozen?, hg']) (by simp [World.frozen?, hg'])
  rw [run_callX ho rfl, run_callFunc_extern hfn hname hb hn he]
  have e2 : (#[x, y].map A.eval) = #[A.eval x, A.eval y] := by simp
  rw [e2, h1.1, hyv, h2, key]
  rfl
theorem vcStop.overlapsEx {P : Program} {τ : Tab} (hτ : TabOk P τ) {ds : Dn} {pn : Pn} {o : Oper} {S : St} {acc : List TI} {rest : St → List TI → Prop} {x y : Operand} {ts : Array TypeId} {f : FuncId} {fn : Func} {T R E : TypeId} {sz1 b1 : Nat} {z1 : List Value} {te : TE} (hfn : P.funcs[f]? = some fn) (hname : (fn.name == "runtime.NumGoroutine") = false)
    (hb : fn.body.isNone = true) (hn : Extern.findNext fn = none) (he : Extern.find fn = some (Extern.SlicesOverlaps.overlaps #[T, T] #[R])) (ho : o.op = .call ⟨.value (.func f), #[x, y], ts⟩) (ht : τ T = some ⟨.slice E, sz1, b1, z1⟩) (hte : τ E = some te) (hts : 0 < te.size)
    {j k : Nat} (hjk : j ≠ k) {T1 T2 : TypeId} {sz m : Nat} {cs : List AV} {g off lb cb n c : Nat} {xs : List D} (hx : S.ev x = .row j) (hbj : getB S.bx j = some (.row T1 sz m cs)) (hm : 0 < m) (hy : S.ev y = .d (.v (.slice (some ⟨g, off, none⟩) lb cb))) (hbk : getB S.bx k = some (Ex T2 te.size g n c xs)) (hc : 0 < c)
    (h : rest (S.put o.dst (.d (.v (.bool false)))) (⟨⟨.d (.v (.bool false)), [], [], []⟩, [j, k]⟩ :: acc)) : vcStop P ds pn o rest S acc :=
  ⟨_, _, LCore.overlapsEx hτ hfn hname hb hn he ho ht hte hts hjk hx hbj hm hy hbk hc, trivial, h⟩
end Go.Xe

/-
  The engine: a row of the call's own put into a map, as data from then on; data against nil.
-/
set_option linter.unusedVariables false
set_option linter.unusedSimpArgs false
set_option linter.unusedSectionVars false
namespace Go.Xe
open Go.RowKit
variable [Glob]

theorem Rel.freezeDrop {dn : Dn} {w0 : World} {I0 F : Nat → Prop} {S : St} {I : Nat → Prop} {β : Nat → Value} {a : Act} {w : World} (hr : Rel dn w0 I0 F S I β a w) {k : Nat} {T : TypeId} {sz n : Nat} {ds : List D} (hb : getB S.bx k = some (.row T sz n (ds.map .d))) :
    ∃ I', Rel dn w0 I0 F ⟨S.sl, delB S.bx k, S.df⟩ I' β a w ∧ Den w I' (.sl sz ds n false) (β k) := by
  obtain ⟨us, how, hd, ho⟩ := hr.mem.bxs k _ hb
  let I' : Nat → Prop := fun m => I m ∨ Blk (β k) m
  have hk : Kept w I w I' := ⟨fun _ h => .inl h, fun _ _ => rfl⟩
  have hget : ∀ j b, getB (delB S.bx k) j = some b → j ≠ k ∧ getB S.bx j = some b := fun j b h => by
    rw [getB_del] at h
    split at h
    · cases h
    · rename_i hne; exact ⟨fun e => hne e.symm, h⟩
  refine ⟨I', ⟨⟨fun j b h => ?_, fun j b m h hm => ?_, fun i j b c m h1 h2 hi hj => ?_, fun m hm => ?_, fun m hm => ?_, hr.mem.kept.trans hk, hr.mem.fr, hr.mem.sz, hr.mem.os, hr.mem.tape, hr.mem.out, hr.mem.dr, hr.mem.gl⟩, DenAs.mono hk _ _ (fun _ _ => rfl) hr.sl, hr.dn, hr.fx⟩, ?_⟩
  · exact (hr.mem.bxs j b (hget j b h).2).mono hk (fun _ _ => rfl) fun _ _ => rfl
  · obtain ⟨hne, hj⟩ := hget j b h
    refine ⟨?_, (hr.mem.sep j b m hj hm).2⟩
    rintro (hI | hkm)
    · exact (hr.mem.sep j b m hj hm).1 hI
    · exact hne (hr.mem.inj j k b _ m hj hb hm hkm)
  · exact hr.mem.inj i j b c m (hget i b h1).2 (hget j c h2).2 hi hj
  · rcases hm with hm | hm
    · exact hr.mem.im m hm
    · exact (hr.mem.bxs k _ hb).lt hm
  · rcases hm with hm | hm
    · exact hr.mem.inew m hm
    · exact .inr (hr.mem.sep k _ m hb hm).2
  · have hl : ds.length = n * sz := by have := hd.length; rw [List.length_map] at this; rw [this]; exact how.1
    rcases how.2 with ⟨hn, rfl⟩ | ⟨g, cap, cur, hy, _, _, hnc, hcm, _⟩
    · rw [hn, Den]; exact ⟨none, 0, rfl, Nat.le_refl _, Nat.zero_le _, by simp, hl, fun _ => ⟨rfl, rfl⟩, by simp⟩
    · have hc := how.cells (g := g) (by rw [hy]; rfl)
      have hat : DenAt w I' ds g 0 := by
        refine DenAt.of_dens (vs := us) (.inr (by rw [hy]; exact .inl rfl)) (Dens.mono hk _ _ hd.to_dens) ho fun j v hj => ?_
        have := hc j v hj
        rwa [Addr.add_lit] at this
      rw [hy, Den]
      refine ⟨some ⟨g, 0, none⟩, cap, rfl, hnc, hcm, by simp, hl, by simp, fun ad had => ?_⟩
      cases had
      exact ⟨fun _ => rfl, hat⟩
theorem mapPut_run {P : Program} {dn : Dn} {o : Oper} {S1 : St} {T : TypeId} {m x v : Operand} (ho : o.op = .mapUpdate T m x v) {K E : TypeId} (hu : P.underlying T = some (.map K E))
    (hK : Maps.Keyed P K) {j : Nat} (hm : S1.ev m = .row j) {kvs kvs' : List (Value × D)} (hb1 : getB S1.bx j = some (.mp kvs)) {key : Value} {d : D} {l : Lit} (hkey : keyOf P K key = some l) (hks : KeysOk P K kvs)
    (hput : PutOk kvs key d kvs') {w0 : World} {I0 F I : Nat → Prop} {β : Nat → Value} {a : Act} {w : World} (hr : Rel dn w0 I0 F S1 I β a w) (hxe : a.eval x = key) (hvd : Den w I d (a.eval v)) :
    ∃ w' I' β', (execOp a.eval o).run P w = .ok .skip w' ∧ Rel dn w0 I0 F (S1.app o.dst ⟨.d .any, [], [(j, .mp kvs')], []⟩) I' β' (a.put o.dst undef) w' := by
  obtain ⟨g, es, clock, hβ, hg, hkeys, hvals, hst⟩ := hr.mem.bxs j _ hb1
  have hmv := hr.ev m
  rw [hm, DenA] at hmv
  have hme : a.eval m = .map (some g) := hmv.1.trans hβ
  have hblk : blk (β j) = some g := by rw [hβ]; rfl
  have hnI : ¬ I g := (hr.mem.sep j _ g hb1 (.inl hblk)).1
  have hes : ∀ e ∈ es.toList, ∃ l, keyOf P K e.key = some l := fun e he => by
    have : e.key ∈ kvs.map (·.1) := by rw [← hkeys]; exact List.mem_map.2 ⟨e, he, rfl⟩
    obtain ⟨p, hp, e1⟩ := List.mem_map.1 this
    rw [← e1]; exact hks p hp
  have done : ∀ es' clock', (Instr.mapUpdate T (.map (some g)) key (a.eval v)).run P w = .ok () (ChangeMaps.setBlock w g (.map es' clock')) → es'.toList.map (·.key) = kvs'.map (·.1) →
      Dens w I (kvs'.map (·.2)) (es'.toList.map (·.val)) → MapKept.Stamped es' clock' → ∃ w' I' β', (execOp a.eval o).run P w = .ok .skip w' ∧ Rel dn w0 I0 F (S1.app o.dst ⟨.d .any, [], [(j, .mp kvs')], []⟩) I' β' (a.put o.dst undef) w' := fun es' clock' hrun h1 h2 h3 => by
    have hgb : Gb w (ChangeMaps.setBlock w g (.map es' clock')) (some g) := ⟨⟨rfl, rfl, rfl, by simp [ChangeMaps.setBlock], fun i _ hi => ChangeMaps.heap_setBlock_other hg _ (fun e => hi (by rw [e]))⟩, Nat.le_refl _⟩
    have hkp : Kept w I (ChangeMaps.setBlock w g (.map es' clock')) I := ⟨fun _ h => h, fun n hn => ChangeMaps.heap_setBlock_other hg _ (fun e => hnI (e ▸ hn))⟩
    refine ⟨ChangeMaps.setBlock w g (.map es' clock'), I, β, by simp [execOp, ho, hme, hxe, hrun], ?_⟩
    rw [St.app_upd]
    exact Rel.put (S := ⟨S1.sl, setB S1.bx j (.mp kvs'), S1.df⟩) (w := ChangeMaps.setBlock w g (.map es' clock')) ⟨hr.mem.turn (b' := .mp kvs') hb1 (by rw [hblk]; exact hgb) ⟨g, es', clock', hβ, ChangeMaps.heap_setBlock_same hg _, h1, Dens.mono hkp _ _ h2, h3⟩, DenAs.mono hkp _ _ (fun _ _ => rfl) hr.sl, hr.dn, hr.fx⟩ o.dst (DenA_any _ _ _ _)
  rcases hK.find w hkey es.toList hes with ⟨f1, f2⟩ | ⟨i, e0, f1, f2, f3⟩
  · rcases hput with ⟨pre, d0, post, e1, _⟩ | ⟨_, rfl⟩
    · have : key ∈ es.toList.map (·.key) := by rw [hkeys, e1]; simp
      obtain ⟨e, he, e2⟩ := List.mem_map.1 this
      exact (f2 e he e2).elim
    · refine done (es.push ⟨key, a.eval v, clock⟩) (clock + 1) ?_ ?_ ?_ (MapKept.stamped_push hst f2)
      · simp [Instr.mapUpdate, run_underlying hu, MapKept.run_getObj_map hg, hK.check w false hkey, f1, MapKept.run_setObj_map _ hg, Result.andThen, ChangeMaps.setBlock]
      · simp [hkeys]
      · simp only [Array.toList_push, List.map_append, List.map_cons, List.map_nil]
        exact hvals.app ⟨_, [], rfl, hvd, rfl⟩
  · have hmem : key ∈ kvs.map (·.1) := by rw [← hkeys]; exact List.mem_map.2 ⟨e0, List.mem_of_getElem? f2, f3⟩
    rcases hput with ⟨pre, d0, post, rfl, rfl⟩ | ⟨hno, _⟩
    · have hnd := keys_nodup hst hkeys
      have hat : (es.toList.map (·.key))[i]? = some key := by rw [List.getElem?_map, f2, Option.map_some, f3]
      have hi : i = pre.length := by
        rw [hkeys] at hat
        simp only [List.map_append, List.map_cons] at hat hnd
        have := nodup_at hnd hat
        simpa using this
      have hj : es[i]? = some e0 := by simpa using f2
      have hlist : (es.modify i (fun e' => { e' with key := key, val := a.eval v })).toList = es.toList.set i { e0 with key := key, val := a.eval v } := by
        rw [Array.toList_modify]
        apply List.ext_getElem?
        intro q
        rw [List.getElem?_modify, List.getElem?_set]
        by_cases h : i = q
        · subst h
          have hlt : i < es.toList.length := (List.getElem?_eq_some_iff.1 f2).1
          have hlt' : i < es.size := by simpa using hlt
          simp [f2, hlt] at f2 ⊢
          exact hlt'
        · simp [h]
      have hkeyf : ∀ e' ∈ es.toList, es[i]? = some e' → ({ e' with key := key, val := a.eval v } : MapEntry).key = e'.key := fun e' _ he' => by rw [hj] at he'; cases he'; exact f3.symm
      refine done (es.modify i (fun e' => { e' with key := key, val := a.eval v })) clock ?_ ?_ ?_ (MapKept.stamped_modify hst _ _ (fun _ _ => rfl) hkeyf)
      · simp [Instr.mapUpdate, run_underlying hu, MapKept.run_getObj_map hg, hK.check w false hkey, f1, hj, f3, hK.stays w hkey, MapKept.run_setObj_map _ hg, Result.andThen, ChangeMaps.setBlock]
      · rw [hlist, List.map_set, hkeys, hi]
        simp
      · simp only [List.map_append, List.map_cons] at hvals
        obtain ⟨us, u, ts, e1, e2, h1, h2, h3⟩ := Dens.at hvals
        rw [hlist, List.map_set, e1, hi]
        rw [List.length_map] at e2
        rw [← e2]
        simp only [List.map_append, List.map_cons]
        rw [List.set_append_right _ _ (Nat.le_refl _), Nat.sub_self, List.set_cons_zero]
        exact h1.app ⟨_, _, rfl, hvd, h3⟩
    · obtain ⟨p, hp, e1⟩ := List.mem_map.1 hmem
      exact (hno p hp e1).elim
theorem LCore.mapPutRow {P : Program} {τ : Tab} (hτ : TabOk P τ) {dn : Dn} {pn : Pn} {o : Oper} {S : St} {T : TypeId} {m x v : Operand} (ho : o.op = .mapUpdate T m x v) {K E : TypeId} {sz1 b1 : Nat} {z1 : List Value} (ht : τ T = some ⟨.map K E, sz1, b1, z1⟩)
    (hK : Maps.Keyed P K) {j : Nat} (hm : S.ev m = .row j) {kvs kvs' : List (Value × D)} (hb : getB S.bx j = some (.mp kvs)) {key : Value} (hx : Leq (S.ev x) (.d (.v key))) {k : Nat} (hkj : k ≠ j) (hv : S.ev v = .row k) {T2 : TypeId} {sz n : Nat} {ds : List D} (hbk : getB S.bx k = some (.row T2 sz n (ds.map .d)))
    {l : Lit} (hkey : keyOf P K key = some l) (hks : KeysOk P K kvs) (hput : PutOk kvs key (.sl sz ds n false) kvs') : LCore P dn pn o S ⟨.d .any, [k], [(j, .mp kvs')], []⟩ [j, k] := by
  intro S1 hs _
  have em := hs.1 m (by simp [ho, Op.operands])
  have ex := hs.1 x (by simp [ho, Op.operands])
  have ev := hs.1 v (by simp [ho, Op.operands])
  rw [← em] at hm
  rw [← ex] at hx
  rw [← ev] at hv
  obtain ⟨dd, hu, hk⟩ := (hτ T _ ht).und
  simp only [TK.ok] at hk
  subst hk
  have hb1 := (hs.2.2 j (by simp)).trans hb
  have hbk1 := (hs.2.2 k (by simp)).trans hbk
  refine Core.skip fun w0 I0 F I β a w hr => ?_
  have hxe : a.eval x = key := DenA_v.1 (hx _ _ _ _ (hr.ev x))
  have hvv := hr.ev v
  rw [hv, DenA] at hvv
  obtain ⟨I', hr', hd⟩ := hr.freezeDrop hbk1
  exact mapPut_run (S1 := ⟨S1.sl, delB S1.bx k, S1.df⟩) ho hu hK (by rw [← hm]; cases m <;> rfl) (by rw [getB_del, if_neg hkj]; exact hb1) hkey hks hput hr' hxe (by rw [hvv.1]; exact hd)
theorem vcStop.mapPutRow {P : Program} {τ : Tab} (hτ : TabOk P τ) {dn : Dn} {pn : Pn} {o : Oper} {S : St} {acc : List TI} {rest : St → List TI → Prop} {T : TypeId} {m x v : Operand} (ho : o.op = .mapUpdate T m x v) {K E : TypeId} {sz1 b1 : Nat} {z1 : List Value} (ht : τ T = some ⟨.map K E, sz1, b1, z1⟩)
    (hK : Maps.Keyed P K) {j : Nat} (hm : S.ev m = .row j) {kvs : List (Value × D)} (kvs' : List (Value × D)) (hb : getB S.bx j = some (.mp kvs)) {key : Value} (hx : Leq (S.ev x) (.d (.v key))) {k : Nat} (hkj : k ≠ j) (hv : S.ev v = .row k) {T2 : TypeId} {sz n : Nat} {ds : List D} (hbk : getB S.bx k = some (.row T2 sz n (ds.map .d)))
    {l : Lit} (hkey : keyOf P K key = some l) (hks : KeysOk P K kvs) (hput : PutOk kvs key (.sl sz ds n false) kvs')
    (h : rest (S.app o.dst ⟨.d .any, [k], [(j, .mp kvs')], []⟩) (⟨⟨.d .any, [k], [(j, .mp kvs')], []⟩, [j, k]⟩ :: acc)) : vcStop P dn pn o rest S acc :=
  ⟨_, _, LCore.mapPutRow hτ ho ht hK hm hb hx hkj hv hbk hkey hks hput, trivial, h⟩
theorem LCore.eqNilSl {P : Program} {τ : Tab} (hτ : TabOk P τ) {ds : Dn} {pn : Pn} {o : Oper} {S : St} {T T' E : TypeId} {x y : Operand} {sz1 b1 : Nat} {z1 : List Value} (ho : o.op = .binOp .eql T x y T') (ht : τ T = some ⟨.slice E, sz1, b1, z1⟩)
    {sz n : Nat} {cs : List D} {full : Bool} (hx : S.ev x = .d (.sl sz cs n full)) (hy : S.ev y = .d (.v (.slice none 0 0))) (hn : 0 < n) :
    LCore P ds pn o S ⟨.d (.v (.bool false)), [], [], []⟩ [] := by
  intro S1 hs hf
  have ex := hs.1 x (by simp [ho, Op.operands])
  have ey := hs.1 y (by simp [ho, Op.operands])
  rw [← ex] at hx
  rw [← ey] at hy
  obtain ⟨d, hu, hk⟩ := (hτ T _ ht).und
  simp only [TK.ok] at hk
  subst hk
  refine Core.value fun w0 I0 F I β a w hr => ⟨.bool false, ?_, DenA_v.2 rfl⟩
  have hv := hr.ev x
  have hv2 := hr.ev y
  rw [hx, DenA, Den] at hv
  rw [hy, DenA_v] at hv2
  obtain ⟨q, cap, hxe, _, _, _, _, hnil, _⟩ := hv
  cases q with
  | none => have := (hnil rfl).1; omega
  | some ad =>
    have h := run_eqNilS (w := w) (x := x) (y := y) hu (some ad) n cap
    simp [execOp, ho, hxe, hv2, h.1, h.2]
theorem vcStop.eqNilSl {P : Program} {τ : Tab} (hτ : TabOk P τ) {ds : Dn} {pn : Pn} {o : Oper} {S : St} {acc : List TI} {rest : St → List TI → Prop} {T T' E : TypeId} {x y : Operand} {sz1 b1 : Nat} {z1 : List Value} (ho : o.op = .binOp .eql T x y T') (ht : τ T = some ⟨.slice E, sz1, b1, z1⟩)
    {sz n : Nat} {cs : List D} {full : Bool} (hx : S.ev x = .d (.sl sz cs n full)) (hy : S.ev y = .d (.v (.slice none 0 0))) (hn : 0 < n)
    (h : rest (S.app o.dst ⟨.d (.v (.bool false)), [], [], []⟩) (⟨⟨.d (.v (.bool false)), [], [], []⟩, []⟩ :: acc)) : vcStop P ds pn o rest S acc :=
  ⟨_, _, LCore.eqNilSl hτ ho ht hx hy hn, trivial, h⟩
theorem vcStop.yieldL {P : Program} {ds : Dn} {pn : Pn} {o : Oper} {S : St} {acc : List TI} {rest : St → List TI → Prop} {fx : Operand} {args : Array Operand} {ts : Array TypeId} {l : Nat} {xs : List D}
    {p p' : Value → World → (Nat → Prop) → Prop} {b : Bool} (hy : YieldOk P l xs p p' b) (k k' : Nat) (ho : o.op = .call ⟨.value fx, args, ts⟩) (hf : S.ev fx = .d (.v (.func (.yield l) #[] #[])))
    (hargs : LeqL (args.toList.map S.ev) (xs.map .d)) (hk : getB S.bx k = some (.opq p)) (hne : k ≠ k') (hfr : S.has k' = false)
    (h : rest (S.app o.dst ⟨.d (.v (.bool b)), [k], [], [(k', .opq p')]⟩) (⟨⟨.d (.v (.bool b)), [k], [], [(k', .opq p')]⟩, [k]⟩ :: acc)) : vcStop P ds pn o rest S acc := by
  have hL := LCore.yield (ds := ds) (pn := pn) ho hf hy (fun t => if t = 1999 then k else if t = 0 then k' else 5000 + t) hargs
    ⟨by simp, by simp; exact ⟨_, hk, rfl⟩, by simp [getB], fun i j hi hj e => ?_, by simp [AV.tags, Box.cs, AV.tagsL]⟩
  · have e : callE (fun t => if t = 1999 then k else if t = 0 then k' else 5000 + t) [(1999, .opq p)] [(0, .opq p')] (.d (.v (.bool b))) = ⟨.d (.v (.bool b)), [k], [], [(k', .opq p')]⟩ := rfl
    rw [e] at hL
    exact ⟨_, _, hL, ⟨hfr, trivial⟩, h⟩
  · have l : ∀ i, (isIn [(1999, Box.opq p)] i = true ∨ isIn [(0, Box.opq p')] i = true) → i = 1999 ∨ i = 0 := fun i h => by
      rcases h with h | h <;> simp only [isIn, getB] at h <;> split at h <;> first | omega | cases h
    rcases l i hi with rfl | rfl <;> rcases l j hj with rfl | rfl <;> simp at e ⊢
    · exact hne e
    · exact hne e.symm
end Go.Xe
