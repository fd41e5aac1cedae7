/-
  The engine, part H. Lengths, append, values that are put together, interfaces.
-/
import Derived.Test.YtnbanfpelgcmoaaEngG
namespace Go.Xe
open Go.RowKit

theorem run_builtin {P : Program} {o : Oper} {b : Builtin} {args : Array Operand} {ts : Array TypeId} (ho : o.op = .call ⟨.builtin b, args, ts⟩) :
    ∃ C, ∀ (a : Act) (w : World), (execOp a.eval o).run P w = (builtin b ts o.type C (args.map a.eval)).run P w :=
  ⟨_, fun a w => by simp only [execOp, ho, resolve, Sem.run_bind, Sem.run_pure, Result.andThen_ok, invoke]; rfl⟩

/-! ### len, cap -/
def lenA (bx : Bxs) : AV → OpR
  | .d (.sl _ _ n _) => okV (.d (.v (.int .i64 n)))
  | .d (.v (.slice _ n _)) => okV (.d (.v (.int .i64 n)))
  | .d (.v (.string s)) => okV (.d (.v (.int .i64 s.size)))
  | .psl _ _ n _ => okV (.d (.v (.int .i64 n)))
  | .row k => match getB bx k with
    | some (.row _ _ n _) => some (True, ⟨.d (.v (.int .i64 n)), [], [], []⟩, [k])
    | _ => none
  | _ => none
def opLen (τ : Tab) (T : TypeId) (x : Operand) (S : St) : OpR :=
  match τ T with
  | some ⟨.slice _, _, _, _⟩ => match S.ev x with
    | .d (.v (.string _)) => none
    | y => lenA S.bx y
  | some ⟨.string, _, _, _⟩ => match S.ev x with
    | .d (.v (.string s)) => okV (.d (.v (.int .i64 s.size)))
    | _ => none
  | _ => none

theorem serves_len {P : Program} {τ : Tab} (hτ : TabOk P τ) {o : Oper} {T : TypeId} {x : Operand} (ho : o.op = .call ⟨.builtin .len, #[x], #[T]⟩) : Serves P o (opLen τ T x) := by
  intro ds pn S side e fp h hside S1 hs _
  have ex := hs.1 x (by simp [ho, Op.operands, Call.operands])
  unfold opLen at h
  rw [← ex] at h
  split at h
  · rename_i el _ _ _ ht
    obtain ⟨d, hu, hk⟩ := (hτ T _ ht).und
    simp only [TK.ok] at hk
    subst hk
    have run : ∀ (a : Act) (w : World) (ad : Option Addr) (n c : Nat), a.eval x = .slice ad n c → (execOp a.eval o).run P w = .ok (.value (.int .i64 n)) w := by
      intro a w ad n c he
      obtain ⟨C, hC⟩ := run_builtin (P := P) ho
      rw [hC]
      simp [builtin, Builtin.len_, run_underlying hu, he, goInt]
    split at h
    · cases h
    · rename_i y hy
      unfold lenA at h
      split at h
      · rename_i sz cs n full hx
        cases h
        refine Core.value fun w0 I0 F I β a w hr => ?_
        have hv := hr.ev x
        rw [hx, DenA, Den] at hv
        obtain ⟨ad, cap, e1, _⟩ := hv
        exact ⟨_, run a w ad n cap e1, DenA_v.2 rfl⟩
      · rename_i ad n c hx
        cases h
        refine Core.value fun w0 I0 F I β a w hr => ?_
        have hv := hr.ev x
        rw [hx, DenA_v] at hv
        exact ⟨_, run a w ad n c hv, DenA_v.2 rfl⟩
      · rename_i s hx
        exact (hy s hx).elim
      · rename_i k off n cap hx
        cases h
        refine Core.value fun w0 I0 F I β a w hr => ?_
        have hv := hr.ev x
        rw [hx] at hv
        obtain ⟨b, _, e2⟩ := hv
        exact ⟨_, run a w _ n cap e2, DenA_v.2 rfl⟩
      · rename_i k hx
        split at h
        · rename_i T' sz n cs hb
          cases h
          have hb1 : getB S1.bx k = some (.row T' sz n cs) := by rw [hs.2.2 k (by simp)]; exact hb
          refine Core.value fun w0 I0 F I β a w hr => ?_
          have hv := hr.ev x
          rw [hx, DenA] at hv
          obtain ⟨vs, how, _, _⟩ := hr.mem.bxs k _ hb1
          rcases how.2 with ⟨hnil, rfl⟩ | ⟨g, cap, cur, hyv, _⟩
          · exact ⟨_, run a w _ _ _ (hv.1.trans hnil), DenA_v.2 rfl⟩
          · exact ⟨_, run a w _ _ _ (hv.1.trans hyv), DenA_v.2 rfl⟩
        · cases h
      · cases h
  · rename_i _ _ _ ht
    obtain ⟨d, hu, hk⟩ := (hτ T _ ht).und
    simp only [TK.ok] at hk
    subst hk
    split at h
    · rename_i s hx
      cases h
      refine Core.value fun w0 I0 F I β a w hr => ⟨_, ?_, DenA_v.2 rfl⟩
      have hv := hr.ev x
      rw [hx, DenA_v] at hv
      obtain ⟨C, hC⟩ := run_builtin (P := P) ho
      rw [hC]
      simp [builtin, Builtin.len_, run_underlying hu, hv, goInt]
    · cases h
  · cases h

/-! ### min, max of two integers -/
def mmA (mx : Bool) (x y : AV) : OpR :=
  match x, y with
  | .d (.v (.int k a)), .d (.v (.int _ b)) => okV (.d (.v (.int k (match mx with | true => max a b | false => min a b))))
  | _, _ => none
def opMM (mx : Bool) (x y : Operand) (S : St) : OpR := mmA mx (S.ev x) (S.ev y)
theorem serves_mm {P : Program} {o : Oper} {ts : Array TypeId} {x y : Operand} (mx : Bool) (ho : o.op = .call ⟨.builtin (match mx with | true => .max | false => .min), #[x, y], ts⟩) : Serves P o (opMM mx x y) := by
  intro ds pn S side e fp h hside S1 hs _
  have ex := hs.1 x (by cases mx <;> simp [ho, Op.operands, Call.operands])
  have ey := hs.1 y (by cases mx <;> simp [ho, Op.operands, Call.operands])
  unfold opMM mmA at h
  rw [← ex, ← ey] at h
  split at h
  · rename_i k a k' b hx hy
    cases h
    refine Core.value fun w0 I0 F I β A w hr => ⟨_, ?_, DenA_v.2 rfl⟩
    have h1 := hr.ev x
    have h2 := hr.ev y
    rw [hx, DenA_v] at h1
    rw [hy, DenA_v] at h2
    obtain ⟨C, hC⟩ := run_builtin (P := P) ho
    rw [hC]
    cases mx with
    | true =>
      simp [builtin, Builtin.max_, h1, h2, Builtin.max2]
      rw [Int.max_def]; split <;> split <;> omega
    | false =>
      simp [builtin, Builtin.min_, h1, h2, Builtin.min2]
      rw [Int.min_def]; split <;> split <;> omega
  · cases h

/-! ### append -/
theorem run_append_row {P : Program} (w : World) {t ty e : TypeId} {i : TypeInfo} {z : Value} {size bytes : Nat} (ht : P.underlying t = some (.slice e)) (hi : P.info? e = some i) (hz : i.zero = some z)
    (hsize : i.size = size) (hby : i.bytes = bytes) (hzs : z.cells.size = size)
    {v : Value} {n : Nat} {xs : List Value} (hown : w.ownsRow 0 e size v n xs)
    {ad : Option Addr} {m c : Nat} {news : List Value} (hl : news.length = m * size) (hnil : ad = none → m = 0 ∧ c = 0) (hnews : ∀ b, ad = some b → ∀ j u, news[j]? = some u → w.cell? (b.add j) = some u) (h1 : ∀ u ∈ news, u.oneCell' = true)
    (h63 : n + m ≤ maxLen) (hbytes : (n + m) * bytes ≤ 140737488355328) :
    ∃ v' w', (Builtin.append_ #[t, t] ty #[v, .slice ad m c]).run P w = .ok v' w' ∧ w'.ownsRow 0 e size v' (n + m) (xs ++ news) ∧ w.grownBy w' v.ownBlock ∧ (v'.ownBlock = v.ownBlock ∨ ∀ g, v'.ownBlock = some g → w.heap.size ≤ g) := by
  subst hsize
  subst hby
  have hsmall : n + m ≤ 9223372036854775807 := by simp only [maxLen] at h63; omega
  have hlen : (xs ++ news).length = (n + m) * i.size := by rw [List.length_append, hown.1, hl, Nat.add_mul]
  cases ad with
  | none =>
    obtain ⟨rfl, rfl⟩ := hnil rfl
    have hn : news = [] := List.eq_nil_of_length_eq_zero (by simpa using hl)
    subst hn
    refine ⟨v, w, ?_, by simpa using hown, ⟨rfl, rfl, rfl, Nat.le_refl _, fun _ _ _ => rfl⟩, .inl rfl⟩
    rcases hown.2 with ⟨rfl, rfl⟩ | ⟨g, cap, cur, rfl, _, hg, hnc, hcm, hcs, htk⟩
    · simp [Builtin.append_, run_underlying ht, sizeOf, typeInfo, hi, Builtin.lenOf, Builtin.firstCells]
    · simp [Builtin.append_, run_underlying ht, sizeOf, typeInfo, hi, Builtin.lenOf, Builtin.firstCells, hnc, storeCells]
  | some b =>
    have hnews := hnews b rfl
    have grown : ∀ (old : Nat),
        (w.drew.alloc (.cells (xs.toArray ++ news.toArray ++ Builtin.zeroCells z.cells (grownCap w (n + m) old e - (n + m))) e)).ownsRow 0 e i.size
          (.slice (some ⟨w.heap.size, 0, none⟩) (n + m) (grownCap w (n + m) old e)) (n + m) (xs ++ news) ∧
        ∀ row, w.grownBy (w.drew.alloc (.cells (xs.toArray ++ news.toArray ++ Builtin.zeroCells z.cells (grownCap w (n + m) old e - (n + m))) e)) row := by
      intro old
      have hge := grownCap_ge w (n + m) old e
      have hcm : grownCap w (n + m) old e ≤ maxLen := grownCap_le_maxLen w (n + m) old e h63
      refine ⟨⟨hlen, .inr ⟨w.heap.size, _, _, rfl, Nat.zero_le _, heap_alloc_new w.drew _, hge, hcm, ?_, ?_⟩⟩, fun row => grownBy_drew w (World.grownBy_alloc w.drew _ row)⟩
      · simp only [Array.size_append, List.size_toArray, size_zeroCells, hzs, hown.1, hl, ← Nat.add_mul]
        congr 1
        omega
      · simp only [Array.toList_append, List.append_assoc]
        rw [← List.append_assoc, ← hlen]
        exact List.take_left
    have fresh : ∀ (cap : Nat) g, Value.ownBlock (.slice (some ⟨w.heap.size, 0, none⟩) (n + m) cap) = some g → w.heap.size ≤ g := fun cap g hg => by simp [Value.ownBlock] at hg; omega
    rcases hown.2 with ⟨rfl, rfl⟩ | ⟨g, cap, cur, rfl, _, hg, hnc, hcm, hcs, htk⟩
    · have hx : xs = [] := List.eq_nil_of_length_eq_zero (by simpa using hown.1)
      subst hx
      by_cases hm : m = 0
      · subst hm
        have hn : news = [] := List.eq_nil_of_length_eq_zero (by simpa using hl)
        subst hn
        refine ⟨.slice none 0 0, w, ?_, World.ownsRow_nil w 0 e i.size, ⟨rfl, rfl, rfl, Nat.le_refl _, fun _ _ _ => rfl⟩, .inl rfl⟩
        simp [Builtin.append_, run_underlying ht, sizeOf, typeInfo, hi, Builtin.lenOf, Builtin.firstCells, loadCells, loadCellsFrom]
      · have hr := run_append_nil (P := P) w t ty e i z ht hi hz b m c news hl hnews (by omega) (by omega) (by have hb := hbytes; simp only [Nat.zero_add] at hb; omega)
        have hgr := grown 0
        simp only [Nat.zero_add, List.nil_append, Array.empty_append] at hgr ⊢
        refine ⟨_, _, hr, hgr.1, hgr.2 _, .inr fun g hg => ?_⟩
        have := fresh (grownCap w m 0 e) g
        simp only [Nat.zero_add] at this
        exact this hg
    · by_cases hroom : n + m ≤ cap
      · have hfit : n * i.size + news.length ≤ cur.size := by rw [hl, hcs, ← Nat.add_mul]; exact Nat.mul_le_mul_right _ hroom
        have hr := run_append_room (P := P) w t ty e i ht hi g n cap cur hg b m c news hl hnews h1 hroom hfit
        refine ⟨_, _, hr, ⟨hlen, .inr ⟨g, cap, _, rfl, Nat.zero_le _, setRow_heap w g cur _ e _ hg, hroom, hcm, ?_, ?_⟩⟩, grownBy_setRow w g _, .inl rfl⟩
        · simp only [List.size_toArray, List.length_append, List.length_take, List.length_drop, Array.length_toList]
          omega
        · rw [htk, ← hlen]
          exact List.take_left
      · have holds : ∀ j u, xs[j]? = some u → w.cell? ((⟨g, 0, none⟩ : Addr).add j) = some u := hown.cells (g := g) rfl
        have hr := run_append_grow (P := P) w t ty e i z ht hi hz ⟨g, 0, none⟩ n cap xs hown.1 holds b m c news hl hnews (by omega) (by omega) (growslice_fits (by omega) hbytes)
        exact ⟨_, _, hr, (grown cap).1, (grown cap).2 _, .inr (fresh _)⟩

/-- The slice that is appended to: how many, its cells, the tag that ends. -/
def dstA (bx : Bxs) (E : TypeId) (sz0 : Nat) : AV → Option (Nat × (Nat × TypeId) × List AV × List Nat × Bool)
  | .row k => match getB bx k with
    | some (.row T sz n cs) => some (n, (sz, T), cs, [k], true)
    | _ => none
  | .d (.v (.slice none 0 0)) => some (0, (sz0, E), [], [], true)
  | .d (.sl sz cs n true) => some (n, (sz, E), cs.map .d, [], false)
  | _ => none
def opAppend (τ : Tab) (dst : Option Tmp) (T : TypeId) (x y : Operand) (S : St) : OpR :=
  match dst, τ T with
  | some k, some ⟨.slice E, _, _, _⟩ => (τ E).bind fun te => (dstA S.bx E te.size (S.ev x)).bind fun r => (srcA S.bx te.size (S.ev y)).bind fun q =>
      some (r.2.1.1 = te.size ∧ r.2.1.2 = E ∧ q.2.1 = te.size ∧ q.2.2.1.length = q.1 * te.size ∧ (r.1 + q.1) * (te.bytes + 1) ≤ 140737488355328 ∧ (r.2.2.2.2 = false → 0 < q.1) ∧ (r.2.2.2.1.all fun j => !(q.2.2.2.contains j)) = true,
        ⟨.row k, r.2.2.2.1, [], [(k, .row E te.size (r.1 + q.1) (r.2.2.1 ++ q.2.2.1))]⟩, r.2.2.2.1 ++ q.2.2.2)
  | _, _ => none

theorem hasL_append {k : Nat} : ∀ {a b : List AV}, AV.hasL k (a ++ b) = (AV.hasL k a || AV.hasL k b)
  | [], _ => by simp [AV.hasL]
  | x :: a, b => by simp only [List.cons_append, AV.hasL, hasL_append, Bool.or_assoc]
theorem hasL_d {k : Nat} (l : List D) : AV.hasL k (l.map .d) = false := by induction l with | nil => rfl | cons c cs ih => simp [AV.hasL, AV.has, ih]
theorem hasL_sub {k : Nat} : ∀ {l m : List AV}, (∀ x ∈ m, x ∈ l) → AV.hasL k l = false → AV.hasL k m = false := by
  intro l m hm hl
  have mem : ∀ (l : List AV) x, x ∈ l → AV.hasL k l = false → AV.has k x = false := by
    intro l
    induction l with
    | nil => intro x hx; cases hx
    | cons c cs ih =>
      intro x hx h
      simp only [AV.hasL, Bool.or_eq_false_iff] at h
      rcases List.mem_cons.1 hx with rfl | hx
      · exact h.1
      · exact ih x hx h.2
  induction m with
  | nil => rfl
  | cons c cs ih => simp only [AV.hasL, mem l c (hm c (by simp)) hl, ih (fun x hx => hm x (by simp [hx])), Bool.or_self]

theorem srcA_has {S : St} {sz0 : Nat} {x : AV} {m sz : Nat} {cs : List AV} {fp : List Nat} (h : srcA S.bx sz0 x = some (m, sz, cs, fp)) {k : Nat} (hk : hasB k S.bx = false) : AV.hasL k cs = false := by
  unfold srcA at h
  split at h
  · cases h; exact hasL_d _
  · split at h
    · rename_i hb; cases h; exact (hasB_get hk).2 _ _ hb
    · cases h
  · split at h
    · rename_i hb; cases h; exact hasL_sub (fun x hx => List.mem_of_mem_drop (List.mem_of_mem_take hx)) ((hasB_get hk).2 _ _ hb)
    · cases h
  · cases h; rfl
  · cases h

theorem St.app_da (S : St) (dst : Option Tmp) (v : AV) (l : List Nat) (k : Nat) (b : Box) : S.app dst ⟨v, l, [], [(k, b)]⟩ = (St.mk S.sl (setB (delsB S.bx l) k b)).put dst v := rfl

theorem hasB_del {k j : Nat} : ∀ {bx : Bxs}, hasB k bx = false → hasB k (delB bx j) = false
  | [], _ => rfl
  | (i, b) :: r, h => by
    simp only [hasB, Bool.or_eq_false_iff] at h
    simp only [delB]
    split
    · exact hasB_del h.2
    · simp only [hasB, h.1.1, h.1.2, hasB_del h.2, Bool.or_self]
theorem hasB_dels {k : Nat} : ∀ {l : List Nat} {bx : Bxs}, hasB k bx = false → hasB k (delsB bx l) = false
  | [], _, h => h
  | _ :: l, _, h => hasB_dels (l := l) (hasB_del h)

/-- Behind an append: the new row under a new tag; the row that it grew out of is gone. -/
theorem Rel.appended {ds : Dn} {w0 : World} {I0 F : Nat → Prop} {S : St} {I : Nat → Prop} {β : Nat → Value} {a : Act} {w w' : World} (hr : Rel ds w0 I0 F S I β a w) {k : Nat} (hf : S.has k = false)
    {l : List Nat} {v v' : Value} (hg : w.grownBy w' v.ownBlock) (hfr : v'.ownBlock = v.ownBlock ∨ ∀ g, v'.ownBlock = some g → w.heap.size ≤ g)
    (hsl : ∃ a n c, v' = .slice a n c) (hv : v.ownBlock = none ∨ ∃ j b, l = [j] ∧ getB S.bx j = some b ∧ β j = v ∧ blk v = v.ownBlock)
    {T : TypeId} {sz n : Nat} {cs : List AV} {us : List Value} (how : w'.ownsRow 0 T sz v' n us) (hd : DenAs w I β cs us) (ho : ∀ u ∈ us, u.oneCell' = true) (hc : AV.hasL k cs = false) (dst : Option Tmp) :
    Rel ds w0 I0 F (S.app dst ⟨.row k, l, [], [(k, .row T sz n cs)]⟩) I (upd β k v') (a.put dst v') w' := by
  have hk9 := St.has_lt hf
  have hf' := St.has_sl' hf
  have hrr : ∀ n, v.ownBlock = some n → ¬ I n ∧ (F n ∨ w0.heap.size ≤ n) := by
    intro n hn
    rcases hv with hv | ⟨j, b, _, hb, rfl, hblk⟩
    · rw [hv] at hn; cases hn
    · exact hr.mem.sep j b n hb (by rw [hblk]; exact hn)
  have hsub : ∀ i b, getB (delsB S.bx l) i = some b → getB S.bx i = some b ∧ (v.ownBlock = none ∨ blk (β i) ≠ v.ownBlock) := by
    intro i b hi
    rcases hv with hv | ⟨j, b', rfl, hb, rfl, hblk⟩
    · refine ⟨?_, .inl hv⟩
      clear hv
      induction l generalizing i b with
      | nil => exact hi
      | cons x l ih =>
        have : ∀ (l : List Nat) (bx : Bxs) i b, getB (delsB bx l) i = some b → getB bx i = some b := by
          intro l
          induction l with
          | nil => intro bx i b h; exact h
          | cons y l ih => intro bx i b h; have := ih _ i b h; rw [getB_del] at this; split at this; cases this; exact this
        exact this _ _ i b hi
    · simp only [delsB] at hi
      rw [getB_del] at hi
      split at hi
      · cases hi
      · rename_i hne
        refine ⟨hi, ?_⟩
        cases hvb : (β j).ownBlock with
        | none => exact .inl rfl
        | some g =>
          refine .inr fun e => hne ?_
          exact hr.mem.inj j i b' b g hb hi (hblk.trans hvb) e
  have hm := hr.mem.world hg hrr (bx' := delsB S.bx l) hsub
  have hk : Kept w I w' I := ⟨fun _ h => h, fun n hn => hg.block n (hr.mem.im n hn) (fun e => (hrr n e.symm).1 hn)⟩
  have hblk' : blk v' = v'.ownBlock := by obtain ⟨x, n, c, rfl⟩ := hsl; cases x <;> rfl
  rw [St.app_da]
  have hbox : BoxRel w' I (upd β k v') v' (.row T sz n cs) := ⟨us, how, DenAs.mono hk _ _ (fun j hj => upd_other _ _ fun e => by subst e; rw [hc] at hj; cases hj) hd, ho⟩
  have hrow : DenA w' I (upd β k v') (.row k) v' := by rw [DenA]; exact ⟨(upd_same _ _ _).symm, hsl⟩
  suffices hrel : Rel ds w0 I0 F ⟨S.sl, setB (delsB S.bx l) k (.row T sz n cs)⟩ I (upd β k v') a w' from hrel.put dst hrow
  refine ⟨hm.add (hasB_dels hf'.2) hbox (fun n hn => ?_), DenAs.mono hk _ _ (fun j hj => upd_other _ _ fun e => ?_) hr.sl, hr.dn, fun j hj => (upd_other _ _ (by omega)).trans (hr.fx j hj)⟩
  · rw [hblk'] at hn
    have hold : v'.ownBlock = v.ownBlock → ¬ I n ∧ (F n ∨ w0.heap.size ≤ n) ∧ ∀ j c, getB (delsB S.bx l) j = some c → blk (β j) ≠ some n := fun e => by
      rw [e] at hn
      refine ⟨(hrr n hn).1, (hrr n hn).2, fun j c hj hjn => ?_⟩
      rcases (hsub j c hj).2 with h2 | h2
      · rw [h2] at hn; cases hn
      · rw [hn] at h2; exact h2 hjn
    rcases hfr with hfr | hfr
    · exact hold hfr
    · have := hfr n hn
      refine ⟨fun hI => by have := hr.mem.im n hI; omega, .inr (Nat.le_trans hr.mem.sz this), fun j c hj hjn => ?_⟩
      have := (hr.mem.bxs j c (hsub j c hj).1).lt hjn
      omega
  · subst e; rw [hf'.1] at hj; cases hj

theorem ownsRow_slice {w : World} {b : Nat} {T : TypeId} {sz n : Nat} {v : Value} {us : List Value} (h : w.ownsRow b T sz v n us) : ∃ a m c, v = .slice a m c := by
  rcases h.2 with ⟨rfl, _⟩ | ⟨g, cap, cur, rfl, _⟩
  · exact ⟨_, _, _, rfl⟩
  · exact ⟨_, _, _, rfl⟩

theorem serves_append {P : Program} {τ : Tab} (hτ : TabOk P τ) {o : Oper} {T : TypeId} {x y : Operand} (ho : o.op = .call ⟨.builtin .append, #[x, y], #[T, T]⟩) : Serves P o (opAppend τ o.dst T x y) := by
  intro ds pn S side e fp h hside S1 hs hf
  have ex := hs.1 x (by simp [ho, Op.operands, Call.operands])
  have ey := hs.1 y (by simp [ho, Op.operands, Call.operands])
  unfold opAppend at h
  rw [← ex, ← ey] at h
  split at h
  · rename_i k E _ _ _ hd ht
    obtain ⟨d, hu, hk⟩ := (hτ T _ ht).und
    simp only [TK.ok] at hk
    subst hk
    cases hte : τ E with
    | none => rw [hte] at h; cases h
    | some te =>
      obtain ⟨i, z, hi, his, hib, hiz, hzc, hzl, _⟩ := (hτ E te hte).info
      rw [hte, Option.bind_some] at h
      cases hda : dstA S.bx E te.size (S1.ev x) with
      | none => rw [hda] at h; cases h
      | some r =>
        obtain ⟨n, ⟨sz, T'⟩, cs, dl, ownd⟩ := r
        rw [hda, Option.bind_some] at h
        cases hsa : srcA S.bx te.size (S1.ev y) with
        | none => rw [hsa] at h; cases h
        | some q =>
          obtain ⟨m, sz2, cs2, fp2⟩ := q
          rw [hsa, Option.bind_some] at h
          cases h
          simp only at hside hf hs ⊢
          obtain ⟨q1, q2, q3, hlen, hbnd, hpos, hdisj⟩ := hside
          subst q1
          obtain rfl : E = T' := q2.symm
          subst q3
          have hsa1 : srcA S1.bx te.size (S1.ev y) = some (m, te.size, cs2, fp2) := srcA_congr hsa (fun j hj => hs.2.2 j (by simp [hj]))
          have hk0 : S1.has k = false := hf _ (List.mem_singleton.2 rfl)
          have hk1 := St.has_sl' hk0
          have hmax : n + m ≤ maxLen := by
            simp only [maxLen]
            have : n + m ≤ (n + m) * (te.bytes + 1) := Nat.le_mul_of_pos_right _ (by omega)
            omega
          have hbyt : (n + m) * te.bytes ≤ 140737488355328 := Nat.le_trans (Nat.mul_le_mul_left _ (by omega)) hbnd
          refine Core.world fun w0 I0 F I β a w hr => ?_
          obtain ⟨ad, c, us, e2, hd2, ho2, hnil2, hc2⟩ := srcA_ok hr hsa1 hlen
          have hl2 : us.length = m * te.size := by rw [← hd2.length]; exact hlen
          have hzs : z.cells.size = te.size := by rw [← Array.length_toList, hzc, hzl]
          unfold dstA at hda
          split at hda
          · rename_i j hx
            split at hda
            · rename_i _ _ _ _ hb
              cases hda
              have hb1 := (hs.2.2 j (by simp)).trans hb
              obtain ⟨xs, how, hdx, hox⟩ := hr.mem.bxs j _ hb1
              have hv := hr.ev x
              rw [hx, DenA] at hv
              obtain ⟨v', w', hrun, how', hg, hfr⟩ := run_append_row (P := P) w (ty := o.type) hu hi hiz his hib hzs how hl2 hnil2 hc2 ho2 hmax hbyt
              refine ⟨v', w', I, upd β k v', ?_, ?_⟩
              · obtain ⟨C, hC⟩ := run_builtin (P := P) ho; rw [hC]; simp [builtin, hv.1, e2, hrun]
              · exact hr.appended hk0 hg hfr (ownsRow_slice how') (.inr ⟨j, _, rfl, hb1, rfl, blk_own how⟩) how' (hdx.append hd2)
                  (fun u hu => by rcases List.mem_append.1 hu with hu | hu; exact hox u hu; exact ho2 u hu) (by have h5 := (hasB_get hk1.2).2 j _ hb1; simp only [Box.cs] at h5; rw [hasL_append, h5, srcA_has hsa1 hk1.2]; rfl) o.dst
            · cases hda
          · rename_i hx
            cases hda
            have hv := hr.ev x
            rw [hx, DenA_v] at hv
            obtain ⟨v', w', hrun, how', hg, hfr⟩ := run_append_row (P := P) w (ty := o.type) hu hi hiz his hib hzs (World.ownsRow_nil w 0 E te.size) hl2 hnil2 hc2 ho2 hmax hbyt
            refine ⟨v', w', I, upd β k v', ?_, ?_⟩
            · obtain ⟨C, hC⟩ := run_builtin (P := P) ho; rw [hC]; simp [builtin, hv, e2, hrun]
            · exact hr.appended (v := .slice none 0 0) hk0 (l := []) hg hfr (ownsRow_slice how') (.inl rfl) how' (by simpa using hd2) (by simpa using ho2) (by simpa using srcA_has hsa1 hk1.2) o.dst
          · rename_i sz' cs' n' hx
            cases hda
            have hv := hr.ev x
            rw [hx, DenA, Den] at hv
            obtain ⟨adx, cap, e1, hnc, hcm, hfl, hlx, hnilx, hatx⟩ := hv
            have hcap := hfl rfl
            subst hcap
            have hm := hpos rfl
            cases adx with
            | none =>
              obtain ⟨hn0, _⟩ := hnilx rfl
              subst hn0
              have : cs' = [] := List.eq_nil_of_length_eq_zero (by simpa using hlx)
              subst this
              obtain ⟨v', w', hrun, how', hg, hfr⟩ := run_append_row (P := P) w (ty := o.type) hu hi hiz his hib hzs (World.ownsRow_nil w 0 E te.size) hl2 hnil2 hc2 ho2 hmax hbyt
              refine ⟨v', w', I, upd β k v', ?_, ?_⟩
              · obtain ⟨C, hC⟩ := run_builtin (P := P) ho; rw [hC]; simp [builtin, e1, e2, hrun]
              · exact hr.appended (v := .slice none 0 0) hk0 (l := []) hg hfr (ownsRow_slice how') (.inl rfl) how' (by simpa using hd2) (by simpa using ho2) (by simpa using srcA_has hsa1 hk1.2) o.dst
            | some b =>
              obtain ⟨hsp, hat⟩ := hatx b rfl
              obtain ⟨xs, hdx, hox, hcx⟩ := hat.dens
              have hadx : ∀ j u, xs[j]? = some u → w.cell? (b.add j) = some u := fun j u hj => by
                have hm0 : 0 < cap := by
                  rcases Nat.eq_zero_or_pos cap with h0 | h0
                  · have hl := hdx.length
                    have := (List.getElem?_eq_some_iff.1 hj).1
                    rw [h0] at hlx
                    omega
                  · exact h0
                have hsp := hsp hm0
                obtain ⟨bb, off, sp⟩ := b
                simp only at hsp; subst hsp
                rw [Addr.add_lit]; exact hcx j u hj
              have hlxs : xs.length = cap * i.size := by rw [← hdx.length, his]; exact hlx
              cases ad with
              | none => have := (hnil2 rfl).1; omega
              | some b2 =>
                have hrun := run_append_grow (P := P) w T o.type E i z hu hi hiz b cap cap xs hlxs hadx b2 m c us (by rw [his]; exact hl2) (hc2 b2 rfl) (by omega) (by simp only [maxLen] at hmax; omega) (growslice_fits (by omega) (by rw [hib]; exact hbyt))
                have hgr : w.grownBy (w.drew.alloc (.cells (xs.toArray ++ us.toArray ++ Builtin.zeroCells z.cells (grownCap w (cap + m) cap E - (cap + m))) E)) none := grownBy_drew w (World.grownBy_alloc w.drew _ none)
                have hlecap : (xs ++ us).length = (cap + m) * te.size := by rw [List.length_append, hlxs, hl2, his, Nat.add_mul]
                have how' : (w.drew.alloc (.cells (xs.toArray ++ us.toArray ++ Builtin.zeroCells z.cells (grownCap w (cap + m) cap E - (cap + m))) E)).ownsRow 0 E te.size (.slice (some ⟨w.heap.size, 0, none⟩) (cap + m) (grownCap w (cap + m) cap E)) (cap + m) (xs ++ us) := by
                  have hge := grownCap_ge w (cap + m) cap E
                  refine ⟨hlecap, .inr ⟨w.heap.size, _, _, rfl, Nat.zero_le _, heap_alloc_new w.drew _, hge, grownCap_le_maxLen w (cap + m) cap E hmax, ?_, ?_⟩⟩
                  · simp only [Array.size_append, List.size_toArray, size_zeroCells, hzs, hlxs, hl2, his, ← Nat.add_mul]
                    congr 1
                    omega
                  · simp only [Array.toList_append, List.append_assoc]
                    rw [← List.append_assoc, ← hlecap]
                    exact List.take_left
                obtain ⟨v', w', hrun, hgr, how', hfr⟩ : ∃ v' w', (Builtin.append_ #[T, T] o.type #[.slice (some b) cap cap, .slice (some b2) m c]).run P w = .ok v' w' ∧ w.grownBy w' none ∧ w'.ownsRow 0 E te.size v' (cap + m) (xs ++ us) ∧ ∀ g, v'.ownBlock = some g → w.heap.size ≤ g :=
                  ⟨_, _, hrun, hgr, how', fun g hg => by simp [Value.ownBlock] at hg; omega⟩
                refine ⟨v', w', I, upd β k v', by obtain ⟨C, hC⟩ := run_builtin (P := P) ho; rw [hC]; simp [builtin, e1, e2, hrun], ?_⟩
                exact hr.appended hk0 (l := []) (v := .slice none 0 0) hgr (.inr hfr) (ownsRow_slice how') (.inl rfl) how' ((DenAs.of_dens hdx).append hd2)
                  (fun u hu => by rcases List.mem_append.1 hu with hu | hu; exact hox u hu; exact ho2 u hu) (by rw [hasL_append, hasL_d, srcA_has hsa1 hk1.2]; rfl) o.dst
          · cases hda
  · cases h

end Go.Xe
