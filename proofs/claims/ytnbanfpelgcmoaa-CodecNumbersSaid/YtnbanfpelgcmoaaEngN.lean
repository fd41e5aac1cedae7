/-
  The engine, part N. A call by its contract.
-/
import Derived.Test.YtnbanfpelgcmoaaEngM
namespace Go.Xe
open Go.RowKit

/-! ### other names for tags -/
mutual
def ren (ρ : Nat → Nat) : AV → AV
  | .d x => .d x
  | .ptr k off => .ptr (ρ k) off
  | .agg cs => .agg (renL ρ cs)
  | .tup cs => .tup (renL ρ cs)
  | .fn f a b => .fn f (renL ρ a) (renL ρ b)
  | .row k => .row (ρ k)
  | .rptr k off => .rptr (ρ k) off
  | .psl k off n c => .psl (ρ k) off n c
  | .iface t x => .iface t (ren ρ x)
  | .when b x => .when b (ren ρ x)
def renL (ρ : Nat → Nat) : List AV → List AV
  | [] => []
  | x :: xs => ren ρ x :: renL ρ xs
end
mutual
theorem DenA_ren {w : World} {I : Nat → Prop} {β : Nat → Value} {ρ : Nat → Nat} : ∀ (x : AV) (y : Value), DenA w I β (ren ρ x) y ↔ DenA w I (fun k => β (ρ k)) x y
  | .d x, y => by rw [ren, DenA, DenA]
  | .ptr k off, y => by rw [ren, DenA, DenA]
  | .agg cs, y => by rw [ren, DenA, DenA]; exact ⟨fun ⟨vs, e, h⟩ => ⟨vs, e, (DenAs_ren cs vs).1 h⟩, fun ⟨vs, e, h⟩ => ⟨vs, e, (DenAs_ren cs vs).2 h⟩⟩
  | .tup cs, y => by rw [ren, DenA, DenA]; exact ⟨fun ⟨vs, e, h⟩ => ⟨vs, e, (DenAs_ren cs vs).1 h⟩, fun ⟨vs, e, h⟩ => ⟨vs, e, (DenAs_ren cs vs).2 h⟩⟩
  | .fn f a b, y => by
    rw [ren, DenA, DenA]
    exact ⟨fun ⟨v1, v2, e, h1, h2⟩ => ⟨v1, v2, e, (DenAs_ren a v1).1 h1, (DenAs_ren b v2).1 h2⟩, fun ⟨v1, v2, e, h1, h2⟩ => ⟨v1, v2, e, (DenAs_ren a v1).2 h1, (DenAs_ren b v2).2 h2⟩⟩
  | .row k, y => by rw [ren, DenA, DenA]
  | .rptr k off, y => by rw [ren, DenA, DenA]
  | .psl k off n c, y => by rw [ren, DenA, DenA]
  | .iface t x, y => by rw [ren, DenA, DenA]; exact ⟨fun ⟨z, e, h⟩ => ⟨z, e, (DenA_ren x z).1 h⟩, fun ⟨z, e, h⟩ => ⟨z, e, (DenA_ren x z).2 h⟩⟩
  | .when b x, y => by rw [ren, DenA, DenA]; exact ⟨fun h => ⟨fun e => (DenA_ren x y).1 (h.1 e), h.2⟩, fun h => ⟨fun e => (DenA_ren x y).2 (h.1 e), h.2⟩⟩
theorem DenAs_ren {w : World} {I : Nat → Prop} {β : Nat → Value} {ρ : Nat → Nat} : ∀ (l : List AV) (vs : List Value), DenAs w I β (renL ρ l) vs ↔ DenAs w I (fun k => β (ρ k)) l vs
  | [], vs => by rw [renL, DenAs, DenAs]
  | x :: xs, vs => by
    rw [renL, DenAs, DenAs]
    exact ⟨fun ⟨v, vs', e, h1, h2⟩ => ⟨v, vs', e, (DenA_ren x v).1 h1, (DenAs_ren xs vs').1 h2⟩, fun ⟨v, vs', e, h1, h2⟩ => ⟨v, vs', e, (DenA_ren x v).2 h1, (DenAs_ren xs vs').2 h2⟩⟩
end
def Box.ren (ρ : Nat → Nat) : Box → Box
  | .cells T cs => .cells T (renL ρ cs)
  | .row T sz n cs => .row T sz n (renL ρ cs)
theorem BoxRel_ren {w : World} {I : Nat → Prop} {β : Nat → Value} {ρ : Nat → Nat} {y : Value} {b : Box} : BoxRel w I β y (b.ren ρ) ↔ BoxRel w I (fun k => β (ρ k)) y b := by
  cases b with
  | cells T cs => exact ⟨fun ⟨g, vs, e, h, hd, ho⟩ => ⟨g, vs, e, h, (DenAs_ren cs vs).1 hd, ho⟩, fun ⟨g, vs, e, h, hd, ho⟩ => ⟨g, vs, e, h, (DenAs_ren cs vs).2 hd, ho⟩⟩
  | row T sz n cs => exact ⟨fun ⟨vs, h, hd, ho⟩ => ⟨vs, h, (DenAs_ren cs vs).1 hd, ho⟩, fun ⟨vs, h, hd, ho⟩ => ⟨vs, h, (DenAs_ren cs vs).2 hd, ho⟩⟩

def BoxLeq : Box → Box → Prop
  | .cells T cs, .cells T' cs' => T = T' ∧ LeqL cs cs'
  | .row T sz n cs, .row T' sz' n' cs' => T = T' ∧ sz = sz' ∧ n = n' ∧ LeqL cs cs'
  | _, _ => False
theorem BoxLeq.refl : ∀ b, BoxLeq b b
  | .cells _ _ => ⟨rfl, .refl _⟩
  | .row .. => ⟨rfl, rfl, rfl, .refl _⟩
theorem BoxLeq.ok {w : World} {I : Nat → Prop} {β : Nat → Value} {y : Value} : ∀ {b b' : Box}, BoxLeq b b' → BoxRel w I β y b → BoxRel w I β y b'
  | .cells _ _, .cells _ _, ⟨rfl, h⟩, ⟨g, vs, e, hh, hd, ho⟩ => ⟨g, vs, e, hh, h.ok hd, ho⟩
  | .row .., .row .., ⟨rfl, rfl, rfl, h⟩, ⟨vs, hh, hd, ho⟩ => ⟨vs, hh, h.ok hd, ho⟩
  | .cells .., .row .., h, _ => h.elim
  | .row .., .cells .., h, _ => h.elim

/-! ### the run of a call -/
structure Body (P : Program) (f : FuncId) : Prop where
  ok : ∃ fn c, P.funcs[f]? = some fn ∧ fn.body = some c ∧ (fn.name == "runtime.NumGoroutine") = false
/-- What is called: the function, what was bound in front, what was captured. -/
def fnOf : AV → Option (FuncId × List AV × List AV)
  | .d (.v (.func (.func f) a b)) => some (f, a.toList.map fun x => .d (.v x), b.toList.map fun x => .d (.v x))
  | .fn (.func f) a b => some (f, a, b)
  | _ => none
theorem fnOf_ok {w : World} {I : Nat → Prop} {β : Nat → Value} {x : AV} {y : Value} {f : FuncId} {a b : List AV} (h : fnOf x = some (f, a, b)) (hd : DenA w I β x y) : ∃ va vb : List Value, y = .func (.func f) va.toArray vb.toArray ∧ DenAs w I β a va ∧ DenAs w I β b vb := by
  unfold fnOf at h
  split at h
  · rename_i f' a' b'
    cases h
    rw [DenA_v] at hd
    exact ⟨a'.toList, b'.toList, by rw [hd, Array.toArray_toList, Array.toArray_toList], DenAs_consts _, DenAs_consts _⟩
  · cases h; exact hd
  · cases h
theorem run_call {P : Program} {o : Oper} {a : Act} {w : World} {fx : Operand} {args : Array Operand} {ts : Array TypeId} (ho : o.op = .call ⟨.value fx, args, ts⟩) {f : FuncId} (hb : Body P f) {va vb : List Value} (hf : a.eval fx = .func (.func f) va.toArray vb.toArray) :
    (execOp a.eval o).run P w = .ok (.enter f (va ++ (args.toList.map a.eval) ++ vb).toArray) w := by
  obtain ⟨fn, c, h1, h2, h3⟩ := hb.ok
  have e : (va.toArray ++ args.map a.eval ++ vb.toArray : Array Value) = (va ++ (args.toList.map a.eval) ++ vb).toArray := by
    apply Array.ext'; simp
  simp only [execOp, ho, resolve, hf, Deferred.ofValue, Sem.run_bind, Sem.run_pure, Result.andThen_ok, invoke, callFunc, run_program, h1, h3, h2, Bool.false_eq_true, if_false, Option.isNone_some]
  rw [← e]

/-! ### the boxes behind a call -/
def isIn (cbi : Bxs) (k : Nat) : Bool := (getB cbi k).isSome
def outUpd (ρ : Nat → Nat) (cbi : Bxs) : Bxs → Bxs
  | [] => []
  | (k, b) :: r => if isIn cbi k = true then (ρ k, b.ren ρ) :: outUpd ρ cbi r else outUpd ρ cbi r
def outAdd (ρ : Nat → Nat) (cbi : Bxs) : Bxs → Bxs
  | [] => []
  | (k, b) :: r => if isIn cbi k = true then outAdd ρ cbi r else (ρ k, b.ren ρ) :: outAdd ρ cbi r
theorem mem_outUpd {ρ : Nat → Nat} {cbi : Bxs} : ∀ {cbo : Bxs} {p : Nat × Box}, p ∈ outUpd ρ cbi cbo → ∃ k b, (k, b) ∈ cbo ∧ isIn cbi k = true ∧ p = (ρ k, b.ren ρ)
  | (k, b) :: r, p, h => by
    simp only [outUpd] at h
    split at h
    · rename_i hk
      rcases List.mem_cons.1 h with rfl | h
      · exact ⟨k, b, by simp, hk, rfl⟩
      · obtain ⟨k', b', h1, h2, h3⟩ := mem_outUpd h; exact ⟨k', b', by simp [h1], h2, h3⟩
    · obtain ⟨k', b', h1, h2, h3⟩ := mem_outUpd h; exact ⟨k', b', by simp [h1], h2, h3⟩
theorem mem_outAdd {ρ : Nat → Nat} {cbi : Bxs} : ∀ {cbo : Bxs} {p : Nat × Box}, p ∈ outAdd ρ cbi cbo → ∃ k b, (k, b) ∈ cbo ∧ isIn cbi k = false ∧ p = (ρ k, b.ren ρ)
  | (k, b) :: r, p, h => by
    simp only [outAdd] at h
    split at h
    · obtain ⟨k', b', h1, h2, h3⟩ := mem_outAdd h; exact ⟨k', b', by simp [h1], h2, h3⟩
    · rename_i hk
      rcases List.mem_cons.1 h with rfl | h
      · exact ⟨k, b, by simp, by simpa using hk, rfl⟩
      · obtain ⟨k', b', h1, h2, h3⟩ := mem_outAdd h; exact ⟨k', b', by simp [h1], h2, h3⟩
theorem outAdd_mem {ρ : Nat → Nat} {cbi : Bxs} : ∀ {cbo : Bxs} {k : Nat} {b : Box}, (k, b) ∈ cbo → isIn cbi k = false → (ρ k, b.ren ρ) ∈ outAdd ρ cbi cbo
  | (k', b') :: r, k, b, h, hk => by
    simp only [outAdd]
    rcases List.mem_cons.1 h with h | h
    · cases h; rw [hk]; simp
    · split
      · exact outAdd_mem h hk
      · exact List.mem_cons_of_mem _ (outAdd_mem h hk)
theorem outUpd_mem {ρ : Nat → Nat} {cbi : Bxs} : ∀ {cbo : Bxs} {k : Nat} {b : Box}, (k, b) ∈ cbo → isIn cbi k = true → (ρ k, b.ren ρ) ∈ outUpd ρ cbi cbo
  | (k', b') :: r, k, b, h, hk => by
    simp only [outUpd]
    rcases List.mem_cons.1 h with h | h
    · cases h; rw [hk]; simp
    · split
      · exact List.mem_cons_of_mem _ (outUpd_mem h hk)
      · exact outUpd_mem h hk
theorem getB_adds : ∀ (l bx : Bxs) {j : Nat} {b : Box}, getB (addsB bx l) j = some b → (j, b) ∈ l ∨ ((∀ c, (j, c) ∉ l) ∧ getB bx j = some b)
  | [], bx, j, b, h => .inr ⟨by simp, h⟩
  | (k, c) :: l, bx, j, b, h => by
    rcases getB_adds l _ h with h | ⟨h1, h2⟩
    · exact .inl (by simp [h])
    · rw [getB_set] at h2
      split at h2
      · rename_i e; subst e; cases h2; exact .inl (by simp)
      · rename_i e
        refine .inr ⟨fun c' hc => ?_, h2⟩
        rcases List.mem_cons.1 hc with hc | hc
        · cases hc; exact e rfl
        · exact h1 c' hc

/-- The conditions of a call by contract. -/
structure CallOk (S : St) (ρ : Nat → Nat) (cbi cbo : Bxs) (cres : AV) : Prop where
  low : ∀ p ∈ cbi, 1000 ≤ p.1
  box : ∀ p ∈ cbi, ∃ b, getB S.bx (ρ p.1) = some b ∧ BoxLeq b (p.2.ren ρ)
  nd : ∀ p ∈ cbo, getB cbo p.1 = some p.2
  inj : ∀ k j, (isIn cbi k = true ∨ isIn cbo k = true) → (isIn cbi j = true ∨ isIn cbo j = true) → ρ k = ρ j → k = j
  tg : ∀ t, (t ∈ AV.tags cres ∨ ∃ p ∈ cbo, t ∈ AV.tagsL p.2.cs) → isIn cbo t = true

theorem mem_of_getB : ∀ {bx : Bxs} {k : Nat} {b : Box}, getB bx k = some b → (k, b) ∈ bx
  | (j, c) :: r, k, b, h => by
    simp only [getB] at h
    split at h
    · rename_i e; subst e; cases h; simp
    · simp [mem_of_getB h]

theorem hasL_tags {k : Nat} {l : List AV} (h : AV.hasL k l = true) : k ∈ AV.tagsL l := by rw [tagsL_has] at h; simpa using h
theorem has_tags {k : Nat} {l : AV} (h : AV.has k l = true) : k ∈ AV.tags l := by rw [tags_has] at h; simpa using h

def callE (ρ : Nat → Nat) (cbi cbo : Bxs) (cres : AV) : Eff := ⟨ren ρ cres, cbi.map fun p => ρ p.1, outUpd ρ cbi cbo, outAdd ρ cbi cbo⟩

theorem LCore.call {P : Program} {ds : Dn} {pn : Pn} {o : Oper} {S : St} {fx : Operand} {args : Array Operand} {ts : Array TypeId} (ho : o.op = .call ⟨.value fx, args, ts⟩) {f : FuncId} {first caps : List AV}
    (hf : fnOf (S.ev fx) = some (f, first, caps)) (hb : Body P f) {cargs : List AV} {cbi : Bxs} {cres : AV} {cbo : Bxs} {ok : List PanicEntry → Prop} (hc : Fun P f cargs cbi cres cbo ok) (ρ : Nat → Nat)
    (hargs : LeqL (first ++ args.toList.map S.ev ++ caps) (renL ρ cargs)) (hok : CallOk S ρ cbi cbo cres)
    (hpn : ∀ ch, ok ch → pn.ok ch) (hzs : (∃ ch, ok ch) → ∀ p ∈ pn.zs, S.at p.1 = p.2) (hZ : (∃ ch, ok ch) → ∀ p ∈ cbi, pn.Z.contains (ρ p.1) = false) :
    LCore P ds pn o S (callE ρ cbi cbo cres) (cbi.map fun p => ρ p.1) := by
  intro S1 hs hfresh w0 I0 F I β a w hr next Q hn hp
  have efx : S1.ev fx = S.ev fx := hs.1 fx (by simp [ho, Op.operands, Call.operands])
  have eargs : args.toList.map S.ev = args.toList.map S1.ev := List.map_congr_left fun x hx => (hs.1 x (by simp [ho, Op.operands, Call.operands]; exact .inr (by simpa using hx))).symm
  rw [← efx] at hf
  rw [eargs] at hargs
  obtain ⟨va, vb, e1, hda, hdb⟩ := fnOf_ok hf (hr.ev fx)
  have hrun := run_call (P := P) (w := w) ho hb e1
  have hdargs : DenAs w I β (renL ρ cargs) (va ++ args.toList.map a.eval ++ vb) := hargs.ok ((hda.append (DenAs_map hr _)).append hdb)
  rw [DenAs_ren] at hdargs
  have inD : ∀ {k b}, getB cbi k = some b → isIn cbi k = true := fun h => by simp [isIn, h]
  have outD : ∀ {k b}, getB cbo k = some b → isIn cbo k = true := fun h => by simp [isIn, h]
  have hbox : ∀ {k b}, getB cbi k = some b → ∃ b', getB S1.bx (ρ k) = some b' ∧ BoxLeq b' (b.ren ρ) := fun {k b} h => by
    obtain ⟨b', h1, h2⟩ := hok.box (k, b) (mem_of_getB h)
    exact ⟨b', by rw [hs.2.2 (ρ k) (List.mem_map.2 ⟨(k, b), mem_of_getB h, rfl⟩)]; exact h1, h2⟩
  have hm0 : Mem w I (Fp cbi fun k => β (ρ k)) cbi I (fun k => β (ρ k)) w := by
    refine ⟨fun k b h => ?_, fun k b n h hn => ?_, fun k j b c n h1 h2 hi hj => ?_, hr.mem.im, fun n h => .inl h, .refl w I, fun _ _ _ => rfl, Nat.le_refl _, rfl, rfl, rfl⟩
    · obtain ⟨b', h1, h2⟩ := hbox h; exact BoxRel_ren.1 (h2.ok (hr.mem.bxs _ _ h1))
    · obtain ⟨b', h1, _⟩ := hbox h; exact ⟨(hr.mem.sep _ b' n h1 hn).1, .inl ⟨k, b, h, hn⟩⟩
    · obtain ⟨b', h1', _⟩ := hbox h1
      obtain ⟨c', h2', _⟩ := hbox h2
      exact hok.inj k j (.inl (inD h1)) (.inl (inD h2)) (hr.mem.inj _ _ b' c' n h1' h2' hi hj)
  have hcall := hc w I (fun k => β (ρ k)) _ hm0 hdargs
  unfold Oper.wp
  rw [hrun, Oper.upon_enter]
  refine hcall.mono fun e w' he => ?_
  -- of every box that the call was not handed: its block is as it was
  have hFc : ∀ n, Fp cbi (fun k => β (ρ k)) n → F n ∨ w0.heap.size ≤ n := fun n ⟨k, b, hk, hn⟩ => by
    obtain ⟨b', h1, _⟩ := hbox hk
    exact (hr.mem.sep _ b' n h1 hn).2
  have hout : ∀ j b n, getB S1.bx j = some b → (∀ p ∈ cbi, ρ p.1 ≠ j) → blk (β j) = some n → ¬ Fp cbi (fun k => β (ρ k)) n := fun j b n hj hne hn ⟨k, c, hk, hkn⟩ => by
    obtain ⟨b', h1, _⟩ := hbox hk
    exact hne (k, c) (mem_of_getB hk) (hr.mem.inj _ _ b' b n h1 hj hkn hn)
  cases e with
  | outgrown => exact he.elim
  | panicked ch =>
    obtain ⟨hch, I', β', hm⟩ := he
    refine hp ch I' β w' (hpn ch hch) ?_
    have hk : Kept w I w' I' := hm.kept
    have hkeep : ∀ j b, getB (keepB S1.bx pn.Z) j = some b → getB S1.bx j = some b ∧ pn.Z.contains j = true := by
      have : ∀ (bx : Bxs) j b, getB (keepB bx pn.Z) j = some b → getB bx j = some b ∧ pn.Z.contains j = true := by
        intro bx
        induction bx with
        | nil => intro j b h; cases h
        | cons p r ih =>
          obtain ⟨k, c⟩ := p
          intro j b h
          simp only [keepB] at h
          split at h
          · rename_i hz
            simp only [getB] at h ⊢
            split at h
            · rename_i e; subst e; rw [if_pos rfl]; exact ⟨h, hz⟩
            · rename_i e; rw [if_neg e]; exact ih j b h
          · rename_i hz
            have := ih j b h
            simp only [getB]
            split
            · rename_i e; subst e; exact absurd this.2 hz
            · exact this
      exact this S1.bx
    have hfar : ∀ j b, getB (keepB S1.bx pn.Z) j = some b → getB S1.bx j = some b ∧ ∀ p ∈ cbi, ρ p.1 ≠ j := fun j b h => by
      obtain ⟨h1, h2⟩ := hkeep j b h
      refine ⟨h1, fun p hp e => ?_⟩
      have := hZ ⟨ch, hch⟩ p hp
      rw [e, h2] at this; cases this
    refine ⟨⟨fun j b h => ?_, fun j b n h hn => ?_, fun i j b c n h1 h2 hi hj => ?_, hm.im, fun n h => ?_, hr.mem.kept.trans hk, fun n hn hF => ?_, Nat.le_trans hr.mem.sz hm.sz, hm.os.trans hr.mem.os, hm.tape.trans hr.mem.tape, hm.out.trans hr.mem.out⟩, hr.dn, fun p hpz => ?_⟩
    · obtain ⟨h1, h2⟩ := hfar j b h
      have hb := hr.mem.bxs j b h1
      exact hb.mono hk (fun _ _ => rfl) fun n hn => hm.fr n (hb.lt hn) (hout j b n h1 h2 hn)
    · obtain ⟨h1, h2⟩ := hfar j b h
      refine ⟨fun hI => ?_, (hr.mem.sep j b n h1 hn).2⟩
      rcases hm.inew n hI with h3 | h3 | h3
      · exact (hr.mem.sep j b n h1 hn).1 h3
      · exact hout j b n h1 h2 hn h3
      · have := (hr.mem.bxs j b h1).lt hn; omega
    · exact hr.mem.inj i j b c n (hfar i b h1).1 (hfar j c h2).1 hi hj
    · rcases hm.inew n h with h3 | h3 | h3
      · exact hr.mem.inew n h3
      · exact .inr (hFc n h3)
      · exact .inr (.inr (Nat.le_trans hr.mem.sz h3))
    · rw [hm.fr n (Nat.lt_of_lt_of_le hn hr.mem.sz) (fun h3 => by rcases hFc n h3 with h4 | h4; exact hF h4; omega), hr.mem.fr n hn hF]
    · have := hr.ev (.tmp p.1)
      simp only [St.ev] at this
      rw [hs.2.1 p hpz, hzs ⟨ch, hch⟩ p hpz] at this
      exact DenA.mono hk _ _ (fun _ _ => rfl) this
  | returned v =>
    obtain ⟨I', β', hm, hres, hfx⟩ := he
    have hk : Kept w I w' I' := hm.kept
    -- where the caller's tags lead now
    obtain ⟨β2, hβ1, hβ2⟩ : ∃ β2 : Nat → Value, (∀ k, isIn cbo k = true → β2 (ρ k) = β' k) ∧ ∀ j, (∀ k, isIn cbo k = true → ρ k ≠ j) → β2 j = β j := by
      refine ⟨fun j => Classical.epsilon fun y => (∀ k, isIn cbo k = true → ρ k = j → y = β' k) ∧ ((∀ k, isIn cbo k = true → ρ k ≠ j) → y = β j), fun k hk => ?_, fun j hj => ?_⟩
      · have := Classical.epsilon_spec (p := fun y => (∀ k', isIn cbo k' = true → ρ k' = ρ k → y = β' k') ∧ ((∀ k', isIn cbo k' = true → ρ k' ≠ ρ k) → y = β (ρ k))) ⟨β' k, fun k' h1 h2 => by rw [hok.inj k' k (.inr h1) (.inr hk) h2], fun h => absurd rfl (h k hk)⟩
        exact this.1 k hk rfl
      · have := Classical.epsilon_spec (p := fun y => (∀ k', isIn cbo k' = true → ρ k' = j → y = β' k') ∧ ((∀ k', isIn cbo k' = true → ρ k' ≠ j) → y = β j)) ⟨β j, fun k' h1 h2 => absurd h2 (hj k' h1), fun _ => rfl⟩
        exact this.2 hj
    have hlowIn : ∀ k, isIn cbi k = true → 1000 ≤ k := fun k h => by
      cases hg : getB cbi k with
      | none => simp [isIn, hg] at h
      | some b => exact hok.low (k, b) (mem_of_getB hg)
    -- tags that the caller's state bears lead where they led
    have hold : ∀ j, S1.has j = true → β2 j = β j := fun j hj => by
      by_cases h : ∃ k, isIn cbo k = true ∧ ρ k = j
      · obtain ⟨k, h1, rfl⟩ := h
        rw [hβ1 k h1]
        cases hin : isIn cbi k with
        | true => rw [hfx k (hlowIn k hin)]
        | false =>
          cases hg : getB cbo k with
          | none => simp [isIn, hg] at h1
          | some b =>
            have := hfresh _ (outAdd_mem (ρ := ρ) (mem_of_getB hg) hin)
            rw [hj] at this; cases this
      · exact hβ2 j fun k h1 h2 => h ⟨k, h1, h2⟩
    have hasSl : ∀ j, AV.hasL j S1.sl = true → S1.has j = true := fun j h => by simp [St.has, h]
    have hasBx : ∀ j b, getB S1.bx j = some b → S1.has j = true := fun j b h => by
      cases hh : S1.has j with
      | true => rfl
      | false => have := (hasB_get (St.has_sl' hh).2).1; rw [h] at this; cases this
    have hasIn : ∀ t j b, getB S1.bx j = some b → AV.hasL t b.cs = true → S1.has t = true := fun t j b h ht => by
      cases hh : S1.has t with
      | true => rfl
      | false => have := (hasB_get (St.has_sl' hh).2).2 j b h; rw [ht] at this; cases this
    have hrenA : ∀ (x : AV) y, (∀ t, t ∈ AV.tags x → isIn cbo t = true) → DenA w' I' β' x y → DenA w' I' β2 (ren ρ x) y := fun x y ht h => by
      rw [DenA_ren]
      exact DenA.mono (.refl w' I') x y (fun t htt => hβ1 t (ht t (has_tags htt))) h
    -- which boxes there are
    have hget : ∀ j b, getB (S1.app o.dst (callE ρ cbi cbo cres)).bx j = some b → (∃ k c, getB cbo k = some c ∧ ρ k = j ∧ b = c.ren ρ) ∨ (getB S1.bx j = some b ∧ (∀ p ∈ cbi, ρ p.1 ≠ j) ∧ ∀ k, isIn cbo k = true → ρ k ≠ j) := fun j b h => by
      rw [St.app_bx] at h
      rcases getB_adds _ _ h with h | ⟨h1, h⟩
      · obtain ⟨k, c, hk, _, e⟩ := mem_outAdd h
        cases e
        exact .inl ⟨k, c, hok.nd (k, c) hk, rfl, rfl⟩
      · rcases getB_adds _ _ h with h | ⟨h2, h⟩
        · obtain ⟨k, c, hk, _, e⟩ := mem_outUpd h
          cases e
          exact .inl ⟨k, c, hok.nd (k, c) hk, rfl, rfl⟩
        · rw [getB_dels] at h
          split at h
          · cases h
          · rename_i hd
            refine .inr ⟨h, fun p hp e => hd (List.mem_map.2 ⟨p, hp, e⟩), fun k hk e => ?_⟩
            cases hg : getB cbo k with
            | none => simp [isIn, hg] at hk
            | some c =>
              have hmem := mem_of_getB hg
              cases hin : isIn cbi k with
              | true => exact h2 (c.ren ρ) (by rw [← e]; exact outUpd_mem hmem hin)
              | false => exact h1 (c.ren ρ) (by rw [← e]; exact outAdd_mem hmem hin)
    have hβj : ∀ j b, getB S1.bx j = some b → (∀ k, isIn cbo k = true → ρ k ≠ j) → β2 j = β j := fun j b _ h => hβ2 j h
    have hnewblk : ∀ k c n, getB cbo k = some c → blk (β' k) = some n → Fp cbi (fun k => β (ρ k)) n ∨ w.heap.size ≤ n := fun k c n h hn => (hm.sep k c n h hn).2
    refine hn I' β2 _ w' ?_
    have hmem : Mem w0 I0 F (S1.app o.dst (callE ρ cbi cbo cres)).bx I' β2 w' := by
      refine ⟨fun j b h => ?_, fun j b n h hn => ?_, fun i j b c n h1 h2 hi hj => ?_, hm.im, fun n h => ?_, hr.mem.kept.trans hk, fun n hn hF => ?_, Nat.le_trans hr.mem.sz hm.sz, hm.os.trans hr.mem.os, hm.tape.trans hr.mem.tape, hm.out.trans hr.mem.out⟩
      · rcases hget j b h with ⟨k, c, hg, rfl, rfl⟩ | ⟨h1, h2, h3⟩
        · rw [hβ1 k (outD hg)]
          refine BoxRel_ren.2 ((hm.bxs k c hg).mono (.refl w' I') (fun t ht => ?_) (fun _ _ => rfl))
          exact hβ1 t (hok.tg t (.inr ⟨(k, c), mem_of_getB hg, hasL_tags ht⟩))
        · rw [hβ2 j h3]
          have hb := hr.mem.bxs j b h1
          exact hb.mono hk (fun t ht => hold t (hasIn t j b h1 ht)) fun n hn => hm.fr n (hb.lt hn) (hout j b n h1 h2 hn)
      · rcases hget j b h with ⟨k, c, hg, rfl, rfl⟩ | ⟨h1, h2, h3⟩
        · rw [hβ1 k (outD hg)] at hn
          refine ⟨(hm.sep k c n hg hn).1, ?_⟩
          rcases (hm.sep k c n hg hn).2 with h4 | h4
          · exact hFc n h4
          · exact .inr (Nat.le_trans hr.mem.sz h4)
        · rw [hβ2 j h3] at hn
          refine ⟨fun hI => ?_, (hr.mem.sep j b n h1 hn).2⟩
          rcases hm.inew n hI with h4 | h4 | h4
          · exact (hr.mem.sep j b n h1 hn).1 h4
          · exact hout j b n h1 h2 hn h4
          · have := (hr.mem.bxs j b h1).lt hn; omega
      · have cross : ∀ k c j b, getB cbo k = some c → blk (β' k) = some n → getB S1.bx j = some b → (∀ p ∈ cbi, ρ p.1 ≠ j) → blk (β j) = some n → False := fun k c j b hg hkn hj hne hjn => by
          rcases hnewblk k c n hg hkn with h4 | h4
          · exact hout j b n hj hne hjn h4
          · have := (hr.mem.bxs j b hj).lt hjn; omega
        rcases hget i b h1 with ⟨k, c1, hg, rfl, rfl⟩ | ⟨h3, h4, h5⟩ <;> rcases hget j c h2 with ⟨k', c2, hg', rfl, rfl⟩ | ⟨h6, h7, h8⟩
        · rw [hβ1 k (outD hg)] at hi
          rw [hβ1 k' (outD hg')] at hj
          rw [hm.inj k k' _ _ n hg hg' hi hj]
        · rw [hβ1 k (outD hg)] at hi
          rw [hβ2 j h8] at hj
          exact (cross k _ j c hg hi h6 h7 hj).elim
        · rw [hβ2 i h5] at hi
          rw [hβ1 k' (outD hg')] at hj
          exact (cross k' _ i b hg' hj h3 h4 hi).elim
        · rw [hβ2 i h5] at hi
          rw [hβ2 j h8] at hj
          exact hr.mem.inj i j b c n h3 h6 hi hj
      · rcases hm.inew n h with h3 | h3 | h3
        · exact hr.mem.inew n h3
        · exact .inr (hFc n h3)
        · exact .inr (.inr (Nat.le_trans hr.mem.sz h3))
      · rw [hm.fr n (Nat.lt_of_lt_of_le hn hr.mem.sz) (fun h3 => by rcases hFc n h3 with h4 | h4; exact hF h4; omega), hr.mem.fr n hn hF]
    have hsl : DenAs w' I' β2 S1.sl a.tmps.toList := DenAs.mono hk _ _ (fun t ht => hold t (hasSl t ht)) hr.sl
    have hfx2 : ∀ k, 1000 ≤ k → β2 k = ds.β0 k := fun k hk9 => by
      by_cases h : ∃ t, isIn cbo t = true ∧ ρ t = k
      · obtain ⟨t, h1, rfl⟩ := h
        rw [hβ1 t h1]
        cases hin : isIn cbi t with
        | true => rw [hfx t (hlowIn t hin)]; exact hr.fx _ hk9
        | false =>
          cases hg : getB cbo t with
          | none => simp [isIn, hg] at h1
          | some b =>
            have := St.has_lt (hfresh _ (outAdd_mem (ρ := ρ) (mem_of_getB hg) hin))
            simp only at this; omega
      · rw [hβ2 k fun t h1 h2 => h ⟨t, h1, h2⟩]; exact hr.fx k hk9
    have hr2 : Rel ds w0 I0 F ⟨S1.sl, (S1.app o.dst (callE ρ cbi cbo cres)).bx⟩ I' β2 a w' := ⟨hmem, hsl, hr.dn, hfx2⟩
    have := hr2.put o.dst (hrenA cres v (fun t ht => hok.tg t (.inl ht)) hres)
    have e : (St.mk S1.sl (S1.app o.dst (callE ρ cbi cbo cres)).bx).put o.dst (ren ρ cres) = S1.app o.dst (callE ρ cbi cbo cres) := by
      rw [St.app_bx]; cases o.dst <;> rfl
    rw [e] at this
    exact this

/-- A call that takes data and hands back data. -/
theorem LCore.call0 {P : Program} {ds : Dn} {pn : Pn} {o : Oper} {S : St} {fx : Operand} {args : Array Operand} {ts : Array TypeId} (ho : o.op = .call ⟨.value fx, args, ts⟩) {f : FuncId} {first caps : List AV}
    (hf : fnOf (S.ev fx) = some (f, first, caps)) (hb : Body P f) {cargs : List D} {cres : D} (hc : Fun P f (cargs.map .d) [] (.d cres) [] fun _ => False)
    (hargs : LeqL (first ++ args.toList.map S.ev ++ caps) (cargs.map .d)) : LCore P ds pn o S ⟨.d cres, [], [], []⟩ [] := by
  have hr : ∀ l : List D, renL id (l.map .d) = l.map .d := fun l => by induction l with | nil => rfl | cons c cs ih => simp [renL, ren, ih]
  have := LCore.call (ds := ds) (pn := pn) ho hf hb hc id (by rw [hr]; exact hargs) ⟨by simp, by simp, by simp, fun k j _ _ h => h, by simp [AV.tags]⟩ (fun _ h => h.elim) (fun ⟨_, h⟩ => h.elim) (fun ⟨_, h⟩ => h.elim)
  exact this

end Go.Xe
