/-
  The engine, part T. A call that starts from what is there, and what it leaves.
-/
import Derived.Test.YtnbanfpelgcmoaaEngS
import Derived.Defers
import Derived.Recover
namespace Go.Xe
open Go.RowKit

/-- From here on, with these boxes. -/
theorem Mem.start {w0 : World} {I0 F : Nat → Prop} {bx cb : Bxs} {I : Nat → Prop} {β : Nat → Value} {w : World} (h : Mem w0 I0 F bx I β w) (hcb : ∀ k b, getB cb k = some b → getB bx k = some b) : Mem w I (Fp cb β) cb I β w :=
  ⟨fun k b hk => h.bxs k b (hcb k b hk), fun k b n hk hn => ⟨(h.sep k b n (hcb k b hk) hn).1, .inl ⟨k, b, hk, hn⟩⟩, fun k j b c n h1 h2 => h.inj k j b c n (hcb k b h1) (hcb j c h2), h.im,
    fun _ h => .inl h, .refl w I, fun _ _ _ => rfl, Nat.le_refl _, rfl, rfl, rfl⟩

/-- What was not handed over is as it was. -/
theorem Mem.keep {w0 : World} {I0 F : Nat → Prop} {bx cb bk : Bxs} {I I' : Nat → Prop} {β β' : Nat → Value} {w w' : World} (h : Mem w0 I0 F bx I β w) (hcb : ∀ k b, getB cb k = some b → getB bx k = some b)
    (h2 : Mem w I (Fp cb β) [] I' β' w') (hbk : ∀ k b, getB bk k = some b → getB bx k = some b ∧ getB cb k = none) : Mem w0 I0 F bk I' β w' := by
  have hFc : ∀ n, Fp cb β n → F n ∨ w0.heap.size ≤ n := fun n ⟨k, b, hk, hn⟩ => (h.sep k b n (hcb k b hk) hn).2
  have hout : ∀ j b n, getB bk j = some b → blk (β j) = some n → ¬ Fp cb β n := fun j b n hj hn ⟨k, c, hk, hkn⟩ => by
    have := h.inj k j c b n (hcb k c hk) (hbk j b hj).1 hkn hn
    subst this
    rw [(hbk k b hj).2] at hk; cases hk
  refine ⟨fun j b hj => ?_, fun j b n hj hn => ?_, fun i j b c n h1 h3 => h.inj i j b c n (hbk i b h1).1 (hbk j c h3).1, h2.im, fun n hn => ?_, h.kept.trans h2.kept, fun n hn hF => ?_, Nat.le_trans h.sz h2.sz, h2.os.trans h.os, h2.tape.trans h.tape, h2.out.trans h.out⟩
  · have hb := h.bxs j b (hbk j b hj).1
    exact hb.mono h2.kept (fun _ _ => rfl) fun n hn => h2.fr n (hb.lt hn) (hout j b n hj hn)
  · refine ⟨fun hI => ?_, (h.sep j b n (hbk j b hj).1 hn).2⟩
    rcases h2.inew n hI with h3 | h3 | h3
    · exact (h.sep j b n (hbk j b hj).1 hn).1 h3
    · exact hout j b n hj hn h3
    · have := (h.bxs j b (hbk j b hj).1).lt hn; omega
  · rcases h2.inew n hn with h3 | h3 | h3
    · exact h.inew n h3
    · exact .inr (hFc n h3)
    · exact .inr (.inr (Nat.le_trans h.sz h3))
  · rw [h2.fr n (Nat.lt_of_lt_of_le hn h.sz) (fun h3 => by rcases hFc n h3 with h4 | h4; exact hF h4; omega), h.fr n hn hF]

/-- Boxes under other names. -/
theorem Mem.relabel {w0 : World} {I0 F : Nat → Prop} {bx bx' : Bxs} {I : Nat → Prop} {β β' : Nat → Value} {w : World} (h : Mem w0 I0 F bx I β w) (σ : Nat → Nat)
    (h1 : ∀ k b, getB bx' k = some b → getB bx (σ k) = some b ∧ β' k = β (σ k) ∧ ∀ t, AV.hasL t b.cs = true → β' t = β t) (h2 : ∀ k j b c, getB bx' k = some b → getB bx' j = some c → σ k = σ j → k = j) : Mem w0 I0 F bx' I β' w := by
  refine ⟨fun k b hk => ?_, fun k b n hk hn => ?_, fun k j b c n hk hj hkn hjn => ?_, h.im, h.inew, h.kept, h.fr, h.sz, h.os, h.tape, h.out⟩
  · obtain ⟨e1, e2, e3⟩ := h1 k b hk
    rw [e2]
    exact (h.bxs _ b e1).mono (.refl w I) e3 fun _ _ => rfl
  · obtain ⟨e1, e2, _⟩ := h1 k b hk
    rw [e2] at hn
    exact h.sep _ b n e1 hn
  · obtain ⟨e1, e2, _⟩ := h1 k b hk
    obtain ⟨f1, f2, _⟩ := h1 j c hj
    rw [e2] at hkn
    rw [f2] at hjn
    exact h2 k j b c hk hj (h.inj _ _ b c n e1 f1 hkn hjn)

/-- At a function's head. -/
theorem Rel.enter {w : World} {I : Nat → Prop} {β : Nat → Value} {bi : Bxs} {args : List AV} {vs : List Value} (hm : Mem w I (Fp bi β) bi I β w) (hd : DenAs w I β args vs) (n : Nat) :
    Rel ⟨[], β⟩ w I (Fp bi β) (startS n args bi) I β { tmps := vs.toArray ++ Array.replicate (n - vs.toArray.size) undef, defers := [] } w := by
  refine ⟨hm, ?_, rfl, fun _ _ => rfl⟩
  simp only [startS, Array.toList_append, Array.toList_replicate]
  rw [hd.length]
  have := DenAs.anys (w := w) (I := I) (β := β) (List.replicate (n - vs.length) undef)
  simp only [List.length_replicate] at this
  exact hd.append (by simpa using this)

/-- A region that makes a function value and defers its call. -/
theorem wp_defer {P : Program} {id : Nat} {o1 o2 : Oper} {t : Nat} {g : FuncId} {caps : Array Operand} {Q : Exit → Act → World → Prop} {a : Act} {w : World} (h1 : o1.op = .makeFunc (.func g) #[] caps) (hd1 : o1.dst = some t) (hg1 : o1.guard = none)
    (h2 : o2.op = .defer ⟨.value (.tmp t), #[], #[]⟩) (hd2 : o2.dst = none) (hg2 : o2.guard = none) (ht : t < a.tmps.size)
    (h : Q .normal { a.put (some t) (.func (.func g) #[] (caps.map a.eval)) with defers := { target := .fn (.func g) (caps.map a.eval), args := #[] } :: a.defers } w) : (Code.region id #[o1, o2] false).wp P Q a w := by
  refine wp_region ?_
  have e1 : (execOp a.eval o1).run P w = .ok (.value (.func (.func g) #[] (caps.map a.eval))) w := by simp [execOp, h1, Instr.makeFunc]
  have hr : List.range #[o1, o2].size = [0, 1] := rfl
  have hv : (a.put (some t) (.func (.func g) #[] (caps.map a.eval))).eval (.tmp t) = .func (.func g) #[] (caps.map a.eval) := by simp [Act.eval, Act.put, ht]
  have e2 : (execOp (a.put (some t) (.func (.func g) #[] (caps.map a.eval))).eval o2).run P w = .ok (.defer { target := .fn (.func g) (caps.map a.eval), args := #[] }) w := by
    simp only [execOp, h2, resolve, hv]
    simp [Deferred.ofValue]
  rw [hr]
  simp only [wpOps, List.getElem?_toArray, List.getElem?_cons_zero, List.getElem?_cons_succ, Region.wanted, hg1, hg2, if_true, Oper.wp, e1, hd1, Oper.upon_value, e2, hd2, Oper.upon_defer]
  exact .inl (.inl h)

/-- Behind a call that never comes back anything holds. -/
theorem LCore.absurd {P : Program} {ds : Dn} {pn : Pn} {o : Oper} {S : St} (k : Nat) (hb : getB S.bx k = some botB) (e : Eff) : LCore P ds pn o S e [k] := by
  intro S1 hs _ w0 I0 F I β a w hr next Q hn hp
  have h := hs.2.2 k (by simp)
  rw [hb] at h
  obtain ⟨b, vs, _, _, hd, _⟩ := hr.mem.bxs k _ h
  obtain ⟨v, vs', _, h1, _⟩ := hd
  rw [DenA] at h1
  exact (bot_no h1).elim
theorem vcStop.absurd {P : Program} {ds : Dn} {pn : Pn} {o : Oper} {S : St} {acc : List TI} {rest : St → List TI → Prop} (k : Nat) (hb : getB S.bx k = some botB) (h : rest (S.app o.dst ⟨.d .any, [], [], []⟩) (⟨⟨.d .any, [], [], []⟩, [k]⟩ :: acc)) : vcStop P ds pn o rest S acc :=
  ⟨⟨.d .any, [], [], []⟩, [k], LCore.absurd k hb _, trivial, h⟩

theorem Mem.after {w0 : World} {I0 F : Nat → Prop} {bx cb bo : Bxs} {I I' : Nat → Prop} {β β' : Nat → Value} {w w' : World} (h : Mem w0 I0 F bx I β w) (hcb : ∀ k b, getB cb k = some b → getB bx k = some b)
    (h2 : Mem w I (Fp cb β) bo I' β' w') : Mem w0 I0 F bo I' β' w' := by
  have hFc : ∀ n, Fp cb β n → F n ∨ w0.heap.size ≤ n := fun n ⟨k, b, hk, hn⟩ => (h.sep k b n (hcb k b hk) hn).2
  refine ⟨h2.bxs, fun j b n hj hn => ⟨(h2.sep j b n hj hn).1, ?_⟩, h2.inj, h2.im, fun n hn => ?_, h.kept.trans h2.kept, fun n hn hF => ?_, Nat.le_trans h.sz h2.sz, h2.os.trans h.os, h2.tape.trans h.tape, h2.out.trans h.out⟩
  · rcases (h2.sep j b n hj hn).2 with h3 | h3
    · exact hFc n h3
    · exact .inr (Nat.le_trans h.sz h3)
  · rcases h2.inew n hn with h3 | h3 | h3
    · exact h.inew n h3
    · exact .inr (hFc n h3)
    · exact .inr (.inr (Nat.le_trans h.sz h3))
  · rw [h2.fr n (Nat.lt_of_lt_of_le hn h.sz) (fun h3 => by rcases hFc n h3 with h4 | h4; exact hF h4; omega), h.fr n hn hF]

/-- A row that is handed over as data. -/
theorem Fun.ofRow (k : Nat) {P : Program} {f : FuncId} {T : TypeId} {sz n : Nat} {cs : List D} {args args' : List AV} {bi bi' : Bxs} {res : AV} {bo : Bxs} {ok : List PanicEntry → Prop} (h : Fun P f args bi res bo ok)
    (hb : getB bi' k = some (.row T sz n (cs.map .d))) (ha : frzL k sz n cs args' = args) (hbi : subB (frzBx k sz n cs bi') bi) : Fun P f args' bi' res bo ok := by
  intro w I β vs hm hd
  have hr : Rel ⟨[], β⟩ w I (Fp bi' β) ⟨args', bi'⟩ I β { tmps := vs.toArray, defers := [] } w := ⟨hm, by simpa using hd, rfl, fun _ _ => rfl⟩
  obtain ⟨I1, β1, hr1⟩ := Wk.freeze hb _ _ _ _ _ _ _ _ hr
  have hm1 := hr1.mem.start (cb := bi) (subB_ok hbi)
  have hd1 := hr1.sl
  simp only [ha] at hd1
  refine Calls.mono (h w I1 β1 vs hm1 (by simpa using hd1)) fun e w' he => ?_
  cases e with
  | returned v =>
    obtain ⟨I', β', h1, h2, h3⟩ := he
    exact ⟨I', β', hr1.mem.after (subB_ok hbi) h1, h2, fun j hj => (h3 j hj).trans (hr1.fx j hj)⟩
  | panicked ch =>
    obtain ⟨h0, I', β', h1⟩ := he
    exact ⟨h0, I', β', hr1.mem.after (subB_ok hbi) h1⟩
  | outgrown => exact he

/-- Arguments that say more. -/
theorem Fun.args {P : Program} {f : FuncId} {args args' : List AV} {bi : Bxs} {res : AV} {bo : Bxs} {ok : List PanicEntry → Prop} (h : Fun P f args bi res bo ok) (hl : LeqL args' args) : Fun P f args' bi res bo ok :=
  fun w I β vs hm hd => h w I β vs hm (hl.ok hd)
theorem vcStop.call0L {P : Program} {ds : Dn} {pn : Pn} {o : Oper} {S : St} {acc : List TI} {rest : St → List TI → Prop} {fx : Operand} {args : Array Operand} {ts : Array TypeId} {f : FuncId} {first caps : List AV} {cargs : List D} {cres : D}
    (hb : Body P f) (hc : Fn0 P f cargs cres) (ho : o.op = .call ⟨.value fx, args, ts⟩) (hf : fnOf (S.ev fx) = some (f, first, caps))
    (hargs : LeqL (first ++ args.toList.map S.ev ++ caps) (cargs.map .d)) (h : rest (S.put o.dst (.d cres)) (⟨⟨.d cres, [], [], []⟩, []⟩ :: acc)) : vcStop P ds pn o rest S acc :=
  ⟨_, _, LCore.call0 ho hf hb hc hargs, trivial, h⟩
theorem vcStopG.call0L {P : Program} {ds : Dn} {pn : Pn} {o : Oper} {g : Bool} {S : St} {acc : List TI} {rest : St → List TI → Prop} {fx : Operand} {args : Array Operand} {ts : Array TypeId} {f : FuncId} {first caps : List AV} {cargs : List D} {cres : D}
    (hb : Body P f) (hc : g = true → Fn0 P f cargs cres) (ho : o.op = .call ⟨.value fx, args, ts⟩) (hf : g = true → fnOf ((S.under g).ev fx) = some (f, first, caps))
    (hargs : g = true → LeqL (first ++ args.toList.map (S.under g).ev ++ caps) (cargs.map .d)) (h : rest (S.put o.dst (.when g (.d cres))) (⟨⟨.when g (.d cres), [], [], []⟩, []⟩ :: acc)) : vcStopG P ds pn o rest g S acc :=
  ⟨_, _, fun hg => LCore.call0 ho (hf hg) hb (hc hg) (hargs hg), h⟩

@[simp] theorem Leq_dagg {l m : List D} (h : LeqL (l.map .d) (m.map .d)) : Leq (.d (.agg l)) (.d (.agg m)) ↔ True := ⟨fun _ => trivial, fun _ => ((Leq.ofAgg l).trans (Leq.agg h)).trans (Leq.aggD m)⟩

theorem DenAs_cc {w : World} {I : Nat → Prop} {β : Nat → Value} {c : AV} {cs : List AV} {v : Value} {vs : List Value} : DenAs w I β (c :: cs) (v :: vs) ↔ DenA w I β c v ∧ DenAs w I β cs vs := by
  rw [DenAs]
  exact ⟨fun ⟨v', vs', e, h1, h2⟩ => by cases e; exact ⟨h1, h2⟩, fun ⟨h1, h2⟩ => ⟨v, vs, rfl, h1, h2⟩⟩
theorem DenAs_nn {w : World} {I : Nat → Prop} {β : Nat → Value} : DenAs w I β [] [] ↔ True := by rw [DenAs]; simp
theorem DenA_anyT {w : World} {I : Nat → Prop} {β : Nat → Value} {y : Value} : DenA w I β (.d .any) y ↔ True := ⟨fun _ => trivial, fun _ => DenA_any _ _ _ _⟩

end Go.Xe
