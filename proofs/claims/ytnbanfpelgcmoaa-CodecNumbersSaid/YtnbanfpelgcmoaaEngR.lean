/-
  The engine, part R. Panics: what never comes to an end.
-/
import Derived.Test.YtnbanfpelgcmoaaEngQ
import Derived.WalkSmall
namespace Go.Xe
open Go.RowKit

/-- Data that no value is: where a state asks for it, the code is never reached. -/
def botD : D := .sl 4 [] 1 false
def botB : Box := .cells 0 [.d botD]
theorem bot_no {w : World} {I : Nat → Prop} {v : Value} : ¬ Den w I botD v := by
  intro h
  rw [botD, Den] at h
  obtain ⟨a, cap, _, _, _, _, h1, _⟩ := h
  simp at h1
theorem WP.absurdB {P : Program} {ds : Dn} {pn : Pn} {c : Code} {Q : Exit → St → Prop} {S : St} (k : Nat) (hb : getB S.bx k = some botB) : WP P ds pn c Q S := fun w0 I0 F I β a w hr => by
  obtain ⟨b, vs, _, _, hd, _⟩ := hr.mem.bxs k _ hb
  obtain ⟨v, vs', _, h1, _⟩ := hd
  rw [DenA] at h1
  exact (bot_no h1).elim
theorem finQ.absurdB {τ : Tab} {rs : List ResultVar} {res : AV} {bo : Bxs} {e : Exit} {S : St} (k : Nat) (hb : getB S.bx k = some botB) (he : e = .normal ∨ e = .ret) (S' : St) (h : finD τ rs res bo S') : finQ τ rs res bo e S := by
  have hw : Wk S S' := fun ds w0 I0 F I β a w hr => by
    obtain ⟨b, vs, _, _, hd, _⟩ := hr.mem.bxs k _ hb
    obtain ⟨v, vs', _, h1, _⟩ := hd
    rw [DenA] at h1
    exact (bot_no h1).elim
  rcases he with rfl | rfl
  · exact ⟨S', hw, h.fin⟩
  · exact ⟨S', hw, h.fin⟩

theorem LCore.panic {P : Program} {ds : Dn} {pn : Pn} {o : Oper} {S : St} {x : Operand} {t : TypeId} {v : Value} (ho : o.op = .panic x) (hx : S.ev x = .d (.v (.iface t v))) (hok : pn.ok [{ v := .iface t v, recovered := false }])
    (hz : ∀ p ∈ pn.zs, S.at p.1 = p.2) (e : Eff) (fp : List Nat) : LCore P ds pn o S e fp := by
  intro S1 hs _ w0 I0 F I β a w hr next Q hn hp
  have ex := hs.1 x (by simp [ho, Op.operands])
  have hv := hr.ev x
  rw [ex, hx, DenA_v] at hv
  have hrun : (execOp a.eval o).run P w = .halt (.panic (.iface t v)) w := by
    simp [execOp, ho, hv, run_panic_iface]
  unfold Oper.wp
  rw [hrun, Oper.upon_panic]
  refine hp _ I β w hok ⟨hr.mem.sub fun k b hk => ?_, hr.dn, fun p hpz => ?_⟩
  · have : ∀ (bx : Bxs), getB (keepB bx pn.Z) k = some b → getB bx k = some b := by
      intro bx
      induction bx with
      | nil => intro h; cases h
      | cons q r ih =>
        obtain ⟨j, c⟩ := q
        simp only [keepB]
        intro h
        split at h
        · simp only [getB] at h ⊢
          split at h
          · rename_i e; rw [if_pos e]; exact h
          · rename_i e; rw [if_neg e]; exact ih h
        · rename_i hz
          have h2 := ih h
          by_cases e : j = k
          · subst e
            exfalso
            have : ∀ (bx : Bxs), getB (keepB bx pn.Z) j ≠ some b := by
              intro bx
              induction bx with
              | nil => intro h; cases h
              | cons q r ih2 =>
                obtain ⟨i, d⟩ := q
                simp only [keepB]
                split
                · rename_i hz2
                  simp only [getB]
                  split
                  · rename_i e; subst e; exact absurd hz2 hz
                  · exact ih2
                · exact ih2
            exact this r h
          · simp only [getB, if_neg e]; exact h2
    exact this _ hk
  · have := hr.ev (.tmp p.1)
    simp only [St.ev] at this
    rw [hs.2.1 p hpz, hz p hpz] at this
    exact this

theorem vcStop.panic {P : Program} {ds : Dn} {pn : Pn} {o : Oper} {S : St} {acc : List TI} {rest : St → List TI → Prop} {x : Operand} {t : TypeId} {v : Value} (k : Nat) (ho : o.op = .panic x) (hx : S.ev x = .d (.v (.iface t v)))
    (hok : pn.ok [{ v := .iface t v, recovered := false }]) (hz : ∀ p ∈ pn.zs, S.at p.1 = p.2) (hk : S.has k = false) (h : rest (S.app o.dst ⟨.d .any, [], [], [(k, botB)]⟩) (⟨⟨.d .any, [], [], [(k, botB)]⟩, []⟩ :: acc)) : vcStop P ds pn o rest S acc :=
  ⟨⟨.d .any, [], [], [(k, botB)]⟩, [], LCore.panic ho hx hok hz _ _, ⟨hk, trivial⟩, h⟩

end Go.Xe
