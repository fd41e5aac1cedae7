/-
  The engine, part S. A nil slice as an empty row of the call's own.
-/
import Derived.Test.YtnbanfpelgcmoaaEngR
namespace Go.Xe
open Go.RowKit

theorem grownBy_self (w : World) (r : Option Nat) : w.grownBy w r := ⟨rfl, rfl, rfl, Nat.le_refl _, fun _ _ _ => rfl⟩

theorem set_self {α : Type} : ∀ {l : List α} {i : Nat} {x : α}, l[i]? = some x → l.set i x = l
  | [], _, _, h => by simp at h
  | a :: l, 0, x, h => by simp at h; subst h; rfl
  | a :: l, i + 1, x, h => by simp at h; simp [set_self h]

theorem Mem.addNil {w0 : World} {I0 F : Nat → Prop} {bx : Bxs} {I : Nat → Prop} {β : Nat → Value} {w : World} (h : Mem w0 I0 F bx I β w) {k : Nat} (hk : hasB k bx = false) (T : TypeId) (sz : Nat) :
    Mem w0 I0 F (setB bx k (.row T sz 0 [])) I (upd β k (.slice none 0 0)) w :=
  h.add hk ⟨[], World.ownsRow_nil w 0 T sz, rfl, by simp⟩ (fun n hn => by simp [blk] at hn)

/-- A slot that holds a nil slice holds an empty row. -/
theorem Wk.nilSlot {S : St} (t k : Nat) (T : TypeId) (sz : Nat) (ht : S.sl[t]? = some (.d (.v (.slice none 0 0)))) (hk : S.has k = false) : Wk S ⟨S.sl.set t (.row k), setB S.bx k (.row T sz 0 [])⟩ := fun ds w0 I0 F I β a w hr => by
  obtain ⟨hs, hb⟩ := St.has_sl' hk
  have hlt := St.has_lt hk
  refine ⟨I, upd β k (.slice none 0 0), hr.mem.addNil hb T sz, ?_, hr.dn, fun j hj => by rw [upd_other _ _ (by omega)]; exact hr.fx j hj⟩
  have h1 : DenAs w I (upd β k (.slice none 0 0)) S.sl a.tmps.toList := DenAs.mono (Kept.refl w I) _ _ (fun j hj => upd_other _ _ fun e => by subst e; rw [hs] at hj; cases hj) hr.sl
  obtain ⟨y, hy, hd⟩ := hr.sl.get ht
  rw [DenA_v] at hd
  subst hd
  have h2 := DenAs.set (x := .row k) (y := .slice none 0 0) (w := w) (I := I) (β := upd β k (.slice none 0 0)) (by rw [DenA, upd_same]; exact ⟨rfl, _, _, _, rfl⟩) h1 t
  rwa [show a.tmps.toList.set t (.slice none 0 0) = a.tmps.toList from by rw [set_self hy]] at h2

/-- A box's cell that holds a nil slice holds an empty row. -/
theorem Wk.nilCell {S : St} (j i k : Nat) (T : TypeId) (sz : Nat) {T' : TypeId} {cs : List AV} (hj : getB S.bx j = some (.cells T' cs)) (hi : cs[i]? = some (.d (.v (.slice none 0 0)))) (hk : S.has k = false) :
    Wk S ⟨S.sl, setB (setB S.bx k (.row T sz 0 [])) j (.cells T' (cs.set i (.row k)))⟩ := fun ds w0 I0 F I β a w hr => by
  obtain ⟨hs, hb⟩ := St.has_sl' hk
  have hlt := St.has_lt hk
  obtain ⟨hb1, hb2⟩ := hasB_get hb
  have hjk : k ≠ j := fun e => by subst e; rw [hb1] at hj; cases hj
  obtain ⟨b, vs, he, hh, hd, ho⟩ := hr.mem.bxs j _ hj
  have hm := hr.mem.addNil hb T sz
  have hj' : getB (setB S.bx k (.row T sz 0 [])) j = some (.cells T' cs) := by rw [getB_set, if_neg hjk]; exact hj
  have h1 : DenAs w I (upd β k (.slice none 0 0)) cs vs := DenAs.mono (Kept.refl w I) _ _ (fun q hq => upd_other _ _ fun e => by subst e; have := hb2 j _ hj; simp only [Box.cs] at this; rw [this] at hq; cases hq) hd
  obtain ⟨y, hy, hdy⟩ := hd.get hi
  rw [DenA_v] at hdy
  subst hdy
  have h2 := DenAs.set (x := .row k) (y := .slice none 0 0) (w := w) (I := I) (β := upd β k (.slice none 0 0)) (by rw [DenA, upd_same]; exact ⟨rfl, _, _, _, rfl⟩) h1 i
  rw [set_self hy] at h2
  refine ⟨I, upd β k (.slice none 0 0), hm.turn hj' (grownBy_self w _) ?_ ?_, ?_, hr.dn, fun q hq => by rw [upd_other _ _ (by omega)]; exact hr.fx q hq⟩
  · rw [upd_other _ _ (Ne.symm hjk), he]; simp [blk]
  · rw [upd_other _ _ (Ne.symm hjk)]; exact ⟨b, vs, he, hh, h2, ho⟩
  · exact DenAs.mono (Kept.refl w I) _ _ (fun q hq => upd_other _ _ fun e => by subst e; rw [hs] at hq; cases hq) hr.sl

/-! ### how a function ends, its boxes one by one -/
def finE (τ : Tab) (rs : List ResultVar) (res : AV) (bo : Bxs) (S : St) : Prop :=
  match resA τ S rs with
  | some (side, l) => side ∧ Leq (oneOr l) res ∧ subB S.bx bo
  | none => False
theorem finE.fin {τ : Tab} {rs : List ResultVar} {res : AV} {bo : Bxs} {S : St} (h : finE τ rs res bo S) : finD τ rs res bo S := by
  unfold finE at h
  unfold finD
  split at h
  · rename_i h1; rw [h1]; exact ⟨h.1, h.2.1, subB_ok h.2.2⟩
  · exact h.elim
theorem finQ.retE {τ : Tab} {rs : List ResultVar} {res : AV} {bo : Bxs} {S : St} (h : finE τ rs res bo S) : finQ τ rs res bo .ret S := finQ.ret h.fin
theorem finQ.retWE {τ : Tab} {rs : List ResultVar} {res : AV} {bo : Bxs} {S S' : St} (hw : Wk S S') (h : finE τ rs res bo S') : finQ τ rs res bo .ret S := finQ.retW hw h.fin
theorem finQ.normalE {τ : Tab} {rs : List ResultVar} {res : AV} {bo : Bxs} {S : St} (h : finE τ rs res bo S) : finQ τ rs res bo .normal S := finQ.normal h.fin
theorem finQ.normalWE {τ : Tab} {rs : List ResultVar} {res : AV} {bo : Bxs} {S S' : St} (hw : Wk S S') (h : finE τ rs res bo S') : finQ τ rs res bo .normal S := finQ.normalW hw h.fin
attribute [simp] finE

end Go.Xe
