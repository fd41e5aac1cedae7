/-
  The engine, part Q. A function that takes a row takes a nil slice too.
-/
import Derived.Test.YtnbanfpelgcmoaaEngO
namespace Go.Xe
open Go.RowKit

theorem Fun.nilRow {P : Program} {f : FuncId} {rest : List AV} {bi : Bxs} {res : AV} {bo : Bxs} {ok : List PanicEntry → Prop} {T : TypeId} {sz : Nat}
    (h : Fun P f (.row 1000 :: rest) ((1000, .row T sz 0 []) :: bi) res bo ok) (h1 : AV.hasL 1000 rest = false) (h2 : hasB 1000 bi = false) (h3 : hasB 1000 bo = false) (h4 : AV.has 1000 res = false) :
    Fun P f (.d (.v (.slice none 0 0)) :: rest) bi res bo ok := by
  intro w I β vs hm hd
  obtain ⟨v, vs', rfl, hv, hd'⟩ := hd
  rw [DenA_v] at hv
  subst hv
  obtain ⟨h2a, h2b⟩ := hasB_get h2
  obtain ⟨h3a, h3b⟩ := hasB_get h3
  have hb : ∀ k, k ≠ 1000 → upd β 1000 (.slice none 0 0) k = β k := fun k hk => upd_other _ _ hk
  have hF : ∀ n, Fp ((1000, .row T sz 0 []) :: bi) (upd β 1000 (.slice none 0 0)) n → Fp bi β n := by
    rintro n ⟨k, b, hk, hn⟩
    by_cases e : k = 1000
    · subst e; rw [upd_same] at hn; simp [blk] at hn
    · rw [hb k e] at hn
      simp only [getB, if_neg (Ne.symm e)] at hk
      exact ⟨k, b, hk, hn⟩
  have hF' : ∀ n, Fp bi β n → Fp ((1000, .row T sz 0 []) :: bi) (upd β 1000 (.slice none 0 0)) n := by
    rintro n ⟨k, b, hk, hn⟩
    have e : k ≠ 1000 := fun e => by subst e; rw [h2a] at hk; cases hk
    exact ⟨k, b, by simp only [getB, if_neg (Ne.symm e)]; exact hk, by rw [hb k e]; exact hn⟩
  have hFe : Fp ((1000, .row T sz 0 []) :: bi) (upd β 1000 (.slice none 0 0)) = Fp bi β := funext fun n => propext ⟨hF n, hF' n⟩
  have hm1 : Mem w I (Fp ((1000, .row T sz 0 []) :: bi) (upd β 1000 (.slice none 0 0))) ((1000, .row T sz 0 []) :: bi) I (upd β 1000 (.slice none 0 0)) w := by
    rw [hFe]
    refine ⟨fun k b hk => ?_, fun k b n hk hn => ?_, fun k j b c n hk hj hkn hjn => ?_, hm.im, hm.inew, hm.kept, hm.fr, hm.sz, hm.os, hm.tape, hm.out⟩
    · simp only [getB] at hk
      split at hk
      · rename_i e; subst e; cases hk
        rw [upd_same]
        exact ⟨[], World.ownsRow_nil w 0 T sz, rfl, by simp⟩
      · rename_i e
        rw [hb k (Ne.symm e)]
        refine (hm.bxs k b hk).mono (Kept.refl w I) (fun j hj => hb j fun e => ?_) (fun _ _ => rfl)
        subst e; rw [h2b k b hk] at hj; cases hj
    · simp only [getB] at hk
      split at hk
      · rename_i e; subst e; rw [upd_same] at hn; simp [blk] at hn
      · rename_i e; rw [hb k (Ne.symm e)] at hn; exact hm.sep k b n hk hn
    · simp only [getB] at hk hj
      split at hk
      · rename_i e; subst e; rw [upd_same] at hkn; simp [blk] at hkn
      · rename_i e
        rw [hb k (Ne.symm e)] at hkn
        split at hj
        · rename_i e2; subst e2; rw [upd_same] at hjn; simp [blk] at hjn
        · rename_i e2
          rw [hb j (Ne.symm e2)] at hjn
          exact hm.inj k j b c n hk hj hkn hjn
  have := h w I (upd β 1000 (.slice none 0 0)) (.slice none 0 0 :: vs') hm1 ⟨_, _, rfl, by rw [DenA, upd_same]; exact ⟨rfl, _, _, _, rfl⟩, DenAs.mono (Kept.refl w I) _ _ (fun k hk => hb k fun e => by subst e; rw [h1] at hk; cases hk) hd'⟩
  refine Calls.mono this fun e w' he => ?_
  rw [hFe] at he
  cases e with
  | returned v =>
    obtain ⟨I', β', hm', hr, hfx⟩ := he
    have hb' : ∀ k, k ≠ 1000 → upd β' 1000 (β 1000) k = β' k := fun k hk => upd_other _ _ hk
    refine ⟨I', upd β' 1000 (β 1000), ⟨fun k b hk => ?_, fun k b n hk hn => ?_, fun k j b c n hk hj hkn hjn => ?_, hm'.im, hm'.inew, hm'.kept, hm'.fr, hm'.sz, hm'.os, hm'.tape, hm'.out⟩, ?_, fun k hk => ?_⟩
    · have e : k ≠ 1000 := fun e => by subst e; rw [h3a] at hk; cases hk
      rw [hb' k e]
      refine (hm'.bxs k b hk).mono (Kept.refl w' I') (fun j hj => hb' j fun e => ?_) (fun _ _ => rfl)
      subst e; rw [h3b k b hk] at hj; cases hj
    · have e : k ≠ 1000 := fun e => by subst e; rw [h3a] at hk; cases hk
      rw [hb' k e] at hn
      exact hm'.sep k b n hk hn
    · have e : k ≠ 1000 := fun e => by subst e; rw [h3a] at hk; cases hk
      have e2 : j ≠ 1000 := fun e => by subst e; rw [h3a] at hj; cases hj
      rw [hb' k e] at hkn
      rw [hb' j e2] at hjn
      exact hm'.inj k j b c n hk hj hkn hjn
    · exact DenA.mono (Kept.refl w' I') _ _ (fun k hk => hb' k fun e => by subst e; rw [h4] at hk; cases hk) hr
    · by_cases e : k = 1000
      · subst e; exact upd_same _ _ _
      · rw [hb' k e, hfx k hk, hb k e]
  | panicked ch =>
    obtain ⟨h1, I', β', hm'⟩ := he
    exact ⟨h1, I', β', hm'⟩
  | outgrown => exact he

@[simp] theorem Leq_aggD {l : List AV} {ds : List D} (h : LeqL l (ds.map .d)) : Leq (.agg l) (.d (.agg ds)) ↔ True := ⟨fun _ => trivial, fun _ => (Leq.agg h).trans (Leq.aggD _)⟩
@[simp] theorem Leq_tupD {l : List AV} {ds : List D} (h : LeqL l (ds.map .d)) : Leq (.tup l) (.d (.tup ds)) ↔ True := ⟨fun _ => trivial, fun _ => (Leq.tup h).trans (Leq.tupD _)⟩

@[simp] theorem Leq_nil (sz : Nat) : Leq (.d (.v (.slice none 0 0))) (.d (.sl sz [] 0 false)) ↔ True := ⟨fun _ => trivial, fun _ => .nil sz⟩

/-- The same of a slice that is part of a slot's data. -/
theorem WP.len' {P : Program} {ds : Dn} {pn : Pn} {c : Code} {Q : Exit → St → Prop} {S : St} (x : Operand) (j : Nat) {ps : List D} {sz : Nat} {cs : List D} {n : Nat} {f : Bool} (hx : (S.ev x, ps[j]?) = (.d (.agg ps), some (.sl sz cs n f))) (h : n ≤ maxLen → WP P ds pn c Q S) : WP P ds pn c Q S := fun w0 I0 F I β a w hr => by
  have hv := hr.ev x
  obtain ⟨h1, h2⟩ := Prod.mk.inj hx
  rw [h1, DenA, Den] at hv
  obtain ⟨vs, _, hd⟩ := hv
  have hget : ∀ (ps : List D) (vs : List Value) (j : Nat), Dens w I ps vs → ps[j]? = some (.sl sz cs n f) → ∃ y, Den w I (.sl sz cs n f) y := by
    intro ps
    induction ps with
    | nil => intro vs j _ hj; simp at hj
    | cons p ps ih =>
      intro vs j hd hj
      rw [Dens] at hd
      obtain ⟨v, vs', _, hp, hd'⟩ := hd
      cases j with
      | zero => simp at hj; subst hj; exact ⟨v, hp⟩
      | succ j => exact ih vs' j hd' (by simpa using hj)
  obtain ⟨y, hy⟩ := hget ps vs j hd h2
  rw [Den] at hy
  obtain ⟨a', cap, _, h3, h4, _⟩ := hy
  exact h (Nat.le_trans h3 h4) w0 I0 F I β a w hr

end Go.Xe
