/-
  The engine, part L. Conditions by reckoning; code; what a function does.
-/
import Derived.Test.YtnbanfpelgcmoaaEngK
import Derived.Test.YtnbanfpelgcmoaaEngP
set_option linter.unusedSimpArgs false
set_option linter.unusedVariables false
namespace Go.Xe
open Go.RowKit

/-! ### all operations -/
def opA (τ : Tab) (o : Oper) (S : St) : OpR :=
  match o.op with
  | .move x => okV (S.ev x)
  | .assign x => okV (S.ev x)
  | .pick c a b => opPick c a b S
  | .alloc T => opAlloc τ o.dst T S
  | .box T x => opBox o.dst T x S
  | .build T ps => opBuild τ T ps S
  | .buildSlice T n ps => opBuildSlice τ o.dst T n ps S
  | .load T a => opLoad τ T a S
  | .store T a x => opStore τ T a x S
  | .nilCheck x => opNil x S
  | .binOp op T x y _ => orE (opBin op x y S) (opEqB τ op T x y S)
  | .unOp op _ x => opUn op x S
  | .convert s d x => opConv τ s d x S
  | .makeInterface T x => opIface τ T x S
  | .makeFunc f a b => opFunc f a b S
  | .slice T x l h m => opSlice τ T x l h m S
  | .fieldAddr T x f => opFieldAddr τ T x f S
  | .field T x f => opField τ T x f S
  | .indexAddr T x i => opIdx τ T x i S
  | .index T x i => opIndex τ T x i S
  | .extract t i => opExtract t i S
  | .typeAssert x _ T b => opAssert τ x T b S
  | .call ⟨.builtin .len, ⟨[x]⟩, ⟨[T]⟩⟩ => opLen τ T x S
  | .call ⟨.builtin .append, ⟨[x, y]⟩, ⟨[T, T']⟩⟩ => if T = T' then opAppend τ o.dst T x y S else opAppendS τ o.dst T T' x y S
  | .call ⟨.builtin .max, ⟨[x, y]⟩, _⟩ => opMM true x y S
  | .call ⟨.builtin .min, ⟨[x, y]⟩, _⟩ => opMM false x y S
  | _ => none

theorem serves_opA {P : Program} {τ : Tab} (hτ : TabOk P τ) (o : Oper) : Serves P o (opA τ o) := by
  intro ds pn S side e fp h
  unfold opA at h
  split at h
  all_goals try (rename_i ho)
  · exact serves_move ho ds pn S side e fp h
  · exact serves_assign ho ds pn S side e fp h
  · exact serves_pick ho ds pn S side e fp h
  · exact serves_alloc hτ ho ds pn S side e fp h
  · exact serves_box ho ds pn S side e fp h
  · exact serves_build hτ ho ds pn S side e fp h
  · exact serves_buildSlice hτ ho ds pn S side e fp h
  · exact serves_load hτ ho ds pn S side e fp h
  · exact serves_store hτ ho ds pn S side e fp h
  · exact serves_nil ho ds pn S side e fp h
  · exact serves_orE (serves_bin ho) (serves_eqB hτ ho) ds pn S side e fp h
  · exact serves_un ho ds pn S side e fp h
  · exact serves_conv hτ ho ds pn S side e fp h
  · exact serves_iface hτ ho ds pn S side e fp h
  · exact serves_func ho ds pn S side e fp h
  · exact serves_slice hτ ho ds pn S side e fp h
  · exact serves_fieldAddr hτ ho ds pn S side e fp h
  · exact serves_field hτ ho ds pn S side e fp h
  · exact serves_idx hτ ho ds pn S side e fp h
  · exact serves_index hτ ho ds pn S side e fp h
  · exact serves_extract ho ds pn S side e fp h
  · exact serves_assert hτ ho ds pn S side e fp h
  · exact serves_len hτ ho ds pn S side e fp h
  · split at h
    · rename_i hT; subst hT; exact serves_append hτ ho ds pn S side e fp h
    · exact serves_appendS hτ ho ds pn S side e fp h
  · exact serves_mm true ho ds pn S side e fp h
  · exact serves_mm false ho ds pn S side e fp h
  · cases h

/-! ### conditions of a region, by reckoning -/
/-- A state (or another datum) that is reckoned with, while what its type names stays as it is written. -/
abbrev Kp {α : Sort _} (_ : α) : Type := St
abbrev Kp2 {α : Sort _} {β : Sort _} (_ : α) (_ : β) : Type := St
abbrev Ka2 {α : Sort _} {β : Sort _} (γ : Type _) (_ : α) (_ : β) : Type _ := γ

def freshS (S : St) : Bxs → Prop
  | [] => True
  | (k, _) :: r => S.has k = false ∧ freshS S r
theorem freshS_iff {S : St} : ∀ (l : Bxs), freshS S l ↔ ∀ p ∈ l, S.has p.1 = false
  | [] => by simp [freshS]
  | (k, b) :: r => by simp [freshS, freshS_iff r]

/-- Go on behind what an operation gives; 'other' where no rule of the engine's own serves. -/
def vc1 (dst : Option Tmp) (rest : St → List TI → Prop) (other : Prop) (S : Kp2 rest other) (acc : Ka2 (List TI) rest other) (r : Ka2 OpR rest other) : Prop :=
  match r with
  | some (side, e, fp) => side ∧ freshS S e.add ∧ rest (S.app dst e) (⟨e, fp⟩ :: acc)
  | none => other
def vcG (dst : Option Tmp) (rest : St → List TI → Prop) (other : Prop) (g : Bool) (S : Kp2 rest other) (acc : Ka2 (List TI) rest other) (r : Ka2 OpR rest other) : Prop :=
  match r with
  | some (side, ⟨v, [], [], []⟩, fp) => (g = true → side) ∧ rest (S.put dst (.when g v)) (⟨⟨.when g v, [], [], []⟩, fp⟩ :: acc)
  | _ => other
/-- Where no rule of the engine's own serves (a call, say). -/
def vcStop (P : Program) (ds : Dn) (pn : Pn) (o : Oper) (rest : St → List TI → Prop) (S : Kp2 (P, ds, o) (rest, pn)) (acc : List TI) : Prop :=
  ∃ e fp, LCore P ds pn o S e fp ∧ freshS S e.add ∧ rest (S.app o.dst e) (⟨e, fp⟩ :: acc)
def vcStopG (P : Program) (ds : Dn) (pn : Pn) (o : Oper) (rest : St → List TI → Prop) (g : Bool) (S : Kp2 (P, ds, o) (rest, pn)) (acc : List TI) : Prop :=
  ∃ v fp, (g = true → LCore P ds pn o (S.under g) ⟨v, [], [], []⟩ fp) ∧ rest (S.put o.dst (.when g v)) (⟨⟨.when g v, [], [], []⟩, fp⟩ :: acc)
def vcB (f : Bool → Prop) (r : Ka2 (Option Bool) f f) : Prop :=
  match r with
  | some g => f g
  | none => False

def gL : List (Option Tmp) → Nat → Option Tmp
  | [], _ => none
  | x :: _, 0 => x
  | _ :: l, n + 1 => gL l n
theorem gL_eq : ∀ (l : List (Option Tmp)) (j : Nat), gL l j = (l[j]?).bind id
  | [], j => by simp [gL]
  | x :: l, 0 => by simp [gL]
  | x :: l, n + 1 => by rw [gL, gL_eq l n]; simp

def vcOps (P : Program) (ds : Dn) (pn : Pn) (τ : Tab) (G : List (Option Tmp)) (K : List TI → St → Prop) : (os : List Oper) → (S : Kp2 (P, ds, pn, os) (τ, G, K)) → (acc : List TI) → Prop
  | [], S, acc => K acc.reverse S
  | o :: os, S, acc =>
    match o.guard with
    | none => vc1 o.dst (fun S' acc' => vcOps P ds pn τ G K os S' acc') (vcStop P ds pn o (fun S' acc' => vcOps P ds pn τ G K os S' acc') S acc) S acc (opA τ o S)
    | some (j, want) => vcB (fun g =>
        vcG o.dst (fun S' acc' => vcOps P ds pn τ G K os S' acc') (vcStopG P ds pn o (fun S' acc' => vcOps P ds pn τ G K os S' acc') g S acc) g S acc (opA τ o (S.under g)))
        ((gL G j).bind fun t => gBool want (S.at t))

theorem vcOps.run {P : Program} {ds : Dn} {pn : Pn} {τ : Tab} (hτ : TabOk P τ) {G : List (Option Tmp)} {K : List TI → St → Prop} : ∀ (os : List Oper) (S : St) (acc : List TI), vcOps P ds pn τ G K os S acc → RunD P ds pn G os S acc K
  | [], S, acc, h => h
  | o :: os, S, acc, h => by
    unfold vcOps at h
    cases hg : o.guard with
    | none =>
      rw [hg] at h
      simp only at h
      cases hr : opA τ o S with
      | none =>
        rw [hr] at h
        obtain ⟨e, fp, hl, hf, hrest⟩ := h
        exact ⟨e, fp, .of_core hg hl, (freshS_iff _).1 hf, vcOps.run hτ os _ _ hrest⟩
      | some r =>
        obtain ⟨side, e, fp⟩ := r
        rw [hr] at h
        obtain ⟨hs, hf, hrest⟩ := h
        exact ⟨e, fp, .of_core hg (serves_opA hτ o ds pn S side e fp hr hs), (freshS_iff _).1 hf, vcOps.run hτ os _ _ hrest⟩
    | some q =>
      obtain ⟨j, want⟩ := q
      rw [hg] at h
      simp only [gL_eq] at h
      cases hj : (G[j]?).bind id with
      | none => rw [hj] at h; exact h.elim
      | some t =>
        rw [hj, Option.bind_some] at h
        cases hb : gBool want (S.at t) with
        | none => rw [hb] at h; exact h.elim
        | some g =>
          rw [hb] at h
          simp only [vcB] at h
          have other : (∃ v fp, (g = true → LCore P ds pn o (S.under g) ⟨v, [], [], []⟩ fp) ∧ vcOps P ds pn τ G K os (S.put o.dst (.when g v)) (⟨⟨.when g v, [], [], []⟩, fp⟩ :: acc)) → RunD P ds pn G (o :: os) S acc K := by
            rintro ⟨v, fp, hl, hrest⟩
            exact ⟨⟨.when g v, [], [], []⟩, fp, .of_guard hg hj hb hl, by simp, vcOps.run hτ os _ _ hrest⟩
          unfold vcG at h
          split at h
          · rename_i side v fp hr
            exact other ⟨v, fp, fun hgt => serves_opA hτ o ds pn (S.under g) side _ fp hr (h.1 hgt), h.2⟩
          · exact other h

/-! ### code -/
/-- What is asked behind a piece of code. -/
def PostA (P : Program) (ds : Dn) (pn : Pn) (w0 : World) (I0 F : Nat → Prop) (Q : Exit → St → Prop) : Exit → Act → World → Prop
  | .panic ch, a, w => pn.ok ch ∧ ∃ bx I β, PRel ds w0 I0 F pn bx I β a w
  | .outgrown, _, _ => False
  | e, a, w => ∃ S I β, Q e S ∧ Rel ds w0 I0 F S I β a w

def WP (P : Program) (ds : Dn) (pn : Pn) (c : Code) (Q : Exit → St → Prop) (S : Kp2 (P, ds, pn) (c, Q)) : Prop :=
  ∀ w0 I0 F I β a w, Rel ds w0 I0 F S I β a w → c.wp P (PostA P ds pn w0 I0 F Q) a w

section
variable {P : Program} {ds : Dn} {pn : Pn} {Q : Exit → St → Prop} {S : St}

theorem WP.skip (h : Q .normal S) : WP P ds pn .skip Q S := fun _ _ _ I β a w hr => wp_skip (Q := PostA P ds pn _ _ _ Q) ⟨S, I, β, h, hr⟩
theorem WP.exit {id : Nat} (h : Q (.exit id) S) : WP P ds pn (.exit id) Q S := fun _ _ _ I β a w hr => wp_exit (Q := PostA P ds pn _ _ _ Q) ⟨S, I, β, h, hr⟩
theorem WP.ret (h : Q .ret S) : WP P ds pn .ret Q S := fun _ _ _ I β a w hr => wp_ret (Q := PostA P ds pn _ _ _ Q) ⟨S, I, β, h, hr⟩
theorem WP.mono {c : Code} {Q' : Exit → St → Prop} (h : WP P ds pn c Q S) (hq : ∀ e S, Q e S → Q' e S) : WP P ds pn c Q' S := fun w0 I0 F I β a w hr =>
  wp_mono (h w0 I0 F I β a w hr) fun e a w hh => by
    cases e <;> first | exact hh | (obtain ⟨S, I, β, h1, h2⟩ := hh; exact ⟨S, I, β, hq _ _ h1, h2⟩)

/-- Behind the first of two pieces. -/
def seqQ (P : Program) (ds : Dn) (pn : Pn) (y : Code) (Q : Exit → St → Prop) (e : Exit) (S : Kp2 (P, ds, pn) (y, Q)) : Prop :=
  match e with
  | .normal => WP P ds pn y Q S
  | e => Q e S
theorem WP.seq {x y : Code} (h : WP P ds pn x (seqQ P ds pn y Q) S) : WP P ds pn (.seq x y) Q S := fun w0 I0 F I β a w hr =>
  wp_seq (wp_mono (h w0 I0 F I β a w hr) fun e a w hh => by
    cases e <;> first | exact hh | (obtain ⟨S, I, β, h1, h2⟩ := hh; first | exact h1 w0 I0 F I β a w h2 | exact ⟨S, I, β, h1, h2⟩))
theorem WP.cond {c : Operand} {x y : Code} {b : Bool} (hc : S.ev c = .d (.v (.bool b))) (ht : b = true → WP P ds pn x Q S) (hf : b = false → WP P ds pn y Q S) : WP P ds pn (.cond c x y) Q S := fun w0 I0 F I β a w hr => by
  have hv := hr.ev c
  rw [hc, DenA_v] at hv
  exact wp_cond_split hv (fun e => ht e w0 I0 F I β a w hr) (fun e => hf e w0 I0 F I β a w hr)
def blkQ (id : Nat) (Q : Exit → St → Prop) (e : Exit) (S : Kp Q) : Prop :=
  match e with
  | .exit id' => if id' = id then Q .normal S else Q (.exit id') S
  | e => Q e S
theorem WP.block {id : Nat} {c : Code} (h : WP P ds pn c (blkQ id Q) S) : WP P ds pn (.block id c) Q S := fun w0 I0 F I β a w hr =>
  wp_block (wp_mono (h w0 I0 F I β a w hr) fun e a w hh => by
    cases e with
    | exit id' =>
      obtain ⟨S, I, β, h1, h2⟩ := hh
      simp only [blkQ] at h1
      simp only [Exit.inBlock]
      split at h1
      · rename_i e; rw [if_pos e]; exact ⟨S, I, β, h1, h2⟩
      · rename_i e; rw [if_neg e]; exact ⟨S, I, β, h1, h2⟩
    | _ => exact hh)

theorem least_nat (p : Nat → Prop) (h : ∃ n, p n) : ∃ n, p n ∧ ∀ m, p m → n ≤ m := by
  obtain ⟨n, hn⟩ := h
  induction n using Nat.strongRecOn with
  | _ n ih =>
    by_cases hx : ∃ m, m < n ∧ p m
    · obtain ⟨m, hm, hp⟩ := hx; exact ih m hm hp
    · exact ⟨n, hn, fun m hm => by rcases Nat.lt_or_ge m n with h | h; exact absurd ⟨m, h, hm⟩ hx; exact h⟩

/-- A loop: 'Inv n' holds at its head, and n goes down. -/
def loopQ (Inv : Nat → St → Prop) (n : Nat) (Q : Exit → St → Prop) (e : Exit) (S : Kp2 Inv Q) : Prop :=
  match e with
  | .normal => ∃ m, m < n ∧ Inv m S
  | e => Q e S
theorem WP.loop {c : Code} (Inv : Nat → St → Prop) (n : Nat) (h0 : Inv n S) (round : ∀ n S, Inv n S → WP P ds pn c (loopQ Inv n Q) S) : WP P ds pn (.loop c) Q S := fun w0 I0 F I β a w hr => by
  let p : Act → World → Nat → Prop := fun a w n => ∃ S I β, Inv n S ∧ Rel ds w0 I0 F S I β a w
  have hp : ∀ a w, (∃ n, p a w n) → ∃ n, p a w n ∧ ∀ m, p a w m → n ≤ m := fun a w h => least_nat _ h
  have key : ∃ μ : Act → World → Nat, ∀ a w, (∃ n, p a w n) → p a w (μ a w) ∧ ∀ m, p a w m → μ a w ≤ m := by
    refine ⟨fun a w => Classical.epsilon fun n => p a w n ∧ ∀ m, p a w m → n ≤ m, fun a w h => ?_⟩
    exact Classical.epsilon_spec (hp a w h)
  obtain ⟨μ, hμ⟩ := key
  refine wp_loop (fun a w => ∃ n, p a w n) μ ⟨n, S, I, β, h0, hr⟩ fun a w hI => ?_
  obtain ⟨⟨S, I, β, hi, hr⟩, hmin⟩ := hμ a w hI
  refine wp_mono (round _ S hi w0 I0 F I β a w hr) fun e a' w' hh => ?_
  cases e with
  | normal =>
    obtain ⟨S', I', β', ⟨m, hm, hinv⟩, hr'⟩ := hh
    have hp' : p a' w' m := ⟨S', I', β', hinv, hr'⟩
    exact ⟨⟨m, hp'⟩, Nat.lt_of_le_of_lt ((hμ a' w' ⟨m, hp'⟩).2 m hp') hm⟩
  | _ => exact hh

/-- A loop whose head is reached up to a weaker state. -/
def loopW (W : St → St → Prop) (Inv : Nat → St → Prop) (n : Nat) (Q : Exit → St → Prop) (e : Exit) (S : Kp2 Inv Q) : Prop :=
  match e with
  | .normal => ∃ S', W S S' ∧ ∃ m, m < n ∧ Inv m S'
  | e => Q e S

theorem WP.region {τ : Tab} (hτ : TabOk P τ) {id : Nat} {l : List Oper} (h : vcOps P ds pn τ (l.map (·.dst)) (fun _ S' => Q .normal S') l S []) : WP P ds pn (.region id l.toArray false) Q S := fun w0 I0 F I β a w hr =>
  wp_region_list (RunD.sound (ops := l.toArray) (K := fun _ S' => Q .normal S') (fun ch a w hok hp => ⟨hok, hp⟩) l S [] I β a w (by simpa using vcOps.run hτ l S [] h) hr
    fun _ S' I' β' a' w' hq hr' => ⟨S', I', β', hq, hr'⟩)

theorem drawOk_new {tis : List TI} (h : freshS S (tis.flatMap fun t => t.e.add)) : ∀ t ∈ tis, ∀ p ∈ t.e.add, S.has p.1 = false := fun t ht p hp =>
  (freshS_iff _).1 h p (List.mem_flatMap.2 ⟨t, ht, hp⟩)

theorem WP.draw {τ : Tab} (hτ : TabOk P τ) (hm : P.follows .mixedOrders = true) {id : Nat} {l : List Oper} (h : vcOps P ds pn τ (l.map (·.dst)) (fun tis S' => freshS S (tis.flatMap fun t => t.e.add) ∧ drawOkT (pn.zs.map (·.1)) (l.map (·.dst)) l (tis.map TI.ts) = true ∧ Q .normal S') l S []) :
    WP P ds pn (.region id l.toArray true) Q S := fun w0 I0 F I β a w hr => by
  obtain ⟨ts, S', hp, hfr, hok, hq⟩ := PathD.of_run l S [] (vcOps.run hτ l S [] h)
  simp only [List.reverse_nil, List.nil_append] at hfr hok
  refine wp_region_any hm ?_
  have hnone : mix (fun j => (Array.replicate l.toArray.size false).getD j false) 0 l ts S = S := by
    have : ∀ j, (Array.replicate l.toArray.size false).getD j false = false := fun j => by
      by_cases hj : j < l.length <;> simp [Array.getD, hj]
    have gen : ∀ (os : List Oper) (ts : List TI) (k : Nat) (S : St), mix (fun j => (Array.replicate l.toArray.size false).getD j false) k os ts S = S := by
      intro os
      induction os with
      | nil => intro ts k S; rfl
      | cons o os ih =>
        intro ts k S
        cases ts with
        | nil => rfl
        | cons t ts =>
          simp only [mix]
          rw [if_neg (by rw [this]; exact Bool.false_ne_true)]
          exact ih ts (k + 1) S
    exact gen _ _ _ _
  exact draw_any (ops := l.toArray) (S := S) (S' := S') (ts := ts) (fun ch a w hok hp => ⟨hok, hp⟩) (by simpa using hp) (by simpa using drawOk_of hok) (drawOk_new hfr)
    (fun I' β' a' w' hr' => ⟨S', I', β', hq, hr'⟩) _ _ I β a _ (by simp) (by simp) (fun j o _ hj => by
      by_cases h : j < l.length <;> simp [Array.getD, h] at hj) (by rw [hnone]; exact hr.drew)
end

/-! ### what a function does -/
def Fp (bx : Bxs) (β : Nat → Value) (n : Nat) : Prop := ∃ k b, getB bx k = some b ∧ blk (β k) = some n

/-- Called with such arguments, the boxes 'bi' at hand, the function hands back 'res', and leaves the boxes 'bo'. -/
def Fun (P : Program) (f : FuncId) (args : List AV) (bi : Bxs) (res : AV) (bo : Bxs) (ok : List PanicEntry → Prop) : Prop :=
  ∀ w I β vs, Mem w I (Fp bi β) bi I β w → DenAs w I β args vs → Calls P f vs.toArray w fun
    | .returned v, w' => ∃ I' β', Mem w I (Fp bi β) bo I' β' w' ∧ DenA w' I' β' res v ∧ ∀ k, 1000 ≤ k → β' k = β k
    | .panicked ch, w' => ok ch ∧ ∃ I' β', Mem w I (Fp bi β) [] I' β' w'
    | .outgrown, _ => False

end Go.Xe
