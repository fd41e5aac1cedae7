/-
  The numbers of a fact.
-/
import Derived.Test.YtnljenjcaeophaaGreatDoorSFd
import Derived.Test.YtnljenjcaeophaaGreatDoorS4
set_option linter.unusedVariables false
set_option linter.unusedSimpArgs false
set_option linter.unusedSectionVars false
namespace Go.Proofs.YtnljenjcaeophaaGreatDoor
open Go.Xe Go.RowKit
def fOk (f : Nat → Int) : Prop := (∀ i, isI (f i)) ∧ (f 54 = 0 ∨ f 54 = 1) ∧ ∀ i, 57 ≤ i → f i = 0
def iD : List Int → List D
 | [] => []
 | x :: l => .v (.int .i64 x) :: iD l
@[simp] theorem iD_nil : iD [] = [] := rfl
@[simp] theorem iD_cons (x : Int) (l : List Int) : iD (x :: l) = .v (.int .i64 x) :: iD l := rfl
@[simp] theorem iD_append : ∀ a b : List Int, iD (a ++ b) = iD a ++ iD b
 | [], _ => rfl
 | x :: a, b => by rw [List.cons_append, iD, iD, iD_append a b]; rfl
@[simp] theorem iD_length : ∀ a : List Int, (iD a).length = a.length
 | [] => rfl
 | x :: a => by rw [iD, List.length_cons, iD_length a, List.length_cons]
@[simp] def slI (l : List Int) : D := .sl 1 (iD l) l.length false
def valE (f : Nat → Int) (s : Int) (e : Ent) : Int := match e.1 with
 | some o => f o
 | none => s
def inE (f : Nat → Int) (s : Int) (e : Ent) : Bool := decide (e.2.1 ≤ valE f s e) && decide (valE f s e ≤ e.2.2)
def wrE (f : Nat → Int) (g : Nat → Int) (e : Ent) : Nat → Int := match e.1 with
 | some o => fup g o (f o)
 | none => g
def wrL (f : Nat → Int) (g : Nat → Int) : List Ent → Nat → Int
 | [] => g
 | e :: r => wrL f (wrE f g e) r
def flE (s : Int) (x : Int) (e : Ent) : Int := match e.1 with
 | some _ => x
 | none => s
def flL (s x : Int) : List Ent → Int
 | [] => x
 | e :: r => flL s (flE s x e) r
theorem wrL_append (f g : Nat → Int) : ∀ (A B : List Ent), wrL f g (A ++ B) = wrL f (wrL f g A) B
 | [], _ => rfl
 | e :: A, B => by rw [List.cons_append, wrL, wrL, wrL_append]
theorem flL_append (s x : Int) : ∀ (A B : List Ent), flL s x (A ++ B) = flL s (flL s x A) B
 | [], _ => rfl
 | e :: A, B => by rw [List.cons_append, flL, flL, flL_append]
def entOk (e : Ent) : Bool := match e.1 with
 | some o => decide (o < 57) && !decide (o = 54)
 | none => true
theorem head_entOk : headE.all entOk = true := by decide
theorem ents_entOk {k r : Int} {E : List Ent} (h : ents k r = some E) : E.all entOk = true := by
 rcases kind_of h with h' | h' | h' | h' | h' | h' | h' | h' | h' | h' | h' | h' | h' <;> subst h' <;> simp [ents] at h <;> subst h <;> (try (decide; done))
 unfold entsR
 split <;> split <;> (try split) <;> decide
theorem entA_at (kf ks : Nat) (A1 : List Ent) (e : Ent) (A2 : List Ent) : ((entA kf ks (A1 ++ e :: A2)).drop (A1.length * 3)).take 3 = [locA kf ks e.1, .d (.v (.int .i64 e.2.1)), .d (.v (.int .i64 e.2.2))] := by
 rw [ent_append, ← ent_length kf ks A1, List.drop_left]
 obtain ⟨o, lo, hi⟩ := e
 rfl
theorem entA_atL (kf ks : Nat) (A1 : List Ent) (e : Ent) (A2 : List Ent) : atL (entA kf ks (A1 ++ e :: A2)) (A1.length * 3) = locA kf ks e.1 := by
 rw [← atL_eq, ent_append, ← ent_length kf ks A1, List.getElem?_append_right (Nat.le_refl _), Nat.sub_self]
 obtain ⟨o, lo, hi⟩ := e
 rfl
def susp (f : Nat → Int) : Int := if f 54 = 1 then 1 else 0
def rest0 (f : Nat → Int) : Nat → Int := fup (fup f0 49 (f 49)) 3 (f 3)
def rest1 (f : Nat → Int) (g : Nat → Int) (fl : Int) : Nat → Int := fup (if f 3 = 10 then g else fup g 49 0) 54 (if fl = 1 then 1 else 0)
def fine (f : Nat → Int) : Bool :=
 if f 3 = 4 then decide (f 27 ≤ f 28) else if f 3 = 5 then decide (f 31 ≤ f 32) else if f 3 = 6 then decide (f 35 ≤ f 36) else if f 3 = 7 then decide (f 37 < f 38) else true
def eqF (g f : Nat → Int) : Bool := (List.range 57).all fun i => decide (g i = f i)
def numF (f : Nat → Int) : List Int × Bool :=
 match ents (f 3) (f 49) with
 | none => ([], false)
 | some E => if (fine f && (headE ++ E).all (inE f (susp f))) = true then ((headE ++ E).map (valE f (susp f)), eqF (rest1 f (wrL f (rest0 f) (headE ++ E)) (flL (susp f) 0 (headE ++ E))) f) else ([], false)
/-! ### a fact's cells, by its type -/
def isI64 : IntKind → Bool
 | .i64 => true
 | _ => false
def fitG (τ : Tab) : Nat → Nat → Nat → Bool
 | 0, _, _ => false
 | n + 1, T, o => match τ T with
  | some ⟨.int k, sz, _, _⟩ => (decide (sz = 1) && decide (o ≠ 54)) && isI64 k
  | some ⟨.bool, sz, _, _⟩ => decide (sz = 1) && decide (o = 54)
  | some ⟨.struct fs, sz, _, _⟩ => contig τ 0 fs sz && fs.all fun f => fitG τ n f.2 (o + f.1)
  | _ => false
theorem fcs_append (g : Nat → Int) (a m k : Nat) : fcs g a m ++ fcs g (a + m) k = fcs g a (m + k) := by
 rw [fcs, fcs, fcs, ← List.map_append, List.range'_append_1]
theorem fcs_flat {τ : Tab} (g : Nat → Int) (o : Nat) : ∀ (fs : List (Nat × Nat)) (off n : Nat), contig τ off fs n = true → off ≤ n ∧ (fs.map fun f => fcs g (o + f.1) (tsz τ f.2)).flatten = fcs g (o + off) (n - off)
 | [], off, n, hc => by
  simp only [contig, decide_eq_true_eq] at hc
  subst hc
  simp [fcs]
 | (a, T) :: fs, off, n, hc => by
  simp only [contig, Bool.and_eq_true, decide_eq_true_eq] at hc
  obtain ⟨rfl, hc⟩ := hc
  obtain ⟨h1, h2⟩ := fcs_flat g o fs _ _ hc
  refine ⟨by omega, ?_⟩
  rw [List.map_cons, List.flatten_cons, h2, ← Nat.add_assoc, fcs_append]
  congr 1
  show tsz τ T + (n - (a + tsz τ T)) = n - a
  omega
theorem fit_ok {τ : Tab} {g : Nat → Int} (hg : ∀ i, isI (g i)) : ∀ (n T o : Nat), fitG τ n T o = true → OkD τ n T (fcs g o (tsz τ T)) := by
 intro n
 induction n with
 | zero => intro T o h; cases h
 | succ n ih =>
  intro T o h
  unfold fitG at h
  unfold OkD tsz
  cases ht : τ T with
  | none => rw [ht] at h; cases h
  | some te =>
   obtain ⟨k, sz, byt, zero⟩ := te
   rw [ht] at h
   cases k <;> simp only [Bool.and_eq_true, decide_eq_true_eq] at h ⊢
   case int k =>
    obtain ⟨⟨rfl, ho⟩, hk⟩ := h
    have : k = .i64 := by cases k <;> first | rfl | cases hk
    subst this
    exact ⟨g o, by simp [fcs, ho], hg o⟩
   case bool =>
    obtain ⟨rfl, rfl⟩ := h
    exact ⟨_, by simp [fcs]; rfl⟩
   case struct fs =>
    obtain ⟨hc, ha⟩ := h
    obtain ⟨_, h2⟩ := fcs_flat g o fs 0 sz hc
    refine ⟨fs.map fun f => fcs g (o + f.1) (tsz τ f.2), by rw [h2]; simp, by simp, fun i x f hx hf => ?_⟩
    rw [List.getElem?_map, hf] at hx
    cases hx
    exact ih f.2 (o + f.1) (List.all_eq_true.1 ha f (List.mem_of_getElem? hf))
   all_goals cases h
def okCell (p : Nat) (d : D) : Prop := if p = 54 then ∃ b, d = .v (.bool b) else ∃ x, d = .v (.int .i64 x) ∧ isI x
theorem fit_len {τ : Tab} : ∀ (n T o : Nat) (ds : List D), fitG τ n T o = true → OkD τ n T ds → ds.length = tsz τ T := by
 intro n
 induction n with
 | zero => intro T o ds h; cases h
 | succ n ih =>
  intro T o ds h hk
  unfold fitG at h
  unfold OkD at hk
  unfold tsz
  cases ht : τ T with
  | none => rw [ht] at h; cases h
  | some te =>
   obtain ⟨k, sz, byt, zero⟩ := te
   rw [ht] at h hk
   cases k <;> simp only [Bool.and_eq_true, decide_eq_true_eq] at h hk ⊢
   case int k => obtain ⟨x, rfl, _⟩ := hk; simp [h.1.1]
   case bool => obtain ⟨x, rfl⟩ := hk; simp [h.1]
   case struct fs =>
    obtain ⟨hc, ha⟩ := h
    obtain ⟨l, rfl, hl, hx⟩ := hk
    have := flat_len fs 0 sz l hc hl fun i x f hxi hf => ih f.2 (o + f.1) x (List.all_eq_true.1 ha f (List.mem_of_getElem? hf)) (hx i x f hxi hf)
    omega
   all_goals cases h
theorem flat_cells {τ : Tab} {o : Nat} {Q : Nat → D → Prop} : ∀ (fs : List (Nat × Nat)) (off n : Nat) (l : List (List D)), contig τ off fs n = true → l.length = fs.length → (∀ (i : Nat) (x : List D) (f : Nat × Nat), l[i]? = some x → fs[i]? = some f → x.length = tsz τ f.2) →
  (∀ (i : Nat) (x : List D) (f : Nat × Nat), l[i]? = some x → fs[i]? = some f → ∀ j d, x[j]? = some d → Q (o + f.1 + j) d) → ∀ j d, l.flatten[j]? = some d → Q (o + off + j) d
 | [], off, n, l, _, hl, _, _, j, d, hd => by
  have : l = [] := List.eq_nil_of_length_eq_zero hl
  subst this
  simp at hd
 | (a, T) :: fs, off, n, l, hc, hl, hlen, h, j, d, hd => by
  cases l with
  | nil => cases hl
  | cons x l =>
   simp only [contig, Bool.and_eq_true, decide_eq_true_eq] at hc
   obtain ⟨rfl, hc⟩ := hc
   have h0 := hlen 0 x (a, T) rfl rfl
   rw [List.flatten_cons] at hd
   by_cases hj : j < x.length
   ·rw [List.getElem?_append_left hj] at hd
    exact h 0 x (a, T) rfl rfl j d hd
   ·rw [List.getElem?_append_right (by omega)] at hd
    have := flat_cells (Q := Q) (o := o) fs (a + tsz τ T) n l hc (by simpa using hl) (fun i y f hy hf => hlen (i + 1) y f (by simpa using hy) (by simpa using hf)) (fun i y f hy hf => h (i + 1) y f (by simpa using hy) (by simpa using hf)) _ d hd
    simp only at h0
    rw [h0] at this
    rwa [show o + (a + tsz τ T) + (j - tsz τ T) = o + a + j by omega] at this
theorem fit_cells {τ : Tab} : ∀ (n T o : Nat) (ds : List D), fitG τ n T o = true → OkD τ n T ds → ∀ j d, ds[j]? = some d → okCell (o + j) d := by
 intro n
 induction n with
 | zero => intro T o ds h; cases h
 | succ n ih =>
  intro T o ds h hk
  unfold fitG at h
  unfold OkD at hk
  cases ht : τ T with
  | none => rw [ht] at h; cases h
  | some te =>
   obtain ⟨k, sz, byt, zero⟩ := te
   rw [ht] at h hk
   cases k <;> simp only [Bool.and_eq_true, decide_eq_true_eq] at h hk
   case int k =>
    obtain ⟨⟨rfl, ho⟩, hki⟩ := h
    have : k = .i64 := by cases k <;> first | rfl | cases hki
    subst this
    obtain ⟨x, rfl, hx⟩ := hk
    intro j d hd
    cases j with
    | zero => simp at hd; subst hd; rw [okCell, Nat.add_zero, if_neg ho]; exact ⟨x, rfl, hx⟩
    | succ j => simp at hd
   case bool =>
    obtain ⟨rfl, rfl⟩ := h
    obtain ⟨x, rfl⟩ := hk
    intro j d hd
    cases j with
    | zero => simp at hd; subst hd; rw [okCell, if_pos rfl]; exact ⟨x, rfl⟩
    | succ j => simp at hd
   case struct fs =>
    obtain ⟨hc, ha⟩ := h
    obtain ⟨l, rfl, hl, hx⟩ := hk
    have := flat_cells (Q := okCell) (o := o) fs 0 sz l hc hl (fun i x f hxi hf => fit_len n f.2 (o + f.1) x (List.all_eq_true.1 ha f (List.mem_of_getElem? hf)) (hx i x f hxi hf))
     (fun i x f hxi hf j d hd => ih f.2 (o + f.1) x (List.all_eq_true.1 ha f (List.mem_of_getElem? hf)) (hx i x f hxi hf) j d hd)
    simpa using this
   all_goals cases h
theorem fit47 : fitG Tryz.τ 3 65 0 = true := by decide
theorem okF {g : Nat → Int} (h : ∀ i, isI (g i)) : OkD Tryz.τ 3 65 (fcs g 0 57) := fit_ok h 3 65 0 fit47
def ofCells (ds : List D) (i : Nat) : Int := match ds[i]? with
 | some (.v (.int _ x)) => x
 | some (.v (.bool b)) => if b then 1 else 0
 | _ => 0
theorem fitG_up {τ : Tab} : ∀ (n m T o : Nat), n ≤ m → fitG τ n T o = true → fitG τ m T o = true := by
 intro n
 induction n with
 | zero => intro m T o _ h; cases h
 | succ n ih =>
  intro m T o hm h
  cases m with
  | zero => omega
  | succ m =>
   unfold fitG at h ⊢
   cases ht : τ T with
   | none => rw [ht] at h; cases h
   | some te =>
    obtain ⟨k, sz, byt, zero⟩ := te
    rw [ht] at h
    cases k <;> simp only [Bool.and_eq_true, decide_eq_true_eq] at h ⊢ <;> first | exact h | skip
    case struct fs =>
     refine ⟨h.1, List.all_eq_true.2 fun f hf => ih m f.2 (o + f.1) (by omega) (List.all_eq_true.1 h.2 f hf)⟩
theorem okD_up {τ : Tab} : ∀ (n m T : Nat) (ds : List D), n ≤ m → OkD τ n T ds → OkD τ m T ds := by
 intro n
 induction n with
 | zero => intro m T ds _ h; exact h.elim
 | succ n ih =>
  intro m T ds hm h
  cases m with
  | zero => omega
  | succ m =>
   unfold OkD at h ⊢
   cases ht : τ T with
   | none => rw [ht] at h; exact h.elim
   | some te =>
    obtain ⟨k, sz, byt, zero⟩ := te
    rw [ht] at h
    cases k <;> simp only at h ⊢ <;> first | exact h | skip
    case slice e =>
     obtain ⟨l, h1, h2, h3⟩ := h
     exact ⟨l, h1, fun x hx => ih m e x (by omega) (h2 x hx), h3⟩
    case struct fs =>
     obtain ⟨l, h1, h2, h3⟩ := h
     exact ⟨l, h1, h2, fun i x f hx hf => ih m f.2 x (by omega) (h3 i x f hx hf)⟩
    case array q e =>
     obtain ⟨l, h1, h2, h3⟩ := h
     exact ⟨l, h1, h2, fun x hx => ih m e x (by omega) (h3 x hx)⟩
theorem isI0 : isI 0 := ⟨by decide, by decide⟩
theorem fact_of {n : Nat} {ds : List D} (h : OkD Tryz.τ n 65 ds) : ∃ f, ds = fcs f 0 57 ∧ fOk f := by
 have h' := okD_up n (n + 3) 65 ds (by omega) h
 have hf := fitG_up 3 (n + 3) 65 0 (by omega) fit47
 have hl : ds.length = 57 := fit_len (n + 3) 65 0 ds hf h'
 have hc := fit_cells (n + 3) 65 0 ds hf h'
 have key : ∀ j d, ds[j]? = some d → d = fcell (ofCells ds) j ∧ isI (ofCells ds j) ∧ (j = 54 → ofCells ds 54 = 0 ∨ ofCells ds 54 = 1) := fun j d hd => by
  have := hc j d hd
  rw [Nat.zero_add] at this
  unfold okCell at this
  split at this
  ·rename_i hj
   subst hj
   obtain ⟨b, rfl⟩ := this
   have e : ofCells ds 54 = if b then 1 else 0 := by rw [ofCells, hd]
   rw [fcell_bool, e]
   cases b <;> simp [isI]
  ·rename_i hj
   obtain ⟨x, rfl, hx⟩ := this
   have e : ofCells ds j = x := by rw [ofCells, hd]
   rw [fcell_int _ _ hj, e]
   exact ⟨rfl, hx, fun h => absurd h hj⟩
 have out : ∀ i, 57 ≤ i → ofCells ds i = 0 := fun i hi => by rw [ofCells, List.getElem?_eq_none (by omega)]
 refine ⟨ofCells ds, ?_, fun i => ?_, ?_, out⟩
 ·refine List.ext_getElem? fun i => ?_
  by_cases hi : i < 57
  ·rw [fcs_get _ _ _ hi, Nat.zero_add]
   have hd := List.getElem?_eq_getElem (l := ds) (i := i) (by omega)
   rw [hd, (key i _ hd).1]
  ·rw [List.getElem?_eq_none (by omega), List.getElem?_eq_none (by simp; omega)]
 ·by_cases hi : i < 57
  ·exact (key i _ (List.getElem?_eq_getElem (l := ds) (i := i) (by omega))).2.1
  ·rw [out i (by omega)]; exact isI0
 ·exact (key 54 _ (List.getElem?_eq_getElem (l := ds) (i := 54) (by omega))).2.2 rfl
theorem eqF_iff {g f : Nat → Int} (hg : fOk g) (hf : fOk f) : eqF g f = true ↔ g = f := by
 unfold eqF
 rw [List.all_eq_true]
 constructor
 ·intro h
  funext i
  by_cases hi : i < 57
  ·simpa using h i (by simpa using hi)
  ·rw [hg.2.2 i (by omega), hf.2.2 i (by omega)]
 ·rintro rfl i _
  simp
theorem lits_iff {g f : Nat → Int} (hg : fOk g) (hf : fOk f) : eqF g f = true ↔ litsD (fcs g 0 57) = litsD (fcs f 0 57) := by
 rw [eqF_iff hg hf]
 constructor
 ·rintro rfl; rfl
 ·intro h
  have one : ∀ (f : Nat → Int) (i : Nat), litD (fcell f i) = [if i = 54 then .bool (decide (f 54 = 1)) else .int .i64 (f i)] := fun f i => by
   unfold fcell; split <;> rfl
  have hl : ∀ f : Nat → Int, litsD (fcs f 0 57) = (List.range' 0 57).map fun i => if i = 54 then Lit.bool (decide (f 54 = 1)) else .int .i64 (f i) := fun f => by
   rw [litsD, fcs, List.flatMap_map]
   simp only [one]
   generalize List.range' 0 57 = l
   induction l with
   | nil => rfl
   | cons i l ih => simp [ih]
  rw [hl, hl] at h
  funext i
  by_cases hi : i < 57
  ·have h1 := congrArg (fun l => l[i]?) h
   simp only [List.getElem?_map, List.getElem?_range' hi] at h1
   simp only [Option.map_some, Option.some.injEq, Nat.zero_add, Nat.one_mul] at h1
   by_cases hj : i = 54
   ·subst hj
    simp at h1
    rcases hg.2.1 with a | a <;> rcases hf.2.1 with b | b <;> rw [a, b] at h1 <;> simp at h1 <;> rw [a, b]
   ·simp [hj] at h1
    exact h1
  ·rw [hg.2.2 i (by omega), hf.2.2 i (by omega)]
end Go.Proofs.YtnljenjcaeophaaGreatDoor
