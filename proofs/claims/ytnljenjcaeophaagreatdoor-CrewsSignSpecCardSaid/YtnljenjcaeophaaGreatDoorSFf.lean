/-
  The numbers of a fact, in the code.
-/
import Derived.Test.YtnljenjcaeophaaGreatDoorSFe
set_option maxRecDepth 10000
set_option maxHeartbeats 4000000
set_option linter.unusedVariables false
set_option linter.unusedSimpArgs false
set_option linter.unusedSectionVars false
namespace Go.Proofs.YtnljenjcaeophaaGreatDoor
open Go.Xe Go.RowKit
@[simp] def rI (l : List Int) : Box := .row 3 1 l.length ((iD l).map .d)
theorem in_no {x lo hi : Int} (h : (decide (x < lo) || decide (hi < x)) = true) : (decide (lo ≤ x) && decide (x ≤ hi)) = false := by
 simp only [Bool.or_eq_true, decide_eq_true_eq] at h
 rw [Bool.and_eq_false_iff]
 simp only [decide_eq_false_iff_not]
 omega
theorem in_yes {x lo hi : Int} (h : (decide (x < lo) || decide (hi < x)) = false) : (decide (lo ≤ x) && decide (x ≤ hi)) = true := by
 simp only [Bool.or_eq_false_iff, decide_eq_false_iff_not] at h
 rw [Bool.and_eq_true]
 simp only [decide_eq_true_eq]
 omega
def numD (f : Nat → Int) : D := .tup [slI (numF f).1, .v (.bool (numF f).2)]
theorem susp_in {f : Nat → Int} : isI (susp f) := by unfold susp; split <;> simp [isI]
theorem fup_in {g : Nat → Int} {o : Nat} {x : Int} (hg : ∀ i, isI (g i)) (hx : isI x) : ∀ i, isI (fup g o x i) := fun i => by unfold fup; split; exact hx; exact hg i
theorem wrL_in {f : Nat → Int} (hf : ∀ i, isI (f i)) : ∀ (A : List Ent) {g : Nat → Int}, (∀ i, isI (g i)) → ∀ i, isI (wrL f g A i)
 | [], _, hg => hg
 | (some o, _, _) :: A, g, hg => wrL_in hf A (fup_in hg (hf o))
 | (none, _, _) :: A, g, hg => wrL_in hf A hg
theorem wrL_out {f : Nat → Int} : ∀ (A : List Ent) {g : Nat → Int}, A.all entOk = true → (∀ i, i = 54 ∨ 57 ≤ i → g i = 0) → ∀ i, i = 54 ∨ 57 ≤ i → wrL f g A i = 0
 | [], _, _, hg => hg
 | (some o, lo, hi) :: A, g, hA, hg => by
  rw [List.all_cons, Bool.and_eq_true] at hA
  refine wrL_out A hA.2 fun i hi => ?_
  have : o < 57 ∧ o ≠ 54 := by simpa [entOk] using hA.1
  simp only [wrE, fup]
  split
  ·omega
  ·exact hg i hi
 | (none, _, _) :: A, g, hA, hg => by
  rw [List.all_cons, Bool.and_eq_true] at hA
  exact wrL_out A hA.2 hg
theorem rest1_ok {f : Nat → Int} (hf : fOk f) {A : List Ent} (hA : A.all entOk = true) (fl : Int) : fOk (rest1 f (wrL f (rest0 f) A) fl) := by
 have h0 : ∀ i, isI (rest0 f i) := fup_in (fup_in (fun _ => isI0) (hf.1 49)) (hf.1 3)
 have h1 := wrL_in hf.1 A h0
 have h2 := wrL_out (f := f) A (g := rest0 f) hA (fun i hi => by
  have h3 : i ≠ 3 := by omega
  have h49 : i ≠ 49 := by omega
  simp [rest0, fup, f0, h3, h49])
 refine ⟨?_, ?_, fun i hi => ?_⟩
 ·unfold rest1
  refine fup_in ?_ (by split <;> simp [isI])
  split
  ·exact h1
  ·exact fup_in h1 isI0
 ·unfold rest1 fup
  split <;> split <;> simp_all
 ·unfold rest1
  rw [fup, if_neg (by omega)]
  split
  ·exact h2 i (.inr hi)
  ·rw [fup, if_neg (by omega)]; exact h2 i (.inr hi)
theorem fcs_side {f : Nat → Int} {o n : Nat} {a : D} (h : a ∈ fcs f o n) : oneD a = true := (fcs_one' f o n).2 trivial a h
@[simp] theorem fcs_fcp (g f : Nat → Int) (o n : Nat) : fcs (fcp g f o n) o n = fcs f o n := fcs_ext fun i h1 h2 => by
 unfold fcell fcp
 split
 ·rename_i h; subst h; rw [if_pos ⟨h1, h2⟩]
 ·first | rfl | rw [if_pos ⟨h1, h2⟩]
@[simp] theorem tagsIn_append (bo : Bxs) : ∀ a b : List Nat, tagsIn bo (a ++ b) = (tagsIn bo a && tagsIn bo b)
 | [], b => by simp [tagsIn]
 | t :: a, b => by rw [List.cons_append, tagsIn, tagsIn, tagsIn_append bo a b, Bool.and_assoc]
def sN (f : Nat → Int) (A A1 : List Ent) : St :=
 mkS 98 [(1, .ptr 1 0), (2, .row 500), (3, .d (.v (.bool true))), (7, .ptr 7 0), (10, .ptr 10 0), (11, .row 701), (42, .row 34), (43, .d (.v (.int .i64 A.length))), (44, .d (.v (.int .i64 A1.length)))]
  [(1, fB f), (4, sB (susp f)), (5, fB f), (7, fB (wrL f (rest0 f) A1)), (10, sB (flL (susp f) 0 A1)), (34, .row 234 3 A.length (entA 5 4 A)), (701, .row 234 3 A.length (entA 7 10 A)), (500, rI (A1.map (valE f (susp f))))]
theorem Tryz.key47 : Tryz.prog.keyTypeAt 5 65 = true := by kernel_rfl
theorem Tryz.gd47 : Tryz.prog.eqGuardType Tryz.prog.depth 65 = false := by kernel_rfl
def FL : List TypeId := [3, 4, 40, 41, 43, 45, 47, 49, 51, 53, 55, 57, 59, 61, 63, 65]
theorem gokF : gOk Tryz.τ FL = true := by decide
theorem noarrF : FL.all (fun t => noArr (Tryz.τ t)) = true := by decide
theorem st47 : (match Tryz.prog.underlying 65 with | some (.struct _) | some (.array _ _) => true | _ => false) = true := by kernel_rfl
theorem numbers_P (f : Nat → Int) (hf : fOk f) {E : List Ent} (hE : ents (f 3) (f 49) = some E) (hc : clos (f 3) = none) : Fn0 Tryz.prog 111 [fD f] (numD f) := by
 have h38 := open_P f (susp f) hE hc
 have hfine : fine f = true := by
  unfold clos at hc
  unfold fine
  split at hc <;> first | (cases hc; done) | skip
  split at hc <;> first | (cases hc; done) | skip
  split at hc <;> first | (cases hc; done) | skip
  split at hc <;> first | (cases hc; done) | skip
  simp [*]
 have hput := put_ok f (fup f0 49 (f 49)) 0 (E := E) (by simpa [fup] using hE)
 obtain ⟨A, hA⟩ : ∃ A, headE ++ E = A := ⟨_, rfl⟩
 have hlen : 4 + E.length = A.length := by rw [← hA]; simp
 have hl8 := ents_len hE
 have hAok : A.all entOk = true := by rw [← hA, List.all_append, head_entOk, ents_entOk hE]; rfl
 refine Fun.of_wp (pn := noPn) Tryz.tab Tryz.func111 rfl fun β0 => ?_
 simp only [Tryz.f111]
 rw [fD]
 refine WP.seq ?_
 refine WP.region Tryz.tab ?_
 simp -dsimp
 repeat refine aI ?_
 refine WP.seq ?_
 refine WP.region Tryz.tab ?_
 simp -dsimp
 repeat refine aI ?_
 refine WP.seqTo (mkS 98 [(1, .ptr 1 0), (2, .d (.v (.slice none 0 0))), (3, .d (.v (.bool false))), (4, .ptr 4 0)] [(1, fB f), (4, sB (susp f))]) ?_ ?_
 ·repeat(first|apply wG|(apply wR;simp -dsimp)|refine aI ?_)
  refine WP.cond (b := decide (f 54 = 1)) (by simp) (fun hb => ?_) (fun hb => ?_)
  ·repeat(first|apply wG|(apply wR;simp -dsimp)|refine aI ?_)
   exact toQ.norm (Wk.lessE [] (by simp) (by simp [susp, of_decide_eq_true hb]))
  ·refine WP.skip ?_
   exact toQ.norm (Wk.lessE [] (by simp) (by simp [susp, of_decide_eq_false hb]))
 simp -dsimp
 repeat(first|apply wG|(apply wR;simp -dsimp [zero47])|refine aI ?_)
 refine vcStop.call Tryz.body166 (h38) (rl [(1000, 5), (1001, 4), (0, 700)]) rfl rfl (by simp [BoxLeq]) (CallOk.of (by simp [BoxLeq]) rfl (by first | rfl | (simp [BoxLeq]; done)) (by simp [BoxLeq]) (by simp [BoxLeq])) (fun _ h => h.elim) (fun ⟨_, h⟩ => h.elim) (fun ⟨_, h⟩ => h.elim) (by simp [BoxLeq]) ?_
 simp -dsimp
 repeat(first|apply wG|(apply wR;simp -dsimp)|refine aI ?_)
 refine vcStopG.call0 Tryz.body211 (fun _ => always_ok) rfl (fun _ => rfl) (fun _ => by simp) ?_
 simp -dsimp
 repeat(first|apply wG|(apply wR;simp -dsimp)|refine aI ?_)
 refine cF (by simp) ?_
 refine WP.skip ?_
 simp -dsimp
 repeat(first|apply wG|(apply wR;simp -dsimp [zero47])|refine aI ?_)
 refine vcStop.call Tryz.body168 (head_ok f) (rl [(1000, 5), (0, 31)]) rfl rfl (by simp [BoxLeq]) (CallOk.of (by simp [BoxLeq]) rfl (by first | rfl | (simp [BoxLeq]; done)) (by simp [BoxLeq]) (by simp [BoxLeq])) (fun _ h => h.elim) (fun ⟨_, h⟩ => h.elim) (fun ⟨_, h⟩ => h.elim) (by simp [BoxLeq]) ?_
 simp -dsimp
 repeat(first|apply wG|(apply wR;simp -dsimp [zero47])|refine aI ?_)
 refine vcStop.call Tryz.body167 (hput) (rl [(1000, 7), (1001, 10), (1002, 1), (0, 701)]) rfl rfl (by simp [BoxLeq]) (CallOk.of (by simp [BoxLeq]) rfl (by first | rfl | (simp [BoxLeq]; done)) (by simp [BoxLeq]) (by simp [BoxLeq])) (fun _ h => h.elim) (fun ⟨_, h⟩ => h.elim) (fun ⟨_, h⟩ => h.elim) (by simp [BoxLeq]) ?_
 simp -dsimp
 repeat(first|apply wG|(apply wR;simp -dsimp)|refine aI ?_)
 have hl12 : A.length ≤ 12 := by omega
 refine WP.loopWk (fun m S => ∃ A1 A2, A = A1 ++ A2 ∧ m = A2.length ∧ A1.all (inE f (susp f)) = true ∧ S = sN f A A1) A.length (S0 := sN f A [])
  ((Wk.nilSlot 2 500 3 1 rfl (by simp)).trans (Wk.lessE [] (by simp [sN, ← hlen]) (by simp [sN, ← hA, wrL, flL, rest0]; rfl))) ⟨[], A, rfl, rfl, rfl, rfl⟩ ?_
 rintro _ _ ⟨A1, A2, hA12, rfl, hin, rfl⟩
 simp -dsimp [sN]
 repeat(first|apply wG|(apply wR;simp -dsimp)|refine aI ?_)
 cases A2 with
 | nil =>
  simp only [List.append_nil] at hA12
  subst hA12
  have hr1 := rest1_ok hf hAok (flL (susp f) 0 A)
  have hnum : numF f = (A.map (valE f (susp f)), eqF (rest1 f (wrL f (rest0 f) A) (flL (susp f) 0 A)) f) := by simp only [numF, hE, hA, hfine, hin, Bool.and_self, if_true]
  generalize wrL f (rest0 f) A = G at *
  generalize flL (susp f) 0 A = fl at *
  refine cF (by simp) ?_
  refine WP.exit ?_
  simp -dsimp
  refine WP.seqTo (mkS 98 [(1, .ptr 1 0), (2, .row 500), (7, .ptr 7 0), (10, .ptr 10 0)] [(1, fB f), (7, fB (if f 3 = 10 then G else fup G 49 0)), (10, sB fl), (500, rI (A.map (valE f (susp f))))]) ?_ ?_
  ·repeat(first|apply wG|(apply wR;simp -dsimp)|refine aI ?_)
   refine WP.cond (b := !decide (f 3 = 10)) (by simp) (fun hb => ?_) (fun hb => ?_)
   ·have hb : ¬ f 3 = 10 := by simpa using hb
    repeat(first|apply wG|(apply wR;simp -dsimp)|refine aI ?_)
    exact toQ.norm (Wk.lessE [] (by simp) (by simp [hb]))
   ·have hb : f 3 = 10 := by simpa using hb
    refine WP.skip ?_
    exact toQ.norm (Wk.lessE [] (by simp) (by simp [hb]))
  simp -dsimp
  repeat(first|apply wG|(apply wR;simp -dsimp)|refine aI ?_)
  refine vcStop.eqS Tryz.tab gokF noarrF rfl (.inl rfl) (m := 5) (by omega) Tryz.key47 (by decide) Tryz.gd47 st47 (cs := fcs (rest1 f G fl) 0 57) (es := fcs f 0 57) (by simp [rest1]) (by simp) (okF hr1.1) (okF hf.1) (lits_iff hr1 hf) ?_
  simp -dsimp [eqRes]
  repeat(first|apply wG|(apply wR;simp -dsimp)|refine aI ?_)
  refine WP.ret (finQ.retWE (Wk.freeze (k := 500) (T := 3) (sz := 1) (ds := iD (A.map (valE f (susp f)))) (by simp; rfl)) ?_)
  simp [numD, hnum]
 | cons e A2 =>
  have hll : A.length = A1.length + (A2.length + 1) := by rw [hA12]; simp
  have e1 : IntKind.i64.wrap ((A1.length : Int) + 1) = (A1.length : Int) + 1 := IntWalk.i64_in _ (by omega)
  refine cT (by simp; omega) ?_
  refine WP.skip ?_
  simp -dsimp
  refine WP.seq (WP.block ?_)
  have h1 := entA_at 5 4 A1 e A2
  have h2 := entA_atL 7 10 A1 e A2
  have he : entOk e = true := by rw [hA12, List.all_append, List.all_cons] at hAok; simp only [Bool.and_eq_true] at hAok; exact hAok.2.1
  have hno : inE f (susp f) e = false → A.all (inE f (susp f)) = false := fun h => by rw [hA12, List.all_append, List.all_cons, h]; simp
  have hyes : inE f (susp f) e = true → (A1 ++ [e]).all (inE f (susp f)) = true := fun h => by rw [List.all_append, hin, List.all_cons, h]; rfl
  rw [← hA12] at h1 h2
  obtain ⟨o, lo, hi⟩ := e
  cases o with
  | some o =>
   have ho : o < 57 ∧ o ≠ 54 := by simpa [entOk] using he
   simp only [locA] at h1 h2
   repeat(first|apply wG|(apply wR;simp -dsimp [h1, ho.1, ho.2])|refine aI ?_)
   refine WP.cond (b := decide (f o < lo) || decide (hi < f o)) (by simp) (fun hb => ?_) (fun hb => ?_)
   ·have hn := hno (in_no hb)
    repeat(first|apply wG|(apply wR;simp -dsimp)|refine aI ?_)
    refine WP.ret (finQ.retE ?_)
    simp -dsimp [numD, numF, hE, hA, hn]
   ·refine WP.skip ?_
    simp -dsimp
    repeat(first|apply wG|(apply wR;simp -dsimp [h2, ho.1, ho.2])|refine aI ?_)
    refine loopW.next (sN f A (A1 ++ [(some o, lo, hi)])) (Wk.go [13, 82] 83 500 (by decide) (by simp [sN]) (by simp [sN, e1]) (by simp [sN, wrL_append, flL_append, wrL, flL, wrE, flE, valE])) A2.length (by simp) ⟨A1 ++ [(some o, lo, hi)], A2, by simp [hA12], rfl, hyes (in_yes hb), rfl⟩
  | none =>
   simp only [locA] at h1 h2
   repeat(first|apply wG|(apply wR;simp -dsimp [h1])|refine aI ?_)
   refine WP.cond (b := decide (susp f < lo) || decide (hi < susp f)) (by simp) (fun hb => ?_) (fun hb => ?_)
   ·have hn := hno (in_no hb)
    repeat(first|apply wG|(apply wR;simp -dsimp)|refine aI ?_)
    refine WP.ret (finQ.retE ?_)
    simp -dsimp [numD, numF, hE, hA, hn]
   ·refine WP.skip ?_
    simp -dsimp
    repeat(first|apply wG|(apply wR;simp -dsimp [h2])|refine aI ?_)
    refine loopW.next (sN f A (A1 ++ [(none, lo, hi)])) (Wk.go [13, 82] 83 500 (by decide) (by simp [sN]) (by simp [sN, e1]) (by simp [sN, wrL_append, flL_append, wrL, flL, wrE, flE, valE])) A2.length (by simp) ⟨A1 ++ [(none, lo, hi)], A2, by simp [hA12], rfl, hyes (in_yes hb), rfl⟩
theorem numbers_C (f : Nat → Int) (hf : fOk f) {E : List Ent} (hE : ents (f 3) (f 49) = some E) {T q off : Nat} (hc : clos (f 3) = some (T, q, off)) (hb : Body Tryz.prog q)
  (hq : Fun Tryz.prog q [.ptr 1000 0] [(1000, .cells T [.ptr 1001 off]), (1001, fB f)] (.d (.v (.bool (fine f)))) [(1000, .cells T [.ptr 1001 off]), (1001, fB f)] fun _ => False) : Fn0 Tryz.prog 111 [fD f] (numD f) := by
 have h38 := open_C f (susp f) hE hc
 have hput := put_ok f (fup f0 49 (f 49)) 0 (E := E) (by simpa [fup] using hE)
 obtain ⟨A, hA⟩ : ∃ A, headE ++ E = A := ⟨_, rfl⟩
 have hlen : 4 + E.length = A.length := by rw [← hA]; simp
 have hl8 := ents_len hE
 have hAok : A.all entOk = true := by rw [← hA, List.all_append, head_entOk, ents_entOk hE]; rfl
 refine Fun.of_wp (pn := noPn) Tryz.tab Tryz.func111 rfl fun β0 => ?_
 simp only [Tryz.f111]
 rw [fD]
 refine WP.seq ?_
 refine WP.region Tryz.tab ?_
 simp -dsimp
 repeat refine aI ?_
 refine WP.seq ?_
 refine WP.region Tryz.tab ?_
 simp -dsimp
 repeat refine aI ?_
 refine WP.seqTo (mkS 98 [(1, .ptr 1 0), (2, .d (.v (.slice none 0 0))), (3, .d (.v (.bool false))), (4, .ptr 4 0)] [(1, fB f), (4, sB (susp f))]) ?_ ?_
 ·repeat(first|apply wG|(apply wR;simp -dsimp)|refine aI ?_)
  refine WP.cond (b := decide (f 54 = 1)) (by simp) (fun hb => ?_) (fun hb => ?_)
  ·repeat(first|apply wG|(apply wR;simp -dsimp)|refine aI ?_)
   exact toQ.norm (Wk.lessE [] (by simp) (by simp [susp, of_decide_eq_true hb]))
  ·refine WP.skip ?_
   exact toQ.norm (Wk.lessE [] (by simp) (by simp [susp, of_decide_eq_false hb]))
 simp -dsimp
 repeat(first|apply wG|(apply wR;simp -dsimp [zero47])|refine aI ?_)
 refine vcStop.call Tryz.body166 (h38) (rl [(1000, 5), (1001, 4), (0, 700), (1, 702)]) rfl rfl (by simp [BoxLeq]) (CallOk.of (by simp [BoxLeq]) rfl (by first | rfl | (simp [BoxLeq]; done)) (by simp [BoxLeq]) (by simp [BoxLeq])) (fun _ h => h.elim) (fun ⟨_, h⟩ => h.elim) (fun ⟨_, h⟩ => h.elim) (by simp [BoxLeq]) ?_
 simp -dsimp
 repeat(first|apply wG|(apply wR;simp -dsimp)|refine aI ?_)
 refine vcStopG.callSame hb (fun _ => hq) (rl [(1000, 702), (1001, 5)]) rfl (fun _ => rfl) (fun _ => by simp) (fun _ => CallOk.of (by simp [BoxLeq]) rfl (by first | rfl | (simp; done)) (by simp) (by simp)) (fun _ => by simp) ?_
 simp -dsimp
 repeat(first|apply wG|(apply wR;simp -dsimp)|refine aI ?_)
 cases hfine : fine f with
 | false =>
  refine cT (by simp) ?_
  repeat(first|apply wG|(apply wR;simp -dsimp)|refine aI ?_)
  refine WP.ret (finQ.retE ?_)
  simp -dsimp [numD, numF, hE, hfine]
 | true =>
 refine cF (by simp) ?_
 refine WP.skip ?_
 simp -dsimp
 repeat(first|apply wG|(apply wR;simp -dsimp [zero47])|refine aI ?_)
 refine vcStop.call Tryz.body168 (head_ok f) (rl [(1000, 5), (0, 31)]) rfl rfl (by simp [BoxLeq]) (CallOk.of (by simp [BoxLeq]) rfl (by first | rfl | (simp [BoxLeq]; done)) (by simp [BoxLeq]) (by simp [BoxLeq])) (fun _ h => h.elim) (fun ⟨_, h⟩ => h.elim) (fun ⟨_, h⟩ => h.elim) (by simp [BoxLeq]) ?_
 simp -dsimp
 repeat(first|apply wG|(apply wR;simp -dsimp [zero47])|refine aI ?_)
 refine vcStop.call Tryz.body167 (hput) (rl [(1000, 7), (1001, 10), (1002, 1), (0, 701)]) rfl rfl (by simp [BoxLeq]) (CallOk.of (by simp [BoxLeq]) rfl (by first | rfl | (simp [BoxLeq]; done)) (by simp [BoxLeq]) (by simp [BoxLeq])) (fun _ h => h.elim) (fun ⟨_, h⟩ => h.elim) (fun ⟨_, h⟩ => h.elim) (by simp [BoxLeq]) ?_
 simp -dsimp
 repeat(first|apply wG|(apply wR;simp -dsimp)|refine aI ?_)
 have hl12 : A.length ≤ 12 := by omega
 refine WP.loopWk (fun m S => ∃ A1 A2, A = A1 ++ A2 ∧ m = A2.length ∧ A1.all (inE f (susp f)) = true ∧ S = sN f A A1) A.length (S0 := sN f A [])
  ((Wk.nilSlot 2 500 3 1 rfl (by simp)).trans (Wk.lessE [] (by simp [sN, ← hlen]) (by simp [sN, ← hA, wrL, flL, rest0]; rfl))) ⟨[], A, rfl, rfl, rfl, rfl⟩ ?_
 rintro _ _ ⟨A1, A2, hA12, rfl, hin, rfl⟩
 simp -dsimp [sN]
 repeat(first|apply wG|(apply wR;simp -dsimp)|refine aI ?_)
 cases A2 with
 | nil =>
  simp only [List.append_nil] at hA12
  subst hA12
  have hr1 := rest1_ok hf hAok (flL (susp f) 0 A)
  have hnum : numF f = (A.map (valE f (susp f)), eqF (rest1 f (wrL f (rest0 f) A) (flL (susp f) 0 A)) f) := by simp only [numF, hE, hA, hfine, hin, Bool.and_self, if_true]
  generalize wrL f (rest0 f) A = G at *
  generalize flL (susp f) 0 A = fl at *
  refine cF (by simp) ?_
  refine WP.exit ?_
  simp -dsimp
  refine WP.seqTo (mkS 98 [(1, .ptr 1 0), (2, .row 500), (7, .ptr 7 0), (10, .ptr 10 0)] [(1, fB f), (7, fB (if f 3 = 10 then G else fup G 49 0)), (10, sB fl), (500, rI (A.map (valE f (susp f))))]) ?_ ?_
  ·repeat(first|apply wG|(apply wR;simp -dsimp)|refine aI ?_)
   refine WP.cond (b := !decide (f 3 = 10)) (by simp) (fun hb => ?_) (fun hb => ?_)
   ·have hb : ¬ f 3 = 10 := by simpa using hb
    repeat(first|apply wG|(apply wR;simp -dsimp)|refine aI ?_)
    exact toQ.norm (Wk.lessE [] (by simp) (by simp [hb]))
   ·have hb : f 3 = 10 := by simpa using hb
    refine WP.skip ?_
    exact toQ.norm (Wk.lessE [] (by simp) (by simp [hb]))
  simp -dsimp
  repeat(first|apply wG|(apply wR;simp -dsimp)|refine aI ?_)
  refine vcStop.eqS Tryz.tab gokF noarrF rfl (.inl rfl) (m := 5) (by omega) Tryz.key47 (by decide) Tryz.gd47 st47 (cs := fcs (rest1 f G fl) 0 57) (es := fcs f 0 57) (by simp [rest1]) (by simp) (okF hr1.1) (okF hf.1) (lits_iff hr1 hf) ?_
  simp -dsimp [eqRes]
  repeat(first|apply wG|(apply wR;simp -dsimp)|refine aI ?_)
  refine WP.ret (finQ.retWE (Wk.freeze (k := 500) (T := 3) (sz := 1) (ds := iD (A.map (valE f (susp f)))) (by simp; rfl)) ?_)
  simp [numD, hnum]
 | cons e A2 =>
  have hll : A.length = A1.length + (A2.length + 1) := by rw [hA12]; simp
  have e1 : IntKind.i64.wrap ((A1.length : Int) + 1) = (A1.length : Int) + 1 := IntWalk.i64_in _ (by omega)
  refine cT (by simp; omega) ?_
  refine WP.skip ?_
  simp -dsimp
  refine WP.seq (WP.block ?_)
  have h1 := entA_at 5 4 A1 e A2
  have h2 := entA_atL 7 10 A1 e A2
  have he : entOk e = true := by rw [hA12, List.all_append, List.all_cons] at hAok; simp only [Bool.and_eq_true] at hAok; exact hAok.2.1
  have hno : inE f (susp f) e = false → A.all (inE f (susp f)) = false := fun h => by rw [hA12, List.all_append, List.all_cons, h]; simp
  have hyes : inE f (susp f) e = true → (A1 ++ [e]).all (inE f (susp f)) = true := fun h => by rw [List.all_append, hin, List.all_cons, h]; rfl
  rw [← hA12] at h1 h2
  obtain ⟨o, lo, hi⟩ := e
  cases o with
  | some o =>
   have ho : o < 57 ∧ o ≠ 54 := by simpa [entOk] using he
   simp only [locA] at h1 h2
   repeat(first|apply wG|(apply wR;simp -dsimp [h1, ho.1, ho.2])|refine aI ?_)
   refine WP.cond (b := decide (f o < lo) || decide (hi < f o)) (by simp) (fun hb => ?_) (fun hb => ?_)
   ·have hn := hno (in_no hb)
    repeat(first|apply wG|(apply wR;simp -dsimp)|refine aI ?_)
    refine WP.ret (finQ.retE ?_)
    simp -dsimp [numD, numF, hE, hA, hn]
   ·refine WP.skip ?_
    simp -dsimp
    repeat(first|apply wG|(apply wR;simp -dsimp [h2, ho.1, ho.2])|refine aI ?_)
    refine loopW.next (sN f A (A1 ++ [(some o, lo, hi)])) (Wk.go [13, 82] 83 500 (by decide) (by simp [sN]) (by simp [sN, e1]) (by simp [sN, wrL_append, flL_append, wrL, flL, wrE, flE, valE])) A2.length (by simp) ⟨A1 ++ [(some o, lo, hi)], A2, by simp [hA12], rfl, hyes (in_yes hb), rfl⟩
  | none =>
   simp only [locA] at h1 h2
   repeat(first|apply wG|(apply wR;simp -dsimp [h1])|refine aI ?_)
   refine WP.cond (b := decide (susp f < lo) || decide (hi < susp f)) (by simp) (fun hb => ?_) (fun hb => ?_)
   ·have hn := hno (in_no hb)
    repeat(first|apply wG|(apply wR;simp -dsimp)|refine aI ?_)
    refine WP.ret (finQ.retE ?_)
    simp -dsimp [numD, numF, hE, hA, hn]
   ·refine WP.skip ?_
    simp -dsimp
    repeat(first|apply wG|(apply wR;simp -dsimp [h2])|refine aI ?_)
    refine loopW.next (sN f A (A1 ++ [(none, lo, hi)])) (Wk.go [13, 82] 83 500 (by decide) (by simp [sN]) (by simp [sN, e1]) (by simp [sN, wrL_append, flL_append, wrL, flL, wrE, flE, valE])) A2.length (by simp) ⟨A1 ++ [(none, lo, hi)], A2, by simp [hA12], rfl, hyes (in_yes hb), rfl⟩
theorem numbers_no (f : Nat → Int) (hE : ents (f 3) (f 49) = none) : Fn0 Tryz.prog 111 [fD f] (numD f) := by
 have h38 := open_no f (susp f) hE
 refine Fun.of_wp (pn := noPn) Tryz.tab Tryz.func111 rfl fun β0 => ?_
 simp only [Tryz.f111]
 rw [fD]
 refine WP.seq ?_
 refine WP.region Tryz.tab ?_
 simp -dsimp
 repeat refine aI ?_
 refine WP.seq ?_
 refine WP.region Tryz.tab ?_
 simp -dsimp
 repeat refine aI ?_
 refine WP.seqTo (mkS 98 [(1, .ptr 1 0), (2, .d (.v (.slice none 0 0))), (3, .d (.v (.bool false))), (4, .ptr 4 0)] [(1, fB f), (4, sB (susp f))]) ?_ ?_
 ·repeat(first|apply wG|(apply wR;simp -dsimp)|refine aI ?_)
  refine WP.cond (b := decide (f 54 = 1)) (by simp) (fun hb => ?_) (fun hb => ?_)
  ·repeat(first|apply wG|(apply wR;simp -dsimp)|refine aI ?_)
   exact toQ.norm (Wk.lessE [] (by simp) (by simp [susp, of_decide_eq_true hb]))
  ·refine WP.skip ?_
   exact toQ.norm (Wk.lessE [] (by simp) (by simp [susp, of_decide_eq_false hb]))
 simp -dsimp
 repeat(first|apply wG|(apply wR;simp -dsimp [zero47])|refine aI ?_)
 refine vcStop.call Tryz.body166 (h38) (rl [(1000, 5), (1001, 4)]) rfl rfl (by simp [BoxLeq]) (CallOk.of (by simp [BoxLeq]) rfl (by first | rfl | (simp [BoxLeq]; done)) (by simp [BoxLeq]) (by simp [BoxLeq])) (fun _ h => h.elim) (fun ⟨_, h⟩ => h.elim) (fun ⟨_, h⟩ => h.elim) (by simp [BoxLeq]) ?_
 simp -dsimp
 repeat(first|apply wG|(apply wR;simp -dsimp)|refine aI ?_)
 refine vcStopG.skip (.d (.v (.bool false))) ?_
 simp -dsimp
 repeat(first|apply wG|(apply wR;simp -dsimp)|refine aI ?_)
 refine cT (by simp) ?_
 repeat(first|apply wG|(apply wR;simp -dsimp)|refine aI ?_)
 refine WP.ret (finQ.retE ?_)
 simp -dsimp [numD, numF, hE]
theorem numbers_ok (f : Nat → Int) (hf : fOk f) : Fn0 Tryz.prog 111 [fD f] (numD f) := by
 cases hE : ents (f 3) (f 49) with
 | none => exact numbers_no f hE
 | some E =>
  cases hc : clos (f 3) with
  | none => exact numbers_P f hf hE hc
  | some p =>
   obtain ⟨T, q, off⟩ := p
   have hk : f 3 = 4 ∨ f 3 = 5 ∨ f 3 = 6 ∨ f 3 = 7 := by
    unfold clos at hc
    by_cases h : f 3 = 4 ∨ f 3 = 5 ∨ f 3 = 6 ∨ f 3 = 7
    ·exact h
    ·simp only [not_or] at h
     simp [h] at hc
   rcases hk with h | h | h | h <;> have hc' := hc <;> rw [h] at hc' <;> simp [clos] at hc' <;> obtain ⟨rfl, rfl, rfl⟩ := hc'
   ·exact numbers_C f hf hE hc Tryz.body212 (by have := fine_4 f; simpa [fine, h] using this)
   ·exact numbers_C f hf hE hc Tryz.body213 (by have := fine_5 f; simpa [fine, h] using this)
   ·exact numbers_C f hf hE hc Tryz.body214 (by have := fine_6 f; simpa [fine, h] using this)
   ·exact numbers_C f hf hE hc Tryz.body215 (by have := fine_7 f; simpa [fine, h] using this)
end Go.Proofs.YtnljenjcaeophaaGreatDoor
