/-
  Joined texts.
-/
import Derived.Test.YtnljenjcaeophaaGreatDoorMFf
import Derived.Test.YtnljenjcaeophaaGreatDoorM4
set_option maxRecDepth 10000
set_option maxHeartbeats 4000000
set_option linter.unusedVariables false
set_option linter.unusedSimpArgs false
set_option linter.unusedSectionVars false
namespace Go.Proofs.YtnljenjcaeophaaGreatDoor
open Go.Xe Go.RowKit
theorem check_ok (f : Nat → Int) (hf : fOk f) : Fn0 Tryz.prog 69 [fD f] (.v (.int .i64 (if (numF f).2 = true then 0 else 120))) := by
 have h24 := numbers_ok f hf
 rw [numD] at h24
 generalize numF f = R at *
 obtain ⟨l, b⟩ := R
 refine Fun.of_wp (pn := noPn) Tryz.tab Tryz.func69 rfl fun β0 => ?_
 simp only [Tryz.f69]
 rw [fD]
 repeat(first|apply wG|(apply wR;simp -dsimp)|refine aI ?_)
 refine vcStop.call0 Tryz.body111 h24 rfl rfl (by simp [fD]) ?_
 simp -dsimp
 repeat(first|apply wG|(apply wR;simp -dsimp)|refine aI ?_)
 cases b with
 | true =>
  refine cF (by simp) ?_
  refine WP.skip ?_
  simp -dsimp
  repeat(first|apply wG|(apply wR;simp -dsimp)|refine aI ?_)
  refine WP.ret (finQ.retE ?_)
  simp -dsimp
 | false =>
  refine cT (by simp) ?_
  repeat(first|apply wG|(apply wR;simp -dsimp)|refine aI ?_)
  refine WP.ret (finQ.retE ?_)
  simp -dsimp
def intV (x : Int) : V := .mk 1 x ⟨#[]⟩ []
def intsV (l : List Int) : V := .mk 3 0 ⟨#[]⟩ (l.map intV)
theorem intsL_facts : ∀ {l : List Int}, (∀ x ∈ l, isI x) → V.okL (l.map intV) = true ∧ V.depL (l.map intV) = 0 ∧ (V.encL (l.map intV)).length ≤ 11 * l.length ∧ V.rngL (l.map intV) = true
 | [], _ => by simp [V.okL, V.depL, V.encL, V.rngL]
 | x :: l, h => by
  obtain ⟨h1, h2, h3, h4⟩ := intsL_facts (l := l) fun y hy => h y (by simp [hy])
  have hx := h x (by simp)
  have h10 := digs_len10 (zig_lt hx)
  unfold isI at hx
  rw [List.map_cons, V.okL, V.depL, V.encL, V.rngL, h1, h2, h4]
  simp only [intV, V.ok, V.dep, V.enc, V.rng, V.rngL, show (⟨#[]⟩ : ByteArray).size = 0 from rfl]
  simp
  omega
theorem intsV_facts {l : List Int} (h : ∀ x ∈ l, isI x) (hl : l.length ≤ 1000) : V.chk (intsV l) = 0 ∧ V.rng (intsV l) = true ∧ V.dep (intsV l) = 1 ∧ (V.enc (intsV l)).length ≤ 100000 := by
 obtain ⟨h1, h2, h3, h4⟩ := intsL_facts h
 have h5 : V.dep (intsV l) = 1 := by rw [intsV, V.dep, if_pos rfl, h2]
 have h10 := digs_len10 (u := l.length) (by unfold isU; omega)
 refine ⟨?_, ?_, h5, ?_⟩
 ·rw [V.chk, if_pos (by rw [intsV, V.ok]; simp [h1]), if_neg (by omega)]
 ·simp [intsV, V.rng, h4, show (⟨#[]⟩ : ByteArray).size = 0 from rfl]
 ·rw [intsV, V.enc]
  simp
  omega
theorem numF_in {f : Nat → Int} (hf : fOk f) : (∀ x ∈ (numF f).1, isI x) ∧ (numF f).1.length ≤ 12 := by
 unfold numF
 split
 ·simp
 ·rename_i E hE
  split
  ·refine ⟨fun x hx => ?_, by have := ents_len hE; simp; omega⟩
   obtain ⟨e, _, rfl⟩ := List.mem_map.1 hx
   unfold valE
   split
   ·exact hf.1 _
   ·exact susp_in
  ·simp
def encF (f : Nat → Int) : List UInt8 := V.enc (intsV (numF f).1)
def encR (f : Nat → Int) : List UInt8 × Int := if (numF f).2 = true then (encF f, 0) else ([], 120)
def encD (f : Nat → Int) : D := .tup [slB (encR f).1, .v (.int .i64 (encR f).2)]
theorem iD_at (a : List Int) (x : Int) (b : List Int) : (iD (a ++ x :: b)).drop a.length = .v (.int .i64 x) :: iD b := by
 rw [iD_append, ← iD_length a, List.drop_left]; rfl
def ics : List Int → List D
 | [] => []
 | x :: l => .v (.int .i64 1) :: .v (.int .i64 x) :: .v (.string ⟨#[]⟩) :: .v (.slice none 0 0) :: ics l
@[simp] theorem ics_append : ∀ a b : List Int, ics (a ++ b) = ics a ++ ics b
 | [], _ => rfl
 | x :: a, b => by rw [List.cons_append, ics, ics, ics_append a b]; rfl
@[simp] theorem ics_length : ∀ a : List Int, (ics a).length = a.length * 4
 | [] => rfl
 | x :: a => by rw [ics]; simp [ics_length a]; omega
theorem ics_le : ∀ l : List Int, DLes (ics l) (V.cellsL (l.map intV))
 | [] => trivial
 | x :: l => ⟨DLe.refl _, DLe.refl _, DLe.refl _, DLe.nil 4, ics_le l⟩
theorem ints_arg (l : List Int) : Leq (.agg [.d (.v (.int .i64 3)), .d (.v (.int .i64 0)), .d (.v (.string ⟨#[]⟩)), .d (.sl 4 (ics l) l.length false)]) (.d (intsV l).d) := by
 have hle : Leq (.d (.sl 4 (ics l) l.length false)) (.d (.sl 4 (V.cellsL (l.map intV)) l.length false)) := Leq.data (DLe.sl (ics_le l))
 have h1 : LeqL [.d (.v (.int .i64 3)), .d (.v (.int .i64 0)), .d (.v (.string ⟨#[]⟩)), .d (.sl 4 (ics l) l.length false)] ([D.v (.int .i64 3), .v (.int .i64 0), .v (.string ⟨#[]⟩), .sl 4 (V.cellsL (l.map intV)) l.length false].map .d) :=
  ⟨Leq.refl _, Leq.refl _, Leq.refl _, hle, trivial⟩
 have h2 := (Leq.agg h1).trans (Leq.aggD _)
 rw [intsV, V.d, V.cells, List.length_map]
 exact h2
def sE (l : List Int) (l1 : List Int) : St :=
 mkS 35 [(6, .ptr 6 0), (17, .d (slI l)), (18, .d (.v (.int .i64 l.length))), (19, .d (.v (.int .i64 l1.length)))]
  [(6, .cells 207 [.d (.v (.int .i64 3)), .d (.v (.int .i64 0)), .d (.v (.string ⟨#[]⟩)), .row 500]), (500, .row 207 4 l1.length ((ics l1).map .d))]
theorem encode_ok (f : Nat → Int) (hf : fOk f) : Fn0 Tryz.prog 86 [fD f] (encD f) := by
 have h24 := numbers_ok f hf
 rw [numD] at h24
 obtain ⟨hin, hlen⟩ := numF_in hf
 unfold encD encR encF
 generalize numF f = R at *
 obtain ⟨l, b⟩ := R
 simp only at hin hlen
 obtain ⟨c1, c2, c3, c4⟩ := intsV_facts hin (by omega)
 have h12 := f12_ok (intsV l) (by omega) c2 (by omega)
 rw [show V.encB (intsV l) = V.enc (intsV l) from if_pos c1, c1] at h12
 refine Fun.of_wp (pn := noPn) Tryz.tab Tryz.func86 rfl fun β0 => ?_
 simp only [Tryz.f86]
 rw [fD]
 repeat(first|apply wG|(apply wR;simp -dsimp)|refine aI ?_)
 refine vcStop.call0 Tryz.body111 h24 rfl rfl (by simp [fD]) ?_
 simp -dsimp
 repeat(first|apply wG|(apply wR;simp -dsimp)|refine aI ?_)
 cases b with
 | false =>
  refine cT (by simp) ?_
  repeat(first|apply wG|(apply wR;simp -dsimp)|refine aI ?_)
  refine WP.ret (finQ.retE ?_)
  simp -dsimp
 | true =>
  refine cF (by simp) ?_
  refine WP.skip ?_
  simp -dsimp
  repeat(first|apply wG|(apply wR;simp -dsimp)|refine aI ?_)
  refine WP.loopWk (fun m S => ∃ l1 l2, l = l1 ++ l2 ∧ m = l2.length ∧ S = sE l l1) l.length (S0 := sE l [])
   ((Wk.nilCell 6 3 500 207 4 (by simp; exact ⟨rfl, rfl⟩) rfl (by simp)).trans (Wk.lessE [] (by simp [sE]) (by simp [sE, ics]))) ⟨[], l, rfl, rfl, rfl⟩ ?_
  rintro _ _ ⟨l1, l2, hl12, rfl, rfl⟩
  simp -dsimp [sE]
  repeat(first|apply wG|(apply wR;simp -dsimp)|refine aI ?_)
  cases l2 with
  | nil =>
   simp only [List.append_nil] at hl12
   subst hl12
   refine cF (by simp) ?_
   refine WP.exit ?_
   simp -dsimp
   refine WP.weak (Wk.freeze (k := 500) (T := 207) (sz := 4) (ds := ics l) (by simp; rfl)) ?_
   simp -dsimp
   repeat(first|apply wG|(apply wR;simp -dsimp)|refine aI ?_)
   refine vcStop.call0L Tryz.body143 h12 rfl rfl (And.intro (ints_arg l) trivial) ?_
   simp -dsimp
   repeat(first|apply wG|(apply wR;simp -dsimp)|refine aI ?_)
   refine WP.ret (finQ.retE ?_)
   simp -dsimp
  | cons x l2 =>
   have hll : l.length = l1.length + (l2.length + 1) := by rw [hl12]; simp
   have e1 : IntKind.i64.wrap ((l1.length : Int) + 1) = (l1.length : Int) + 1 := IntWalk.i64_in _ (by omega)
   have h1 := iD_at l1 x l2
   rw [← hl12] at h1
   refine cT (by simp; omega) ?_
   refine WP.skip ?_
   simp -dsimp
   refine WP.seq (WP.block ?_)
   repeat(first|apply wG|(apply wR;simp -dsimp [h1])|refine aI ?_)
   refine loopW.next (sE l (l1 ++ [x])) (Wk.go [27] 28 500 (by decide) (by simp [sE]) (by simp [sE, e1]) (by simp [sE, ics])) l2.length (by simp) ⟨l1 ++ [x], l2, by simp [hl12], rfl, rfl⟩
end Go.Proofs.YtnljenjcaeophaaGreatDoor
namespace Go.Proofs.YtnljenjcaeophaaGreatDoor
open Go.Xe Go.RowKit
@[simp] theorem fcp_none (g f : Nat → Int) : fcp g f 0 0 = g := by funext i; simp only [fcp]; rw [if_neg (by omega)]
def cmpI (x y : Int) : Int := if x < y then -1 else if y < x then 1 else 0
theorem isNaN_ok (x : Int) : Fn0 Tryz.prog 142 [.v (.int .i64 x)] (.v (.bool false)) := by
 refine Fun.of_wp (pn := noPn) Tryz.tab Tryz.func142 rfl fun β0 => ?_
 simp only [Tryz.f142]
 repeat(first|apply wG|(apply wR;simp -dsimp)|refine aI ?_)
 refine WP.ret (finQ.retE ?_)
 simp -dsimp
theorem compare_ok (x y : Int) : Fn0 Tryz.prog 85 [.v (.int .i64 x), .v (.int .i64 y)] (.v (.int .i64 (cmpI x y))) := by
 refine Fun.of_wp (pn := noPn) Tryz.tab Tryz.func85 rfl fun β0 => ?_
 simp only [Tryz.f85]
 repeat(first|apply wG|(apply wR;simp -dsimp)|refine aI ?_)
 refine vcStop.call0 Tryz.body142 (isNaN_ok x) rfl rfl (by simp) ?_
 simp -dsimp
 repeat(first|apply wG|(apply wR;simp -dsimp)|refine aI ?_)
 refine vcStop.call0 Tryz.body142 (isNaN_ok y) rfl rfl (by simp) ?_
 simp -dsimp
 repeat(first|apply wG|(apply wR;simp -dsimp)|refine aI ?_)
 refine cF (by simp) ?_
 refine WP.skip ?_
 simp -dsimp
 repeat(first|apply wG|(apply wR;simp -dsimp)|refine aI ?_)
 refine cF (by simp) ?_
 refine WP.skip ?_
 simp -dsimp
 repeat(first|apply wG|(apply wR;simp -dsimp)|refine aI ?_)
 refine WP.cond (b := decide (x < y)) (by simp) (fun hb => ?_) (fun hb => ?_)
 ·have hb := of_decide_eq_true hb
  repeat(first|apply wG|(apply wR;simp -dsimp)|refine aI ?_)
  refine WP.ret (finQ.retE ?_)
  simp -dsimp [cmpI, hb]
 have h1 := of_decide_eq_false hb
 refine WP.skip ?_
 simp -dsimp
 repeat(first|apply wG|(apply wR;simp -dsimp)|refine aI ?_)
 refine WP.cond (b := decide (y < x)) (by simp) (fun hb => ?_) (fun hb => ?_)
 ·have hb := of_decide_eq_true hb
  have e : cmpI x y = 1 := by rw [cmpI, if_neg h1, if_pos hb]
  repeat(first|apply wG|(apply wR;simp -dsimp)|refine aI ?_)
  refine WP.ret (finQ.retE ?_)
  simp -dsimp [e]
 have h2 := of_decide_eq_false hb
 have e : cmpI x y = 0 := by rw [cmpI, if_neg h1, if_neg h2]
 refine WP.skip ?_
 simp -dsimp
 repeat(first|apply wG|(apply wR;simp -dsimp)|refine aI ?_)
 refine WP.ret (finQ.retE ?_)
 simp -dsimp [e]
def orL : List Int → Int
 | [] => 0
 | x :: l => if x = 0 then orL l else x
theorem or_ok (l : List Int) (hl : l.length ≤ 1000) : Fn0 Tryz.prog 84 [slI l] (.v (.int .i64 (orL l))) := by
 refine Fun.of_wp (pn := noPn) Tryz.tab Tryz.func84 rfl fun β0 => ?_
 simp only [Tryz.f84]
 repeat(first|apply wG|(apply wR;simp -dsimp)|refine aI ?_)
 refine WP.loopWk (fun m S => ∃ l1 l2, l = l1 ++ l2 ∧ m = l2.length ∧ orL l = orL l2 ∧ S = mkS 18 [(3, .d (.v (.int .i64 0))), (6, .d (slI l)), (7, .d (.v (.int .i64 l.length))), (8, .d (.v (.int .i64 l1.length)))] []) l.length
  (S0 := mkS 18 [(3, .d (.v (.int .i64 0))), (6, .d (slI l)), (7, .d (.v (.int .i64 l.length))), (8, .d (.v (.int .i64 0)))] []) (Wk.lessE [] (by simp) (by simp)) ⟨[], l, rfl, rfl, rfl, rfl⟩ ?_
 rintro _ _ ⟨l1, l2, hl12, rfl, ho, rfl⟩
 simp -dsimp
 repeat(first|apply wG|(apply wR;simp -dsimp)|refine aI ?_)
 cases l2 with
 | nil =>
  simp only [List.append_nil] at hl12
  subst hl12
  refine cF (by simp) ?_
  refine WP.exit ?_
  simp -dsimp
  repeat(first|apply wG|(apply wR;simp -dsimp)|refine aI ?_)
  refine WP.ret (finQ.retE ?_)
  simp -dsimp [ho, orL]
 | cons x l2 =>
  have hll : l.length = l1.length + (l2.length + 1) := by rw [hl12]; simp
  have e1 : IntKind.i64.wrap ((l1.length : Int) + 1) = (l1.length : Int) + 1 := IntWalk.i64_in _ (by omega)
  have h1 := iD_at l1 x l2
  rw [← hl12] at h1
  refine cT (by simp; omega) ?_
  refine WP.skip ?_
  simp -dsimp
  refine WP.seq (WP.block ?_)
  repeat(first|apply wG|(apply wR;simp -dsimp [h1])|refine aI ?_)
  refine WP.cond (b := !decide (x = 0)) (by simp) (fun hb => ?_) (fun hb => ?_)
  ·have hb : ¬ x = 0 := by simpa using hb
   repeat(first|apply wG|(apply wR;simp -dsimp)|refine aI ?_)
   refine WP.ret (finQ.retE ?_)
   simp -dsimp [ho, orL, hb]
  ·have hb : x = 0 := by simpa using hb
   refine WP.skip ?_
   simp -dsimp
   repeat(first|apply wG|(apply wR;simp -dsimp)|refine aI ?_)
   refine loopW.next (mkS 18 [(3, .d (.v (.int .i64 0))), (6, .d (slI l)), (7, .d (.v (.int .i64 l.length))), (8, .d (.v (.int .i64 (l1 ++ [x]).length)))] []) (Wk.lessE [] (by simp [e1]) (by simp)) l2.length (by simp) ⟨l1 ++ [x], l2, by simp [hl12], rfl, by rw [ho, orL, if_pos hb], rfl⟩
theorem same_ok (f g : Nat → Int) (hf : fOk f) (hg : fOk g) : Fn0 Tryz.prog 55 [fD f, fD g] (.v (.bool (eqF f g))) := by
 refine Fun.of_wp (pn := noPn) Tryz.tab Tryz.func55 rfl fun β0 => ?_
 simp only [Tryz.f55]
 simp only [fD]
 repeat(first|apply wG|(apply wR;simp -dsimp)|refine aI ?_)
 refine vcStop.eqS Tryz.tab gokF noarrF rfl (.inl rfl) (m := 5) (by omega) Tryz.key47 (by decide) Tryz.gd47 st47 (cs := fcs f 0 57) (es := fcs g 0 57) (by simp) (by simp) (okF hf.1) (okF hg.1) (lits_iff hf hg) ?_
 simp -dsimp [eqRes]
 repeat(first|apply wG|(apply wR;simp -dsimp)|refine aI ?_)
 refine WP.ret (finQ.retE ?_)
 simp -dsimp
theorem refSame_ok (f g : Nat → Int) (hf : fOk f) (hg : fOk g) : Fn0 Tryz.prog 75 [fD f, fD g] (.v (.bool (eqF f g))) := by
 refine Fun.of_wp (pn := noPn) Tryz.tab Tryz.func75 rfl fun β0 => ?_
 simp only [Tryz.f75]
 simp only [fD]
 repeat(first|apply wG|(apply wR;simp -dsimp)|refine aI ?_)
 refine vcStop.eqS Tryz.tab gokF noarrF rfl (.inl rfl) (m := 5) (by omega) Tryz.key47 (by decide) Tryz.gd47 st47 (cs := fcs f 0 57) (es := fcs g 0 57) (by simp) (by simp) (okF hf.1) (okF hg.1) (lits_iff hf hg) ?_
 simp -dsimp [eqRes]
 repeat(first|apply wG|(apply wR;simp -dsimp)|refine aI ?_)
 refine WP.ret (finQ.retE ?_)
 simp -dsimp
@[simp] theorem setL_all (cs xs : List AV) (h : cs.length = xs.length) : setL cs 0 xs = xs := by
 refine List.ext_getElem? fun i => ?_
 rw [setL_get _ _ _ _ (by omega)]
 split
 ·simp
 ·rw [List.getElem?_eq_none (by omega), List.getElem?_eq_none (by omega)]
end Go.Proofs.YtnljenjcaeophaaGreatDoor
namespace Go.Proofs.YtnljenjcaeophaaGreatDoor
open Go.Xe Go.RowKit
theorem bytesCompare_ok (a b : List UInt8) : Fn0 Tryz.prog 87 [slB a, slB b] (.v (.int .i64 (Lib.compareBytes a b))) := by
 refine Fun.of_wp (pn := noPn) Tryz.tab Tryz.func87 rfl fun β0 => ?_
 simp only [Tryz.f87]
 repeat(first|apply wG|(apply wR;simp -dsimp)|refine aI ?_)
 refine vcStop.cmpBytes Tryz.func144 (by kernel_rfl) rfl (by kernel_rfl) (by kernel_rfl) rfl (l := a) (m := b) rfl rfl ?_
 simp -dsimp
 repeat(first|apply wG|(apply wR;simp -dsimp)|refine aI ?_)
 refine WP.ret (finQ.retE ?_)
 simp -dsimp
theorem or_row (a b c : Int) : Fun Tryz.prog 84 [.row 1000] [(1000, .row 3 1 3 [.d (.v (.int .i64 a)), .d (.v (.int .i64 b)), .d (.v (.int .i64 c))])] (.d (.v (.int .i64 (orL [a, b, c])))) [] fun _ => False :=
 Fun.ofRow 1000 (T := 3) (cs := iD [a, b, c]) (or_ok [a, b, c] (by simp)) rfl rfl trivial
def headC (f g : Nat → Int) : Int := orL [cmpI (f 2) (g 2), cmpI (f 0) (g 0), cmpI (f 1) (g 1)]
def cmpF (f g : Nat → Int) : Int := if headC f g = 0 then Lib.compareBytes (encR f).1 (encR g).1 else headC f g
theorem factsCompare_ok (f g : Nat → Int) (hf : fOk f) (hg : fOk g) : Fn0 Tryz.prog 39 [fD f, fD g] (.v (.int .i64 (cmpF f g))) := by
 have ef := encode_ok f hf
 have eg := encode_ok g hg
 unfold encD at ef eg
 refine Fun.of_wp (pn := noPn) Tryz.tab Tryz.func39 rfl fun β0 => ?_
 simp only [Tryz.f39]
 simp only [fD]
 repeat(first|apply wG|(apply wR;simp -dsimp)|refine aI ?_)
 refine vcStop.call0 Tryz.body85 (compare_ok (f 2) (g 2)) rfl rfl (by simp) ?_
 simp -dsimp
 repeat refine aI ?_
 refine vcStop.call0 Tryz.body85 (compare_ok (f 0) (g 0)) rfl rfl (by simp) ?_
 simp -dsimp
 repeat refine aI ?_
 refine vcStop.call0 Tryz.body85 (compare_ok (f 1) (g 1)) rfl rfl (by simp) ?_
 simp -dsimp
 repeat refine aI ?_
 refine vcStop.call Tryz.body84 (or_row (cmpI (f 2) (g 2)) (cmpI (f 0) (g 0)) (cmpI (f 1) (g 1))) (rl [(1000, 25)]) rfl rfl (by simp [BoxLeq]) (CallOk.of (by simp [BoxLeq]) rfl (by first | rfl | (simp [BoxLeq]; done)) (by simp [BoxLeq]) (by simp [BoxLeq])) (fun _ h => h.elim) (fun ⟨_, h⟩ => h.elim) (fun ⟨_, h⟩ => h.elim) (by simp [BoxLeq]) ?_
 simp -dsimp
 repeat(first|apply wG|(apply wR;simp -dsimp)|refine aI ?_)
 refine WP.cond (b := !decide (headC f g = 0)) (by simp [headC]; rfl) (fun hb => ?_) (fun hb => ?_)
 ·have hb : ¬ headC f g = 0 := by simpa using hb
  repeat(first|apply wG|(apply wR;simp -dsimp)|refine aI ?_)
  have e : cmpF f g = headC f g := if_neg hb
  refine WP.ret (finQ.retE ?_)
  simp -dsimp [e, headC]
 have hb : headC f g = 0 := by simpa using hb
 refine WP.skip ?_
 simp -dsimp
 repeat(first|apply wG|(apply wR;simp -dsimp)|refine aI ?_)
 refine vcStop.call0 Tryz.body86 ef rfl rfl (by simp [fD]) ?_
 simp -dsimp
 repeat(first|apply wG|(apply wR;simp -dsimp)|refine aI ?_)
 refine vcStop.call0 Tryz.body86 eg rfl rfl (by simp [fD]) ?_
 simp -dsimp
 repeat(first|apply wG|(apply wR;simp -dsimp)|refine aI ?_)
 refine vcStop.call0 Tryz.body87 (bytesCompare_ok (encR f).1 (encR g).1) rfl rfl (by simp) ?_
 simp -dsimp
 repeat(first|apply wG|(apply wR;simp -dsimp)|refine aI ?_)
 refine WP.ret (finQ.retE ?_)
 simp -dsimp [cmpF, hb]
end Go.Proofs.YtnljenjcaeophaaGreatDoor
