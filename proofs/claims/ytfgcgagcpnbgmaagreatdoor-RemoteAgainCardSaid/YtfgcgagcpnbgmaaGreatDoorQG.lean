/-
  Joined texts.
-/
import Derived.Test.YtfgcgagcpnbgmaaGreatDoorQFC
import Derived.Test.YtfgcgagcpnbgmaaGreatDoorQ4
set_option maxRecDepth 10000
set_option linter.unusedVariables false
set_option linter.unusedSimpArgs false
set_option linter.unusedSectionVars false
namespace Go.Proofs.YtfgcgagcpnbgmaaGreatDoor
open Go.Xe Go.RowKit
end Go.Proofs.YtfgcgagcpnbgmaaGreatDoor
namespace Go.Proofs.YtfgcgagcpnbgmaaGreatDoor
open Go.Xe Go.RowKit
@[simp] theorem fcp_none (g f : Nat → Int) : fcp g f 0 0 = g := by funext i; simp only [fcp]; rw [if_neg (by omega)]
theorem check_ok (f : Nat → Int) (hf : fOk f) : Fn0 Tryz.prog 74 [fD f] (.v (.int .i64 (if (numF f).2 = true then 0 else 120))) := by
 have h24 := numbers_ok f hf
 rw [numD] at h24
 generalize numF f = R at *
 obtain ⟨l, b⟩ := R
 refine Fun.of_wp (pn := noPn) Tryz.tab Tryz.func74 rfl fun β0 => ?_
 simp only [Tryz.f74]
 rw [fD]
 repeat(first|apply wG|(apply wR;simp -dsimp)|refine aI ?_)
 refine vcStop.call0 Tryz.body93 h24 rfl rfl (by simp [fD]) ?_
 simp -dsimp
 repeat(first|apply wG|(apply wR;simp -dsimp)|refine aI ?_)
 cases b with
 | true =>
  refine cF (by simp) ?_
  refine WP.skip ?_
  simp -dsimp
  repeat(first|apply wG|(apply wR;simp -dsimp)|refine aI ?_)
  refine WP.ret (finQ.retE ?_)
  simp -dsimp
 | false =>
  refine cT (by simp) ?_
  repeat(first|apply wG|(apply wR;simp -dsimp)|refine aI ?_)
  refine WP.ret (finQ.retE ?_)
  simp -dsimp
def intV (x : Int) : V := .mk 1 x ⟨#[]⟩ []
def intsV (l : List Int) : V := .mk 3 0 ⟨#[]⟩ (l.map intV)
theorem intsL_facts : ∀ {l : List Int}, (∀ x ∈ l, isI x) → V.okL (l.map intV) = true ∧ V.depL (l.map intV) = 0 ∧ (V.encL (l.map intV)).length ≤ 11 * l.length ∧ V.rngL (l.map intV) = true
 | [], _ => by simp [V.okL, V.depL, V.encL, V.rngL]
 | x :: l, h => by
  obtain ⟨h1, h2, h3, h4⟩ := intsL_facts (l := l) fun y hy => h y (by simp [hy])
  have hx := h x (by simp)
  have h10 := digs_len10 (zig_lt hx)
  unfold isI at hx
  rw [List.map_cons, V.okL, V.depL, V.encL, V.rngL, h1, h2, h4]
  simp only [intV, V.ok, V.dep, V.enc, V.rng, V.rngL, show (⟨#[]⟩ : ByteArray).size = 0 from rfl]
  simp
  omega
theorem intsV_facts {l : List Int} (h : ∀ x ∈ l, isI x) (hl : l.length ≤ 1000) : V.chk (intsV l) = 0 ∧ V.rng (intsV l) = true ∧ V.dep (intsV l) = 1 ∧ (V.enc (intsV l)).length ≤ 100000 := by
 obtain ⟨h1, h2, h3, h4⟩ := intsL_facts h
 have h5 : V.dep (intsV l) = 1 := by rw [intsV, V.dep, if_pos rfl, h2]
 have h10 := digs_len10 (u := l.length) (by unfold isU; omega)
 refine ⟨?_, ?_, h5, ?_⟩
 ·rw [V.chk, if_pos (by rw [intsV, V.ok]; simp [h1]), if_neg (by omega)]
 ·simp [intsV, V.rng, h4, show (⟨#[]⟩ : ByteArray).size = 0 from rfl]
 ·rw [intsV, V.enc]
  simp
  omega
theorem numF_in {f : Nat → Int} (hf : fOk f) : (∀ x ∈ (numF f).1, isI x) ∧ (numF f).1.length ≤ 12 := by
 unfold numF
 split
 ·simp
 ·rename_i E hE
  split
  ·refine ⟨fun x hx => ?_, by have := ents_len hE; simp; omega⟩
   obtain ⟨e, _, rfl⟩ := List.mem_map.1 hx
   unfold valE
   split
   ·exact hf.1 _
   ·exact susp_in
  ·simp
def encF (f : Nat → Int) : List UInt8 := V.enc (intsV (numF f).1)
def encR (f : Nat → Int) : List UInt8 × Int := if (numF f).2 = true then (encF f, 0) else ([], 120)
def encD (f : Nat → Int) : D := .tup [slB (encR f).1, .v (.int .i64 (encR f).2)]
theorem iD_at (a : List Int) (x : Int) (b : List Int) : (iD (a ++ x :: b)).drop a.length = .v (.int .i64 x) :: iD b := by
 rw [iD_append, ← iD_length a, List.drop_left]; rfl
def ics : List Int → List D
 | [] => []
 | x :: l => .v (.int .i64 1) :: .v (.int .i64 x) :: .v (.string ⟨#[]⟩) :: .v (.slice none 0 0) :: ics l
@[simp] theorem ics_append : ∀ a b : List Int, ics (a ++ b) = ics a ++ ics b
 | [], _ => rfl
 | x :: a, b => by rw [List.cons_append, ics, ics, ics_append a b]; rfl
@[simp] theorem ics_length : ∀ a : List Int, (ics a).length = a.length * 4
 | [] => rfl
 | x :: a => by rw [ics]; simp [ics_length a]; omega
theorem ics_le : ∀ l : List Int, DLes (ics l) (V.cellsL (l.map intV))
 | [] => trivial
 | x :: l => ⟨DLe.refl _, DLe.refl _, DLe.refl _, DLe.nil 4, ics_le l⟩
theorem ints_arg (l : List Int) : Leq (.agg [.d (.v (.int .i64 3)), .d (.v (.int .i64 0)), .d (.v (.string ⟨#[]⟩)), .d (.sl 4 (ics l) l.length false)]) (.d (intsV l).d) := by
 have hle : Leq (.d (.sl 4 (ics l) l.length false)) (.d (.sl 4 (V.cellsL (l.map intV)) l.length false)) := Leq.data (DLe.sl (ics_le l))
 have h1 : LeqL [.d (.v (.int .i64 3)), .d (.v (.int .i64 0)), .d (.v (.string ⟨#[]⟩)), .d (.sl 4 (ics l) l.length false)] ([D.v (.int .i64 3), .v (.int .i64 0), .v (.string ⟨#[]⟩), .sl 4 (V.cellsL (l.map intV)) l.length false].map .d) :=
  ⟨Leq.refl _, Leq.refl _, Leq.refl _, hle, trivial⟩
 have h2 := (Leq.agg h1).trans (Leq.aggD _)
 rw [intsV, V.d, V.cells, List.length_map]
 exact h2
def sE (l : List Int) (l1 : List Int) : St :=
 mkS 35 [(6, .ptr 6 0), (17, .d (slI l)), (18, .d (.v (.int .i64 l.length))), (19, .d (.v (.int .i64 l1.length)))]
  [(6, .cells 166 [.d (.v (.int .i64 3)), .d (.v (.int .i64 0)), .d (.v (.string ⟨#[]⟩)), .row 500]), (500, .row 166 4 l1.length ((ics l1).map .d))]
set_option maxHeartbeats 4000000 in
theorem encode_ok (f : Nat → Int) (hf : fOk f) : Fn0 Tryz.prog 55 [fD f] (encD f) := by
 have h24 := numbers_ok f hf
 rw [numD] at h24
 obtain ⟨hin, hlen⟩ := numF_in hf
 unfold encD encR encF
 generalize numF f = R at *
 obtain ⟨l, b⟩ := R
 simp only at hin hlen
 obtain ⟨c1, c2, c3, c4⟩ := intsV_facts hin (by omega)
 have h12 := f12_ok (intsV l) (by omega) c2 (by omega)
 rw [show V.encB (intsV l) = V.enc (intsV l) from if_pos c1, c1] at h12
 refine Fun.of_wp (pn := noPn) Tryz.tab Tryz.func55 rfl fun β0 => ?_
 simp only [Tryz.f55]
 rw [fD]
 repeat(first|apply wG|(apply wR;simp -dsimp)|refine aI ?_)
 refine vcStop.call0 Tryz.body93 h24 rfl rfl (by simp [fD]) ?_
 simp -dsimp
 repeat(first|apply wG|(apply wR;simp -dsimp)|refine aI ?_)
 cases b with
 | false =>
  refine cT (by simp) ?_
  repeat(first|apply wG|(apply wR;simp -dsimp)|refine aI ?_)
  refine WP.ret (finQ.retE ?_)
  simp -dsimp
 | true =>
  refine cF (by simp) ?_
  refine WP.skip ?_
  simp -dsimp
  repeat(first|apply wG|(apply wR;simp -dsimp)|refine aI ?_)
  refine WP.loopWk (fun m S => ∃ l1 l2, l = l1 ++ l2 ∧ m = l2.length ∧ S = sE l l1) l.length (S0 := sE l [])
   ((Wk.nilCell 6 3 500 166 4 (by simp; exact ⟨rfl, rfl⟩) rfl (by simp)).trans (Wk.lessE [] (by simp [sE]) (by simp [sE, ics]))) ⟨[], l, rfl, rfl, rfl⟩ ?_
  rintro _ _ ⟨l1, l2, hl12, rfl, rfl⟩
  simp -dsimp [sE]
  repeat(first|apply wG|(apply wR;simp -dsimp)|refine aI ?_)
  cases l2 with
  | nil =>
   simp only [List.append_nil] at hl12
   subst hl12
   refine cF (by simp) ?_
   refine WP.exit ?_
   simp -dsimp
   refine WP.weak (Wk.freeze (k := 500) (T := 166) (sz := 4) (ds := ics l) (by simp; rfl)) ?_
   simp -dsimp
   repeat(first|apply wG|(apply wR;simp -dsimp)|refine aI ?_)
   refine vcStop.call0L Tryz.body94 h12 rfl rfl (And.intro (ints_arg l) trivial) ?_
   simp -dsimp
   repeat(first|apply wG|(apply wR;simp -dsimp)|refine aI ?_)
   refine WP.ret (finQ.retE ?_)
   simp -dsimp
  | cons x l2 =>
   have hll : l.length = l1.length + (l2.length + 1) := by rw [hl12]; simp
   have e1 : IntKind.i64.wrap ((l1.length : Int) + 1) = (l1.length : Int) + 1 := IntWalk.i64_in _ (by omega)
   have h1 := iD_at l1 x l2
   rw [← hl12] at h1
   refine cT (by simp; omega) ?_
   refine WP.skip ?_
   simp -dsimp
   refine WP.seq (WP.block ?_)
   repeat(first|apply wG|(apply wR;simp -dsimp [h1])|refine aI ?_)
   refine loopW.next (sE l (l1 ++ [x])) (Wk.go [27] 28 500 (by decide) (by simp [sE]) (by simp [sE, e1]) (by simp [sE, ics])) l2.length (by simp) ⟨l1 ++ [x], l2, by simp [hl12], rfl, rfl⟩
def cmpI (x y : Int) : Int := if x < y then -1 else if y < x then 1 else 0
def orL : List Int → Int
 | [] => 0
 | x :: l => if x = 0 then orL l else x
theorem bytesEqual_ok (a b : List UInt8) : Fn0 Tryz.prog 88 [slB a, slB b] (.v (.bool (decide (a = b)))) := by
 refine Fun.of_wp (pn := noPn) Tryz.tab Tryz.func88 rfl fun β0 => ?_
 simp only [Tryz.f88]
 repeat(first|apply wG|(apply wR;simp -dsimp)|refine aI ?_)
 refine WP.ret (finQ.retE ?_)
 simp -dsimp
theorem same_ok (f g : Nat → Int) (hf : fOk f) (hg : fOk g) : Fn0 Tryz.prog 27 [fD f, fD g] (.v (.bool (eqF f g))) := by
 refine Fun.of_wp (pn := noPn) Tryz.tab Tryz.func27 rfl fun β0 => ?_
 simp only [Tryz.f27]
 simp only [fD]
 repeat(first|apply wG|(apply wR;simp -dsimp)|refine aI ?_)
 refine vcStop.eqS Tryz.tab gokF noarrF rfl (.inl rfl) (m := 5) (by omega) Tryz.key47 (by decide) Tryz.gd47 st47 (cs := fcs f 0 57) (es := fcs g 0 57) (by simp) (by simp) (okF hf.1) (okF hg.1) (lits_iff hf hg) ?_
 simp -dsimp [eqRes]
 repeat(first|apply wG|(apply wR;simp -dsimp)|refine aI ?_)
 refine WP.ret (finQ.retE ?_)
 simp -dsimp
theorem refSame_ok (f g : Nat → Int) (hf : fOk f) (hg : fOk g) : Fn0 Tryz.prog 68 [fD f, fD g] (.v (.bool (eqF f g))) := by
 refine Fun.of_wp (pn := noPn) Tryz.tab Tryz.func68 rfl fun β0 => ?_
 simp only [Tryz.f68]
 simp only [fD]
 repeat(first|apply wG|(apply wR;simp -dsimp)|refine aI ?_)
 refine vcStop.eqS Tryz.tab gokF noarrF rfl (.inl rfl) (m := 5) (by omega) Tryz.key47 (by decide) Tryz.gd47 st47 (cs := fcs f 0 57) (es := fcs g 0 57) (by simp) (by simp) (okF hf.1) (okF hg.1) (lits_iff hf hg) ?_
 simp -dsimp [eqRes]
 repeat(first|apply wG|(apply wR;simp -dsimp)|refine aI ?_)
 refine WP.ret (finQ.retE ?_)
 simp -dsimp
@[simp] theorem setL_all (cs xs : List AV) (h : cs.length = xs.length) : setL cs 0 xs = xs := by
 refine List.ext_getElem? fun i => ?_
 rw [setL_get _ _ _ _ (by omega)]
 split
 ·simp
 ·rw [List.getElem?_eq_none (by omega), List.getElem?_eq_none (by omega)]
end Go.Proofs.YtfgcgagcpnbgmaaGreatDoor
namespace Go.Proofs.YtfgcgagcpnbgmaaGreatDoor
open Go.Xe Go.RowKit
def headC (f g : Nat → Int) : Int := orL [cmpI (f 2) (g 2), cmpI (f 0) (g 0), cmpI (f 1) (g 1)]
def cmpF (f g : Nat → Int) : Int := if headC f g = 0 then Lib.compareBytes (encR f).1 (encR g).1 else headC f g
end Go.Proofs.YtfgcgagcpnbgmaaGreatDoor
