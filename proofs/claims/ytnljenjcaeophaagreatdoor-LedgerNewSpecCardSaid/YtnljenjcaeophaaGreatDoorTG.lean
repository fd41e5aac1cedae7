/-
  Joined texts.
-/
import Derived.Test.YtnljenjcaeophaaGreatDoorTFC
import Derived.Test.YtnljenjcaeophaaGreatDoorT4
set_option maxRecDepth 10000
set_option maxHeartbeats 4000000
set_option linter.unusedVariables false
set_option linter.unusedSimpArgs false
set_option linter.unusedSectionVars false
namespace Go.Proofs.YtnljenjcaeophaaGreatDoor
open Go.Xe Go.RowKit
theorem check_ok (f : Nat → Int) (hf : fOk f) : Fn0 Tryz.prog 69 [fD f] (.v (.int .i64 (if (numF f).2 = true then 0 else 120))) := by
 have h24 := numbers_ok f hf
 rw [numD] at h24
 generalize numF f = R at *
 obtain ⟨l, b⟩ := R
 refine Fun.of_wp (pn := noPn) Tryz.tab Tryz.func69 rfl fun β0 => ?_
 simp only [Tryz.f69]
 rw [fD]
 repeat(first|apply wG|(apply wR;simp -dsimp)|refine aI ?_)
 refine vcStop.call0 Tryz.body111 h24 rfl rfl (by simp [fD]) ?_
 simp -dsimp
 repeat(first|apply wG|(apply wR;simp -dsimp)|refine aI ?_)
 cases b with
 | true =>
  refine cF (by simp) ?_
  refine WP.skip ?_
  simp -dsimp
  repeat(first|apply wG|(apply wR;simp -dsimp)|refine aI ?_)
  refine WP.ret (finQ.retE ?_)
  simp -dsimp
 | false =>
  refine cT (by simp) ?_
  repeat(first|apply wG|(apply wR;simp -dsimp)|refine aI ?_)
  refine WP.ret (finQ.retE ?_)
  simp -dsimp
def intV (x : Int) : V := .mk 1 x ⟨#[]⟩ []
def intsV (l : List Int) : V := .mk 3 0 ⟨#[]⟩ (l.map intV)
theorem intsL_facts : ∀ {l : List Int}, (∀ x ∈ l, isI x) → V.okL (l.map intV) = true ∧ V.depL (l.map intV) = 0 ∧ (V.encL (l.map intV)).length ≤ 11 * l.length ∧ V.rngL (l.map intV) = true
 | [], _ => by simp [V.okL, V.depL, V.encL, V.rngL]
 | x :: l, h => by
  obtain ⟨h1, h2, h3, h4⟩ := intsL_facts (l := l) fun y hy => h y (by simp [hy])
  have hx := h x (by simp)
  have h10 := digs_len10 (zig_lt hx)
  unfold isI at hx
  rw [List.map_cons, V.okL, V.depL, V.encL, V.rngL, h1, h2, h4]
  simp only [intV, V.ok, V.dep, V.enc, V.rng, V.rngL, show (⟨#[]⟩ : ByteArray).size = 0 from rfl]
  simp
  omega
theorem intsV_facts {l : List Int} (h : ∀ x ∈ l, isI x) (hl : l.length ≤ 1000) : V.chk (intsV l) = 0 ∧ V.rng (intsV l) = true ∧ V.dep (intsV l) = 1 ∧ (V.enc (intsV l)).length ≤ 100000 := by
 obtain ⟨h1, h2, h3, h4⟩ := intsL_facts h
 have h5 : V.dep (intsV l) = 1 := by rw [intsV, V.dep, if_pos rfl, h2]
 have h10 := digs_len10 (u := l.length) (by unfold isU; omega)
 refine ⟨?_, ?_, h5, ?_⟩
 ·rw [V.chk, if_pos (by rw [intsV, V.ok]; simp [h1]), if_neg (by omega)]
 ·simp [intsV, V.rng, h4, show (⟨#[]⟩ : ByteArray).size = 0 from rfl]
 ·rw [intsV, V.enc]
  simp
  omega
theorem numF_in {f : Nat → Int} (hf : fOk f) : (∀ x ∈ (numF f).1, isI x) ∧ (numF f).1.length ≤ 12 := by
 unfold numF
 split
 ·simp
 ·rename_i E hE
  split
  ·refine ⟨fun x hx => ?_, by have := ents_len hE; simp; omega⟩
   obtain ⟨e, _, rfl⟩ := List.mem_map.1 hx
   unfold valE
   split
   ·exact hf.1 _
   ·exact susp_in
  ·simp
def encF (f : Nat → Int) : List UInt8 := V.enc (intsV (numF f).1)
def encR (f : Nat → Int) : List UInt8 × Int := if (numF f).2 = true then (encF f, 0) else ([], 120)
def encD (f : Nat → Int) : D := .tup [slB (encR f).1, .v (.int .i64 (encR f).2)]
theorem iD_at (a : List Int) (x : Int) (b : List Int) : (iD (a ++ x :: b)).drop a.length = .v (.int .i64 x) :: iD b := by
 rw [iD_append, ← iD_length a, List.drop_left]; rfl
def ics : List Int → List D
 | [] => []
 | x :: l => .v (.int .i64 1) :: .v (.int .i64 x) :: .v (.string ⟨#[]⟩) :: .v (.slice none 0 0) :: ics l
@[simp] theorem ics_append : ∀ a b : List Int, ics (a ++ b) = ics a ++ ics b
 | [], _ => rfl
 | x :: a, b => by rw [List.cons_append, ics, ics, ics_append a b]; rfl
@[simp] theorem ics_length : ∀ a : List Int, (ics a).length = a.length * 4
 | [] => rfl
 | x :: a => by rw [ics]; simp [ics_length a]; omega
theorem ics_le : ∀ l : List Int, DLes (ics l) (V.cellsL (l.map intV))
 | [] => trivial
 | x :: l => ⟨DLe.refl _, DLe.refl _, DLe.refl _, DLe.nil 4, ics_le l⟩
theorem ints_arg (l : List Int) : Leq (.agg [.d (.v (.int .i64 3)), .d (.v (.int .i64 0)), .d (.v (.string ⟨#[]⟩)), .d (.sl 4 (ics l) l.length false)]) (.d (intsV l).d) := by
 have hle : Leq (.d (.sl 4 (ics l) l.length false)) (.d (.sl 4 (V.cellsL (l.map intV)) l.length false)) := Leq.data (DLe.sl (ics_le l))
 have h1 : LeqL [.d (.v (.int .i64 3)), .d (.v (.int .i64 0)), .d (.v (.string ⟨#[]⟩)), .d (.sl 4 (ics l) l.length false)] ([D.v (.int .i64 3), .v (.int .i64 0), .v (.string ⟨#[]⟩), .sl 4 (V.cellsL (l.map intV)) l.length false].map .d) :=
  ⟨Leq.refl _, Leq.refl _, Leq.refl _, hle, trivial⟩
 have h2 := (Leq.agg h1).trans (Leq.aggD _)
 rw [intsV, V.d, V.cells, List.length_map]
 exact h2
def sE (l : List Int) (l1 : List Int) : St :=
 mkS 35 [(6, .ptr 6 0), (17, .d (slI l)), (18, .d (.v (.int .i64 l.length))), (19, .d (.v (.int .i64 l1.length)))]
  [(6, .cells 207 [.d (.v (.int .i64 3)), .d (.v (.int .i64 0)), .d (.v (.string ⟨#[]⟩)), .row 500]), (500, .row 207 4 l1.length ((ics l1).map .d))]
theorem encode_ok (f : Nat → Int) (hf : fOk f) : Fn0 Tryz.prog 86 [fD f] (encD f) := by
 have h24 := numbers_ok f hf
 rw [numD] at h24
 obtain ⟨hin, hlen⟩ := numF_in hf
 unfold encD encR encF
 generalize numF f = R at *
 obtain ⟨l, b⟩ := R
 simp only at hin hlen
 obtain ⟨c1, c2, c3, c4⟩ := intsV_facts hin (by omega)
 have h12 := f12_ok (intsV l) (by omega) c2 (by omega)
 rw [show V.encB (intsV l) = V.enc (intsV l) from if_pos c1, c1] at h12
 refine Fun.of_wp (pn := noPn) Tryz.tab Tryz.func86 rfl fun β0 => ?_
 simp only [Tryz.f86]
 rw [fD]
 repeat(first|apply wG|(apply wR;simp -dsimp)|refine aI ?_)
 refine vcStop.call0 Tryz.body111 h24 rfl rfl (by simp [fD]) ?_
 simp -dsimp
 repeat(first|apply wG|(apply wR;simp -dsimp)|refine aI ?_)
 cases b with
 | false =>
  refine cT (by simp) ?_
  repeat(first|apply wG|(apply wR;simp -dsimp)|refine aI ?_)
  refine WP.ret (finQ.retE ?_)
  simp -dsimp
 | true =>
  refine cF (by simp) ?_
  refine WP.skip ?_
  simp -dsimp
  repeat(first|apply wG|(apply wR;simp -dsimp)|refine aI ?_)
  refine WP.loopWk (fun m S => ∃ l1 l2, l = l1 ++ l2 ∧ m = l2.length ∧ S = sE l l1) l.length (S0 := sE l [])
   ((Wk.nilCell 6 3 500 207 4 (by simp; exact ⟨rfl, rfl⟩) rfl (by simp)).trans (Wk.lessE [] (by simp [sE]) (by simp [sE, ics]))) ⟨[], l, rfl, rfl, rfl⟩ ?_
  rintro _ _ ⟨l1, l2, hl12, rfl, rfl⟩
  simp -dsimp [sE]
  repeat(first|apply wG|(apply wR;simp -dsimp)|refine aI ?_)
  cases l2 with
  | nil =>
   simp only [List.append_nil] at hl12
   subst hl12
   refine cF (by simp) ?_
   refine WP.exit ?_
   simp -dsimp
   refine WP.weak (Wk.freeze (k := 500) (T := 207) (sz := 4) (ds := ics l) (by simp; rfl)) ?_
   simp -dsimp
   repeat(first|apply wG|(apply wR;simp -dsimp)|refine aI ?_)
   refine vcStop.call0L Tryz.body143 h12 rfl rfl (And.intro (ints_arg l) trivial) ?_
   simp -dsimp
   repeat(first|apply wG|(apply wR;simp -dsimp)|refine aI ?_)
   refine WP.ret (finQ.retE ?_)
   simp -dsimp
  | cons x l2 =>
   have hll : l.length = l1.length + (l2.length + 1) := by rw [hl12]; simp
   have e1 : IntKind.i64.wrap ((l1.length : Int) + 1) = (l1.length : Int) + 1 := IntWalk.i64_in _ (by omega)
   have h1 := iD_at l1 x l2
   rw [← hl12] at h1
   refine cT (by simp; omega) ?_
   refine WP.skip ?_
   simp -dsimp
   refine WP.seq (WP.block ?_)
   repeat(first|apply wG|(apply wR;simp -dsimp [h1])|refine aI ?_)
   refine loopW.next (sE l (l1 ++ [x])) (Wk.go [27] 28 500 (by decide) (by simp [sE]) (by simp [sE, e1]) (by simp [sE, ics])) l2.length (by simp) ⟨l1 ++ [x], l2, by simp [hl12], rfl, rfl⟩
abbrev inB (x lo hi : Int) : Bool := decide (lo ≤ x) && decide (x ≤ hi)
theorem in_ok (x lo hi : Int) : Fn0 Tryz.prog 119 [.v (.int .i64 x), .v (.int .i64 lo), .v (.int .i64 hi)] (.v (.bool (inB x lo hi))) := by
 refine Fun.of_wp (pn := noPn) Tryz.tab Tryz.func119 rfl fun β0 => ?_
 simp only [Tryz.f119]
 repeat(first|apply wG|(apply wR;simp -dsimp)|refine aI ?_)
 refine WP.ret (finQ.retE ?_)
 simp -dsimp
theorem time_ok (x : Int) : Fn0 Tryz.prog 177 [.v (.int .i64 x)] (.v (.bool (inB x (-1099511627776) 1099511627776))) := by
 refine Fun.of_wp (pn := noPn) Tryz.tab Tryz.func177 rfl fun β0 => ?_
 simp only [Tryz.f177]
 repeat(first|apply wG|(apply wR;simp -dsimp)|refine aI ?_)
 refine vcStop.call0 Tryz.body119 (in_ok x (-1099511627776) 1099511627776) rfl rfl (by simp) ?_
 simp -dsimp
 repeat(first|apply wG|(apply wR;simp -dsimp)|refine aI ?_)
 refine WP.ret (finQ.retE ?_)
 simp -dsimp
theorem bib_ok (x : Int) : Fn0 Tryz.prog 179 [.v (.int .i64 x)] (.v (.bool (inB x (1) 9999))) := by
 refine Fun.of_wp (pn := noPn) Tryz.tab Tryz.func179 rfl fun β0 => ?_
 simp only [Tryz.f179]
 repeat(first|apply wG|(apply wR;simp -dsimp)|refine aI ?_)
 refine vcStop.call0 Tryz.body119 (in_ok x (1) 9999) rfl rfl (by simp) ?_
 simp -dsimp
 repeat(first|apply wG|(apply wR;simp -dsimp)|refine aI ?_)
 refine WP.ret (finQ.retE ?_)
 simp -dsimp
theorem mat_ok (x : Int) : Fn0 Tryz.prog 174 [.v (.int .i64 x)] (.v (.bool (inB x (0) 39))) := by
 refine Fun.of_wp (pn := noPn) Tryz.tab Tryz.func174 rfl fun β0 => ?_
 simp only [Tryz.f174]
 repeat(first|apply wG|(apply wR;simp -dsimp)|refine aI ?_)
 refine vcStop.call0 Tryz.body119 (in_ok x (0) 39) rfl rfl (by simp) ?_
 simp -dsimp
 repeat(first|apply wG|(apply wR;simp -dsimp)|refine aI ?_)
 refine WP.ret (finQ.retE ?_)
 simp -dsimp
theorem epoch_ok (x : Int) : Fn0 Tryz.prog 175 [.v (.int .i64 x)] (.v (.bool (inB x (0) 255))) := by
 refine Fun.of_wp (pn := noPn) Tryz.tab Tryz.func175 rfl fun β0 => ?_
 simp only [Tryz.f175]
 repeat(first|apply wG|(apply wR;simp -dsimp)|refine aI ?_)
 refine vcStop.call0 Tryz.body119 (in_ok x (0) 255) rfl rfl (by simp) ?_
 simp -dsimp
 repeat(first|apply wG|(apply wR;simp -dsimp)|refine aI ?_)
 refine WP.ret (finQ.retE ?_)
 simp -dsimp
theorem chip_ok (x : Int) : Fn0 Tryz.prog 176 [.v (.int .i64 x)] (.v (.bool (inB x (0) 1048576))) := by
 refine Fun.of_wp (pn := noPn) Tryz.tab Tryz.func176 rfl fun β0 => ?_
 simp only [Tryz.f176]
 repeat(first|apply wG|(apply wR;simp -dsimp)|refine aI ?_)
 refine vcStop.call0 Tryz.body119 (in_ok x (0) 1048576) rfl rfl (by simp) ?_
 simp -dsimp
 repeat(first|apply wG|(apply wR;simp -dsimp)|refine aI ?_)
 refine WP.ret (finQ.retE ?_)
 simp -dsimp
theorem pos_ok (x : Int) : Fn0 Tryz.prog 180 [.v (.int .i64 x)] (.v (.bool (inB x (0) 255))) := by
 refine Fun.of_wp (pn := noPn) Tryz.tab Tryz.func180 rfl fun β0 => ?_
 simp only [Tryz.f180]
 repeat(first|apply wG|(apply wR;simp -dsimp)|refine aI ?_)
 refine vcStop.call0 Tryz.body119 (in_ok x (0) 255) rfl rfl (by simp) ?_
 simp -dsimp
 repeat(first|apply wG|(apply wR;simp -dsimp)|refine aI ?_)
 refine WP.ret (finQ.retE ?_)
 simp -dsimp
theorem case_ok (x : Int) : Fn0 Tryz.prog 181 [.v (.int .i64 x)] (.v (.bool (inB x (1) 1048576))) := by
 refine Fun.of_wp (pn := noPn) Tryz.tab Tryz.func181 rfl fun β0 => ?_
 simp only [Tryz.f181]
 repeat(first|apply wG|(apply wR;simp -dsimp)|refine aI ?_)
 refine vcStop.call0 Tryz.body119 (in_ok x (1) 1048576) rfl rfl (by simp) ?_
 simp -dsimp
 repeat(first|apply wG|(apply wR;simp -dsimp)|refine aI ?_)
 refine WP.ret (finQ.retE ?_)
 simp -dsimp
theorem number_ok (x : Int) : Fn0 Tryz.prog 118 [.v (.int .i64 x)] (.v (.bool (inB x (1) 1048576))) := by
 refine Fun.of_wp (pn := noPn) Tryz.tab Tryz.func118 rfl fun β0 => ?_
 simp only [Tryz.f118]
 repeat(first|apply wG|(apply wR;simp -dsimp)|refine aI ?_)
 refine vcStop.call0 Tryz.body119 (in_ok x (1) 1048576) rfl rfl (by simp) ?_
 simp -dsimp
 repeat(first|apply wG|(apply wR;simp -dsimp)|refine aI ?_)
 refine WP.ret (finQ.retE ?_)
 simp -dsimp
theorem crew_ok (x : Int) : Fn0 Tryz.prog 117 [.v (.int .i64 x)] (.v (.bool (inB x (0) 31))) := by
 refine Fun.of_wp (pn := noPn) Tryz.tab Tryz.func117 rfl fun β0 => ?_
 simp only [Tryz.f117]
 repeat(first|apply wG|(apply wR;simp -dsimp)|refine aI ?_)
 refine vcStop.call0 Tryz.body119 (in_ok x (0) 31) rfl rfl (by simp) ?_
 simp -dsimp
 repeat(first|apply wG|(apply wR;simp -dsimp)|refine aI ?_)
 refine WP.ret (finQ.retE ?_)
 simp -dsimp
theorem starter_ok (f : Nat → Int) : Fn0 Tryz.prog 173 [.agg (fcs f 4 8)] (.v (.bool (inB (f 4) 1 9999 && inB (f 5) 0 7 && inB (f 6) 0 31 && inB (f 7) (-1099511627776) 1099511627776 && inB (f 8) 0 120 && inB (f 9) 0 1048576 && inB (f 10) 0 9999 && inB (f 11) 0 1048576))) := by
 refine Fun.of_wp (pn := noPn) Tryz.tab Tryz.func173 rfl fun β0 => ?_
 simp only [Tryz.f173]
 repeat(first|apply wG|(apply wR;simp -dsimp)|refine aI ?_)
 refine vcStop.call0 Tryz.body179 (bib_ok (f 4)) rfl rfl (by simp) ?_
 simp -dsimp
 repeat refine aI ?_
 refine vcStopG.call0 Tryz.body119 (fun _ => in_ok (f 5) (0) (7)) rfl (fun _ => rfl) (fun _ => by simp) ?_
 simp -dsimp
 repeat refine aI ?_
 refine vcStopG.call0 Tryz.body119 (fun _ => in_ok (f 6) (0) (31)) rfl (fun _ => rfl) (fun _ => by simp) ?_
 simp -dsimp
 repeat refine aI ?_
 refine vcStopG.call0 Tryz.body177 (fun _ => time_ok (f 7)) rfl (fun _ => rfl) (fun _ => by simp) ?_
 simp -dsimp
 repeat refine aI ?_
 refine vcStopG.call0 Tryz.body119 (fun _ => in_ok (f 8) (0) (120)) rfl (fun _ => rfl) (fun _ => by simp) ?_
 simp -dsimp
 repeat refine aI ?_
 refine vcStopG.call0 Tryz.body176 (fun _ => chip_ok (f 9)) rfl (fun _ => rfl) (fun _ => by simp) ?_
 simp -dsimp
 repeat refine aI ?_
 refine vcStopG.call0 Tryz.body119 (fun _ => in_ok (f 10) (0) (9999)) rfl (fun _ => rfl) (fun _ => by simp) ?_
 simp -dsimp
 repeat refine aI ?_
 refine vcStopG.call0 Tryz.body119 (fun _ => in_ok (f 11) (0) (1048576)) rfl (fun _ => rfl) (fun _ => by simp) ?_
 simp -dsimp
 repeat refine aI ?_
 repeat(first|apply wG|(apply wR;simp -dsimp)|refine aI ?_)
 refine WP.ret (finQ.retE ?_)
 simp -dsimp
theorem sync_ok (f : Nat → Int) : Fn0 Tryz.prog 178 [.agg (fcs f 21 8)] (.v (.bool (inB (f 21) 0 39 && inB (f 24) 0 39 && inB (f 22) 0 255 && inB (f 25) 0 255 && inB (f 23) (-1099511627776) 1099511627776 && inB (f 26) (-1099511627776) 1099511627776 && inB (f 27) (-1099511627776) 1099511627776 && inB (f 28) (-1099511627776) 1099511627776 && decide (f 27 ≤ f 28)))) := by
 refine Fun.of_wp (pn := noPn) Tryz.tab Tryz.func178 rfl fun β0 => ?_
 simp only [Tryz.f178]
 repeat(first|apply wG|(apply wR;simp -dsimp)|refine aI ?_)
 refine vcStop.call0 Tryz.body174 (mat_ok (f 21)) rfl rfl (by simp) ?_
 simp -dsimp
 repeat refine aI ?_
 refine vcStopG.call0 Tryz.body174 (fun _ => mat_ok (f 24)) rfl (fun _ => rfl) (fun _ => by simp) ?_
 simp -dsimp
 repeat refine aI ?_
 refine vcStopG.call0 Tryz.body175 (fun _ => epoch_ok (f 22)) rfl (fun _ => rfl) (fun _ => by simp) ?_
 simp -dsimp
 repeat refine aI ?_
 refine vcStopG.call0 Tryz.body175 (fun _ => epoch_ok (f 25)) rfl (fun _ => rfl) (fun _ => by simp) ?_
 simp -dsimp
 repeat refine aI ?_
 refine vcStopG.call0 Tryz.body177 (fun _ => time_ok (f 23)) rfl (fun _ => rfl) (fun _ => by simp) ?_
 simp -dsimp
 repeat refine aI ?_
 refine vcStopG.call0 Tryz.body177 (fun _ => time_ok (f 26)) rfl (fun _ => rfl) (fun _ => by simp) ?_
 simp -dsimp
 repeat refine aI ?_
 refine vcStopG.call0 Tryz.body177 (fun _ => time_ok (f 27)) rfl (fun _ => rfl) (fun _ => by simp) ?_
 simp -dsimp
 repeat refine aI ?_
 refine vcStopG.call0 Tryz.body177 (fun _ => time_ok (f 28)) rfl (fun _ => rfl) (fun _ => by simp) ?_
 simp -dsimp
 repeat refine aI ?_
 repeat(first|apply wG|(apply wR;simp -dsimp)|refine aI ?_)
 refine WP.ret (finQ.retE ?_)
 simp -dsimp
def rulB (f : Nat → Int) : Bool :=
 if f 49 = 1 ∨ f 49 = 2 then decide (f 50 = 0) && decide (f 51 = 0) && decide (f 52 = 0)
 else if f 49 = 3 then inB (f 50) 1 9999 && inB (f 51) 0 255 && inB (f 52) 1 1099511627776
 else if f 49 = 4 then inB (f 50) 1 9999 && inB (f 51) 0 255 && inB (f 52) 1 64
 else if f 49 = 5 then inB (f 50) 1 9999 && inB (f 51) 0 255 && decide (f 52 = 0)
 else false
def rulF (f : Nat → Int) : Bool := (inB (f 47) 1 1048576 && inB (f 48) 1 2) && rulB f
theorem ruling_ok (f : Nat → Int) : Fn0 Tryz.prog 182 [.agg (fcs f 47 6)] (.v (.bool (rulF f))) := by
 refine Fun.of_wp (pn := noPn) Tryz.tab Tryz.func182 rfl fun β0 => ?_
 simp only [Tryz.f182]
 repeat(first|apply wG|(apply wR;simp -dsimp)|refine aI ?_)
 refine vcStop.call0 Tryz.body181 (case_ok (f 47)) rfl rfl (by simp) ?_
 simp -dsimp
 repeat refine aI ?_
 refine vcStopG.call0 Tryz.body119 (fun _ => in_ok (f 48) (1) (2)) rfl (fun _ => rfl) (fun _ => by simp) ?_
 simp -dsimp
 repeat refine aI ?_
 repeat(first|apply wG|(apply wR;simp -dsimp)|refine aI ?_)
 refine WP.cond (b := !(inB (f 47) 1 1048576 && inB (f 48) 1 2)) (by simp) (fun hb => ?_) (fun hb => ?_)
 ·have hb : (inB (f 47) 1 1048576 && inB (f 48) 1 2) = false := by simpa only [Bool.not_eq_true'] using hb
  repeat(first|apply wG|(apply wR;simp -dsimp)|refine aI ?_)
  refine WP.ret (finQ.retE ?_)
  simp -dsimp [rulF, hb]
 have hb : (inB (f 47) 1 1048576 && inB (f 48) 1 2) = true := by simpa only [Bool.not_eq_false'] using hb
 rw [rulF, hb, Bool.true_and]
 refine WP.skip ?_
 simp -dsimp
 repeat(first|apply wG|(apply wR;simp -dsimp)|refine aI ?_)
 have hr : f 49 = 1 ∨ f 49 = 2 ∨ f 49 = 3 ∨ f 49 = 4 ∨ f 49 = 5 ∨ (f 49 ≠ 1 ∧ f 49 ≠ 2 ∧ f 49 ≠ 3 ∧ f 49 ≠ 4 ∧ f 49 ≠ 5) := by omega
 rcases hr with hr | hr | hr | hr | hr | ⟨hr1, hr2, hr3, hr4, hr5⟩
 ·rw [hr]
  refine cT (by simp) ?_
  refine WP.skip ?_
  simp -dsimp
  repeat(first|apply wG|(apply wR;simp -dsimp)|refine aI ?_)
  refine cT (by simp) ?_
  repeat(first|apply wG|(apply wR;simp -dsimp)|refine aI ?_)
  refine WP.ret (finQ.retE ?_)
  simp -dsimp [rulB, hr]
 ·rw [hr]
  refine cF (by simp) ?_
  repeat(first|apply wG|(apply wR;simp -dsimp)|refine aI ?_)
  refine cT (by simp) ?_
  repeat(first|apply wG|(apply wR;simp -dsimp)|refine aI ?_)
  refine WP.ret (finQ.retE ?_)
  simp -dsimp [rulB, hr]
 ·rw [hr]
  refine cF (by simp) ?_
  repeat(first|apply wG|(apply wR;simp -dsimp)|refine aI ?_)
  refine cF (by simp) ?_
  repeat(first|apply wG|(apply wR;simp -dsimp)|refine aI ?_)
  refine cT (by simp) ?_
  repeat(first|apply wG|(apply wR;simp -dsimp)|refine aI ?_)
  refine vcStop.call0 Tryz.body179 (bib_ok (f 50)) rfl rfl (by simp) ?_
  simp -dsimp
  repeat refine aI ?_
  refine vcStopG.call0 Tryz.body180 (fun _ => pos_ok (f 51)) rfl (fun _ => rfl) (fun _ => by simp) ?_
  simp -dsimp
  repeat refine aI ?_
  refine vcStopG.call0 Tryz.body119 (fun _ => in_ok (f 52) (1) (1099511627776)) rfl (fun _ => rfl) (fun _ => by simp) ?_
  simp -dsimp
  repeat refine aI ?_
  repeat(first|apply wG|(apply wR;simp -dsimp)|refine aI ?_)
  refine WP.ret (finQ.retE ?_)
  simp -dsimp [rulB, hr]
 ·rw [hr]
  refine cF (by simp) ?_
  repeat(first|apply wG|(apply wR;simp -dsimp)|refine aI ?_)
  refine cF (by simp) ?_
  repeat(first|apply wG|(apply wR;simp -dsimp)|refine aI ?_)
  refine cF (by simp) ?_
  repeat(first|apply wG|(apply wR;simp -dsimp)|refine aI ?_)
  refine cT (by simp) ?_
  repeat(first|apply wG|(apply wR;simp -dsimp)|refine aI ?_)
  refine vcStop.call0 Tryz.body179 (bib_ok (f 50)) rfl rfl (by simp) ?_
  simp -dsimp
  repeat refine aI ?_
  refine vcStopG.call0 Tryz.body180 (fun _ => pos_ok (f 51)) rfl (fun _ => rfl) (fun _ => by simp) ?_
  simp -dsimp
  repeat refine aI ?_
  refine vcStopG.call0 Tryz.body119 (fun _ => in_ok (f 52) (1) (64)) rfl (fun _ => rfl) (fun _ => by simp) ?_
  simp -dsimp
  repeat refine aI ?_
  repeat(first|apply wG|(apply wR;simp -dsimp)|refine aI ?_)
  refine WP.ret (finQ.retE ?_)
  simp -dsimp [rulB, hr]
 ·rw [hr]
  refine cF (by simp) ?_
  repeat(first|apply wG|(apply wR;simp -dsimp)|refine aI ?_)
  refine cF (by simp) ?_
  repeat(first|apply wG|(apply wR;simp -dsimp)|refine aI ?_)
  refine cF (by simp) ?_
  repeat(first|apply wG|(apply wR;simp -dsimp)|refine aI ?_)
  refine cF (by simp) ?_
  repeat(first|apply wG|(apply wR;simp -dsimp)|refine aI ?_)
  refine cT (by simp) ?_
  repeat(first|apply wG|(apply wR;simp -dsimp)|refine aI ?_)
  refine vcStop.call0 Tryz.body179 (bib_ok (f 50)) rfl rfl (by simp) ?_
  simp -dsimp
  repeat refine aI ?_
  refine vcStopG.call0 Tryz.body180 (fun _ => pos_ok (f 51)) rfl (fun _ => rfl) (fun _ => by simp) ?_
  simp -dsimp
  repeat refine aI ?_
  repeat(first|apply wG|(apply wR;simp -dsimp)|refine aI ?_)
  refine WP.ret (finQ.retE ?_)
  simp -dsimp [rulB, hr]
 ·refine cF (by simp [*]) ?_
  repeat(first|apply wG|(apply wR;simp -dsimp)|refine aI ?_)
  refine cF (by simp [*]) ?_
  repeat(first|apply wG|(apply wR;simp -dsimp)|refine aI ?_)
  refine cF (by simp [*]) ?_
  repeat(first|apply wG|(apply wR;simp -dsimp)|refine aI ?_)
  refine cF (by simp [*]) ?_
  repeat(first|apply wG|(apply wR;simp -dsimp)|refine aI ?_)
  refine cF (by simp [*]) ?_
  refine WP.skip ?_
  simp -dsimp
  repeat(first|apply wG|(apply wR;simp -dsimp)|refine aI ?_)
  refine WP.ret (finQ.retE ?_)
  simp -dsimp [rulB, hr1, hr2, hr3, hr4, hr5]
def conF (f : Nat → Int) : Bool :=
 if f 3 = 1 then inB (f 4) 1 9999 && inB (f 5) 0 7 && inB (f 6) 0 31 && inB (f 7) (-1099511627776) 1099511627776 && inB (f 8) 0 120 && inB (f 9) 0 1048576 && inB (f 10) 0 9999 && inB (f 11) 0 1048576
 else if f 3 = 2 then inB (f 12) 0 39 && inB (f 13) 0 255 && inB (f 14) 0 1048576 && inB (f 15) (-1099511627776) 1099511627776
 else if f 3 = 3 then inB (f 16) 0 39 && inB (f 17) 0 255 && inB (f 18) (-1099511627776) 1099511627776 && inB (f 19) (-1099511627776) 1099511627776 && inB (f 20) 0 1099511627776
 else if f 3 = 4 then inB (f 21) 0 39 && inB (f 24) 0 39 && inB (f 22) 0 255 && inB (f 25) 0 255 && inB (f 23) (-1099511627776) 1099511627776 && inB (f 26) (-1099511627776) 1099511627776 && inB (f 27) (-1099511627776) 1099511627776 && inB (f 28) (-1099511627776) 1099511627776 && decide (f 27 ≤ f 28)
 else if f 3 = 5 then inB (f 29) 1 9999 && inB (f 30) 0 255 && inB (f 31) (-1099511627776) 1099511627776 && inB (f 32) (-1099511627776) 1099511627776 && decide (f 31 ≤ f 32)
 else if f 3 = 6 then inB (f 33) 0 39 && inB (f 34) 0 255 && inB (f 35) (-1099511627776) 1099511627776 && inB (f 36) (-1099511627776) 1099511627776 && decide (f 35 ≤ f 36)
 else if f 3 = 7 then inB (f 37) 1 9999 && inB (f 38) 1 9999 && decide (f 37 < f 38)
 else if f 3 = 8 then inB (f 39) 1 1048576 && inB (f 40) 1 9999 && inB (f 41) 0 31 && inB (f 42) 0 255
 else if f 3 = 9 then inB (f 43) 1 1048576 && inB (f 44) 0 9999 && inB (f 45) 0 1125899906842624 && inB (f 46) 0 1
 else if f 3 = 10 then rulF f
 else if f 3 = 11 then inB (f 53) 1 1048576
 else if f 3 = 12 then true
 else if f 3 = 13 then inB (f 55) 0 31 && inB (f 56) 1 1048576
 else false
theorem content_1 (f : Nat → Int) (hk : f 3 = 1) : Fn0 Tryz.prog 120 [fD f] (.v (.bool (inB (f 4) 1 9999 && inB (f 5) 0 7 && inB (f 6) 0 31 && inB (f 7) (-1099511627776) 1099511627776 && inB (f 8) 0 120 && inB (f 9) 0 1048576 && inB (f 10) 0 9999 && inB (f 11) 0 1048576))) := by
 refine Fun.of_wp (pn := noPn) Tryz.tab Tryz.func120 rfl fun β0 => ?_
 simp only [Tryz.f120]
 rw [fD]
 repeat(first|apply wG|(apply wR;simp -dsimp)|refine aI ?_)
 rw [hk]
 refine cT (by simp) ?_
 repeat(first|apply wG|(apply wR;simp -dsimp)|refine aI ?_)
 refine vcStop.call0 Tryz.body173 (starter_ok f) rfl rfl (by simp) ?_
 simp -dsimp
 repeat refine aI ?_
 repeat(first|apply wG|(apply wR;simp -dsimp)|refine aI ?_)
 refine WP.ret (finQ.retE ?_)
 simp -dsimp
theorem content_2 (f : Nat → Int) (hk : f 3 = 2) : Fn0 Tryz.prog 120 [fD f] (.v (.bool (inB (f 12) 0 39 && inB (f 13) 0 255 && inB (f 14) 0 1048576 && inB (f 15) (-1099511627776) 1099511627776))) := by
 refine Fun.of_wp (pn := noPn) Tryz.tab Tryz.func120 rfl fun β0 => ?_
 simp only [Tryz.f120]
 rw [fD]
 repeat(first|apply wG|(apply wR;simp -dsimp)|refine aI ?_)
 rw [hk]
 refine cF (by simp) ?_
 repeat(first|apply wG|(apply wR;simp -dsimp)|refine aI ?_)
 refine cT (by simp) ?_
 repeat(first|apply wG|(apply wR;simp -dsimp)|refine aI ?_)
 refine vcStop.call0 Tryz.body174 (mat_ok (f 12)) rfl rfl (by simp) ?_
 simp -dsimp
 repeat refine aI ?_
 refine vcStopG.call0 Tryz.body175 (fun _ => epoch_ok (f 13)) rfl (fun _ => rfl) (fun _ => by simp) ?_
 simp -dsimp
 repeat refine aI ?_
 refine vcStopG.call0 Tryz.body176 (fun _ => chip_ok (f 14)) rfl (fun _ => rfl) (fun _ => by simp) ?_
 simp -dsimp
 repeat refine aI ?_
 refine vcStopG.call0 Tryz.body177 (fun _ => time_ok (f 15)) rfl (fun _ => rfl) (fun _ => by simp) ?_
 simp -dsimp
 repeat refine aI ?_
 repeat(first|apply wG|(apply wR;simp -dsimp)|refine aI ?_)
 refine WP.ret (finQ.retE ?_)
 simp -dsimp
theorem content_3 (f : Nat → Int) (hk : f 3 = 3) : Fn0 Tryz.prog 120 [fD f] (.v (.bool (inB (f 16) 0 39 && inB (f 17) 0 255 && inB (f 18) (-1099511627776) 1099511627776 && inB (f 19) (-1099511627776) 1099511627776 && inB (f 20) 0 1099511627776))) := by
 refine Fun.of_wp (pn := noPn) Tryz.tab Tryz.func120 rfl fun β0 => ?_
 simp only [Tryz.f120]
 rw [fD]
 repeat(first|apply wG|(apply wR;simp -dsimp)|refine aI ?_)
 rw [hk]
 refine cF (by simp) ?_
 repeat(first|apply wG|(apply wR;simp -dsimp)|refine aI ?_)
 refine cF (by simp) ?_
 repeat(first|apply wG|(apply wR;simp -dsimp)|refine aI ?_)
 refine cT (by simp) ?_
 repeat(first|apply wG|(apply wR;simp -dsimp)|refine aI ?_)
 refine vcStop.call0 Tryz.body174 (mat_ok (f 16)) rfl rfl (by simp) ?_
 simp -dsimp
 repeat refine aI ?_
 refine vcStopG.call0 Tryz.body175 (fun _ => epoch_ok (f 17)) rfl (fun _ => rfl) (fun _ => by simp) ?_
 simp -dsimp
 repeat refine aI ?_
 refine vcStopG.call0 Tryz.body177 (fun _ => time_ok (f 18)) rfl (fun _ => rfl) (fun _ => by simp) ?_
 simp -dsimp
 repeat refine aI ?_
 refine vcStopG.call0 Tryz.body177 (fun _ => time_ok (f 19)) rfl (fun _ => rfl) (fun _ => by simp) ?_
 simp -dsimp
 repeat refine aI ?_
 refine vcStopG.call0 Tryz.body119 (fun _ => in_ok (f 20) (0) (1099511627776)) rfl (fun _ => rfl) (fun _ => by simp) ?_
 simp -dsimp
 repeat refine aI ?_
 repeat(first|apply wG|(apply wR;simp -dsimp)|refine aI ?_)
 refine WP.ret (finQ.retE ?_)
 simp -dsimp
theorem content_4 (f : Nat → Int) (hk : f 3 = 4) : Fn0 Tryz.prog 120 [fD f] (.v (.bool (inB (f 21) 0 39 && inB (f 24) 0 39 && inB (f 22) 0 255 && inB (f 25) 0 255 && inB (f 23) (-1099511627776) 1099511627776 && inB (f 26) (-1099511627776) 1099511627776 && inB (f 27) (-1099511627776) 1099511627776 && inB (f 28) (-1099511627776) 1099511627776 && decide (f 27 ≤ f 28)))) := by
 refine Fun.of_wp (pn := noPn) Tryz.tab Tryz.func120 rfl fun β0 => ?_
 simp only [Tryz.f120]
 rw [fD]
 repeat(first|apply wG|(apply wR;simp -dsimp)|refine aI ?_)
 rw [hk]
 refine cF (by simp) ?_
 repeat(first|apply wG|(apply wR;simp -dsimp)|refine aI ?_)
 refine cF (by simp) ?_
 repeat(first|apply wG|(apply wR;simp -dsimp)|refine aI ?_)
 refine cF (by simp) ?_
 repeat(first|apply wG|(apply wR;simp -dsimp)|refine aI ?_)
 refine cT (by simp) ?_
 repeat(first|apply wG|(apply wR;simp -dsimp)|refine aI ?_)
 refine vcStop.call0 Tryz.body178 (sync_ok f) rfl rfl (by simp) ?_
 simp -dsimp
 repeat refine aI ?_
 repeat(first|apply wG|(apply wR;simp -dsimp)|refine aI ?_)
 refine WP.ret (finQ.retE ?_)
 simp -dsimp
theorem content_5 (f : Nat → Int) (hk : f 3 = 5) : Fn0 Tryz.prog 120 [fD f] (.v (.bool (inB (f 29) 1 9999 && inB (f 30) 0 255 && inB (f 31) (-1099511627776) 1099511627776 && inB (f 32) (-1099511627776) 1099511627776 && decide (f 31 ≤ f 32)))) := by
 refine Fun.of_wp (pn := noPn) Tryz.tab Tryz.func120 rfl fun β0 => ?_
 simp only [Tryz.f120]
 rw [fD]
 repeat(first|apply wG|(apply wR;simp -dsimp)|refine aI ?_)
 rw [hk]
 refine cF (by simp) ?_
 repeat(first|apply wG|(apply wR;simp -dsimp)|refine aI ?_)
 refine cF (by simp) ?_
 repeat(first|apply wG|(apply wR;simp -dsimp)|refine aI ?_)
 refine cF (by simp) ?_
 repeat(first|apply wG|(apply wR;simp -dsimp)|refine aI ?_)
 refine cF (by simp) ?_
 repeat(first|apply wG|(apply wR;simp -dsimp)|refine aI ?_)
 refine cT (by simp) ?_
 repeat(first|apply wG|(apply wR;simp -dsimp)|refine aI ?_)
 refine vcStop.call0 Tryz.body179 (bib_ok (f 29)) rfl rfl (by simp) ?_
 simp -dsimp
 repeat refine aI ?_
 refine vcStopG.call0 Tryz.body180 (fun _ => pos_ok (f 30)) rfl (fun _ => rfl) (fun _ => by simp) ?_
 simp -dsimp
 repeat refine aI ?_
 refine vcStopG.call0 Tryz.body177 (fun _ => time_ok (f 31)) rfl (fun _ => rfl) (fun _ => by simp) ?_
 simp -dsimp
 repeat refine aI ?_
 refine vcStopG.call0 Tryz.body177 (fun _ => time_ok (f 32)) rfl (fun _ => rfl) (fun _ => by simp) ?_
 simp -dsimp
 repeat refine aI ?_
 repeat(first|apply wG|(apply wR;simp -dsimp)|refine aI ?_)
 refine WP.ret (finQ.retE ?_)
 simp -dsimp
theorem content_6 (f : Nat → Int) (hk : f 3 = 6) : Fn0 Tryz.prog 120 [fD f] (.v (.bool (inB (f 33) 0 39 && inB (f 34) 0 255 && inB (f 35) (-1099511627776) 1099511627776 && inB (f 36) (-1099511627776) 1099511627776 && decide (f 35 ≤ f 36)))) := by
 refine Fun.of_wp (pn := noPn) Tryz.tab Tryz.func120 rfl fun β0 => ?_
 simp only [Tryz.f120]
 rw [fD]
 repeat(first|apply wG|(apply wR;simp -dsimp)|refine aI ?_)
 rw [hk]
 refine cF (by simp) ?_
 repeat(first|apply wG|(apply wR;simp -dsimp)|refine aI ?_)
 refine cF (by simp) ?_
 repeat(first|apply wG|(apply wR;simp -dsimp)|refine aI ?_)
 refine cF (by simp) ?_
 repeat(first|apply wG|(apply wR;simp -dsimp)|refine aI ?_)
 refine cF (by simp) ?_
 repeat(first|apply wG|(apply wR;simp -dsimp)|refine aI ?_)
 refine cF (by simp) ?_
 repeat(first|apply wG|(apply wR;simp -dsimp)|refine aI ?_)
 refine cT (by simp) ?_
 repeat(first|apply wG|(apply wR;simp -dsimp)|refine aI ?_)
 refine vcStop.call0 Tryz.body174 (mat_ok (f 33)) rfl rfl (by simp) ?_
 simp -dsimp
 repeat refine aI ?_
 refine vcStopG.call0 Tryz.body175 (fun _ => epoch_ok (f 34)) rfl (fun _ => rfl) (fun _ => by simp) ?_
 simp -dsimp
 repeat refine aI ?_
 refine vcStopG.call0 Tryz.body177 (fun _ => time_ok (f 35)) rfl (fun _ => rfl) (fun _ => by simp) ?_
 simp -dsimp
 repeat refine aI ?_
 refine vcStopG.call0 Tryz.body177 (fun _ => time_ok (f 36)) rfl (fun _ => rfl) (fun _ => by simp) ?_
 simp -dsimp
 repeat refine aI ?_
 repeat(first|apply wG|(apply wR;simp -dsimp)|refine aI ?_)
 refine WP.ret (finQ.retE ?_)
 simp -dsimp
theorem content_7 (f : Nat → Int) (hk : f 3 = 7) : Fn0 Tryz.prog 120 [fD f] (.v (.bool (inB (f 37) 1 9999 && inB (f 38) 1 9999 && decide (f 37 < f 38)))) := by
 refine Fun.of_wp (pn := noPn) Tryz.tab Tryz.func120 rfl fun β0 => ?_
 simp only [Tryz.f120]
 rw [fD]
 repeat(first|apply wG|(apply wR;simp -dsimp)|refine aI ?_)
 rw [hk]
 refine cF (by simp) ?_
 repeat(first|apply wG|(apply wR;simp -dsimp)|refine aI ?_)
 refine cF (by simp) ?_
 repeat(first|apply wG|(apply wR;simp -dsimp)|refine aI ?_)
 refine cF (by simp) ?_
 repeat(first|apply wG|(apply wR;simp -dsimp)|refine aI ?_)
 refine cF (by simp) ?_
 repeat(first|apply wG|(apply wR;simp -dsimp)|refine aI ?_)
 refine cF (by simp) ?_
 repeat(first|apply wG|(apply wR;simp -dsimp)|refine aI ?_)
 refine cF (by simp) ?_
 repeat(first|apply wG|(apply wR;simp -dsimp)|refine aI ?_)
 refine cT (by simp) ?_
 repeat(first|apply wG|(apply wR;simp -dsimp)|refine aI ?_)
 refine vcStop.call0 Tryz.body179 (bib_ok (f 37)) rfl rfl (by simp) ?_
 simp -dsimp
 repeat refine aI ?_
 refine vcStopG.call0 Tryz.body179 (fun _ => bib_ok (f 38)) rfl (fun _ => rfl) (fun _ => by simp) ?_
 simp -dsimp
 repeat refine aI ?_
 repeat(first|apply wG|(apply wR;simp -dsimp)|refine aI ?_)
 refine WP.ret (finQ.retE ?_)
 simp -dsimp
theorem content_8 (f : Nat → Int) (hk : f 3 = 8) : Fn0 Tryz.prog 120 [fD f] (.v (.bool (inB (f 39) 1 1048576 && inB (f 40) 1 9999 && inB (f 41) 0 31 && inB (f 42) 0 255))) := by
 refine Fun.of_wp (pn := noPn) Tryz.tab Tryz.func120 rfl fun β0 => ?_
 simp only [Tryz.f120]
 rw [fD]
 repeat(first|apply wG|(apply wR;simp -dsimp)|refine aI ?_)
 rw [hk]
 refine cF (by simp) ?_
 repeat(first|apply wG|(apply wR;simp -dsimp)|refine aI ?_)
 refine cF (by simp) ?_
 repeat(first|apply wG|(apply wR;simp -dsimp)|refine aI ?_)
 refine cF (by simp) ?_
 repeat(first|apply wG|(apply wR;simp -dsimp)|refine aI ?_)
 refine cF (by simp) ?_
 repeat(first|apply wG|(apply wR;simp -dsimp)|refine aI ?_)
 refine cF (by simp) ?_
 repeat(first|apply wG|(apply wR;simp -dsimp)|refine aI ?_)
 refine cF (by simp) ?_
 repeat(first|apply wG|(apply wR;simp -dsimp)|refine aI ?_)
 refine cF (by simp) ?_
 repeat(first|apply wG|(apply wR;simp -dsimp)|refine aI ?_)
 refine cT (by simp) ?_
 repeat(first|apply wG|(apply wR;simp -dsimp)|refine aI ?_)
 refine vcStop.call0 Tryz.body181 (case_ok (f 39)) rfl rfl (by simp) ?_
 simp -dsimp
 repeat refine aI ?_
 refine vcStopG.call0 Tryz.body179 (fun _ => bib_ok (f 40)) rfl (fun _ => rfl) (fun _ => by simp) ?_
 simp -dsimp
 repeat refine aI ?_
 refine vcStopG.call0 Tryz.body119 (fun _ => in_ok (f 41) (0) (31)) rfl (fun _ => rfl) (fun _ => by simp) ?_
 simp -dsimp
 repeat refine aI ?_
 refine vcStopG.call0 Tryz.body180 (fun _ => pos_ok (f 42)) rfl (fun _ => rfl) (fun _ => by simp) ?_
 simp -dsimp
 repeat refine aI ?_
 repeat(first|apply wG|(apply wR;simp -dsimp)|refine aI ?_)
 refine WP.ret (finQ.retE ?_)
 simp -dsimp
theorem content_9 (f : Nat → Int) (hk : f 3 = 9) : Fn0 Tryz.prog 120 [fD f] (.v (.bool (inB (f 43) 1 1048576 && inB (f 44) 0 9999 && inB (f 45) 0 1125899906842624 && inB (f 46) 0 1))) := by
 refine Fun.of_wp (pn := noPn) Tryz.tab Tryz.func120 rfl fun β0 => ?_
 simp only [Tryz.f120]
 rw [fD]
 repeat(first|apply wG|(apply wR;simp -dsimp)|refine aI ?_)
 rw [hk]
 refine cF (by simp) ?_
 repeat(first|apply wG|(apply wR;simp -dsimp)|refine aI ?_)
 refine cF (by simp) ?_
 repeat(first|apply wG|(apply wR;simp -dsimp)|refine aI ?_)
 refine cF (by simp) ?_
 repeat(first|apply wG|(apply wR;simp -dsimp)|refine aI ?_)
 refine cF (by simp) ?_
 repeat(first|apply wG|(apply wR;simp -dsimp)|refine aI ?_)
 refine cF (by simp) ?_
 repeat(first|apply wG|(apply wR;simp -dsimp)|refine aI ?_)
 refine cF (by simp) ?_
 repeat(first|apply wG|(apply wR;simp -dsimp)|refine aI ?_)
 refine cF (by simp) ?_
 repeat(first|apply wG|(apply wR;simp -dsimp)|refine aI ?_)
 refine cF (by simp) ?_
 repeat(first|apply wG|(apply wR;simp -dsimp)|refine aI ?_)
 refine cT (by simp) ?_
 repeat(first|apply wG|(apply wR;simp -dsimp)|refine aI ?_)
 refine vcStop.call0 Tryz.body181 (case_ok (f 43)) rfl rfl (by simp) ?_
 simp -dsimp
 repeat refine aI ?_
 refine vcStopG.call0 Tryz.body119 (fun _ => in_ok (f 44) (0) (9999)) rfl (fun _ => rfl) (fun _ => by simp) ?_
 simp -dsimp
 repeat refine aI ?_
 refine vcStopG.call0 Tryz.body119 (fun _ => in_ok (f 45) (0) (1125899906842624)) rfl (fun _ => rfl) (fun _ => by simp) ?_
 simp -dsimp
 repeat refine aI ?_
 refine vcStopG.call0 Tryz.body119 (fun _ => in_ok (f 46) (0) (1)) rfl (fun _ => rfl) (fun _ => by simp) ?_
 simp -dsimp
 repeat refine aI ?_
 repeat(first|apply wG|(apply wR;simp -dsimp)|refine aI ?_)
 refine WP.ret (finQ.retE ?_)
 simp -dsimp
theorem content_10 (f : Nat → Int) (hk : f 3 = 10) : Fn0 Tryz.prog 120 [fD f] (.v (.bool (rulF f))) := by
 refine Fun.of_wp (pn := noPn) Tryz.tab Tryz.func120 rfl fun β0 => ?_
 simp only [Tryz.f120]
 rw [fD]
 repeat(first|apply wG|(apply wR;simp -dsimp)|refine aI ?_)
 rw [hk]
 refine cF (by simp) ?_
 repeat(first|apply wG|(apply wR;simp -dsimp)|refine aI ?_)
 refine cF (by simp) ?_
 repeat(first|apply wG|(apply wR;simp -dsimp)|refine aI ?_)
 refine cF (by simp) ?_
 repeat(first|apply wG|(apply wR;simp -dsimp)|refine aI ?_)
 refine cF (by simp) ?_
 repeat(first|apply wG|(apply wR;simp -dsimp)|refine aI ?_)
 refine cF (by simp) ?_
 repeat(first|apply wG|(apply wR;simp -dsimp)|refine aI ?_)
 refine cF (by simp) ?_
 repeat(first|apply wG|(apply wR;simp -dsimp)|refine aI ?_)
 refine cF (by simp) ?_
 repeat(first|apply wG|(apply wR;simp -dsimp)|refine aI ?_)
 refine cF (by simp) ?_
 repeat(first|apply wG|(apply wR;simp -dsimp)|refine aI ?_)
 refine cF (by simp) ?_
 repeat(first|apply wG|(apply wR;simp -dsimp)|refine aI ?_)
 refine cT (by simp) ?_
 repeat(first|apply wG|(apply wR;simp -dsimp)|refine aI ?_)
 refine vcStop.call0 Tryz.body182 (ruling_ok f) rfl rfl (by simp) ?_
 simp -dsimp
 repeat refine aI ?_
 repeat(first|apply wG|(apply wR;simp -dsimp)|refine aI ?_)
 refine WP.ret (finQ.retE ?_)
 simp -dsimp
theorem content_11 (f : Nat → Int) (hk : f 3 = 11) : Fn0 Tryz.prog 120 [fD f] (.v (.bool (inB (f 53) 1 1048576))) := by
 refine Fun.of_wp (pn := noPn) Tryz.tab Tryz.func120 rfl fun β0 => ?_
 simp only [Tryz.f120]
 rw [fD]
 repeat(first|apply wG|(apply wR;simp -dsimp)|refine aI ?_)
 rw [hk]
 refine cF (by simp) ?_
 repeat(first|apply wG|(apply wR;simp -dsimp)|refine aI ?_)
 refine cF (by simp) ?_
 repeat(first|apply wG|(apply wR;simp -dsimp)|refine aI ?_)
 refine cF (by simp) ?_
 repeat(first|apply wG|(apply wR;simp -dsimp)|refine aI ?_)
 refine cF (by simp) ?_
 repeat(first|apply wG|(apply wR;simp -dsimp)|refine aI ?_)
 refine cF (by simp) ?_
 repeat(first|apply wG|(apply wR;simp -dsimp)|refine aI ?_)
 refine cF (by simp) ?_
 repeat(first|apply wG|(apply wR;simp -dsimp)|refine aI ?_)
 refine cF (by simp) ?_
 repeat(first|apply wG|(apply wR;simp -dsimp)|refine aI ?_)
 refine cF (by simp) ?_
 repeat(first|apply wG|(apply wR;simp -dsimp)|refine aI ?_)
 refine cF (by simp) ?_
 repeat(first|apply wG|(apply wR;simp -dsimp)|refine aI ?_)
 refine cF (by simp) ?_
 repeat(first|apply wG|(apply wR;simp -dsimp)|refine aI ?_)
 refine cT (by simp) ?_
 repeat(first|apply wG|(apply wR;simp -dsimp)|refine aI ?_)
 refine vcStop.call0 Tryz.body181 (case_ok (f 53)) rfl rfl (by simp) ?_
 simp -dsimp
 repeat refine aI ?_
 repeat(first|apply wG|(apply wR;simp -dsimp)|refine aI ?_)
 refine WP.ret (finQ.retE ?_)
 simp -dsimp
theorem content_12 (f : Nat → Int) (hk : f 3 = 12) : Fn0 Tryz.prog 120 [fD f] (.v (.bool (true))) := by
 refine Fun.of_wp (pn := noPn) Tryz.tab Tryz.func120 rfl fun β0 => ?_
 simp only [Tryz.f120]
 rw [fD]
 repeat(first|apply wG|(apply wR;simp -dsimp)|refine aI ?_)
 rw [hk]
 refine cF (by simp) ?_
 repeat(first|apply wG|(apply wR;simp -dsimp)|refine aI ?_)
 refine cF (by simp) ?_
 repeat(first|apply wG|(apply wR;simp -dsimp)|refine aI ?_)
 refine cF (by simp) ?_
 repeat(first|apply wG|(apply wR;simp -dsimp)|refine aI ?_)
 refine cF (by simp) ?_
 repeat(first|apply wG|(apply wR;simp -dsimp)|refine aI ?_)
 refine cF (by simp) ?_
 repeat(first|apply wG|(apply wR;simp -dsimp)|refine aI ?_)
 refine cF (by simp) ?_
 repeat(first|apply wG|(apply wR;simp -dsimp)|refine aI ?_)
 refine cF (by simp) ?_
 repeat(first|apply wG|(apply wR;simp -dsimp)|refine aI ?_)
 refine cF (by simp) ?_
 repeat(first|apply wG|(apply wR;simp -dsimp)|refine aI ?_)
 refine cF (by simp) ?_
 repeat(first|apply wG|(apply wR;simp -dsimp)|refine aI ?_)
 refine cF (by simp) ?_
 repeat(first|apply wG|(apply wR;simp -dsimp)|refine aI ?_)
 refine cF (by simp) ?_
 repeat(first|apply wG|(apply wR;simp -dsimp)|refine aI ?_)
 refine cT (by simp) ?_
 repeat(first|apply wG|(apply wR;simp -dsimp)|refine aI ?_)
 refine WP.ret (finQ.retE ?_)
 simp -dsimp
theorem content_13 (f : Nat → Int) (hk : f 3 = 13) : Fn0 Tryz.prog 120 [fD f] (.v (.bool (inB (f 55) 0 31 && inB (f 56) 1 1048576))) := by
 refine Fun.of_wp (pn := noPn) Tryz.tab Tryz.func120 rfl fun β0 => ?_
 simp only [Tryz.f120]
 rw [fD]
 repeat(first|apply wG|(apply wR;simp -dsimp)|refine aI ?_)
 rw [hk]
 refine cF (by simp) ?_
 repeat(first|apply wG|(apply wR;simp -dsimp)|refine aI ?_)
 refine cF (by simp) ?_
 repeat(first|apply wG|(apply wR;simp -dsimp)|refine aI ?_)
 refine cF (by simp) ?_
 repeat(first|apply wG|(apply wR;simp -dsimp)|refine aI ?_)
 refine cF (by simp) ?_
 repeat(first|apply wG|(apply wR;simp -dsimp)|refine aI ?_)
 refine cF (by simp) ?_
 repeat(first|apply wG|(apply wR;simp -dsimp)|refine aI ?_)
 refine cF (by simp) ?_
 repeat(first|apply wG|(apply wR;simp -dsimp)|refine aI ?_)
 refine cF (by simp) ?_
 repeat(first|apply wG|(apply wR;simp -dsimp)|refine aI ?_)
 refine cF (by simp) ?_
 repeat(first|apply wG|(apply wR;simp -dsimp)|refine aI ?_)
 refine cF (by simp) ?_
 repeat(first|apply wG|(apply wR;simp -dsimp)|refine aI ?_)
 refine cF (by simp) ?_
 repeat(first|apply wG|(apply wR;simp -dsimp)|refine aI ?_)
 refine cF (by simp) ?_
 repeat(first|apply wG|(apply wR;simp -dsimp)|refine aI ?_)
 refine cF (by simp) ?_
 repeat(first|apply wG|(apply wR;simp -dsimp)|refine aI ?_)
 refine cT (by simp) ?_
 repeat(first|apply wG|(apply wR;simp -dsimp)|refine aI ?_)
 refine vcStop.call0 Tryz.body117 (crew_ok (f 55)) rfl rfl (by simp) ?_
 simp -dsimp
 repeat refine aI ?_
 refine vcStopG.call0 Tryz.body118 (fun _ => number_ok (f 56)) rfl (fun _ => rfl) (fun _ => by simp) ?_
 simp -dsimp
 repeat refine aI ?_
 repeat(first|apply wG|(apply wR;simp -dsimp)|refine aI ?_)
 refine WP.ret (finQ.retE ?_)
 simp -dsimp
theorem content_no (f : Nat → Int) (hk : f 3 < 1 ∨ 13 < f 3) : Fn0 Tryz.prog 120 [fD f] (.v (.bool false)) := by
 refine Fun.of_wp (pn := noPn) Tryz.tab Tryz.func120 rfl fun β0 => ?_
 simp only [Tryz.f120]
 rw [fD]
 repeat(first|apply wG|(apply wR;simp -dsimp)|refine aI ?_)
 refine cF (by simp; omega) ?_
 repeat(first|apply wG|(apply wR;simp -dsimp)|refine aI ?_)
 refine cF (by simp; omega) ?_
 repeat(first|apply wG|(apply wR;simp -dsimp)|refine aI ?_)
 refine cF (by simp; omega) ?_
 repeat(first|apply wG|(apply wR;simp -dsimp)|refine aI ?_)
 refine cF (by simp; omega) ?_
 repeat(first|apply wG|(apply wR;simp -dsimp)|refine aI ?_)
 refine cF (by simp; omega) ?_
 repeat(first|apply wG|(apply wR;simp -dsimp)|refine aI ?_)
 refine cF (by simp; omega) ?_
 repeat(first|apply wG|(apply wR;simp -dsimp)|refine aI ?_)
 refine cF (by simp; omega) ?_
 repeat(first|apply wG|(apply wR;simp -dsimp)|refine aI ?_)
 refine cF (by simp; omega) ?_
 repeat(first|apply wG|(apply wR;simp -dsimp)|refine aI ?_)
 refine cF (by simp; omega) ?_
 repeat(first|apply wG|(apply wR;simp -dsimp)|refine aI ?_)
 refine cF (by simp; omega) ?_
 repeat(first|apply wG|(apply wR;simp -dsimp)|refine aI ?_)
 refine cF (by simp; omega) ?_
 repeat(first|apply wG|(apply wR;simp -dsimp)|refine aI ?_)
 refine cF (by simp; omega) ?_
 repeat(first|apply wG|(apply wR;simp -dsimp)|refine aI ?_)
 refine cF (by simp; omega) ?_
 refine WP.skip ?_
 simp -dsimp
 repeat(first|apply wG|(apply wR;simp -dsimp)|refine aI ?_)
 refine WP.ret (finQ.retE ?_)
 simp -dsimp
theorem content_ok (f : Nat → Int) : Fn0 Tryz.prog 120 [fD f] (.v (.bool (conF f))) := by
 have h : (f 3 < 1 ∨ 13 < f 3) ∨ f 3 = 1 ∨ f 3 = 2 ∨ f 3 = 3 ∨ f 3 = 4 ∨ f 3 = 5 ∨ f 3 = 6 ∨ f 3 = 7 ∨ f 3 = 8 ∨ f 3 = 9 ∨ f 3 = 10 ∨ f 3 = 11 ∨ f 3 = 12 ∨ f 3 = 13 := by omega
 rcases h with h | h | h | h | h | h | h | h | h | h | h | h | h | h
 ·have : conF f = false := by
   unfold conF
   rw [if_neg (by omega)]
   rw [if_neg (by omega)]
   rw [if_neg (by omega)]
   rw [if_neg (by omega)]
   rw [if_neg (by omega)]
   rw [if_neg (by omega)]
   rw [if_neg (by omega)]
   rw [if_neg (by omega)]
   rw [if_neg (by omega)]
   rw [if_neg (by omega)]
   rw [if_neg (by omega)]
   rw [if_neg (by omega)]
   rw [if_neg (by omega)]
  rw [this]; exact content_no f h
 ·have := content_1 f h; simpa only [conF, h, Int.reduceEq, if_true, if_false] using this
 ·have := content_2 f h; simpa only [conF, h, Int.reduceEq, if_true, if_false] using this
 ·have := content_3 f h; simpa only [conF, h, Int.reduceEq, if_true, if_false] using this
 ·have := content_4 f h; simpa only [conF, h, Int.reduceEq, if_true, if_false] using this
 ·have := content_5 f h; simpa only [conF, h, Int.reduceEq, if_true, if_false] using this
 ·have := content_6 f h; simpa only [conF, h, Int.reduceEq, if_true, if_false] using this
 ·have := content_7 f h; simpa only [conF, h, Int.reduceEq, if_true, if_false] using this
 ·have := content_8 f h; simpa only [conF, h, Int.reduceEq, if_true, if_false] using this
 ·have := content_9 f h; simpa only [conF, h, Int.reduceEq, if_true, if_false] using this
 ·have := content_10 f h; simpa only [conF, h, Int.reduceEq, if_true, if_false] using this
 ·have := content_11 f h; simpa only [conF, h, Int.reduceEq, if_true, if_false] using this
 ·have := content_12 f h; simpa only [conF, h, Int.reduceEq, if_true, if_false] using this
 ·have := content_13 f h; simpa only [conF, h, Int.reduceEq, if_true, if_false] using this
def partF (k : Int) : Nat × Nat :=
 if k = 1 then (4, 8) else if k = 2 then (12, 4) else if k = 3 then (16, 5) else if k = 4 then (21, 8) else if k = 5 then (29, 4) else if k = 6 then (33, 4) else if k = 7 then (37, 2)
 else if k = 8 then (39, 4) else if k = 9 then (43, 4) else if k = 10 then (47, 6) else if k = 11 then (53, 2) else if k = 13 then (55, 2) else (0, 0)
def baseF (f : Nat → Int) : Nat → Int := fup (fup (fup (fup f0 0 (f 0)) 1 (f 1)) 2 (f 2)) 3 (f 3)
def onlyF (f : Nat → Int) : Nat → Int := fcp (baseF f) f (partF (f 3)).1 (partF (f 3)).2
theorem onlyF_ok {f : Nat → Int} (hf : fOk f) : fOk (onlyF f) := by
 have hb : fOk (baseF f) := by
  refine ⟨fup_in (fup_in (fup_in (fup_in (fun _ => isI0) (hf.1 0)) (hf.1 1)) (hf.1 2)) (hf.1 3), .inl rfl, fun i hi => ?_⟩
  have h0 : i ≠ 0 := by omega
  have h1 : i ≠ 1 := by omega
  have h2 : i ≠ 2 := by omega
  have h3 : i ≠ 3 := by omega
  simp [baseF, fup, f0, h0, h1, h2, h3]
 refine ⟨fun i => ?_, ?_, fun i hi => ?_⟩
 ·unfold onlyF fcp; split; exact hf.1 i; exact hb.1 i
 ·unfold onlyF fcp; split; exact hf.2.1; exact hb.2.1
 ·unfold onlyF fcp; split; exact hf.2.2 i hi; exact hb.2.2 i hi
@[simp] theorem fcp_none (g f : Nat → Int) : fcp g f 0 0 = g := by funext i; simp only [fcp]; rw [if_neg (by omega)]
theorem only_1 (f : Nat → Int) (hk : f 3 = 1) : Fn0 Tryz.prog 121 [fD f] (fD (onlyF f)) := by
 refine Fun.of_wp (pn := noPn) Tryz.tab Tryz.func121 rfl fun β0 => ?_
 simp only [Tryz.f121]
 unfold fD
 repeat(first|apply wG|(apply wR;simp -dsimp [zero47])|refine aI ?_)
 rw [hk]
 refine cT (by simp) ?_
 repeat(first|apply wG|(apply wR;simp -dsimp)|refine aI ?_)
 refine WP.ret (finQ.retE ?_)
 simp -dsimp [onlyF, partF, hk, baseF]
 all_goals exact Leq.aggD _
theorem only_2 (f : Nat → Int) (hk : f 3 = 2) : Fn0 Tryz.prog 121 [fD f] (fD (onlyF f)) := by
 refine Fun.of_wp (pn := noPn) Tryz.tab Tryz.func121 rfl fun β0 => ?_
 simp only [Tryz.f121]
 unfold fD
 repeat(first|apply wG|(apply wR;simp -dsimp [zero47])|refine aI ?_)
 rw [hk]
 refine cF (by simp) ?_
 repeat(first|apply wG|(apply wR;simp -dsimp)|refine aI ?_)
 refine cT (by simp) ?_
 repeat(first|apply wG|(apply wR;simp -dsimp)|refine aI ?_)
 refine WP.ret (finQ.retE ?_)
 simp -dsimp [onlyF, partF, hk, baseF]
 all_goals exact Leq.aggD _
theorem only_3 (f : Nat → Int) (hk : f 3 = 3) : Fn0 Tryz.prog 121 [fD f] (fD (onlyF f)) := by
 refine Fun.of_wp (pn := noPn) Tryz.tab Tryz.func121 rfl fun β0 => ?_
 simp only [Tryz.f121]
 unfold fD
 repeat(first|apply wG|(apply wR;simp -dsimp [zero47])|refine aI ?_)
 rw [hk]
 refine cF (by simp) ?_
 repeat(first|apply wG|(apply wR;simp -dsimp)|refine aI ?_)
 refine cF (by simp) ?_
 repeat(first|apply wG|(apply wR;simp -dsimp)|refine aI ?_)
 refine cT (by simp) ?_
 repeat(first|apply wG|(apply wR;simp -dsimp)|refine aI ?_)
 refine WP.ret (finQ.retE ?_)
 simp -dsimp [onlyF, partF, hk, baseF]
 all_goals exact Leq.aggD _
theorem only_4 (f : Nat → Int) (hk : f 3 = 4) : Fn0 Tryz.prog 121 [fD f] (fD (onlyF f)) := by
 refine Fun.of_wp (pn := noPn) Tryz.tab Tryz.func121 rfl fun β0 => ?_
 simp only [Tryz.f121]
 unfold fD
 repeat(first|apply wG|(apply wR;simp -dsimp [zero47])|refine aI ?_)
 rw [hk]
 refine cF (by simp) ?_
 repeat(first|apply wG|(apply wR;simp -dsimp)|refine aI ?_)
 refine cF (by simp) ?_
 repeat(first|apply wG|(apply wR;simp -dsimp)|refine aI ?_)
 refine cF (by simp) ?_
 repeat(first|apply wG|(apply wR;simp -dsimp)|refine aI ?_)
 refine cT (by simp) ?_
 repeat(first|apply wG|(apply wR;simp -dsimp)|refine aI ?_)
 refine WP.ret (finQ.retE ?_)
 simp -dsimp [onlyF, partF, hk, baseF]
 all_goals exact Leq.aggD _
theorem only_5 (f : Nat → Int) (hk : f 3 = 5) : Fn0 Tryz.prog 121 [fD f] (fD (onlyF f)) := by
 refine Fun.of_wp (pn := noPn) Tryz.tab Tryz.func121 rfl fun β0 => ?_
 simp only [Tryz.f121]
 unfold fD
 repeat(first|apply wG|(apply wR;simp -dsimp [zero47])|refine aI ?_)
 rw [hk]
 refine cF (by simp) ?_
 repeat(first|apply wG|(apply wR;simp -dsimp)|refine aI ?_)
 refine cF (by simp) ?_
 repeat(first|apply wG|(apply wR;simp -dsimp)|refine aI ?_)
 refine cF (by simp) ?_
 repeat(first|apply wG|(apply wR;simp -dsimp)|refine aI ?_)
 refine cF (by simp) ?_
 repeat(first|apply wG|(apply wR;simp -dsimp)|refine aI ?_)
 refine cT (by simp) ?_
 repeat(first|apply wG|(apply wR;simp -dsimp)|refine aI ?_)
 refine WP.ret (finQ.retE ?_)
 simp -dsimp [onlyF, partF, hk, baseF]
 all_goals exact Leq.aggD _
theorem only_6 (f : Nat → Int) (hk : f 3 = 6) : Fn0 Tryz.prog 121 [fD f] (fD (onlyF f)) := by
 refine Fun.of_wp (pn := noPn) Tryz.tab Tryz.func121 rfl fun β0 => ?_
 simp only [Tryz.f121]
 unfold fD
 repeat(first|apply wG|(apply wR;simp -dsimp [zero47])|refine aI ?_)
 rw [hk]
 refine cF (by simp) ?_
 repeat(first|apply wG|(apply wR;simp -dsimp)|refine aI ?_)
 refine cF (by simp) ?_
 repeat(first|apply wG|(apply wR;simp -dsimp)|refine aI ?_)
 refine cF (by simp) ?_
 repeat(first|apply wG|(apply wR;simp -dsimp)|refine aI ?_)
 refine cF (by simp) ?_
 repeat(first|apply wG|(apply wR;simp -dsimp)|refine aI ?_)
 refine cF (by simp) ?_
 repeat(first|apply wG|(apply wR;simp -dsimp)|refine aI ?_)
 refine cT (by simp) ?_
 repeat(first|apply wG|(apply wR;simp -dsimp)|refine aI ?_)
 refine WP.ret (finQ.retE ?_)
 simp -dsimp [onlyF, partF, hk, baseF]
 all_goals exact Leq.aggD _
theorem only_7 (f : Nat → Int) (hk : f 3 = 7) : Fn0 Tryz.prog 121 [fD f] (fD (onlyF f)) := by
 refine Fun.of_wp (pn := noPn) Tryz.tab Tryz.func121 rfl fun β0 => ?_
 simp only [Tryz.f121]
 unfold fD
 repeat(first|apply wG|(apply wR;simp -dsimp [zero47])|refine aI ?_)
 rw [hk]
 refine cF (by simp) ?_
 repeat(first|apply wG|(apply wR;simp -dsimp)|refine aI ?_)
 refine cF (by simp) ?_
 repeat(first|apply wG|(apply wR;simp -dsimp)|refine aI ?_)
 refine cF (by simp) ?_
 repeat(first|apply wG|(apply wR;simp -dsimp)|refine aI ?_)
 refine cF (by simp) ?_
 repeat(first|apply wG|(apply wR;simp -dsimp)|refine aI ?_)
 refine cF (by simp) ?_
 repeat(first|apply wG|(apply wR;simp -dsimp)|refine aI ?_)
 refine cF (by simp) ?_
 repeat(first|apply wG|(apply wR;simp -dsimp)|refine aI ?_)
 refine cT (by simp) ?_
 repeat(first|apply wG|(apply wR;simp -dsimp)|refine aI ?_)
 refine WP.ret (finQ.retE ?_)
 simp -dsimp [onlyF, partF, hk, baseF]
 all_goals exact Leq.aggD _
theorem only_8 (f : Nat → Int) (hk : f 3 = 8) : Fn0 Tryz.prog 121 [fD f] (fD (onlyF f)) := by
 refine Fun.of_wp (pn := noPn) Tryz.tab Tryz.func121 rfl fun β0 => ?_
 simp only [Tryz.f121]
 unfold fD
 repeat(first|apply wG|(apply wR;simp -dsimp [zero47])|refine aI ?_)
 rw [hk]
 refine cF (by simp) ?_
 repeat(first|apply wG|(apply wR;simp -dsimp)|refine aI ?_)
 refine cF (by simp) ?_
 repeat(first|apply wG|(apply wR;simp -dsimp)|refine aI ?_)
 refine cF (by simp) ?_
 repeat(first|apply wG|(apply wR;simp -dsimp)|refine aI ?_)
 refine cF (by simp) ?_
 repeat(first|apply wG|(apply wR;simp -dsimp)|refine aI ?_)
 refine cF (by simp) ?_
 repeat(first|apply wG|(apply wR;simp -dsimp)|refine aI ?_)
 refine cF (by simp) ?_
 repeat(first|apply wG|(apply wR;simp -dsimp)|refine aI ?_)
 refine cF (by simp) ?_
 repeat(first|apply wG|(apply wR;simp -dsimp)|refine aI ?_)
 refine cT (by simp) ?_
 repeat(first|apply wG|(apply wR;simp -dsimp)|refine aI ?_)
 refine WP.ret (finQ.retE ?_)
 simp -dsimp [onlyF, partF, hk, baseF]
 all_goals exact Leq.aggD _
theorem only_9 (f : Nat → Int) (hk : f 3 = 9) : Fn0 Tryz.prog 121 [fD f] (fD (onlyF f)) := by
 refine Fun.of_wp (pn := noPn) Tryz.tab Tryz.func121 rfl fun β0 => ?_
 simp only [Tryz.f121]
 unfold fD
 repeat(first|apply wG|(apply wR;simp -dsimp [zero47])|refine aI ?_)
 rw [hk]
 refine cF (by simp) ?_
 repeat(first|apply wG|(apply wR;simp -dsimp)|refine aI ?_)
 refine cF (by simp) ?_
 repeat(first|apply wG|(apply wR;simp -dsimp)|refine aI ?_)
 refine cF (by simp) ?_
 repeat(first|apply wG|(apply wR;simp -dsimp)|refine aI ?_)
 refine cF (by simp) ?_
 repeat(first|apply wG|(apply wR;simp -dsimp)|refine aI ?_)
 refine cF (by simp) ?_
 repeat(first|apply wG|(apply wR;simp -dsimp)|refine aI ?_)
 refine cF (by simp) ?_
 repeat(first|apply wG|(apply wR;simp -dsimp)|refine aI ?_)
 refine cF (by simp) ?_
 repeat(first|apply wG|(apply wR;simp -dsimp)|refine aI ?_)
 refine cF (by simp) ?_
 repeat(first|apply wG|(apply wR;simp -dsimp)|refine aI ?_)
 refine cT (by simp) ?_
 repeat(first|apply wG|(apply wR;simp -dsimp)|refine aI ?_)
 refine WP.ret (finQ.retE ?_)
 simp -dsimp [onlyF, partF, hk, baseF]
 all_goals exact Leq.aggD _
theorem only_10 (f : Nat → Int) (hk : f 3 = 10) : Fn0 Tryz.prog 121 [fD f] (fD (onlyF f)) := by
 refine Fun.of_wp (pn := noPn) Tryz.tab Tryz.func121 rfl fun β0 => ?_
 simp only [Tryz.f121]
 unfold fD
 repeat(first|apply wG|(apply wR;simp -dsimp [zero47])|refine aI ?_)
 rw [hk]
 refine cF (by simp) ?_
 repeat(first|apply wG|(apply wR;simp -dsimp)|refine aI ?_)
 refine cF (by simp) ?_
 repeat(first|apply wG|(apply wR;simp -dsimp)|refine aI ?_)
 refine cF (by simp) ?_
 repeat(first|apply wG|(apply wR;simp -dsimp)|refine aI ?_)
 refine cF (by simp) ?_
 repeat(first|apply wG|(apply wR;simp -dsimp)|refine aI ?_)
 refine cF (by simp) ?_
 repeat(first|apply wG|(apply wR;simp -dsimp)|refine aI ?_)
 refine cF (by simp) ?_
 repeat(first|apply wG|(apply wR;simp -dsimp)|refine aI ?_)
 refine cF (by simp) ?_
 repeat(first|apply wG|(apply wR;simp -dsimp)|refine aI ?_)
 refine cF (by simp) ?_
 repeat(first|apply wG|(apply wR;simp -dsimp)|refine aI ?_)
 refine cF (by simp) ?_
 repeat(first|apply wG|(apply wR;simp -dsimp)|refine aI ?_)
 refine cT (by simp) ?_
 repeat(first|apply wG|(apply wR;simp -dsimp)|refine aI ?_)
 refine WP.ret (finQ.retE ?_)
 simp -dsimp [onlyF, partF, hk, baseF]
 all_goals exact Leq.aggD _
theorem only_11 (f : Nat → Int) (hk : f 3 = 11) : Fn0 Tryz.prog 121 [fD f] (fD (onlyF f)) := by
 refine Fun.of_wp (pn := noPn) Tryz.tab Tryz.func121 rfl fun β0 => ?_
 simp only [Tryz.f121]
 unfold fD
 repeat(first|apply wG|(apply wR;simp -dsimp [zero47])|refine aI ?_)
 rw [hk]
 refine cF (by simp) ?_
 repeat(first|apply wG|(apply wR;simp -dsimp)|refine aI ?_)
 refine cF (by simp) ?_
 repeat(first|apply wG|(apply wR;simp -dsimp)|refine aI ?_)
 refine cF (by simp) ?_
 repeat(first|apply wG|(apply wR;simp -dsimp)|refine aI ?_)
 refine cF (by simp) ?_
 repeat(first|apply wG|(apply wR;simp -dsimp)|refine aI ?_)
 refine cF (by simp) ?_
 repeat(first|apply wG|(apply wR;simp -dsimp)|refine aI ?_)
 refine cF (by simp) ?_
 repeat(first|apply wG|(apply wR;simp -dsimp)|refine aI ?_)
 refine cF (by simp) ?_
 repeat(first|apply wG|(apply wR;simp -dsimp)|refine aI ?_)
 refine cF (by simp) ?_
 repeat(first|apply wG|(apply wR;simp -dsimp)|refine aI ?_)
 refine cF (by simp) ?_
 repeat(first|apply wG|(apply wR;simp -dsimp)|refine aI ?_)
 refine cF (by simp) ?_
 repeat(first|apply wG|(apply wR;simp -dsimp)|refine aI ?_)
 refine cT (by simp) ?_
 repeat(first|apply wG|(apply wR;simp -dsimp)|refine aI ?_)
 refine WP.ret (finQ.retE ?_)
 simp -dsimp [onlyF, partF, hk, baseF]
 all_goals exact Leq.aggD _
theorem only_13 (f : Nat → Int) (hk : f 3 = 13) : Fn0 Tryz.prog 121 [fD f] (fD (onlyF f)) := by
 refine Fun.of_wp (pn := noPn) Tryz.tab Tryz.func121 rfl fun β0 => ?_
 simp only [Tryz.f121]
 unfold fD
 repeat(first|apply wG|(apply wR;simp -dsimp [zero47])|refine aI ?_)
 rw [hk]
 refine cF (by simp) ?_
 repeat(first|apply wG|(apply wR;simp -dsimp)|refine aI ?_)
 refine cF (by simp) ?_
 repeat(first|apply wG|(apply wR;simp -dsimp)|refine aI ?_)
 refine cF (by simp) ?_
 repeat(first|apply wG|(apply wR;simp -dsimp)|refine aI ?_)
 refine cF (by simp) ?_
 repeat(first|apply wG|(apply wR;simp -dsimp)|refine aI ?_)
 refine cF (by simp) ?_
 repeat(first|apply wG|(apply wR;simp -dsimp)|refine aI ?_)
 refine cF (by simp) ?_
 repeat(first|apply wG|(apply wR;simp -dsimp)|refine aI ?_)
 refine cF (by simp) ?_
 repeat(first|apply wG|(apply wR;simp -dsimp)|refine aI ?_)
 refine cF (by simp) ?_
 repeat(first|apply wG|(apply wR;simp -dsimp)|refine aI ?_)
 refine cF (by simp) ?_
 repeat(first|apply wG|(apply wR;simp -dsimp)|refine aI ?_)
 refine cF (by simp) ?_
 repeat(first|apply wG|(apply wR;simp -dsimp)|refine aI ?_)
 refine cF (by simp) ?_
 repeat(first|apply wG|(apply wR;simp -dsimp)|refine aI ?_)
 refine cT (by simp) ?_
 repeat(first|apply wG|(apply wR;simp -dsimp)|refine aI ?_)
 refine WP.ret (finQ.retE ?_)
 simp -dsimp [onlyF, partF, hk, baseF]
 all_goals exact Leq.aggD _
theorem only_no (f : Nat → Int) (hk : f 3 < 1 ∨ 13 < f 3 ∨ f 3 = 12) : Fn0 Tryz.prog 121 [fD f] (fD (onlyF f)) := by
 have hp : partF (f 3) = (0, 0) := by
  unfold partF
  rw [if_neg (by omega)]
  rw [if_neg (by omega)]
  rw [if_neg (by omega)]
  rw [if_neg (by omega)]
  rw [if_neg (by omega)]
  rw [if_neg (by omega)]
  rw [if_neg (by omega)]
  rw [if_neg (by omega)]
  rw [if_neg (by omega)]
  rw [if_neg (by omega)]
  rw [if_neg (by omega)]
  rw [if_neg (by omega)]
 refine Fun.of_wp (pn := noPn) Tryz.tab Tryz.func121 rfl fun β0 => ?_
 simp only [Tryz.f121]
 unfold fD
 repeat(first|apply wG|(apply wR;simp -dsimp [zero47])|refine aI ?_)
 refine cF (by simp; omega) ?_
 repeat(first|apply wG|(apply wR;simp -dsimp)|refine aI ?_)
 refine cF (by simp; omega) ?_
 repeat(first|apply wG|(apply wR;simp -dsimp)|refine aI ?_)
 refine cF (by simp; omega) ?_
 repeat(first|apply wG|(apply wR;simp -dsimp)|refine aI ?_)
 refine cF (by simp; omega) ?_
 repeat(first|apply wG|(apply wR;simp -dsimp)|refine aI ?_)
 refine cF (by simp; omega) ?_
 repeat(first|apply wG|(apply wR;simp -dsimp)|refine aI ?_)
 refine cF (by simp; omega) ?_
 repeat(first|apply wG|(apply wR;simp -dsimp)|refine aI ?_)
 refine cF (by simp; omega) ?_
 repeat(first|apply wG|(apply wR;simp -dsimp)|refine aI ?_)
 refine cF (by simp; omega) ?_
 repeat(first|apply wG|(apply wR;simp -dsimp)|refine aI ?_)
 refine cF (by simp; omega) ?_
 repeat(first|apply wG|(apply wR;simp -dsimp)|refine aI ?_)
 refine cF (by simp; omega) ?_
 repeat(first|apply wG|(apply wR;simp -dsimp)|refine aI ?_)
 refine cF (by simp; omega) ?_
 repeat(first|apply wG|(apply wR;simp -dsimp)|refine aI ?_)
 refine cF (by simp; omega) ?_
 refine WP.skip ?_
 simp -dsimp
 repeat(first|apply wG|(apply wR;simp -dsimp)|refine aI ?_)
 refine WP.ret (finQ.retE ?_)
 simp -dsimp [onlyF, hp, baseF]
 all_goals exact Leq.aggD _
theorem only_ok (f : Nat → Int) : Fn0 Tryz.prog 121 [fD f] (fD (onlyF f)) := by
 have h : (f 3 < 1 ∨ 13 < f 3 ∨ f 3 = 12) ∨ f 3 = 1 ∨ f 3 = 2 ∨ f 3 = 3 ∨ f 3 = 4 ∨ f 3 = 5 ∨ f 3 = 6 ∨ f 3 = 7 ∨ f 3 = 8 ∨ f 3 = 9 ∨ f 3 = 10 ∨ f 3 = 11 ∨ f 3 = 13 := by omega
 rcases h with h | h | h | h | h | h | h | h | h | h | h | h | h
 ·exact only_no f h
 ·exact only_1 f h
 ·exact only_2 f h
 ·exact only_3 f h
 ·exact only_4 f h
 ·exact only_5 f h
 ·exact only_6 f h
 ·exact only_7 f h
 ·exact only_8 f h
 ·exact only_9 f h
 ·exact only_10 f h
 ·exact only_11 f h
 ·exact only_13 f h
def chkF (f : Nat → Int) : Bool := inB (f 0) 0 31 && inB (f 1) 1 1048576 && inB (f 2) 0 1099511627776 && conF f && eqF f (onlyF f)
theorem refCheck_ok (f : Nat → Int) (hf : fOk f) : Fn0 Tryz.prog 72 [fD f] (.v (.int .i64 (if chkF f = true then 0 else 120))) := by
 have h28 := content_ok f
 have h29 := only_ok f
 have ho := onlyF_ok hf
 refine Fun.of_wp (pn := noPn) Tryz.tab Tryz.func72 rfl fun β0 => ?_
 simp only [Tryz.f72]
 rw [fD]
 repeat(first|apply wG|(apply wR;simp -dsimp)|refine aI ?_)
 refine vcStop.call0 Tryz.body117 (crew_ok (f 0)) rfl rfl (by simp) ?_
 simp -dsimp
 repeat refine aI ?_
 refine vcStopG.call0 Tryz.body118 (fun _ => number_ok (f 1)) rfl (fun _ => rfl) (fun _ => by simp) ?_
 simp -dsimp
 repeat refine aI ?_
 refine vcStopG.call0 Tryz.body119 (fun _ => in_ok (f 2) 0 1099511627776) rfl (fun _ => rfl) (fun _ => by simp) ?_
 simp -dsimp
 repeat refine aI ?_
 refine vcStopG.call0 Tryz.body120 (fun _ => h28) rfl (fun _ => rfl) (fun _ => by simp [fD]) ?_
 simp -dsimp
 repeat refine aI ?_
 refine vcStopG.call0 Tryz.body121 (fun _ => h29) rfl (fun _ => rfl) (fun _ => by simp [fD]) ?_
 simp -dsimp [fD]
 repeat refine aI ?_
 refine vcStopG.eqS Tryz.tab gokF noarrF rfl (.inr rfl) (m := 5) (by omega) Tryz.key47 (by decide) Tryz.gd47 st47 (cs := fcs f 0 57) (es := fcs (onlyF f) 0 57) (fun _ => by simp) (fun _ => by simp) (okF hf.1) (okF ho.1) (lits_iff hf ho) ?_
 simp -dsimp [eqRes]
 repeat(first|apply wG|(apply wR;simp -dsimp)|refine aI ?_)
 refine WP.cond (b := !chkF f) (by simp [chkF]) (fun hb => ?_) (fun hb => ?_)
 ·have hb : chkF f = false := by simpa using hb
  repeat(first|apply wG|(apply wR;simp -dsimp)|refine aI ?_)
  refine WP.ret (finQ.retE ?_)
  simp -dsimp [hb]
 ·have hb : chkF f = true := by simpa using hb
  refine WP.skip ?_
  simp -dsimp
  repeat(first|apply wG|(apply wR;simp -dsimp)|refine aI ?_)
  refine WP.ret (finQ.retE ?_)
  simp -dsimp [hb]
def cmpI (x y : Int) : Int := if x < y then -1 else if y < x then 1 else 0
theorem isNaN_ok (x : Int) : Fn0 Tryz.prog 142 [.v (.int .i64 x)] (.v (.bool false)) := by
 refine Fun.of_wp (pn := noPn) Tryz.tab Tryz.func142 rfl fun β0 => ?_
 simp only [Tryz.f142]
 repeat(first|apply wG|(apply wR;simp -dsimp)|refine aI ?_)
 refine WP.ret (finQ.retE ?_)
 simp -dsimp
theorem compare_ok (x y : Int) : Fn0 Tryz.prog 85 [.v (.int .i64 x), .v (.int .i64 y)] (.v (.int .i64 (cmpI x y))) := by
 refine Fun.of_wp (pn := noPn) Tryz.tab Tryz.func85 rfl fun β0 => ?_
 simp only [Tryz.f85]
 repeat(first|apply wG|(apply wR;simp -dsimp)|refine aI ?_)
 refine vcStop.call0 Tryz.body142 (isNaN_ok x) rfl rfl (by simp) ?_
 simp -dsimp
 repeat(first|apply wG|(apply wR;simp -dsimp)|refine aI ?_)
 refine vcStop.call0 Tryz.body142 (isNaN_ok y) rfl rfl (by simp) ?_
 simp -dsimp
 repeat(first|apply wG|(apply wR;simp -dsimp)|refine aI ?_)
 refine cF (by simp) ?_
 refine WP.skip ?_
 simp -dsimp
 repeat(first|apply wG|(apply wR;simp -dsimp)|refine aI ?_)
 refine cF (by simp) ?_
 refine WP.skip ?_
 simp -dsimp
 repeat(first|apply wG|(apply wR;simp -dsimp)|refine aI ?_)
 refine WP.cond (b := decide (x < y)) (by simp) (fun hb => ?_) (fun hb => ?_)
 ·have hb := of_decide_eq_true hb
  repeat(first|apply wG|(apply wR;simp -dsimp)|refine aI ?_)
  refine WP.ret (finQ.retE ?_)
  simp -dsimp [cmpI, hb]
 have h1 := of_decide_eq_false hb
 refine WP.skip ?_
 simp -dsimp
 repeat(first|apply wG|(apply wR;simp -dsimp)|refine aI ?_)
 refine WP.cond (b := decide (y < x)) (by simp) (fun hb => ?_) (fun hb => ?_)
 ·have hb := of_decide_eq_true hb
  have e : cmpI x y = 1 := by rw [cmpI, if_neg h1, if_pos hb]
  repeat(first|apply wG|(apply wR;simp -dsimp)|refine aI ?_)
  refine WP.ret (finQ.retE ?_)
  simp -dsimp [e]
 have h2 := of_decide_eq_false hb
 have e : cmpI x y = 0 := by rw [cmpI, if_neg h1, if_neg h2]
 refine WP.skip ?_
 simp -dsimp
 repeat(first|apply wG|(apply wR;simp -dsimp)|refine aI ?_)
 refine WP.ret (finQ.retE ?_)
 simp -dsimp [e]
def orL : List Int → Int
 | [] => 0
 | x :: l => if x = 0 then orL l else x
theorem or_ok (l : List Int) (hl : l.length ≤ 1000) : Fn0 Tryz.prog 84 [slI l] (.v (.int .i64 (orL l))) := by
 refine Fun.of_wp (pn := noPn) Tryz.tab Tryz.func84 rfl fun β0 => ?_
 simp only [Tryz.f84]
 repeat(first|apply wG|(apply wR;simp -dsimp)|refine aI ?_)
 refine WP.loopWk (fun m S => ∃ l1 l2, l = l1 ++ l2 ∧ m = l2.length ∧ orL l = orL l2 ∧ S = mkS 18 [(3, .d (.v (.int .i64 0))), (6, .d (slI l)), (7, .d (.v (.int .i64 l.length))), (8, .d (.v (.int .i64 l1.length)))] []) l.length
  (S0 := mkS 18 [(3, .d (.v (.int .i64 0))), (6, .d (slI l)), (7, .d (.v (.int .i64 l.length))), (8, .d (.v (.int .i64 0)))] []) (Wk.lessE [] (by simp) (by simp)) ⟨[], l, rfl, rfl, rfl, rfl⟩ ?_
 rintro _ _ ⟨l1, l2, hl12, rfl, ho, rfl⟩
 simp -dsimp
 repeat(first|apply wG|(apply wR;simp -dsimp)|refine aI ?_)
 cases l2 with
 | nil =>
  simp only [List.append_nil] at hl12
  subst hl12
  refine cF (by simp) ?_
  refine WP.exit ?_
  simp -dsimp
  repeat(first|apply wG|(apply wR;simp -dsimp)|refine aI ?_)
  refine WP.ret (finQ.retE ?_)
  simp -dsimp [ho, orL]
 | cons x l2 =>
  have hll : l.length = l1.length + (l2.length + 1) := by rw [hl12]; simp
  have e1 : IntKind.i64.wrap ((l1.length : Int) + 1) = (l1.length : Int) + 1 := IntWalk.i64_in _ (by omega)
  have h1 := iD_at l1 x l2
  rw [← hl12] at h1
  refine cT (by simp; omega) ?_
  refine WP.skip ?_
  simp -dsimp
  refine WP.seq (WP.block ?_)
  repeat(first|apply wG|(apply wR;simp -dsimp [h1])|refine aI ?_)
  refine WP.cond (b := !decide (x = 0)) (by simp) (fun hb => ?_) (fun hb => ?_)
  ·have hb : ¬ x = 0 := by simpa using hb
   repeat(first|apply wG|(apply wR;simp -dsimp)|refine aI ?_)
   refine WP.ret (finQ.retE ?_)
   simp -dsimp [ho, orL, hb]
  ·have hb : x = 0 := by simpa using hb
   refine WP.skip ?_
   simp -dsimp
   repeat(first|apply wG|(apply wR;simp -dsimp)|refine aI ?_)
   refine loopW.next (mkS 18 [(3, .d (.v (.int .i64 0))), (6, .d (slI l)), (7, .d (.v (.int .i64 l.length))), (8, .d (.v (.int .i64 (l1 ++ [x]).length)))] []) (Wk.lessE [] (by simp [e1]) (by simp)) l2.length (by simp) ⟨l1 ++ [x], l2, by simp [hl12], rfl, by rw [ho, orL, if_pos hb], rfl⟩
theorem same_ok (f g : Nat → Int) (hf : fOk f) (hg : fOk g) : Fn0 Tryz.prog 55 [fD f, fD g] (.v (.bool (eqF f g))) := by
 refine Fun.of_wp (pn := noPn) Tryz.tab Tryz.func55 rfl fun β0 => ?_
 simp only [Tryz.f55]
 simp only [fD]
 repeat(first|apply wG|(apply wR;simp -dsimp)|refine aI ?_)
 refine vcStop.eqS Tryz.tab gokF noarrF rfl (.inl rfl) (m := 5) (by omega) Tryz.key47 (by decide) Tryz.gd47 st47 (cs := fcs f 0 57) (es := fcs g 0 57) (by simp) (by simp) (okF hf.1) (okF hg.1) (lits_iff hf hg) ?_
 simp -dsimp [eqRes]
 repeat(first|apply wG|(apply wR;simp -dsimp)|refine aI ?_)
 refine WP.ret (finQ.retE ?_)
 simp -dsimp
theorem refSame_ok (f g : Nat → Int) (hf : fOk f) (hg : fOk g) : Fn0 Tryz.prog 75 [fD f, fD g] (.v (.bool (eqF f g))) := by
 refine Fun.of_wp (pn := noPn) Tryz.tab Tryz.func75 rfl fun β0 => ?_
 simp only [Tryz.f75]
 simp only [fD]
 repeat(first|apply wG|(apply wR;simp -dsimp)|refine aI ?_)
 refine vcStop.eqS Tryz.tab gokF noarrF rfl (.inl rfl) (m := 5) (by omega) Tryz.key47 (by decide) Tryz.gd47 st47 (cs := fcs f 0 57) (es := fcs g 0 57) (by simp) (by simp) (okF hf.1) (okF hg.1) (lits_iff hf hg) ?_
 simp -dsimp [eqRes]
 repeat(first|apply wG|(apply wR;simp -dsimp)|refine aI ?_)
 refine WP.ret (finQ.retE ?_)
 simp -dsimp
@[simp] theorem setL_all (cs xs : List AV) (h : cs.length = xs.length) : setL cs 0 xs = xs := by
 refine List.ext_getElem? fun i => ?_
 rw [setL_get _ _ _ _ (by omega)]
 split
 ·simp
 ·rw [List.getElem?_eq_none (by omega), List.getElem?_eq_none (by omega)]
def refN (f : Nat → Int) : List Int := [f 3, f 0, f 1, f 2] ++
 (
 if f 3 = 1 then [f 4, f 5, f 6, f 7, f 8, f 9, f 10, f 11]
 else if f 3 = 2 then [f 12, f 13, f 14, f 15]
 else if f 3 = 3 then [f 16, f 17, f 18, f 19, f 20]
 else if f 3 = 4 then [f 21, f 22, f 23, f 24, f 25, f 26, f 27, f 28]
 else if f 3 = 5 then [f 29, f 30, f 31, f 32]
 else if f 3 = 6 then [f 33, f 34, f 35, f 36]
 else if f 3 = 7 then [f 37, f 38]
 else if f 3 = 8 then [f 39, f 40, f 41, f 42]
 else if f 3 = 9 then [f 43, f 44, f 45, f 46]
 else if f 3 = 10 then [f 47, f 48, f 49, f 50, f 51, f 52]
 else if f 3 = 11 then [f 53, if f 54 = 1 then 1 else 0]
 else if f 3 = 13 then [f 55, f 56]
 else [])
theorem refNumbers_1 (f : Nat → Int) (hk : f 3 = 1) : Fn0 Tryz.prog 189 [fD f] (slI (refN f)) := by
 refine Fun.of_wp (pn := noPn) Tryz.tab Tryz.func189 rfl fun β0 => ?_
 simp only [Tryz.f189]
 rw [fD]
 repeat(first|apply wG|(apply wR;simp -dsimp)|refine aI ?_)
 rw [hk]
 refine cT (by simp) ?_
 repeat(first|apply wG|(apply wR;simp -dsimp)|refine aI ?_)
 refine WP.ret (finQ.retWE (Wk.freeze (k := 46) (T := 3) (sz := 1) (n := 12) (ds := iD (refN f)) (by simp [refN, hk, iD])) ?_)
 simp [refN, hk, iD]
theorem refNumbers_2 (f : Nat → Int) (hk : f 3 = 2) : Fn0 Tryz.prog 189 [fD f] (slI (refN f)) := by
 refine Fun.of_wp (pn := noPn) Tryz.tab Tryz.func189 rfl fun β0 => ?_
 simp only [Tryz.f189]
 rw [fD]
 repeat(first|apply wG|(apply wR;simp -dsimp)|refine aI ?_)
 rw [hk]
 refine cF (by simp) ?_
 repeat(first|apply wG|(apply wR;simp -dsimp)|refine aI ?_)
 refine cT (by simp) ?_
 repeat(first|apply wG|(apply wR;simp -dsimp)|refine aI ?_)
 refine WP.ret (finQ.retWE (Wk.freeze (k := 61) (T := 3) (sz := 1) (n := 8) (ds := iD (refN f)) (by simp [refN, hk, iD])) ?_)
 simp [refN, hk, iD]
theorem refNumbers_3 (f : Nat → Int) (hk : f 3 = 3) : Fn0 Tryz.prog 189 [fD f] (slI (refN f)) := by
 refine Fun.of_wp (pn := noPn) Tryz.tab Tryz.func189 rfl fun β0 => ?_
 simp only [Tryz.f189]
 rw [fD]
 repeat(first|apply wG|(apply wR;simp -dsimp)|refine aI ?_)
 rw [hk]
 refine cF (by simp) ?_
 repeat(first|apply wG|(apply wR;simp -dsimp)|refine aI ?_)
 refine cF (by simp) ?_
 repeat(first|apply wG|(apply wR;simp -dsimp)|refine aI ?_)
 refine cT (by simp) ?_
 repeat(first|apply wG|(apply wR;simp -dsimp)|refine aI ?_)
 refine WP.ret (finQ.retWE (Wk.freeze (k := 78) (T := 3) (sz := 1) (n := 9) (ds := iD (refN f)) (by simp [refN, hk, iD])) ?_)
 simp [refN, hk, iD]
theorem refNumbers_4 (f : Nat → Int) (hk : f 3 = 4) : Fn0 Tryz.prog 189 [fD f] (slI (refN f)) := by
 refine Fun.of_wp (pn := noPn) Tryz.tab Tryz.func189 rfl fun β0 => ?_
 simp only [Tryz.f189]
 rw [fD]
 repeat(first|apply wG|(apply wR;simp -dsimp)|refine aI ?_)
 rw [hk]
 refine cF (by simp) ?_
 repeat(first|apply wG|(apply wR;simp -dsimp)|refine aI ?_)
 refine cF (by simp) ?_
 repeat(first|apply wG|(apply wR;simp -dsimp)|refine aI ?_)
 refine cF (by simp) ?_
 repeat(first|apply wG|(apply wR;simp -dsimp)|refine aI ?_)
 refine cT (by simp) ?_
 repeat(first|apply wG|(apply wR;simp -dsimp)|refine aI ?_)
 refine WP.ret (finQ.retWE (Wk.freeze (k := 101) (T := 3) (sz := 1) (n := 12) (ds := iD (refN f)) (by simp [refN, hk, iD])) ?_)
 simp [refN, hk, iD]
theorem refNumbers_5 (f : Nat → Int) (hk : f 3 = 5) : Fn0 Tryz.prog 189 [fD f] (slI (refN f)) := by
 refine Fun.of_wp (pn := noPn) Tryz.tab Tryz.func189 rfl fun β0 => ?_
 simp only [Tryz.f189]
 rw [fD]
 repeat(first|apply wG|(apply wR;simp -dsimp)|refine aI ?_)
 rw [hk]
 refine cF (by simp) ?_
 repeat(first|apply wG|(apply wR;simp -dsimp)|refine aI ?_)
 refine cF (by simp) ?_
 repeat(first|apply wG|(apply wR;simp -dsimp)|refine aI ?_)
 refine cF (by simp) ?_
 repeat(first|apply wG|(apply wR;simp -dsimp)|refine aI ?_)
 refine cF (by simp) ?_
 repeat(first|apply wG|(apply wR;simp -dsimp)|refine aI ?_)
 refine cT (by simp) ?_
 repeat(first|apply wG|(apply wR;simp -dsimp)|refine aI ?_)
 refine WP.ret (finQ.retWE (Wk.freeze (k := 116) (T := 3) (sz := 1) (n := 8) (ds := iD (refN f)) (by simp [refN, hk, iD])) ?_)
 simp [refN, hk, iD]
theorem refNumbers_6 (f : Nat → Int) (hk : f 3 = 6) : Fn0 Tryz.prog 189 [fD f] (slI (refN f)) := by
 refine Fun.of_wp (pn := noPn) Tryz.tab Tryz.func189 rfl fun β0 => ?_
 simp only [Tryz.f189]
 rw [fD]
 repeat(first|apply wG|(apply wR;simp -dsimp)|refine aI ?_)
 rw [hk]
 refine cF (by simp) ?_
 repeat(first|apply wG|(apply wR;simp -dsimp)|refine aI ?_)
 refine cF (by simp) ?_
 repeat(first|apply wG|(apply wR;simp -dsimp)|refine aI ?_)
 refine cF (by simp) ?_
 repeat(first|apply wG|(apply wR;simp -dsimp)|refine aI ?_)
 refine cF (by simp) ?_
 repeat(first|apply wG|(apply wR;simp -dsimp)|refine aI ?_)
 refine cF (by simp) ?_
 repeat(first|apply wG|(apply wR;simp -dsimp)|refine aI ?_)
 refine cT (by simp) ?_
 repeat(first|apply wG|(apply wR;simp -dsimp)|refine aI ?_)
 refine WP.ret (finQ.retWE (Wk.freeze (k := 131) (T := 3) (sz := 1) (n := 8) (ds := iD (refN f)) (by simp [refN, hk, iD])) ?_)
 simp [refN, hk, iD]
theorem refNumbers_7 (f : Nat → Int) (hk : f 3 = 7) : Fn0 Tryz.prog 189 [fD f] (slI (refN f)) := by
 refine Fun.of_wp (pn := noPn) Tryz.tab Tryz.func189 rfl fun β0 => ?_
 simp only [Tryz.f189]
 rw [fD]
 repeat(first|apply wG|(apply wR;simp -dsimp)|refine aI ?_)
 rw [hk]
 refine cF (by simp) ?_
 repeat(first|apply wG|(apply wR;simp -dsimp)|refine aI ?_)
 refine cF (by simp) ?_
 repeat(first|apply wG|(apply wR;simp -dsimp)|refine aI ?_)
 refine cF (by simp) ?_
 repeat(first|apply wG|(apply wR;simp -dsimp)|refine aI ?_)
 refine cF (by simp) ?_
 repeat(first|apply wG|(apply wR;simp -dsimp)|refine aI ?_)
 refine cF (by simp) ?_
 repeat(first|apply wG|(apply wR;simp -dsimp)|refine aI ?_)
 refine cF (by simp) ?_
 repeat(first|apply wG|(apply wR;simp -dsimp)|refine aI ?_)
 refine cT (by simp) ?_
 repeat(first|apply wG|(apply wR;simp -dsimp)|refine aI ?_)
 refine WP.ret (finQ.retWE (Wk.freeze (k := 142) (T := 3) (sz := 1) (n := 6) (ds := iD (refN f)) (by simp [refN, hk, iD])) ?_)
 simp [refN, hk, iD]
theorem refNumbers_8 (f : Nat → Int) (hk : f 3 = 8) : Fn0 Tryz.prog 189 [fD f] (slI (refN f)) := by
 refine Fun.of_wp (pn := noPn) Tryz.tab Tryz.func189 rfl fun β0 => ?_
 simp only [Tryz.f189]
 rw [fD]
 repeat(first|apply wG|(apply wR;simp -dsimp)|refine aI ?_)
 rw [hk]
 refine cF (by simp) ?_
 repeat(first|apply wG|(apply wR;simp -dsimp)|refine aI ?_)
 refine cF (by simp) ?_
 repeat(first|apply wG|(apply wR;simp -dsimp)|refine aI ?_)
 refine cF (by simp) ?_
 repeat(first|apply wG|(apply wR;simp -dsimp)|refine aI ?_)
 refine cF (by simp) ?_
 repeat(first|apply wG|(apply wR;simp -dsimp)|refine aI ?_)
 refine cF (by simp) ?_
 repeat(first|apply wG|(apply wR;simp -dsimp)|refine aI ?_)
 refine cF (by simp) ?_
 repeat(first|apply wG|(apply wR;simp -dsimp)|refine aI ?_)
 refine cF (by simp) ?_
 repeat(first|apply wG|(apply wR;simp -dsimp)|refine aI ?_)
 refine cT (by simp) ?_
 repeat(first|apply wG|(apply wR;simp -dsimp)|refine aI ?_)
 refine WP.ret (finQ.retWE (Wk.freeze (k := 157) (T := 3) (sz := 1) (n := 8) (ds := iD (refN f)) (by simp [refN, hk, iD])) ?_)
 simp [refN, hk, iD]
theorem refNumbers_9 (f : Nat → Int) (hk : f 3 = 9) : Fn0 Tryz.prog 189 [fD f] (slI (refN f)) := by
 refine Fun.of_wp (pn := noPn) Tryz.tab Tryz.func189 rfl fun β0 => ?_
 simp only [Tryz.f189]
 rw [fD]
 repeat(first|apply wG|(apply wR;simp -dsimp)|refine aI ?_)
 rw [hk]
 refine cF (by simp) ?_
 repeat(first|apply wG|(apply wR;simp -dsimp)|refine aI ?_)
 refine cF (by simp) ?_
 repeat(first|apply wG|(apply wR;simp -dsimp)|refine aI ?_)
 refine cF (by simp) ?_
 repeat(first|apply wG|(apply wR;simp -dsimp)|refine aI ?_)
 refine cF (by simp) ?_
 repeat(first|apply wG|(apply wR;simp -dsimp)|refine aI ?_)
 refine cF (by simp) ?_
 repeat(first|apply wG|(apply wR;simp -dsimp)|refine aI ?_)
 refine cF (by simp) ?_
 repeat(first|apply wG|(apply wR;simp -dsimp)|refine aI ?_)
 refine cF (by simp) ?_
 repeat(first|apply wG|(apply wR;simp -dsimp)|refine aI ?_)
 refine cF (by simp) ?_
 repeat(first|apply wG|(apply wR;simp -dsimp)|refine aI ?_)
 refine cT (by simp) ?_
 repeat(first|apply wG|(apply wR;simp -dsimp)|refine aI ?_)
 refine WP.ret (finQ.retWE (Wk.freeze (k := 172) (T := 3) (sz := 1) (n := 8) (ds := iD (refN f)) (by simp [refN, hk, iD])) ?_)
 simp [refN, hk, iD]
theorem refNumbers_10 (f : Nat → Int) (hk : f 3 = 10) : Fn0 Tryz.prog 189 [fD f] (slI (refN f)) := by
 refine Fun.of_wp (pn := noPn) Tryz.tab Tryz.func189 rfl fun β0 => ?_
 simp only [Tryz.f189]
 rw [fD]
 repeat(first|apply wG|(apply wR;simp -dsimp)|refine aI ?_)
 rw [hk]
 refine cF (by simp) ?_
 repeat(first|apply wG|(apply wR;simp -dsimp)|refine aI ?_)
 refine cF (by simp) ?_
 repeat(first|apply wG|(apply wR;simp -dsimp)|refine aI ?_)
 refine cF (by simp) ?_
 repeat(first|apply wG|(apply wR;simp -dsimp)|refine aI ?_)
 refine cF (by simp) ?_
 repeat(first|apply wG|(apply wR;simp -dsimp)|refine aI ?_)
 refine cF (by simp) ?_
 repeat(first|apply wG|(apply wR;simp -dsimp)|refine aI ?_)
 refine cF (by simp) ?_
 repeat(first|apply wG|(apply wR;simp -dsimp)|refine aI ?_)
 refine cF (by simp) ?_
 repeat(first|apply wG|(apply wR;simp -dsimp)|refine aI ?_)
 refine cF (by simp) ?_
 repeat(first|apply wG|(apply wR;simp -dsimp)|refine aI ?_)
 refine cF (by simp) ?_
 repeat(first|apply wG|(apply wR;simp -dsimp)|refine aI ?_)
 refine cT (by simp) ?_
 repeat(first|apply wG|(apply wR;simp -dsimp)|refine aI ?_)
 refine WP.ret (finQ.retWE (Wk.freeze (k := 191) (T := 3) (sz := 1) (n := 10) (ds := iD (refN f)) (by simp [refN, hk, iD])) ?_)
 simp [refN, hk, iD]
theorem refNumbers_11 (f : Nat → Int) (hk : f 3 = 11) : Fn0 Tryz.prog 189 [fD f] (slI (refN f)) := by
 refine Fun.of_wp (pn := noPn) Tryz.tab Tryz.func189 rfl fun β0 => ?_
 simp only [Tryz.f189]
 rw [fD]
 repeat(first|apply wG|(apply wR;simp -dsimp)|refine aI ?_)
 rw [hk]
 refine cF (by simp) ?_
 repeat(first|apply wG|(apply wR;simp -dsimp)|refine aI ?_)
 refine cF (by simp) ?_
 repeat(first|apply wG|(apply wR;simp -dsimp)|refine aI ?_)
 refine cF (by simp) ?_
 repeat(first|apply wG|(apply wR;simp -dsimp)|refine aI ?_)
 refine cF (by simp) ?_
 repeat(first|apply wG|(apply wR;simp -dsimp)|refine aI ?_)
 refine cF (by simp) ?_
 repeat(first|apply wG|(apply wR;simp -dsimp)|refine aI ?_)
 refine cF (by simp) ?_
 repeat(first|apply wG|(apply wR;simp -dsimp)|refine aI ?_)
 refine cF (by simp) ?_
 repeat(first|apply wG|(apply wR;simp -dsimp)|refine aI ?_)
 refine cF (by simp) ?_
 repeat(first|apply wG|(apply wR;simp -dsimp)|refine aI ?_)
 refine cF (by simp) ?_
 repeat(first|apply wG|(apply wR;simp -dsimp)|refine aI ?_)
 refine cF (by simp) ?_
 repeat(first|apply wG|(apply wR;simp -dsimp)|refine aI ?_)
 refine cT (by simp) ?_
 repeat(first|apply wG|(apply wR;simp -dsimp)|refine aI ?_)
 refine WP.cond (b := decide (f 54 = 1)) (by simp) (fun hb => ?_) (fun hb => ?_)
 ·have hb := of_decide_eq_true hb
  repeat(first|apply wG|(apply wR;simp -dsimp)|refine aI ?_)
  refine WP.ret (finQ.retWE (Wk.freeze (k := 202) (T := 3) (sz := 1) (n := 6) (ds := iD (refN f)) (by simp [refN, hk, hb, iD])) ?_)
  simp [refN, hk, hb, iD]
 ·have hb := of_decide_eq_false hb
  refine WP.skip ?_
  simp -dsimp
  repeat(first|apply wG|(apply wR;simp -dsimp)|refine aI ?_)
  refine WP.ret (finQ.retWE (Wk.freeze (k := 208) (T := 3) (sz := 1) (n := 6) (ds := iD (refN f)) (by simp [refN, hk, hb, iD])) ?_)
  simp [refN, hk, hb, iD]
theorem refNumbers_13 (f : Nat → Int) (hk : f 3 = 13) : Fn0 Tryz.prog 189 [fD f] (slI (refN f)) := by
 refine Fun.of_wp (pn := noPn) Tryz.tab Tryz.func189 rfl fun β0 => ?_
 simp only [Tryz.f189]
 rw [fD]
 repeat(first|apply wG|(apply wR;simp -dsimp)|refine aI ?_)
 rw [hk]
 refine cF (by simp) ?_
 repeat(first|apply wG|(apply wR;simp -dsimp)|refine aI ?_)
 refine cF (by simp) ?_
 repeat(first|apply wG|(apply wR;simp -dsimp)|refine aI ?_)
 refine cF (by simp) ?_
 repeat(first|apply wG|(apply wR;simp -dsimp)|refine aI ?_)
 refine cF (by simp) ?_
 repeat(first|apply wG|(apply wR;simp -dsimp)|refine aI ?_)
 refine cF (by simp) ?_
 repeat(first|apply wG|(apply wR;simp -dsimp)|refine aI ?_)
 refine cF (by simp) ?_
 repeat(first|apply wG|(apply wR;simp -dsimp)|refine aI ?_)
 refine cF (by simp) ?_
 repeat(first|apply wG|(apply wR;simp -dsimp)|refine aI ?_)
 refine cF (by simp) ?_
 repeat(first|apply wG|(apply wR;simp -dsimp)|refine aI ?_)
 refine cF (by simp) ?_
 repeat(first|apply wG|(apply wR;simp -dsimp)|refine aI ?_)
 refine cF (by simp) ?_
 repeat(first|apply wG|(apply wR;simp -dsimp)|refine aI ?_)
 refine cF (by simp) ?_
 repeat(first|apply wG|(apply wR;simp -dsimp)|refine aI ?_)
 refine cT (by simp) ?_
 repeat(first|apply wG|(apply wR;simp -dsimp)|refine aI ?_)
 refine WP.ret (finQ.retWE (Wk.freeze (k := 219) (T := 3) (sz := 1) (n := 6) (ds := iD (refN f)) (by simp [refN, hk, iD])) ?_)
 simp [refN, hk, iD]
theorem refNumbers_no (f : Nat → Int) (hk : f 3 < 1 ∨ 13 < f 3 ∨ f 3 = 12) : Fn0 Tryz.prog 189 [fD f] (slI (refN f)) := by
 have hr : refN f = [f 3, f 0, f 1, f 2] := by
  unfold refN
  rw [if_neg (by omega)]
  rw [if_neg (by omega)]
  rw [if_neg (by omega)]
  rw [if_neg (by omega)]
  rw [if_neg (by omega)]
  rw [if_neg (by omega)]
  rw [if_neg (by omega)]
  rw [if_neg (by omega)]
  rw [if_neg (by omega)]
  rw [if_neg (by omega)]
  rw [if_neg (by omega)]
  rw [if_neg (by omega)]
  rfl
 refine Fun.of_wp (pn := noPn) Tryz.tab Tryz.func189 rfl fun β0 => ?_
 simp only [Tryz.f189]
 rw [fD]
 repeat(first|apply wG|(apply wR;simp -dsimp)|refine aI ?_)
 refine cF (by simp; omega) ?_
 repeat(first|apply wG|(apply wR;simp -dsimp)|refine aI ?_)
 refine cF (by simp; omega) ?_
 repeat(first|apply wG|(apply wR;simp -dsimp)|refine aI ?_)
 refine cF (by simp; omega) ?_
 repeat(first|apply wG|(apply wR;simp -dsimp)|refine aI ?_)
 refine cF (by simp; omega) ?_
 repeat(first|apply wG|(apply wR;simp -dsimp)|refine aI ?_)
 refine cF (by simp; omega) ?_
 repeat(first|apply wG|(apply wR;simp -dsimp)|refine aI ?_)
 refine cF (by simp; omega) ?_
 repeat(first|apply wG|(apply wR;simp -dsimp)|refine aI ?_)
 refine cF (by simp; omega) ?_
 repeat(first|apply wG|(apply wR;simp -dsimp)|refine aI ?_)
 refine cF (by simp; omega) ?_
 repeat(first|apply wG|(apply wR;simp -dsimp)|refine aI ?_)
 refine cF (by simp; omega) ?_
 repeat(first|apply wG|(apply wR;simp -dsimp)|refine aI ?_)
 refine cF (by simp; omega) ?_
 repeat(first|apply wG|(apply wR;simp -dsimp)|refine aI ?_)
 refine cF (by simp; omega) ?_
 repeat(first|apply wG|(apply wR;simp -dsimp)|refine aI ?_)
 refine cF (by simp; omega) ?_
 refine WP.skip ?_
 simp -dsimp
 repeat(first|apply wG|(apply wR;simp -dsimp)|refine aI ?_)
 refine WP.ret (finQ.retWE (Wk.freeze (k := 21) (T := 3) (sz := 1) (n := 4) (ds := iD (refN f)) (by simp [hr, iD])) ?_)
 simp [hr, iD]
theorem refNumbers_ok (f : Nat → Int) : Fn0 Tryz.prog 189 [fD f] (slI (refN f)) := by
 have h : (f 3 < 1 ∨ 13 < f 3 ∨ f 3 = 12) ∨ f 3 = 1 ∨ f 3 = 2 ∨ f 3 = 3 ∨ f 3 = 4 ∨ f 3 = 5 ∨ f 3 = 6 ∨ f 3 = 7 ∨ f 3 = 8 ∨ f 3 = 9 ∨ f 3 = 10 ∨ f 3 = 11 ∨ f 3 = 13 := by omega
 rcases h with h | h | h | h | h | h | h | h | h | h | h | h | h
 ·exact refNumbers_no f h
 ·exact refNumbers_1 f h
 ·exact refNumbers_2 f h
 ·exact refNumbers_3 f h
 ·exact refNumbers_4 f h
 ·exact refNumbers_5 f h
 ·exact refNumbers_6 f h
 ·exact refNumbers_7 f h
 ·exact refNumbers_8 f h
 ·exact refNumbers_9 f h
 ·exact refNumbers_10 f h
 ·exact refNumbers_11 f h
 ·exact refNumbers_13 f h
def sI (l l1 : List Int) : St :=
 mkS 23 [(0, .d (slI l)), (2, .ptr 2 0), (3, .ptr 3 0), (4, .d (.v (.int .i64 l1.length)))]
  [(2, .cells 207 [.d (.v (.int .i64 0)), .d (.v (.int .i64 0)), .d (.v (.string ⟨#[]⟩)), .d (.v (.slice none 0 0))]), (3, .cells 207 [.d (.v (.int .i64 3)), .d (.v (.int .i64 0)), .d (.v (.string ⟨#[]⟩)), .row 500]), (500, .row 207 4 l1.length ((V.cellsL (l1.map intV)).map .d))]
theorem intV_d (x : Int) : (intV x).cells = [.v (.int .i64 1), .v (.int .i64 x), .v (.string ⟨#[]⟩), .sl 4 [] 0 false] := by simp [intV, V.cells, V.cellsL]
theorem ints_ok (l : List Int) (hl : l.length ≤ 1000) : Fn0 Tryz.prog 188 [slI l] (intsV l).d := by
 refine Fun.of_wp (pn := noPn) Tryz.tab Tryz.func188 rfl fun β0 => ?_
 simp only [Tryz.f188]
 repeat(first|apply wG|(apply wR;simp -dsimp)|refine aI ?_)
 refine WP.loopWk (fun m S => ∃ l1 l2, l = l1 ++ l2 ∧ m = l2.length ∧ S = sI l l1) l.length (S0 := sI l [])
  ((Wk.nilCell 3 3 500 207 4 (by simp; exact ⟨rfl, rfl⟩) rfl (by simp)).trans (Wk.lessE [] (by simp [sI]) (by simp [sI, V.cellsL]))) ⟨[], l, rfl, rfl, rfl⟩ ?_
 rintro _ _ ⟨l1, l2, hl12, rfl, rfl⟩
 simp -dsimp [sI]
 repeat(first|apply wG|(apply wR;simp -dsimp)|refine aI ?_)
 cases l2 with
 | nil =>
  simp only [List.append_nil] at hl12
  subst hl12
  refine cF (by simp) ?_
  refine WP.exit ?_
  simp -dsimp
  repeat(first|apply wG|(apply wR;simp -dsimp)|refine aI ?_)
  refine WP.ret (finQ.retWE (Wk.freeze (k := 500) (T := 207) (sz := 4) (n := l.length) (ds := V.cellsL (l.map intV)) (by simp)) ?_)
  simp [intsV, V.d, V.cells]
 | cons x l2 =>
  have hll : l.length = l1.length + (l2.length + 1) := by rw [hl12]; simp
  have e1 : IntKind.i64.wrap ((l1.length : Int) + 1) = (l1.length : Int) + 1 := IntWalk.i64_in _ (by omega)
  have h1 := iD_at l1 x l2
  rw [← hl12] at h1
  refine cT (by simp; omega) ?_
  refine WP.skip ?_
  simp -dsimp
  refine WP.seq (WP.block ?_)
  repeat(first|apply wG|(apply wR;simp -dsimp [h1])|refine aI ?_)
  refine vcStop.call0 Tryz.body220 (f23_ok x) rfl rfl (by simp) ?_
  simp -dsimp [V.d, V.cells, V.cellsL]
  repeat(first|apply wG|(apply wR;simp -dsimp)|refine aI ?_)
  refine loopW.next (sI l (l1 ++ [x])) (Wk.go [19] 20 500 (by decide) (by simp [sI]) (by simp [sI, e1]) (by simp [sI, V.cellsL_append, V.cellsL, intV_d])) l2.length (by simp) ⟨l1 ++ [x], l2, by simp [hl12], rfl, rfl⟩
theorem refN_in {f : Nat → Int} (hf : fOk f) : (∀ x ∈ refN f, isI x) ∧ (refN f).length ≤ 12 := by
 have h := hf.1
 have key : ∀ L : List Nat, L.length ≤ 12 → refN f = L.map f → (∀ x ∈ refN f, isI x) ∧ (refN f).length ≤ 12 := fun L h1 h2 => by
  rw [h2]
  refine ⟨fun x hx => ?_, by simpa using h1⟩
  obtain ⟨i, _, rfl⟩ := List.mem_map.1 hx
  exact h i
 have hk : (f 3 < 1 ∨ 13 < f 3 ∨ f 3 = 12) ∨ f 3 = 1 ∨ f 3 = 2 ∨ f 3 = 3 ∨ f 3 = 4 ∨ f 3 = 5 ∨ f 3 = 6 ∨ f 3 = 7 ∨ f 3 = 8 ∨ f 3 = 9 ∨ f 3 = 10 ∨ f 3 = 11 ∨ f 3 = 13 := by omega
 rcases hk with hk | hk | hk | hk | hk | hk | hk | hk | hk | hk | hk | hk | hk
 ·refine key [3, 0, 1, 2] (by decide) ?_
  unfold refN
  rw [if_neg (by omega)]
  rw [if_neg (by omega)]
  rw [if_neg (by omega)]
  rw [if_neg (by omega)]
  rw [if_neg (by omega)]
  rw [if_neg (by omega)]
  rw [if_neg (by omega)]
  rw [if_neg (by omega)]
  rw [if_neg (by omega)]
  rw [if_neg (by omega)]
  rw [if_neg (by omega)]
  rw [if_neg (by omega)]
  rfl
 ·exact key [3, 0, 1, 2, 4, 5, 6, 7, 8, 9, 10, 11] (by decide) (by simp [refN, hk])
 ·exact key [3, 0, 1, 2, 12, 13, 14, 15] (by decide) (by simp [refN, hk])
 ·exact key [3, 0, 1, 2, 16, 17, 18, 19, 20] (by decide) (by simp [refN, hk])
 ·exact key [3, 0, 1, 2, 21, 22, 23, 24, 25, 26, 27, 28] (by decide) (by simp [refN, hk])
 ·exact key [3, 0, 1, 2, 29, 30, 31, 32] (by decide) (by simp [refN, hk])
 ·exact key [3, 0, 1, 2, 33, 34, 35, 36] (by decide) (by simp [refN, hk])
 ·exact key [3, 0, 1, 2, 37, 38] (by decide) (by simp [refN, hk])
 ·exact key [3, 0, 1, 2, 39, 40, 41, 42] (by decide) (by simp [refN, hk])
 ·exact key [3, 0, 1, 2, 43, 44, 45, 46] (by decide) (by simp [refN, hk])
 ·exact key [3, 0, 1, 2, 47, 48, 49, 50, 51, 52] (by decide) (by simp [refN, hk])
 ·have e : refN f = [f 3, f 0, f 1, f 2, f 53, if f 54 = 1 then 1 else 0] := by simp [refN, hk]
  rw [e]
  refine ⟨fun x hx => ?_, by simp⟩
  simp only [List.mem_cons, List.not_mem_nil, or_false] at hx
  rcases hx with rfl | rfl | rfl | rfl | rfl | rfl <;> first | exact h _ | (split <;> simp [isI])
 ·exact key [3, 0, 1, 2, 55, 56] (by decide) (by simp [refN, hk])
def refR (f : Nat → Int) : List UInt8 × Int := if chkF f = true then (V.enc (intsV (refN f)), 0) else ([], 120)
theorem refEncode_ok (f : Nat → Int) (hf : fOk f) : Fn0 Tryz.prog 128 [fD f] (.tup [slB (refR f).1, .v (.int .i64 (refR f).2)]) := by
 have h12 := refCheck_ok f hf
 have h35 := refNumbers_ok f
 obtain ⟨hin, hlen⟩ := refN_in hf
 have h34 := ints_ok (refN f) (by omega)
 obtain ⟨c1, c2, c3, c4⟩ := intsV_facts hin (by omega)
 have h33 := f13_ok (intsV (refN f)) (by omega) c2 (by omega)
 rw [show V.encB (intsV (refN f)) = V.enc (intsV (refN f)) from if_pos c1, c1] at h33
 refine Fun.of_wp (pn := noPn) Tryz.tab Tryz.func128 rfl fun β0 => ?_
 simp only [Tryz.f128]
 rw [fD]
 repeat(first|apply wG|(apply wR;simp -dsimp)|refine aI ?_)
 refine vcStop.call0 Tryz.body72 h12 rfl rfl (by simp [fD]) ?_
 simp -dsimp
 repeat(first|apply wG|(apply wR;simp -dsimp)|refine aI ?_)
 cases hc : chkF f with
 | false =>
  refine cT (by simp) ?_
  repeat(first|apply wG|(apply wR;simp -dsimp)|refine aI ?_)
  refine WP.ret (finQ.retE ?_)
  simp -dsimp [refR, hc]
 | true =>
  refine cF (by simp) ?_
  refine WP.skip ?_
  simp -dsimp
  repeat(first|apply wG|(apply wR;simp -dsimp)|refine aI ?_)
  refine vcStop.call0 Tryz.body189 h35 rfl rfl (by simp [fD]) ?_
  simp -dsimp
  repeat refine aI ?_
  refine vcStop.call0 Tryz.body188 h34 rfl rfl (by simp) ?_
  simp -dsimp
  repeat refine aI ?_
  refine vcStop.call0 Tryz.body187 h33 rfl rfl (by simp [intsV, V.d, V.cells]) ?_
  simp -dsimp
  repeat(first|apply wG|(apply wR;simp -dsimp)|refine aI ?_)
  refine WP.ret (finQ.retE ?_)
  simp -dsimp [refR, hc]
theorem bytesCompare_ok (a b : List UInt8) : Fn0 Tryz.prog 87 [slB a, slB b] (.v (.int .i64 (Lib.compareBytes a b))) := by
 refine Fun.of_wp (pn := noPn) Tryz.tab Tryz.func87 rfl fun β0 => ?_
 simp only [Tryz.f87]
 repeat(first|apply wG|(apply wR;simp -dsimp)|refine aI ?_)
 refine vcStop.cmpBytes Tryz.func144 (by kernel_rfl) rfl (by kernel_rfl) (by kernel_rfl) rfl (l := a) (m := b) rfl rfl ?_
 simp -dsimp
 repeat(first|apply wG|(apply wR;simp -dsimp)|refine aI ?_)
 refine WP.ret (finQ.retE ?_)
 simp -dsimp
theorem or_row (a b c : Int) : Fun Tryz.prog 84 [.row 1000] [(1000, .row 3 1 3 [.d (.v (.int .i64 a)), .d (.v (.int .i64 b)), .d (.v (.int .i64 c))])] (.d (.v (.int .i64 (orL [a, b, c])))) [] fun _ => False :=
 Fun.ofRow 1000 (T := 3) (cs := iD [a, b, c]) (or_ok [a, b, c] (by simp)) rfl rfl trivial
def headC (f g : Nat → Int) : Int := orL [cmpI (f 2) (g 2), cmpI (f 0) (g 0), cmpI (f 1) (g 1)]
def cmpF (f g : Nat → Int) : Int := if headC f g = 0 then Lib.compareBytes (encR f).1 (encR g).1 else headC f g
theorem factsCompare_ok (f g : Nat → Int) (hf : fOk f) (hg : fOk g) : Fn0 Tryz.prog 39 [fD f, fD g] (.v (.int .i64 (cmpF f g))) := by
 have ef := encode_ok f hf
 have eg := encode_ok g hg
 unfold encD at ef eg
 refine Fun.of_wp (pn := noPn) Tryz.tab Tryz.func39 rfl fun β0 => ?_
 simp only [Tryz.f39]
 simp only [fD]
 repeat(first|apply wG|(apply wR;simp -dsimp)|refine aI ?_)
 refine vcStop.call0 Tryz.body85 (compare_ok (f 2) (g 2)) rfl rfl (by simp) ?_
 simp -dsimp
 repeat refine aI ?_
 refine vcStop.call0 Tryz.body85 (compare_ok (f 0) (g 0)) rfl rfl (by simp) ?_
 simp -dsimp
 repeat refine aI ?_
 refine vcStop.call0 Tryz.body85 (compare_ok (f 1) (g 1)) rfl rfl (by simp) ?_
 simp -dsimp
 repeat refine aI ?_
 refine vcStop.call Tryz.body84 (or_row (cmpI (f 2) (g 2)) (cmpI (f 0) (g 0)) (cmpI (f 1) (g 1))) (rl [(1000, 25)]) rfl rfl (by simp [BoxLeq]) (CallOk.of (by simp [BoxLeq]) rfl (by first | rfl | (simp [BoxLeq]; done)) (by simp [BoxLeq]) (by simp [BoxLeq])) (fun _ h => h.elim) (fun ⟨_, h⟩ => h.elim) (fun ⟨_, h⟩ => h.elim) (by simp [BoxLeq]) ?_
 simp -dsimp
 repeat(first|apply wG|(apply wR;simp -dsimp)|refine aI ?_)
 refine WP.cond (b := !decide (headC f g = 0)) (by simp [headC]; rfl) (fun hb => ?_) (fun hb => ?_)
 ·have hb : ¬ headC f g = 0 := by simpa using hb
  repeat(first|apply wG|(apply wR;simp -dsimp)|refine aI ?_)
  have e : cmpF f g = headC f g := if_neg hb
  refine WP.ret (finQ.retE ?_)
  simp -dsimp [e, headC]
 have hb : headC f g = 0 := by simpa using hb
 refine WP.skip ?_
 simp -dsimp
 repeat(first|apply wG|(apply wR;simp -dsimp)|refine aI ?_)
 refine vcStop.call0 Tryz.body86 ef rfl rfl (by simp [fD]) ?_
 simp -dsimp
 repeat(first|apply wG|(apply wR;simp -dsimp)|refine aI ?_)
 refine vcStop.call0 Tryz.body86 eg rfl rfl (by simp [fD]) ?_
 simp -dsimp
 repeat(first|apply wG|(apply wR;simp -dsimp)|refine aI ?_)
 refine vcStop.call0 Tryz.body87 (bytesCompare_ok (encR f).1 (encR g).1) rfl rfl (by simp) ?_
 simp -dsimp
 repeat(first|apply wG|(apply wR;simp -dsimp)|refine aI ?_)
 refine WP.ret (finQ.retE ?_)
 simp -dsimp [cmpF, hb]
end Go.Proofs.YtnljenjcaeophaaGreatDoor
