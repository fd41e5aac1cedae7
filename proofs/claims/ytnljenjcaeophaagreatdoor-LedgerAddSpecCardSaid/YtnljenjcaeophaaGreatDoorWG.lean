/-
  Joined texts.
-/
import Derived.Test.YtnljenjcaeophaaGreatDoorWFC
import Derived.Test.YtnljenjcaeophaaGreatDoorW4
set_option maxRecDepth 10000
set_option maxHeartbeats 4000000
set_option linter.unusedVariables false
set_option linter.unusedSimpArgs false
set_option linter.unusedSectionVars false
namespace Go.Proofs.YtnljenjcaeophaaGreatDoor
open Go.Xe Go.RowKit
theorem ks_ (f : Nat → Int) (hf : fOk f) : Fn0 Tryz.prog 69 [fD f] (.v (.int .i64 (if (numF f).2 = true then 0 else 120))) := by
 have h24 := je_ f hf
 rw [oy_] at h24
 generalize numF f = R at *
 obtain ⟨l, b⟩ := R
 refine ac_ (pn := ap_) aa_ Tryz.func69 rfl fun β0 => ?_
 simp only [Tryz.f69]
 rw [fD]
 repeat(first|apply wG|(apply wR;simp -dsimp)|refine aI ?_)
 refine ad_ gR_ h24 rfl rfl (by simp [fD]) ?_
 simp -dsimp
 repeat(first|apply wG|(apply wR;simp -dsimp)|refine aI ?_)
 cases b with
 | true =>
  refine cF (by simp) ?_
  refine WP.skip ?_
  simp -dsimp
  repeat(first|apply wG|(apply wR;simp -dsimp)|refine aI ?_)
  refine WP.ret (ab_ ?_)
  simp -dsimp
 | false =>
  refine cT (by simp) ?_
  repeat(first|apply wG|(apply wR;simp -dsimp)|refine aI ?_)
  refine WP.ret (ab_ ?_)
  simp -dsimp
def oD_ (x : Int) : V := .mk 1 x ⟨#[]⟩ []
def bC_ (l : List Int) : V := .mk 3 0 ⟨#[]⟩ (l.map oD_)
theorem eD_ : ∀ {l : List Int}, (∀ x ∈ l, isI x) → ct_ (l.map oD_) = true ∧ aU_ (l.map oD_) = 0 ∧ (ax_ (l.map oD_)).length ≤ 11 * l.length ∧ bB_ (l.map oD_) = true
 | [], _ => by simp [ct_, aU_, ax_, bB_]
 | x :: l, h => by
  obtain ⟨h1, h2, h3, h4⟩ := eD_ (l := l) fun y hy => h y (by simp [hy])
  have hx := h x (by simp)
  have h10 := a8_ (kL_ hx)
  unfold isI at hx
  rw [List.map_cons, ct_, aU_, ax_, bB_, h1, h2, h4]
  simp only [oD_, V.ok, V.dep, V.enc, V.rng, bB_, show (⟨#[]⟩ : ByteArray).size = 0 from rfl]
  simp
  omega
theorem c7_ {l : List Int} (h : ∀ x ∈ l, isI x) (hl : l.length ≤ 1000) : V.chk (bC_ l) = 0 ∧ V.rng (bC_ l) = true ∧ V.dep (bC_ l) = 1 ∧ (V.enc (bC_ l)).length ≤ 100000 := by
 obtain ⟨h1, h2, h3, h4⟩ := eD_ h
 have h5 : V.dep (bC_ l) = 1 := by rw [bC_, V.dep, if_pos rfl, h2]
 have h10 := a8_ (u := l.length) (by unfold isU; omega)
 refine ⟨?_, ?_, h5, ?_⟩
 ·rw [V.chk, if_pos (by rw [bC_, V.ok]; simp [h1]), if_neg (by omega)]
 ·simp [bC_, V.rng, h4, show (⟨#[]⟩ : ByteArray).size = 0 from rfl]
 ·rw [bC_, V.enc]
  simp
  omega
theorem j8_ {f : Nat → Int} (hf : fOk f) : (∀ x ∈ (numF f).1, isI x) ∧ (numF f).1.length ≤ 12 := by
 unfold numF
 split
 ·simp
 ·rename_i E hE
  split
  ·refine ⟨fun x hx => ?_, by have := fr_ hE; simp; omega⟩
   obtain ⟨e, _, rfl⟩ := List.mem_map.1 hx
   unfold valE
   split
   ·exact hf.1 _
   ·exact ve_
  ·simp
def zL_ (f : Nat → Int) : List UInt8 := V.enc (bC_ (numF f).1)
def encR (f : Nat → Int) : List UInt8 × Int := if (numF f).2 = true then (zL_ f, 0) else ([], 120)
def zM_ (f : Nat → Int) : D := .tup [slB (encR f).1, .v (.int .i64 (encR f).2)]
theorem v1_ (a : List Int) (x : Int) (b : List Int) : (iD (a ++ x :: b)).drop a.length = .v (.int .i64 x) :: iD b := by
 rw [lA_, ← lz_ a, List.drop_left]; rfl
def ics : List Int → List D
 | [] => []
 | x :: l => .v (.int .i64 1) :: .v (.int .i64 x) :: .v (.string ⟨#[]⟩) :: .v (.slice none 0 0) :: ics l
@[simp] theorem pL_ : ∀ a b : List Int, ics (a ++ b) = ics a ++ ics b
 | [], _ => rfl
 | x :: a, b => by rw [List.cons_append, ics, ics, pL_ a b]; rfl
@[simp] theorem pK_ : ∀ a : List Int, (ics a).length = a.length * 4
 | [] => rfl
 | x :: a => by rw [ics]; simp [pK_ a]; omega
theorem uI_ : ∀ l : List Int, DLes (ics l) (aD_ (l.map oD_))
 | [] => trivial
 | x :: l => ⟨DLe.refl _, DLe.refl _, DLe.refl _, DLe.nil 4, uI_ l⟩
theorem ints_arg (l : List Int) : Leq (.agg [.d (.v (.int .i64 3)), .d (.v (.int .i64 0)), .d (.v (.string ⟨#[]⟩)), .d (.sl 4 (ics l) l.length false)]) (.d (bC_ l).d) := by
 have hle : Leq (.d (.sl 4 (ics l) l.length false)) (.d (.sl 4 (aD_ (l.map oD_)) l.length false)) := Leq.data (DLe.sl (uI_ l))
 have h1 : LeqL [.d (.v (.int .i64 3)), .d (.v (.int .i64 0)), .d (.v (.string ⟨#[]⟩)), .d (.sl 4 (ics l) l.length false)] ([D.v (.int .i64 3), .v (.int .i64 0), .v (.string ⟨#[]⟩), .sl 4 (aD_ (l.map oD_)) l.length false].map .d) :=
  ⟨Leq.refl _, Leq.refl _, Leq.refl _, hle, trivial⟩
 have h2 := (Leq.agg h1).trans (ai_ _)
 rw [bC_, V.d, V.cells, List.length_map]
 exact h2
def sE (l : List Int) (l1 : List Int) : St :=
 mkS 35 [(6, .ptr 6 0), (17, .d (slI l)), (18, .d (.v (.int .i64 l.length))), (19, .d (.v (.int .i64 l1.length)))]
  [(6, .cells 207 [.d (.v (.int .i64 3)), .d (.v (.int .i64 0)), .d (.v (.string ⟨#[]⟩)), .row 500]), (500, .row 207 4 l1.length ((ics l1).map .d))]
theorem ie_ (f : Nat → Int) (hf : fOk f) : Fn0 Tryz.prog 86 [fD f] (zM_ f) := by
 have h24 := je_ f hf
 rw [oy_] at h24
 obtain ⟨hin, hlen⟩ := j8_ hf
 unfold zM_ encR zL_
 generalize numF f = R at *
 obtain ⟨l, b⟩ := R
 simp only at hin hlen
 obtain ⟨c1, c2, c3, c4⟩ := c7_ hin (by omega)
 have h12 := x8_ (bC_ l) (by omega) c2 (by omega)
 rw [show V.encB (bC_ l) = V.enc (bC_ l) from if_pos c1, c1] at h12
 refine ac_ (pn := ap_) aa_ Tryz.func86 rfl fun β0 => ?_
 simp only [Tryz.f86]
 rw [fD]
 repeat(first|apply wG|(apply wR;simp -dsimp)|refine aI ?_)
 refine ad_ gR_ h24 rfl rfl (by simp [fD]) ?_
 simp -dsimp
 repeat(first|apply wG|(apply wR;simp -dsimp)|refine aI ?_)
 cases b with
 | false =>
  refine cT (by simp) ?_
  repeat(first|apply wG|(apply wR;simp -dsimp)|refine aI ?_)
  refine WP.ret (ab_ ?_)
  simp -dsimp
 | true =>
  refine cF (by simp) ?_
  refine WP.skip ?_
  simp -dsimp
  repeat(first|apply wG|(apply wR;simp -dsimp)|refine aI ?_)
  refine ak_ (fun m S => ∃ l1 l2, l = l1 ++ l2 ∧ m = l2.length ∧ S = sE l l1) l.length (S0 := sE l [])
   ((cS_ 6 3 500 207 4 (by simp; exact ⟨rfl, rfl⟩) rfl (by simp)).trans (ae_ [] (by simp [sE]) (by simp [sE, ics]))) ⟨[], l, rfl, rfl, rfl⟩ ?_
  rintro _ _ ⟨l1, l2, hl12, rfl, rfl⟩
  simp -dsimp [sE]
  repeat(first|apply wG|(apply wR;simp -dsimp)|refine aI ?_)
  cases l2 with
  | nil =>
   simp only [List.append_nil] at hl12
   subst hl12
   refine cF (by simp) ?_
   refine WP.exit ?_
   simp -dsimp
   refine au_ (Wk.freeze (k := 500) (T := 207) (sz := 4) (ds := ics l) (by simp; rfl)) ?_
   simp -dsimp
   repeat(first|apply wG|(apply wR;simp -dsimp)|refine aI ?_)
   refine ag_ mw_ h12 rfl rfl (And.intro (ints_arg l) trivial) ?_
   simp -dsimp
   repeat(first|apply wG|(apply wR;simp -dsimp)|refine aI ?_)
   refine WP.ret (ab_ ?_)
   simp -dsimp
  | cons x l2 =>
   have hll : l.length = l1.length + (l2.length + 1) := by rw [hl12]; simp
   have e1 : IntKind.i64.wrap ((l1.length : Int) + 1) = (l1.length : Int) + 1 := IntWalk.i64_in _ (by omega)
   have h1 := v1_ l1 x l2
   rw [← hl12] at h1
   refine cT (by simp; omega) ?_
   refine WP.skip ?_
   simp -dsimp
   refine WP.seq (WP.block ?_)
   repeat(first|apply wG|(apply wR;simp -dsimp [h1])|refine aI ?_)
   refine ah_ (sE l (l1 ++ [x])) (Wk.go [27] 28 500 (by decide) (by simp [sE]) (by simp [sE, e1]) (by simp [sE, ics])) l2.length (by simp) ⟨l1 ++ [x], l2, by simp [hl12], rfl, rfl⟩
abbrev inB (x lo hi : Int) : Bool := decide (lo ≤ x) && decide (x ≤ hi)
theorem cf_ (x lo hi : Int) : Fn0 Tryz.prog 119 [.v (.int .i64 x), .v (.int .i64 lo), .v (.int .i64 hi)] (.v (.bool (inB x lo hi))) := by
 refine ac_ (pn := ap_) aa_ Tryz.func119 rfl fun β0 => ?_
 simp only [Tryz.f119]
 repeat(first|apply wG|(apply wR;simp -dsimp)|refine aI ?_)
 refine WP.ret (ab_ ?_)
 simp -dsimp
theorem bS_ (x : Int) : Fn0 Tryz.prog 177 [.v (.int .i64 x)] (.v (.bool (inB x (-1099511627776) 1099511627776))) := by
 refine ac_ (pn := ap_) aa_ Tryz.func177 rfl fun β0 => ?_
 simp only [Tryz.f177]
 repeat(first|apply wG|(apply wR;simp -dsimp)|refine aI ?_)
 refine ad_ ar_ (cf_ x (-1099511627776) 1099511627776) rfl rfl (by simp) ?_
 simp -dsimp
 repeat(first|apply wG|(apply wR;simp -dsimp)|refine aI ?_)
 refine WP.ret (ab_ ?_)
 simp -dsimp
theorem gk_ (x : Int) : Fn0 Tryz.prog 179 [.v (.int .i64 x)] (.v (.bool (inB x (1) 9999))) := by
 refine ac_ (pn := ap_) aa_ Tryz.func179 rfl fun β0 => ?_
 simp only [Tryz.f179]
 repeat(first|apply wG|(apply wR;simp -dsimp)|refine aI ?_)
 refine ad_ ar_ (cf_ x (1) 9999) rfl rfl (by simp) ?_
 simp -dsimp
 repeat(first|apply wG|(apply wR;simp -dsimp)|refine aI ?_)
 refine WP.ret (ab_ ?_)
 simp -dsimp
theorem lt_ (x : Int) : Fn0 Tryz.prog 174 [.v (.int .i64 x)] (.v (.bool (inB x (0) 39))) := by
 refine ac_ (pn := ap_) aa_ Tryz.func174 rfl fun β0 => ?_
 simp only [Tryz.f174]
 repeat(first|apply wG|(apply wR;simp -dsimp)|refine aI ?_)
 refine ad_ ar_ (cf_ x (0) 39) rfl rfl (by simp) ?_
 simp -dsimp
 repeat(first|apply wG|(apply wR;simp -dsimp)|refine aI ?_)
 refine WP.ret (ab_ ?_)
 simp -dsimp
theorem fq_ (x : Int) : Fn0 Tryz.prog 175 [.v (.int .i64 x)] (.v (.bool (inB x (0) 255))) := by
 refine ac_ (pn := ap_) aa_ Tryz.func175 rfl fun β0 => ?_
 simp only [Tryz.f175]
 repeat(first|apply wG|(apply wR;simp -dsimp)|refine aI ?_)
 refine ad_ ar_ (cf_ x (0) 255) rfl rfl (by simp) ?_
 simp -dsimp
 repeat(first|apply wG|(apply wR;simp -dsimp)|refine aI ?_)
 refine WP.ret (ab_ ?_)
 simp -dsimp
theorem sj_ (x : Int) : Fn0 Tryz.prog 176 [.v (.int .i64 x)] (.v (.bool (inB x (0) 1048576))) := by
 refine ac_ (pn := ap_) aa_ Tryz.func176 rfl fun β0 => ?_
 simp only [Tryz.f176]
 repeat(first|apply wG|(apply wR;simp -dsimp)|refine aI ?_)
 refine ad_ ar_ (cf_ x (0) 1048576) rfl rfl (by simp) ?_
 simp -dsimp
 repeat(first|apply wG|(apply wR;simp -dsimp)|refine aI ?_)
 refine WP.ret (ab_ ?_)
 simp -dsimp
theorem ln_ (x : Int) : Fn0 Tryz.prog 180 [.v (.int .i64 x)] (.v (.bool (inB x (0) 255))) := by
 refine ac_ (pn := ap_) aa_ Tryz.func180 rfl fun β0 => ?_
 simp only [Tryz.f180]
 repeat(first|apply wG|(apply wR;simp -dsimp)|refine aI ?_)
 refine ad_ ar_ (cf_ x (0) 255) rfl rfl (by simp) ?_
 simp -dsimp
 repeat(first|apply wG|(apply wR;simp -dsimp)|refine aI ?_)
 refine WP.ret (ab_ ?_)
 simp -dsimp
theorem ku_ (x : Int) : Fn0 Tryz.prog 181 [.v (.int .i64 x)] (.v (.bool (inB x (1) 1048576))) := by
 refine ac_ (pn := ap_) aa_ Tryz.func181 rfl fun β0 => ?_
 simp only [Tryz.f181]
 repeat(first|apply wG|(apply wR;simp -dsimp)|refine aI ?_)
 refine ad_ ar_ (cf_ x (1) 1048576) rfl rfl (by simp) ?_
 simp -dsimp
 repeat(first|apply wG|(apply wR;simp -dsimp)|refine aI ?_)
 refine WP.ret (ab_ ?_)
 simp -dsimp
theorem ls_ (x : Int) : Fn0 Tryz.prog 118 [.v (.int .i64 x)] (.v (.bool (inB x (1) 1048576))) := by
 refine ac_ (pn := ap_) aa_ Tryz.func118 rfl fun β0 => ?_
 simp only [Tryz.f118]
 repeat(first|apply wG|(apply wR;simp -dsimp)|refine aI ?_)
 refine ad_ ar_ (cf_ x (1) 1048576) rfl rfl (by simp) ?_
 simp -dsimp
 repeat(first|apply wG|(apply wR;simp -dsimp)|refine aI ?_)
 refine WP.ret (ab_ ?_)
 simp -dsimp
theorem r0_ (x : Int) : Fn0 Tryz.prog 117 [.v (.int .i64 x)] (.v (.bool (inB x (0) 31))) := by
 refine ac_ (pn := ap_) aa_ Tryz.func117 rfl fun β0 => ?_
 simp only [Tryz.f117]
 repeat(first|apply wG|(apply wR;simp -dsimp)|refine aI ?_)
 refine ad_ ar_ (cf_ x (0) 31) rfl rfl (by simp) ?_
 simp -dsimp
 repeat(first|apply wG|(apply wR;simp -dsimp)|refine aI ?_)
 refine WP.ret (ab_ ?_)
 simp -dsimp
theorem pk_ (f : Nat → Int) : Fn0 Tryz.prog 173 [.agg (fcs f 4 8)] (.v (.bool (inB (f 4) 1 9999 && inB (f 5) 0 7 && inB (f 6) 0 31 && inB (f 7) (-1099511627776) 1099511627776 && inB (f 8) 0 120 && inB (f 9) 0 1048576 && inB (f 10) 0 9999 && inB (f 11) 0 1048576))) := by
 refine ac_ (pn := ap_) aa_ Tryz.func173 rfl fun β0 => ?_
 simp only [Tryz.f173]
 repeat(first|apply wG|(apply wR;simp -dsimp)|refine aI ?_)
 refine ad_ a3_ (gk_ (f 4)) rfl rfl (by simp) ?_
 simp -dsimp
 repeat refine aI ?_
 refine af_ ar_ (fun _ => cf_ (f 5) (0) (7)) rfl (fun _ => rfl) (fun _ => by simp) ?_
 simp -dsimp
 repeat refine aI ?_
 refine af_ ar_ (fun _ => cf_ (f 6) (0) (31)) rfl (fun _ => rfl) (fun _ => by simp) ?_
 simp -dsimp
 repeat refine aI ?_
 refine af_ aI_ (fun _ => bS_ (f 7)) rfl (fun _ => rfl) (fun _ => by simp) ?_
 simp -dsimp
 repeat refine aI ?_
 refine af_ ar_ (fun _ => cf_ (f 8) (0) (120)) rfl (fun _ => rfl) (fun _ => by simp) ?_
 simp -dsimp
 repeat refine aI ?_
 refine af_ gF_ (fun _ => sj_ (f 9)) rfl (fun _ => rfl) (fun _ => by simp) ?_
 simp -dsimp
 repeat refine aI ?_
 refine af_ ar_ (fun _ => cf_ (f 10) (0) (9999)) rfl (fun _ => rfl) (fun _ => by simp) ?_
 simp -dsimp
 repeat refine aI ?_
 refine af_ ar_ (fun _ => cf_ (f 11) (0) (1048576)) rfl (fun _ => rfl) (fun _ => by simp) ?_
 simp -dsimp
 repeat refine aI ?_
 repeat(first|apply wG|(apply wR;simp -dsimp)|refine aI ?_)
 refine WP.ret (ab_ ?_)
 simp -dsimp
theorem vb_ (f : Nat → Int) : Fn0 Tryz.prog 178 [.agg (fcs f 21 8)] (.v (.bool (inB (f 21) 0 39 && inB (f 24) 0 39 && inB (f 22) 0 255 && inB (f 25) 0 255 && inB (f 23) (-1099511627776) 1099511627776 && inB (f 26) (-1099511627776) 1099511627776 && inB (f 27) (-1099511627776) 1099511627776 && inB (f 28) (-1099511627776) 1099511627776 && decide (f 27 ≤ f 28)))) := by
 refine ac_ (pn := ap_) aa_ Tryz.func178 rfl fun β0 => ?_
 simp only [Tryz.f178]
 repeat(first|apply wG|(apply wR;simp -dsimp)|refine aI ?_)
 refine ad_ bO_ (lt_ (f 21)) rfl rfl (by simp) ?_
 simp -dsimp
 repeat refine aI ?_
 refine af_ bO_ (fun _ => lt_ (f 24)) rfl (fun _ => rfl) (fun _ => by simp) ?_
 simp -dsimp
 repeat refine aI ?_
 refine af_ bN_ (fun _ => fq_ (f 22)) rfl (fun _ => rfl) (fun _ => by simp) ?_
 simp -dsimp
 repeat refine aI ?_
 refine af_ bN_ (fun _ => fq_ (f 25)) rfl (fun _ => rfl) (fun _ => by simp) ?_
 simp -dsimp
 repeat refine aI ?_
 refine af_ aI_ (fun _ => bS_ (f 23)) rfl (fun _ => rfl) (fun _ => by simp) ?_
 simp -dsimp
 repeat refine aI ?_
 refine af_ aI_ (fun _ => bS_ (f 26)) rfl (fun _ => rfl) (fun _ => by simp) ?_
 simp -dsimp
 repeat refine aI ?_
 refine af_ aI_ (fun _ => bS_ (f 27)) rfl (fun _ => rfl) (fun _ => by simp) ?_
 simp -dsimp
 repeat refine aI ?_
 refine af_ aI_ (fun _ => bS_ (f 28)) rfl (fun _ => rfl) (fun _ => by simp) ?_
 simp -dsimp
 repeat refine aI ?_
 repeat(first|apply wG|(apply wR;simp -dsimp)|refine aI ?_)
 refine WP.ret (ab_ ?_)
 simp -dsimp
def px_ (f : Nat → Int) : Bool :=
 if f 49 = 1 ∨ f 49 = 2 then decide (f 50 = 0) && decide (f 51 = 0) && decide (f 52 = 0)
 else if f 49 = 3 then inB (f 50) 1 9999 && inB (f 51) 0 255 && inB (f 52) 1 1099511627776
 else if f 49 = 4 then inB (f 50) 1 9999 && inB (f 51) 0 255 && inB (f 52) 1 64
 else if f 49 = 5 then inB (f 50) 1 9999 && inB (f 51) 0 255 && decide (f 52 = 0)
 else false
def qU_ (f : Nat → Int) : Bool := (inB (f 47) 1 1048576 && inB (f 48) 1 2) && px_ f
theorem qT_ (f : Nat → Int) : Fn0 Tryz.prog 182 [.agg (fcs f 47 6)] (.v (.bool (qU_ f))) := by
 refine ac_ (pn := ap_) aa_ Tryz.func182 rfl fun β0 => ?_
 simp only [Tryz.f182]
 repeat(first|apply wG|(apply wR;simp -dsimp)|refine aI ?_)
 refine ad_ cC_ (ku_ (f 47)) rfl rfl (by simp) ?_
 simp -dsimp
 repeat refine aI ?_
 refine af_ ar_ (fun _ => cf_ (f 48) (1) (2)) rfl (fun _ => rfl) (fun _ => by simp) ?_
 simp -dsimp
 repeat refine aI ?_
 repeat(first|apply wG|(apply wR;simp -dsimp)|refine aI ?_)
 refine WP.cond (b := !(inB (f 47) 1 1048576 && inB (f 48) 1 2)) (by simp) (fun hb => ?_) (fun hb => ?_)
 ·have hb : (inB (f 47) 1 1048576 && inB (f 48) 1 2) = false := by simpa only [Bool.not_eq_true'] using hb
  repeat(first|apply wG|(apply wR;simp -dsimp)|refine aI ?_)
  refine WP.ret (ab_ ?_)
  simp -dsimp [qU_, hb]
 have hb : (inB (f 47) 1 1048576 && inB (f 48) 1 2) = true := by simpa only [Bool.not_eq_false'] using hb
 rw [qU_, hb, Bool.true_and]
 refine WP.skip ?_
 simp -dsimp
 repeat(first|apply wG|(apply wR;simp -dsimp)|refine aI ?_)
 have hr : f 49 = 1 ∨ f 49 = 2 ∨ f 49 = 3 ∨ f 49 = 4 ∨ f 49 = 5 ∨ (f 49 ≠ 1 ∧ f 49 ≠ 2 ∧ f 49 ≠ 3 ∧ f 49 ≠ 4 ∧ f 49 ≠ 5) := by omega
 rcases hr with hr | hr | hr | hr | hr | ⟨hr1, hr2, hr3, hr4, hr5⟩
 ·rw [hr]
  refine cT (by simp) ?_
  refine WP.skip ?_
  simp -dsimp
  repeat(first|apply wG|(apply wR;simp -dsimp)|refine aI ?_)
  refine cT (by simp) ?_
  repeat(first|apply wG|(apply wR;simp -dsimp)|refine aI ?_)
  refine WP.ret (ab_ ?_)
  simp -dsimp [px_, hr]
 ·rw [hr]
  refine cF (by simp) ?_
  repeat(first|apply wG|(apply wR;simp -dsimp)|refine aI ?_)
  refine cT (by simp) ?_
  repeat(first|apply wG|(apply wR;simp -dsimp)|refine aI ?_)
  refine WP.ret (ab_ ?_)
  simp -dsimp [px_, hr]
 ·rw [hr]
  refine cF (by simp) ?_
  repeat(first|apply wG|(apply wR;simp -dsimp)|refine aI ?_)
  refine cF (by simp) ?_
  repeat(first|apply wG|(apply wR;simp -dsimp)|refine aI ?_)
  refine cT (by simp) ?_
  repeat(first|apply wG|(apply wR;simp -dsimp)|refine aI ?_)
  refine ad_ a3_ (gk_ (f 50)) rfl rfl (by simp) ?_
  simp -dsimp
  repeat refine aI ?_
  refine af_ bM_ (fun _ => ln_ (f 51)) rfl (fun _ => rfl) (fun _ => by simp) ?_
  simp -dsimp
  repeat refine aI ?_
  refine af_ ar_ (fun _ => cf_ (f 52) (1) (1099511627776)) rfl (fun _ => rfl) (fun _ => by simp) ?_
  simp -dsimp
  repeat refine aI ?_
  repeat(first|apply wG|(apply wR;simp -dsimp)|refine aI ?_)
  refine WP.ret (ab_ ?_)
  simp -dsimp [px_, hr]
 ·rw [hr]
  refine cF (by simp) ?_
  repeat(first|apply wG|(apply wR;simp -dsimp)|refine aI ?_)
  refine cF (by simp) ?_
  repeat(first|apply wG|(apply wR;simp -dsimp)|refine aI ?_)
  refine cF (by simp) ?_
  repeat(first|apply wG|(apply wR;simp -dsimp)|refine aI ?_)
  refine cT (by simp) ?_
  repeat(first|apply wG|(apply wR;simp -dsimp)|refine aI ?_)
  refine ad_ a3_ (gk_ (f 50)) rfl rfl (by simp) ?_
  simp -dsimp
  repeat refine aI ?_
  refine af_ bM_ (fun _ => ln_ (f 51)) rfl (fun _ => rfl) (fun _ => by simp) ?_
  simp -dsimp
  repeat refine aI ?_
  refine af_ ar_ (fun _ => cf_ (f 52) (1) (64)) rfl (fun _ => rfl) (fun _ => by simp) ?_
  simp -dsimp
  repeat refine aI ?_
  repeat(first|apply wG|(apply wR;simp -dsimp)|refine aI ?_)
  refine WP.ret (ab_ ?_)
  simp -dsimp [px_, hr]
 ·rw [hr]
  refine cF (by simp) ?_
  repeat(first|apply wG|(apply wR;simp -dsimp)|refine aI ?_)
  refine cF (by simp) ?_
  repeat(first|apply wG|(apply wR;simp -dsimp)|refine aI ?_)
  refine cF (by simp) ?_
  repeat(first|apply wG|(apply wR;simp -dsimp)|refine aI ?_)
  refine cF (by simp) ?_
  repeat(first|apply wG|(apply wR;simp -dsimp)|refine aI ?_)
  refine cT (by simp) ?_
  repeat(first|apply wG|(apply wR;simp -dsimp)|refine aI ?_)
  refine ad_ a3_ (gk_ (f 50)) rfl rfl (by simp) ?_
  simp -dsimp
  repeat refine aI ?_
  refine af_ bM_ (fun _ => ln_ (f 51)) rfl (fun _ => rfl) (fun _ => by simp) ?_
  simp -dsimp
  repeat refine aI ?_
  repeat(first|apply wG|(apply wR;simp -dsimp)|refine aI ?_)
  refine WP.ret (ab_ ?_)
  simp -dsimp [px_, hr]
 ·refine cF (by simp [*]) ?_
  repeat(first|apply wG|(apply wR;simp -dsimp)|refine aI ?_)
  refine cF (by simp [*]) ?_
  repeat(first|apply wG|(apply wR;simp -dsimp)|refine aI ?_)
  refine cF (by simp [*]) ?_
  repeat(first|apply wG|(apply wR;simp -dsimp)|refine aI ?_)
  refine cF (by simp [*]) ?_
  repeat(first|apply wG|(apply wR;simp -dsimp)|refine aI ?_)
  refine cF (by simp [*]) ?_
  refine WP.skip ?_
  simp -dsimp
  repeat(first|apply wG|(apply wR;simp -dsimp)|refine aI ?_)
  refine WP.ret (ab_ ?_)
  simp -dsimp [px_, hr1, hr2, hr3, hr4, hr5]
def conF (f : Nat → Int) : Bool :=
 if f 3 = 1 then inB (f 4) 1 9999 && inB (f 5) 0 7 && inB (f 6) 0 31 && inB (f 7) (-1099511627776) 1099511627776 && inB (f 8) 0 120 && inB (f 9) 0 1048576 && inB (f 10) 0 9999 && inB (f 11) 0 1048576
 else if f 3 = 2 then inB (f 12) 0 39 && inB (f 13) 0 255 && inB (f 14) 0 1048576 && inB (f 15) (-1099511627776) 1099511627776
 else if f 3 = 3 then inB (f 16) 0 39 && inB (f 17) 0 255 && inB (f 18) (-1099511627776) 1099511627776 && inB (f 19) (-1099511627776) 1099511627776 && inB (f 20) 0 1099511627776
 else if f 3 = 4 then inB (f 21) 0 39 && inB (f 24) 0 39 && inB (f 22) 0 255 && inB (f 25) 0 255 && inB (f 23) (-1099511627776) 1099511627776 && inB (f 26) (-1099511627776) 1099511627776 && inB (f 27) (-1099511627776) 1099511627776 && inB (f 28) (-1099511627776) 1099511627776 && decide (f 27 ≤ f 28)
 else if f 3 = 5 then inB (f 29) 1 9999 && inB (f 30) 0 255 && inB (f 31) (-1099511627776) 1099511627776 && inB (f 32) (-1099511627776) 1099511627776 && decide (f 31 ≤ f 32)
 else if f 3 = 6 then inB (f 33) 0 39 && inB (f 34) 0 255 && inB (f 35) (-1099511627776) 1099511627776 && inB (f 36) (-1099511627776) 1099511627776 && decide (f 35 ≤ f 36)
 else if f 3 = 7 then inB (f 37) 1 9999 && inB (f 38) 1 9999 && decide (f 37 < f 38)
 else if f 3 = 8 then inB (f 39) 1 1048576 && inB (f 40) 1 9999 && inB (f 41) 0 31 && inB (f 42) 0 255
 else if f 3 = 9 then inB (f 43) 1 1048576 && inB (f 44) 0 9999 && inB (f 45) 0 1125899906842624 && inB (f 46) 0 1
 else if f 3 = 10 then qU_ f
 else if f 3 = 11 then inB (f 53) 1 1048576
 else if f 3 = 12 then true
 else if f 3 = 13 then inB (f 55) 0 31 && inB (f 56) 1 1048576
 else false
theorem sd_ (f : Nat → Int) (hk : f 3 = 1) : Fn0 Tryz.prog 120 [fD f] (.v (.bool (inB (f 4) 1 9999 && inB (f 5) 0 7 && inB (f 6) 0 31 && inB (f 7) (-1099511627776) 1099511627776 && inB (f 8) 0 120 && inB (f 9) 0 1048576 && inB (f 10) 0 9999 && inB (f 11) 0 1048576))) := by
 refine ac_ (pn := ap_) aa_ Tryz.func120 rfl fun β0 => ?_
 simp only [Tryz.f120]
 rw [fD]
 repeat(first|apply wG|(apply wR;simp -dsimp)|refine aI ?_)
 rw [hk]
 refine cT (by simp) ?_
 repeat(first|apply wG|(apply wR;simp -dsimp)|refine aI ?_)
 refine ad_ ms_ (pk_ f) rfl rfl (by simp) ?_
 simp -dsimp
 repeat refine aI ?_
 repeat(first|apply wG|(apply wR;simp -dsimp)|refine aI ?_)
 refine WP.ret (ab_ ?_)
 simp -dsimp
theorem sc_ (f : Nat → Int) (hk : f 3 = 2) : Fn0 Tryz.prog 120 [fD f] (.v (.bool (inB (f 12) 0 39 && inB (f 13) 0 255 && inB (f 14) 0 1048576 && inB (f 15) (-1099511627776) 1099511627776))) := by
 refine ac_ (pn := ap_) aa_ Tryz.func120 rfl fun β0 => ?_
 simp only [Tryz.f120]
 rw [fD]
 repeat(first|apply wG|(apply wR;simp -dsimp)|refine aI ?_)
 rw [hk]
 refine cF (by simp) ?_
 repeat(first|apply wG|(apply wR;simp -dsimp)|refine aI ?_)
 refine cT (by simp) ?_
 repeat(first|apply wG|(apply wR;simp -dsimp)|refine aI ?_)
 refine ad_ bO_ (lt_ (f 12)) rfl rfl (by simp) ?_
 simp -dsimp
 repeat refine aI ?_
 refine af_ bN_ (fun _ => fq_ (f 13)) rfl (fun _ => rfl) (fun _ => by simp) ?_
 simp -dsimp
 repeat refine aI ?_
 refine af_ gF_ (fun _ => sj_ (f 14)) rfl (fun _ => rfl) (fun _ => by simp) ?_
 simp -dsimp
 repeat refine aI ?_
 refine af_ aI_ (fun _ => bS_ (f 15)) rfl (fun _ => rfl) (fun _ => by simp) ?_
 simp -dsimp
 repeat refine aI ?_
 repeat(first|apply wG|(apply wR;simp -dsimp)|refine aI ?_)
 refine WP.ret (ab_ ?_)
 simp -dsimp
theorem sb_ (f : Nat → Int) (hk : f 3 = 3) : Fn0 Tryz.prog 120 [fD f] (.v (.bool (inB (f 16) 0 39 && inB (f 17) 0 255 && inB (f 18) (-1099511627776) 1099511627776 && inB (f 19) (-1099511627776) 1099511627776 && inB (f 20) 0 1099511627776))) := by
 refine ac_ (pn := ap_) aa_ Tryz.func120 rfl fun β0 => ?_
 simp only [Tryz.f120]
 rw [fD]
 repeat(first|apply wG|(apply wR;simp -dsimp)|refine aI ?_)
 rw [hk]
 refine cF (by simp) ?_
 repeat(first|apply wG|(apply wR;simp -dsimp)|refine aI ?_)
 refine cF (by simp) ?_
 repeat(first|apply wG|(apply wR;simp -dsimp)|refine aI ?_)
 refine cT (by simp) ?_
 repeat(first|apply wG|(apply wR;simp -dsimp)|refine aI ?_)
 refine ad_ bO_ (lt_ (f 16)) rfl rfl (by simp) ?_
 simp -dsimp
 repeat refine aI ?_
 refine af_ bN_ (fun _ => fq_ (f 17)) rfl (fun _ => rfl) (fun _ => by simp) ?_
 simp -dsimp
 repeat refine aI ?_
 refine af_ aI_ (fun _ => bS_ (f 18)) rfl (fun _ => rfl) (fun _ => by simp) ?_
 simp -dsimp
 repeat refine aI ?_
 refine af_ aI_ (fun _ => bS_ (f 19)) rfl (fun _ => rfl) (fun _ => by simp) ?_
 simp -dsimp
 repeat refine aI ?_
 refine af_ ar_ (fun _ => cf_ (f 20) (0) (1099511627776)) rfl (fun _ => rfl) (fun _ => by simp) ?_
 simp -dsimp
 repeat refine aI ?_
 repeat(first|apply wG|(apply wR;simp -dsimp)|refine aI ?_)
 refine WP.ret (ab_ ?_)
 simp -dsimp
theorem sa_ (f : Nat → Int) (hk : f 3 = 4) : Fn0 Tryz.prog 120 [fD f] (.v (.bool (inB (f 21) 0 39 && inB (f 24) 0 39 && inB (f 22) 0 255 && inB (f 25) 0 255 && inB (f 23) (-1099511627776) 1099511627776 && inB (f 26) (-1099511627776) 1099511627776 && inB (f 27) (-1099511627776) 1099511627776 && inB (f 28) (-1099511627776) 1099511627776 && decide (f 27 ≤ f 28)))) := by
 refine ac_ (pn := ap_) aa_ Tryz.func120 rfl fun β0 => ?_
 simp only [Tryz.f120]
 rw [fD]
 repeat(first|apply wG|(apply wR;simp -dsimp)|refine aI ?_)
 rw [hk]
 refine cF (by simp) ?_
 repeat(first|apply wG|(apply wR;simp -dsimp)|refine aI ?_)
 refine cF (by simp) ?_
 repeat(first|apply wG|(apply wR;simp -dsimp)|refine aI ?_)
 refine cF (by simp) ?_
 repeat(first|apply wG|(apply wR;simp -dsimp)|refine aI ?_)
 refine cT (by simp) ?_
 repeat(first|apply wG|(apply wR;simp -dsimp)|refine aI ?_)
 refine ad_ mr_ (vb_ f) rfl rfl (by simp) ?_
 simp -dsimp
 repeat refine aI ?_
 repeat(first|apply wG|(apply wR;simp -dsimp)|refine aI ?_)
 refine WP.ret (ab_ ?_)
 simp -dsimp
theorem r9_ (f : Nat → Int) (hk : f 3 = 5) : Fn0 Tryz.prog 120 [fD f] (.v (.bool (inB (f 29) 1 9999 && inB (f 30) 0 255 && inB (f 31) (-1099511627776) 1099511627776 && inB (f 32) (-1099511627776) 1099511627776 && decide (f 31 ≤ f 32)))) := by
 refine ac_ (pn := ap_) aa_ Tryz.func120 rfl fun β0 => ?_
 simp only [Tryz.f120]
 rw [fD]
 repeat(first|apply wG|(apply wR;simp -dsimp)|refine aI ?_)
 rw [hk]
 refine cF (by simp) ?_
 repeat(first|apply wG|(apply wR;simp -dsimp)|refine aI ?_)
 refine cF (by simp) ?_
 repeat(first|apply wG|(apply wR;simp -dsimp)|refine aI ?_)
 refine cF (by simp) ?_
 repeat(first|apply wG|(apply wR;simp -dsimp)|refine aI ?_)
 refine cF (by simp) ?_
 repeat(first|apply wG|(apply wR;simp -dsimp)|refine aI ?_)
 refine cT (by simp) ?_
 repeat(first|apply wG|(apply wR;simp -dsimp)|refine aI ?_)
 refine ad_ a3_ (gk_ (f 29)) rfl rfl (by simp) ?_
 simp -dsimp
 repeat refine aI ?_
 refine af_ bM_ (fun _ => ln_ (f 30)) rfl (fun _ => rfl) (fun _ => by simp) ?_
 simp -dsimp
 repeat refine aI ?_
 refine af_ aI_ (fun _ => bS_ (f 31)) rfl (fun _ => rfl) (fun _ => by simp) ?_
 simp -dsimp
 repeat refine aI ?_
 refine af_ aI_ (fun _ => bS_ (f 32)) rfl (fun _ => rfl) (fun _ => by simp) ?_
 simp -dsimp
 repeat refine aI ?_
 repeat(first|apply wG|(apply wR;simp -dsimp)|refine aI ?_)
 refine WP.ret (ab_ ?_)
 simp -dsimp
theorem r8_ (f : Nat → Int) (hk : f 3 = 6) : Fn0 Tryz.prog 120 [fD f] (.v (.bool (inB (f 33) 0 39 && inB (f 34) 0 255 && inB (f 35) (-1099511627776) 1099511627776 && inB (f 36) (-1099511627776) 1099511627776 && decide (f 35 ≤ f 36)))) := by
 refine ac_ (pn := ap_) aa_ Tryz.func120 rfl fun β0 => ?_
 simp only [Tryz.f120]
 rw [fD]
 repeat(first|apply wG|(apply wR;simp -dsimp)|refine aI ?_)
 rw [hk]
 refine cF (by simp) ?_
 repeat(first|apply wG|(apply wR;simp -dsimp)|refine aI ?_)
 refine cF (by simp) ?_
 repeat(first|apply wG|(apply wR;simp -dsimp)|refine aI ?_)
 refine cF (by simp) ?_
 repeat(first|apply wG|(apply wR;simp -dsimp)|refine aI ?_)
 refine cF (by simp) ?_
 repeat(first|apply wG|(apply wR;simp -dsimp)|refine aI ?_)
 refine cF (by simp) ?_
 repeat(first|apply wG|(apply wR;simp -dsimp)|refine aI ?_)
 refine cT (by simp) ?_
 repeat(first|apply wG|(apply wR;simp -dsimp)|refine aI ?_)
 refine ad_ bO_ (lt_ (f 33)) rfl rfl (by simp) ?_
 simp -dsimp
 repeat refine aI ?_
 refine af_ bN_ (fun _ => fq_ (f 34)) rfl (fun _ => rfl) (fun _ => by simp) ?_
 simp -dsimp
 repeat refine aI ?_
 refine af_ aI_ (fun _ => bS_ (f 35)) rfl (fun _ => rfl) (fun _ => by simp) ?_
 simp -dsimp
 repeat refine aI ?_
 refine af_ aI_ (fun _ => bS_ (f 36)) rfl (fun _ => rfl) (fun _ => by simp) ?_
 simp -dsimp
 repeat refine aI ?_
 repeat(first|apply wG|(apply wR;simp -dsimp)|refine aI ?_)
 refine WP.ret (ab_ ?_)
 simp -dsimp
theorem r7_ (f : Nat → Int) (hk : f 3 = 7) : Fn0 Tryz.prog 120 [fD f] (.v (.bool (inB (f 37) 1 9999 && inB (f 38) 1 9999 && decide (f 37 < f 38)))) := by
 refine ac_ (pn := ap_) aa_ Tryz.func120 rfl fun β0 => ?_
 simp only [Tryz.f120]
 rw [fD]
 repeat(first|apply wG|(apply wR;simp -dsimp)|refine aI ?_)
 rw [hk]
 refine cF (by simp) ?_
 repeat(first|apply wG|(apply wR;simp -dsimp)|refine aI ?_)
 refine cF (by simp) ?_
 repeat(first|apply wG|(apply wR;simp -dsimp)|refine aI ?_)
 refine cF (by simp) ?_
 repeat(first|apply wG|(apply wR;simp -dsimp)|refine aI ?_)
 refine cF (by simp) ?_
 repeat(first|apply wG|(apply wR;simp -dsimp)|refine aI ?_)
 refine cF (by simp) ?_
 repeat(first|apply wG|(apply wR;simp -dsimp)|refine aI ?_)
 refine cF (by simp) ?_
 repeat(first|apply wG|(apply wR;simp -dsimp)|refine aI ?_)
 refine cT (by simp) ?_
 repeat(first|apply wG|(apply wR;simp -dsimp)|refine aI ?_)
 refine ad_ a3_ (gk_ (f 37)) rfl rfl (by simp) ?_
 simp -dsimp
 repeat refine aI ?_
 refine af_ a3_ (fun _ => gk_ (f 38)) rfl (fun _ => rfl) (fun _ => by simp) ?_
 simp -dsimp
 repeat refine aI ?_
 repeat(first|apply wG|(apply wR;simp -dsimp)|refine aI ?_)
 refine WP.ret (ab_ ?_)
 simp -dsimp
theorem r6_ (f : Nat → Int) (hk : f 3 = 8) : Fn0 Tryz.prog 120 [fD f] (.v (.bool (inB (f 39) 1 1048576 && inB (f 40) 1 9999 && inB (f 41) 0 31 && inB (f 42) 0 255))) := by
 refine ac_ (pn := ap_) aa_ Tryz.func120 rfl fun β0 => ?_
 simp only [Tryz.f120]
 rw [fD]
 repeat(first|apply wG|(apply wR;simp -dsimp)|refine aI ?_)
 rw [hk]
 refine cF (by simp) ?_
 repeat(first|apply wG|(apply wR;simp -dsimp)|refine aI ?_)
 refine cF (by simp) ?_
 repeat(first|apply wG|(apply wR;simp -dsimp)|refine aI ?_)
 refine cF (by simp) ?_
 repeat(first|apply wG|(apply wR;simp -dsimp)|refine aI ?_)
 refine cF (by simp) ?_
 repeat(first|apply wG|(apply wR;simp -dsimp)|refine aI ?_)
 refine cF (by simp) ?_
 repeat(first|apply wG|(apply wR;simp -dsimp)|refine aI ?_)
 refine cF (by simp) ?_
 repeat(first|apply wG|(apply wR;simp -dsimp)|refine aI ?_)
 refine cF (by simp) ?_
 repeat(first|apply wG|(apply wR;simp -dsimp)|refine aI ?_)
 refine cT (by simp) ?_
 repeat(first|apply wG|(apply wR;simp -dsimp)|refine aI ?_)
 refine ad_ cC_ (ku_ (f 39)) rfl rfl (by simp) ?_
 simp -dsimp
 repeat refine aI ?_
 refine af_ a3_ (fun _ => gk_ (f 40)) rfl (fun _ => rfl) (fun _ => by simp) ?_
 simp -dsimp
 repeat refine aI ?_
 refine af_ ar_ (fun _ => cf_ (f 41) (0) (31)) rfl (fun _ => rfl) (fun _ => by simp) ?_
 simp -dsimp
 repeat refine aI ?_
 refine af_ bM_ (fun _ => ln_ (f 42)) rfl (fun _ => rfl) (fun _ => by simp) ?_
 simp -dsimp
 repeat refine aI ?_
 repeat(first|apply wG|(apply wR;simp -dsimp)|refine aI ?_)
 refine WP.ret (ab_ ?_)
 simp -dsimp
theorem r5_ (f : Nat → Int) (hk : f 3 = 9) : Fn0 Tryz.prog 120 [fD f] (.v (.bool (inB (f 43) 1 1048576 && inB (f 44) 0 9999 && inB (f 45) 0 1125899906842624 && inB (f 46) 0 1))) := by
 refine ac_ (pn := ap_) aa_ Tryz.func120 rfl fun β0 => ?_
 simp only [Tryz.f120]
 rw [fD]
 repeat(first|apply wG|(apply wR;simp -dsimp)|refine aI ?_)
 rw [hk]
 refine cF (by simp) ?_
 repeat(first|apply wG|(apply wR;simp -dsimp)|refine aI ?_)
 refine cF (by simp) ?_
 repeat(first|apply wG|(apply wR;simp -dsimp)|refine aI ?_)
 refine cF (by simp) ?_
 repeat(first|apply wG|(apply wR;simp -dsimp)|refine aI ?_)
 refine cF (by simp) ?_
 repeat(first|apply wG|(apply wR;simp -dsimp)|refine aI ?_)
 refine cF (by simp) ?_
 repeat(first|apply wG|(apply wR;simp -dsimp)|refine aI ?_)
 refine cF (by simp) ?_
 repeat(first|apply wG|(apply wR;simp -dsimp)|refine aI ?_)
 refine cF (by simp) ?_
 repeat(first|apply wG|(apply wR;simp -dsimp)|refine aI ?_)
 refine cF (by simp) ?_
 repeat(first|apply wG|(apply wR;simp -dsimp)|refine aI ?_)
 refine cT (by simp) ?_
 repeat(first|apply wG|(apply wR;simp -dsimp)|refine aI ?_)
 refine ad_ cC_ (ku_ (f 43)) rfl rfl (by simp) ?_
 simp -dsimp
 repeat refine aI ?_
 refine af_ ar_ (fun _ => cf_ (f 44) (0) (9999)) rfl (fun _ => rfl) (fun _ => by simp) ?_
 simp -dsimp
 repeat refine aI ?_
 refine af_ ar_ (fun _ => cf_ (f 45) (0) (1125899906842624)) rfl (fun _ => rfl) (fun _ => by simp) ?_
 simp -dsimp
 repeat refine aI ?_
 refine af_ ar_ (fun _ => cf_ (f 46) (0) (1)) rfl (fun _ => rfl) (fun _ => by simp) ?_
 simp -dsimp
 repeat refine aI ?_
 repeat(first|apply wG|(apply wR;simp -dsimp)|refine aI ?_)
 refine WP.ret (ab_ ?_)
 simp -dsimp
theorem p2_ (f : Nat → Int) (hk : f 3 = 10) : Fn0 Tryz.prog 120 [fD f] (.v (.bool (qU_ f))) := by
 refine ac_ (pn := ap_) aa_ Tryz.func120 rfl fun β0 => ?_
 simp only [Tryz.f120]
 rw [fD]
 repeat(first|apply wG|(apply wR;simp -dsimp)|refine aI ?_)
 rw [hk]
 refine cF (by simp) ?_
 repeat(first|apply wG|(apply wR;simp -dsimp)|refine aI ?_)
 refine cF (by simp) ?_
 repeat(first|apply wG|(apply wR;simp -dsimp)|refine aI ?_)
 refine cF (by simp) ?_
 repeat(first|apply wG|(apply wR;simp -dsimp)|refine aI ?_)
 refine cF (by simp) ?_
 repeat(first|apply wG|(apply wR;simp -dsimp)|refine aI ?_)
 refine cF (by simp) ?_
 repeat(first|apply wG|(apply wR;simp -dsimp)|refine aI ?_)
 refine cF (by simp) ?_
 repeat(first|apply wG|(apply wR;simp -dsimp)|refine aI ?_)
 refine cF (by simp) ?_
 repeat(first|apply wG|(apply wR;simp -dsimp)|refine aI ?_)
 refine cF (by simp) ?_
 repeat(first|apply wG|(apply wR;simp -dsimp)|refine aI ?_)
 refine cF (by simp) ?_
 repeat(first|apply wG|(apply wR;simp -dsimp)|refine aI ?_)
 refine cT (by simp) ?_
 repeat(first|apply wG|(apply wR;simp -dsimp)|refine aI ?_)
 refine ad_ mq_ (qT_ f) rfl rfl (by simp) ?_
 simp -dsimp
 repeat refine aI ?_
 repeat(first|apply wG|(apply wR;simp -dsimp)|refine aI ?_)
 refine WP.ret (ab_ ?_)
 simp -dsimp
theorem p1_ (f : Nat → Int) (hk : f 3 = 11) : Fn0 Tryz.prog 120 [fD f] (.v (.bool (inB (f 53) 1 1048576))) := by
 refine ac_ (pn := ap_) aa_ Tryz.func120 rfl fun β0 => ?_
 simp only [Tryz.f120]
 rw [fD]
 repeat(first|apply wG|(apply wR;simp -dsimp)|refine aI ?_)
 rw [hk]
 refine cF (by simp) ?_
 repeat(first|apply wG|(apply wR;simp -dsimp)|refine aI ?_)
 refine cF (by simp) ?_
 repeat(first|apply wG|(apply wR;simp -dsimp)|refine aI ?_)
 refine cF (by simp) ?_
 repeat(first|apply wG|(apply wR;simp -dsimp)|refine aI ?_)
 refine cF (by simp) ?_
 repeat(first|apply wG|(apply wR;simp -dsimp)|refine aI ?_)
 refine cF (by simp) ?_
 repeat(first|apply wG|(apply wR;simp -dsimp)|refine aI ?_)
 refine cF (by simp) ?_
 repeat(first|apply wG|(apply wR;simp -dsimp)|refine aI ?_)
 refine cF (by simp) ?_
 repeat(first|apply wG|(apply wR;simp -dsimp)|refine aI ?_)
 refine cF (by simp) ?_
 repeat(first|apply wG|(apply wR;simp -dsimp)|refine aI ?_)
 refine cF (by simp) ?_
 repeat(first|apply wG|(apply wR;simp -dsimp)|refine aI ?_)
 refine cF (by simp) ?_
 repeat(first|apply wG|(apply wR;simp -dsimp)|refine aI ?_)
 refine cT (by simp) ?_
 repeat(first|apply wG|(apply wR;simp -dsimp)|refine aI ?_)
 refine ad_ cC_ (ku_ (f 53)) rfl rfl (by simp) ?_
 simp -dsimp
 repeat refine aI ?_
 repeat(first|apply wG|(apply wR;simp -dsimp)|refine aI ?_)
 refine WP.ret (ab_ ?_)
 simp -dsimp
theorem p0_ (f : Nat → Int) (hk : f 3 = 12) : Fn0 Tryz.prog 120 [fD f] (.v (.bool (true))) := by
 refine ac_ (pn := ap_) aa_ Tryz.func120 rfl fun β0 => ?_
 simp only [Tryz.f120]
 rw [fD]
 repeat(first|apply wG|(apply wR;simp -dsimp)|refine aI ?_)
 rw [hk]
 refine cF (by simp) ?_
 repeat(first|apply wG|(apply wR;simp -dsimp)|refine aI ?_)
 refine cF (by simp) ?_
 repeat(first|apply wG|(apply wR;simp -dsimp)|refine aI ?_)
 refine cF (by simp) ?_
 repeat(first|apply wG|(apply wR;simp -dsimp)|refine aI ?_)
 refine cF (by simp) ?_
 repeat(first|apply wG|(apply wR;simp -dsimp)|refine aI ?_)
 refine cF (by simp) ?_
 repeat(first|apply wG|(apply wR;simp -dsimp)|refine aI ?_)
 refine cF (by simp) ?_
 repeat(first|apply wG|(apply wR;simp -dsimp)|refine aI ?_)
 refine cF (by simp) ?_
 repeat(first|apply wG|(apply wR;simp -dsimp)|refine aI ?_)
 refine cF (by simp) ?_
 repeat(first|apply wG|(apply wR;simp -dsimp)|refine aI ?_)
 refine cF (by simp) ?_
 repeat(first|apply wG|(apply wR;simp -dsimp)|refine aI ?_)
 refine cF (by simp) ?_
 repeat(first|apply wG|(apply wR;simp -dsimp)|refine aI ?_)
 refine cF (by simp) ?_
 repeat(first|apply wG|(apply wR;simp -dsimp)|refine aI ?_)
 refine cT (by simp) ?_
 repeat(first|apply wG|(apply wR;simp -dsimp)|refine aI ?_)
 refine WP.ret (ab_ ?_)
 simp -dsimp
theorem pZ_ (f : Nat → Int) (hk : f 3 = 13) : Fn0 Tryz.prog 120 [fD f] (.v (.bool (inB (f 55) 0 31 && inB (f 56) 1 1048576))) := by
 refine ac_ (pn := ap_) aa_ Tryz.func120 rfl fun β0 => ?_
 simp only [Tryz.f120]
 rw [fD]
 repeat(first|apply wG|(apply wR;simp -dsimp)|refine aI ?_)
 rw [hk]
 refine cF (by simp) ?_
 repeat(first|apply wG|(apply wR;simp -dsimp)|refine aI ?_)
 refine cF (by simp) ?_
 repeat(first|apply wG|(apply wR;simp -dsimp)|refine aI ?_)
 refine cF (by simp) ?_
 repeat(first|apply wG|(apply wR;simp -dsimp)|refine aI ?_)
 refine cF (by simp) ?_
 repeat(first|apply wG|(apply wR;simp -dsimp)|refine aI ?_)
 refine cF (by simp) ?_
 repeat(first|apply wG|(apply wR;simp -dsimp)|refine aI ?_)
 refine cF (by simp) ?_
 repeat(first|apply wG|(apply wR;simp -dsimp)|refine aI ?_)
 refine cF (by simp) ?_
 repeat(first|apply wG|(apply wR;simp -dsimp)|refine aI ?_)
 refine cF (by simp) ?_
 repeat(first|apply wG|(apply wR;simp -dsimp)|refine aI ?_)
 refine cF (by simp) ?_
 repeat(first|apply wG|(apply wR;simp -dsimp)|refine aI ?_)
 refine cF (by simp) ?_
 repeat(first|apply wG|(apply wR;simp -dsimp)|refine aI ?_)
 refine cF (by simp) ?_
 repeat(first|apply wG|(apply wR;simp -dsimp)|refine aI ?_)
 refine cF (by simp) ?_
 repeat(first|apply wG|(apply wR;simp -dsimp)|refine aI ?_)
 refine cT (by simp) ?_
 repeat(first|apply wG|(apply wR;simp -dsimp)|refine aI ?_)
 refine ad_ gQ_ (r0_ (f 55)) rfl rfl (by simp) ?_
 simp -dsimp
 repeat refine aI ?_
 refine af_ gP_ (fun _ => ls_ (f 56)) rfl (fun _ => rfl) (fun _ => by simp) ?_
 simp -dsimp
 repeat refine aI ?_
 repeat(first|apply wG|(apply wR;simp -dsimp)|refine aI ?_)
 refine WP.ret (ab_ ?_)
 simp -dsimp
theorem pY_ (f : Nat → Int) (hk : f 3 < 1 ∨ 13 < f 3) : Fn0 Tryz.prog 120 [fD f] (.v (.bool false)) := by
 refine ac_ (pn := ap_) aa_ Tryz.func120 rfl fun β0 => ?_
 simp only [Tryz.f120]
 rw [fD]
 repeat(first|apply wG|(apply wR;simp -dsimp)|refine aI ?_)
 refine cF (by simp; omega) ?_
 repeat(first|apply wG|(apply wR;simp -dsimp)|refine aI ?_)
 refine cF (by simp; omega) ?_
 repeat(first|apply wG|(apply wR;simp -dsimp)|refine aI ?_)
 refine cF (by simp; omega) ?_
 repeat(first|apply wG|(apply wR;simp -dsimp)|refine aI ?_)
 refine cF (by simp; omega) ?_
 repeat(first|apply wG|(apply wR;simp -dsimp)|refine aI ?_)
 refine cF (by simp; omega) ?_
 repeat(first|apply wG|(apply wR;simp -dsimp)|refine aI ?_)
 refine cF (by simp; omega) ?_
 repeat(first|apply wG|(apply wR;simp -dsimp)|refine aI ?_)
 refine cF (by simp; omega) ?_
 repeat(first|apply wG|(apply wR;simp -dsimp)|refine aI ?_)
 refine cF (by simp; omega) ?_
 repeat(first|apply wG|(apply wR;simp -dsimp)|refine aI ?_)
 refine cF (by simp; omega) ?_
 repeat(first|apply wG|(apply wR;simp -dsimp)|refine aI ?_)
 refine cF (by simp; omega) ?_
 repeat(first|apply wG|(apply wR;simp -dsimp)|refine aI ?_)
 refine cF (by simp; omega) ?_
 repeat(first|apply wG|(apply wR;simp -dsimp)|refine aI ?_)
 refine cF (by simp; omega) ?_
 repeat(first|apply wG|(apply wR;simp -dsimp)|refine aI ?_)
 refine cF (by simp; omega) ?_
 refine WP.skip ?_
 simp -dsimp
 repeat(first|apply wG|(apply wR;simp -dsimp)|refine aI ?_)
 refine WP.ret (ab_ ?_)
 simp -dsimp
theorem pX_ (f : Nat → Int) : Fn0 Tryz.prog 120 [fD f] (.v (.bool (conF f))) := by
 have h : (f 3 < 1 ∨ 13 < f 3) ∨ f 3 = 1 ∨ f 3 = 2 ∨ f 3 = 3 ∨ f 3 = 4 ∨ f 3 = 5 ∨ f 3 = 6 ∨ f 3 = 7 ∨ f 3 = 8 ∨ f 3 = 9 ∨ f 3 = 10 ∨ f 3 = 11 ∨ f 3 = 12 ∨ f 3 = 13 := by omega
 rcases h with h | h | h | h | h | h | h | h | h | h | h | h | h | h
 ·have : conF f = false := by
   unfold conF
   rw [if_neg (by omega)]
   rw [if_neg (by omega)]
   rw [if_neg (by omega)]
   rw [if_neg (by omega)]
   rw [if_neg (by omega)]
   rw [if_neg (by omega)]
   rw [if_neg (by omega)]
   rw [if_neg (by omega)]
   rw [if_neg (by omega)]
   rw [if_neg (by omega)]
   rw [if_neg (by omega)]
   rw [if_neg (by omega)]
   rw [if_neg (by omega)]
  rw [this]; exact pY_ f h
 ·have := sd_ f h; simpa only [conF, h, Int.reduceEq, if_true, if_false] using this
 ·have := sc_ f h; simpa only [conF, h, Int.reduceEq, if_true, if_false] using this
 ·have := sb_ f h; simpa only [conF, h, Int.reduceEq, if_true, if_false] using this
 ·have := sa_ f h; simpa only [conF, h, Int.reduceEq, if_true, if_false] using this
 ·have := r9_ f h; simpa only [conF, h, Int.reduceEq, if_true, if_false] using this
 ·have := r8_ f h; simpa only [conF, h, Int.reduceEq, if_true, if_false] using this
 ·have := r7_ f h; simpa only [conF, h, Int.reduceEq, if_true, if_false] using this
 ·have := r6_ f h; simpa only [conF, h, Int.reduceEq, if_true, if_false] using this
 ·have := r5_ f h; simpa only [conF, h, Int.reduceEq, if_true, if_false] using this
 ·have := p2_ f h; simpa only [conF, h, Int.reduceEq, if_true, if_false] using this
 ·have := p1_ f h; simpa only [conF, h, Int.reduceEq, if_true, if_false] using this
 ·have := p0_ f h; simpa only [conF, h, Int.reduceEq, if_true, if_false] using this
 ·have := pZ_ f h; simpa only [conF, h, Int.reduceEq, if_true, if_false] using this
def partF (k : Int) : Nat × Nat :=
 if k = 1 then (4, 8) else if k = 2 then (12, 4) else if k = 3 then (16, 5) else if k = 4 then (21, 8) else if k = 5 then (29, 4) else if k = 6 then (33, 4) else if k = 7 then (37, 2)
 else if k = 8 then (39, 4) else if k = 9 then (43, 4) else if k = 10 then (47, 6) else if k = 11 then (53, 2) else if k = 13 then (55, 2) else (0, 0)
def cH_ (f : Nat → Int) : Nat → Int := fup (fup (fup (fup f0 0 (f 0)) 1 (f 1)) 2 (f 2)) 3 (f 3)
def bd_ (f : Nat → Int) : Nat → Int := fcp (cH_ f) f (partF (f 3)).1 (partF (f 3)).2
theorem tp_ {f : Nat → Int} (hf : fOk f) : fOk (bd_ f) := by
 have hb : fOk (cH_ f) := by
  refine ⟨fo_ (fo_ (fo_ (fo_ (fun _ => uH_) (hf.1 0)) (hf.1 1)) (hf.1 2)) (hf.1 3), .inl rfl, fun i hi => ?_⟩
  have h0 : i ≠ 0 := by omega
  have h1 : i ≠ 1 := by omega
  have h2 : i ≠ 2 := by omega
  have h3 : i ≠ 3 := by omega
  simp [cH_, fup, f0, h0, h1, h2, h3]
 refine ⟨fun i => ?_, ?_, fun i hi => ?_⟩
 ·unfold bd_ fcp; split; exact hf.1 i; exact hb.1 i
 ·unfold bd_ fcp; split; exact hf.2.1; exact hb.2.1
 ·unfold bd_ fcp; split; exact hf.2.2 i hi; exact hb.2.2 i hi
@[simp] theorem zJ_ (g f : Nat → Int) : fcp g f 0 0 = g := by funext i; simp only [fcp]; rw [if_neg (by omega)]
theorem xy_ (f : Nat → Int) (hk : f 3 = 1) : Fn0 Tryz.prog 121 [fD f] (fD (bd_ f)) := by
 refine ac_ (pn := ap_) aa_ Tryz.func121 rfl fun β0 => ?_
 simp only [Tryz.f121]
 unfold fD
 repeat(first|apply wG|(apply wR;simp -dsimp [bm_])|refine aI ?_)
 rw [hk]
 refine cT (by simp) ?_
 repeat(first|apply wG|(apply wR;simp -dsimp)|refine aI ?_)
 refine WP.ret (ab_ ?_)
 simp -dsimp [bd_, partF, hk, cH_]
 all_goals exact ai_ _
theorem xx_ (f : Nat → Int) (hk : f 3 = 2) : Fn0 Tryz.prog 121 [fD f] (fD (bd_ f)) := by
 refine ac_ (pn := ap_) aa_ Tryz.func121 rfl fun β0 => ?_
 simp only [Tryz.f121]
 unfold fD
 repeat(first|apply wG|(apply wR;simp -dsimp [bm_])|refine aI ?_)
 rw [hk]
 refine cF (by simp) ?_
 repeat(first|apply wG|(apply wR;simp -dsimp)|refine aI ?_)
 refine cT (by simp) ?_
 repeat(first|apply wG|(apply wR;simp -dsimp)|refine aI ?_)
 refine WP.ret (ab_ ?_)
 simp -dsimp [bd_, partF, hk, cH_]
 all_goals exact ai_ _
theorem xw_ (f : Nat → Int) (hk : f 3 = 3) : Fn0 Tryz.prog 121 [fD f] (fD (bd_ f)) := by
 refine ac_ (pn := ap_) aa_ Tryz.func121 rfl fun β0 => ?_
 simp only [Tryz.f121]
 unfold fD
 repeat(first|apply wG|(apply wR;simp -dsimp [bm_])|refine aI ?_)
 rw [hk]
 refine cF (by simp) ?_
 repeat(first|apply wG|(apply wR;simp -dsimp)|refine aI ?_)
 refine cF (by simp) ?_
 repeat(first|apply wG|(apply wR;simp -dsimp)|refine aI ?_)
 refine cT (by simp) ?_
 repeat(first|apply wG|(apply wR;simp -dsimp)|refine aI ?_)
 refine WP.ret (ab_ ?_)
 simp -dsimp [bd_, partF, hk, cH_]
 all_goals exact ai_ _
theorem xv_ (f : Nat → Int) (hk : f 3 = 4) : Fn0 Tryz.prog 121 [fD f] (fD (bd_ f)) := by
 refine ac_ (pn := ap_) aa_ Tryz.func121 rfl fun β0 => ?_
 simp only [Tryz.f121]
 unfold fD
 repeat(first|apply wG|(apply wR;simp -dsimp [bm_])|refine aI ?_)
 rw [hk]
 refine cF (by simp) ?_
 repeat(first|apply wG|(apply wR;simp -dsimp)|refine aI ?_)
 refine cF (by simp) ?_
 repeat(first|apply wG|(apply wR;simp -dsimp)|refine aI ?_)
 refine cF (by simp) ?_
 repeat(first|apply wG|(apply wR;simp -dsimp)|refine aI ?_)
 refine cT (by simp) ?_
 repeat(first|apply wG|(apply wR;simp -dsimp)|refine aI ?_)
 refine WP.ret (ab_ ?_)
 simp -dsimp [bd_, partF, hk, cH_]
 all_goals exact ai_ _
theorem xu_ (f : Nat → Int) (hk : f 3 = 5) : Fn0 Tryz.prog 121 [fD f] (fD (bd_ f)) := by
 refine ac_ (pn := ap_) aa_ Tryz.func121 rfl fun β0 => ?_
 simp only [Tryz.f121]
 unfold fD
 repeat(first|apply wG|(apply wR;simp -dsimp [bm_])|refine aI ?_)
 rw [hk]
 refine cF (by simp) ?_
 repeat(first|apply wG|(apply wR;simp -dsimp)|refine aI ?_)
 refine cF (by simp) ?_
 repeat(first|apply wG|(apply wR;simp -dsimp)|refine aI ?_)
 refine cF (by simp) ?_
 repeat(first|apply wG|(apply wR;simp -dsimp)|refine aI ?_)
 refine cF (by simp) ?_
 repeat(first|apply wG|(apply wR;simp -dsimp)|refine aI ?_)
 refine cT (by simp) ?_
 repeat(first|apply wG|(apply wR;simp -dsimp)|refine aI ?_)
 refine WP.ret (ab_ ?_)
 simp -dsimp [bd_, partF, hk, cH_]
 all_goals exact ai_ _
theorem xt_ (f : Nat → Int) (hk : f 3 = 6) : Fn0 Tryz.prog 121 [fD f] (fD (bd_ f)) := by
 refine ac_ (pn := ap_) aa_ Tryz.func121 rfl fun β0 => ?_
 simp only [Tryz.f121]
 unfold fD
 repeat(first|apply wG|(apply wR;simp -dsimp [bm_])|refine aI ?_)
 rw [hk]
 refine cF (by simp) ?_
 repeat(first|apply wG|(apply wR;simp -dsimp)|refine aI ?_)
 refine cF (by simp) ?_
 repeat(first|apply wG|(apply wR;simp -dsimp)|refine aI ?_)
 refine cF (by simp) ?_
 repeat(first|apply wG|(apply wR;simp -dsimp)|refine aI ?_)
 refine cF (by simp) ?_
 repeat(first|apply wG|(apply wR;simp -dsimp)|refine aI ?_)
 refine cF (by simp) ?_
 repeat(first|apply wG|(apply wR;simp -dsimp)|refine aI ?_)
 refine cT (by simp) ?_
 repeat(first|apply wG|(apply wR;simp -dsimp)|refine aI ?_)
 refine WP.ret (ab_ ?_)
 simp -dsimp [bd_, partF, hk, cH_]
 all_goals exact ai_ _
theorem xs_ (f : Nat → Int) (hk : f 3 = 7) : Fn0 Tryz.prog 121 [fD f] (fD (bd_ f)) := by
 refine ac_ (pn := ap_) aa_ Tryz.func121 rfl fun β0 => ?_
 simp only [Tryz.f121]
 unfold fD
 repeat(first|apply wG|(apply wR;simp -dsimp [bm_])|refine aI ?_)
 rw [hk]
 refine cF (by simp) ?_
 repeat(first|apply wG|(apply wR;simp -dsimp)|refine aI ?_)
 refine cF (by simp) ?_
 repeat(first|apply wG|(apply wR;simp -dsimp)|refine aI ?_)
 refine cF (by simp) ?_
 repeat(first|apply wG|(apply wR;simp -dsimp)|refine aI ?_)
 refine cF (by simp) ?_
 repeat(first|apply wG|(apply wR;simp -dsimp)|refine aI ?_)
 refine cF (by simp) ?_
 repeat(first|apply wG|(apply wR;simp -dsimp)|refine aI ?_)
 refine cF (by simp) ?_
 repeat(first|apply wG|(apply wR;simp -dsimp)|refine aI ?_)
 refine cT (by simp) ?_
 repeat(first|apply wG|(apply wR;simp -dsimp)|refine aI ?_)
 refine WP.ret (ab_ ?_)
 simp -dsimp [bd_, partF, hk, cH_]
 all_goals exact ai_ _
theorem xr_ (f : Nat → Int) (hk : f 3 = 8) : Fn0 Tryz.prog 121 [fD f] (fD (bd_ f)) := by
 refine ac_ (pn := ap_) aa_ Tryz.func121 rfl fun β0 => ?_
 simp only [Tryz.f121]
 unfold fD
 repeat(first|apply wG|(apply wR;simp -dsimp [bm_])|refine aI ?_)
 rw [hk]
 refine cF (by simp) ?_
 repeat(first|apply wG|(apply wR;simp -dsimp)|refine aI ?_)
 refine cF (by simp) ?_
 repeat(first|apply wG|(apply wR;simp -dsimp)|refine aI ?_)
 refine cF (by simp) ?_
 repeat(first|apply wG|(apply wR;simp -dsimp)|refine aI ?_)
 refine cF (by simp) ?_
 repeat(first|apply wG|(apply wR;simp -dsimp)|refine aI ?_)
 refine cF (by simp) ?_
 repeat(first|apply wG|(apply wR;simp -dsimp)|refine aI ?_)
 refine cF (by simp) ?_
 repeat(first|apply wG|(apply wR;simp -dsimp)|refine aI ?_)
 refine cF (by simp) ?_
 repeat(first|apply wG|(apply wR;simp -dsimp)|refine aI ?_)
 refine cT (by simp) ?_
 repeat(first|apply wG|(apply wR;simp -dsimp)|refine aI ?_)
 refine WP.ret (ab_ ?_)
 simp -dsimp [bd_, partF, hk, cH_]
 all_goals exact ai_ _
theorem xq_ (f : Nat → Int) (hk : f 3 = 9) : Fn0 Tryz.prog 121 [fD f] (fD (bd_ f)) := by
 refine ac_ (pn := ap_) aa_ Tryz.func121 rfl fun β0 => ?_
 simp only [Tryz.f121]
 unfold fD
 repeat(first|apply wG|(apply wR;simp -dsimp [bm_])|refine aI ?_)
 rw [hk]
 refine cF (by simp) ?_
 repeat(first|apply wG|(apply wR;simp -dsimp)|refine aI ?_)
 refine cF (by simp) ?_
 repeat(first|apply wG|(apply wR;simp -dsimp)|refine aI ?_)
 refine cF (by simp) ?_
 repeat(first|apply wG|(apply wR;simp -dsimp)|refine aI ?_)
 refine cF (by simp) ?_
 repeat(first|apply wG|(apply wR;simp -dsimp)|refine aI ?_)
 refine cF (by simp) ?_
 repeat(first|apply wG|(apply wR;simp -dsimp)|refine aI ?_)
 refine cF (by simp) ?_
 repeat(first|apply wG|(apply wR;simp -dsimp)|refine aI ?_)
 refine cF (by simp) ?_
 repeat(first|apply wG|(apply wR;simp -dsimp)|refine aI ?_)
 refine cF (by simp) ?_
 repeat(first|apply wG|(apply wR;simp -dsimp)|refine aI ?_)
 refine cT (by simp) ?_
 repeat(first|apply wG|(apply wR;simp -dsimp)|refine aI ?_)
 refine WP.ret (ab_ ?_)
 simp -dsimp [bd_, partF, hk, cH_]
 all_goals exact ai_ _
theorem vG_ (f : Nat → Int) (hk : f 3 = 10) : Fn0 Tryz.prog 121 [fD f] (fD (bd_ f)) := by
 refine ac_ (pn := ap_) aa_ Tryz.func121 rfl fun β0 => ?_
 simp only [Tryz.f121]
 unfold fD
 repeat(first|apply wG|(apply wR;simp -dsimp [bm_])|refine aI ?_)
 rw [hk]
 refine cF (by simp) ?_
 repeat(first|apply wG|(apply wR;simp -dsimp)|refine aI ?_)
 refine cF (by simp) ?_
 repeat(first|apply wG|(apply wR;simp -dsimp)|refine aI ?_)
 refine cF (by simp) ?_
 repeat(first|apply wG|(apply wR;simp -dsimp)|refine aI ?_)
 refine cF (by simp) ?_
 repeat(first|apply wG|(apply wR;simp -dsimp)|refine aI ?_)
 refine cF (by simp) ?_
 repeat(first|apply wG|(apply wR;simp -dsimp)|refine aI ?_)
 refine cF (by simp) ?_
 repeat(first|apply wG|(apply wR;simp -dsimp)|refine aI ?_)
 refine cF (by simp) ?_
 repeat(first|apply wG|(apply wR;simp -dsimp)|refine aI ?_)
 refine cF (by simp) ?_
 repeat(first|apply wG|(apply wR;simp -dsimp)|refine aI ?_)
 refine cF (by simp) ?_
 repeat(first|apply wG|(apply wR;simp -dsimp)|refine aI ?_)
 refine cT (by simp) ?_
 repeat(first|apply wG|(apply wR;simp -dsimp)|refine aI ?_)
 refine WP.ret (ab_ ?_)
 simp -dsimp [bd_, partF, hk, cH_]
 all_goals exact ai_ _
theorem vF_ (f : Nat → Int) (hk : f 3 = 11) : Fn0 Tryz.prog 121 [fD f] (fD (bd_ f)) := by
 refine ac_ (pn := ap_) aa_ Tryz.func121 rfl fun β0 => ?_
 simp only [Tryz.f121]
 unfold fD
 repeat(first|apply wG|(apply wR;simp -dsimp [bm_])|refine aI ?_)
 rw [hk]
 refine cF (by simp) ?_
 repeat(first|apply wG|(apply wR;simp -dsimp)|refine aI ?_)
 refine cF (by simp) ?_
 repeat(first|apply wG|(apply wR;simp -dsimp)|refine aI ?_)
 refine cF (by simp) ?_
 repeat(first|apply wG|(apply wR;simp -dsimp)|refine aI ?_)
 refine cF (by simp) ?_
 repeat(first|apply wG|(apply wR;simp -dsimp)|refine aI ?_)
 refine cF (by simp) ?_
 repeat(first|apply wG|(apply wR;simp -dsimp)|refine aI ?_)
 refine cF (by simp) ?_
 repeat(first|apply wG|(apply wR;simp -dsimp)|refine aI ?_)
 refine cF (by simp) ?_
 repeat(first|apply wG|(apply wR;simp -dsimp)|refine aI ?_)
 refine cF (by simp) ?_
 repeat(first|apply wG|(apply wR;simp -dsimp)|refine aI ?_)
 refine cF (by simp) ?_
 repeat(first|apply wG|(apply wR;simp -dsimp)|refine aI ?_)
 refine cF (by simp) ?_
 repeat(first|apply wG|(apply wR;simp -dsimp)|refine aI ?_)
 refine cT (by simp) ?_
 repeat(first|apply wG|(apply wR;simp -dsimp)|refine aI ?_)
 refine WP.ret (ab_ ?_)
 simp -dsimp [bd_, partF, hk, cH_]
 all_goals exact ai_ _
theorem vE_ (f : Nat → Int) (hk : f 3 = 13) : Fn0 Tryz.prog 121 [fD f] (fD (bd_ f)) := by
 refine ac_ (pn := ap_) aa_ Tryz.func121 rfl fun β0 => ?_
 simp only [Tryz.f121]
 unfold fD
 repeat(first|apply wG|(apply wR;simp -dsimp [bm_])|refine aI ?_)
 rw [hk]
 refine cF (by simp) ?_
 repeat(first|apply wG|(apply wR;simp -dsimp)|refine aI ?_)
 refine cF (by simp) ?_
 repeat(first|apply wG|(apply wR;simp -dsimp)|refine aI ?_)
 refine cF (by simp) ?_
 repeat(first|apply wG|(apply wR;simp -dsimp)|refine aI ?_)
 refine cF (by simp) ?_
 repeat(first|apply wG|(apply wR;simp -dsimp)|refine aI ?_)
 refine cF (by simp) ?_
 repeat(first|apply wG|(apply wR;simp -dsimp)|refine aI ?_)
 refine cF (by simp) ?_
 repeat(first|apply wG|(apply wR;simp -dsimp)|refine aI ?_)
 refine cF (by simp) ?_
 repeat(first|apply wG|(apply wR;simp -dsimp)|refine aI ?_)
 refine cF (by simp) ?_
 repeat(first|apply wG|(apply wR;simp -dsimp)|refine aI ?_)
 refine cF (by simp) ?_
 repeat(first|apply wG|(apply wR;simp -dsimp)|refine aI ?_)
 refine cF (by simp) ?_
 repeat(first|apply wG|(apply wR;simp -dsimp)|refine aI ?_)
 refine cF (by simp) ?_
 repeat(first|apply wG|(apply wR;simp -dsimp)|refine aI ?_)
 refine cT (by simp) ?_
 repeat(first|apply wG|(apply wR;simp -dsimp)|refine aI ?_)
 refine WP.ret (ab_ ?_)
 simp -dsimp [bd_, partF, hk, cH_]
 all_goals exact ai_ _
theorem vD_ (f : Nat → Int) (hk : f 3 < 1 ∨ 13 < f 3 ∨ f 3 = 12) : Fn0 Tryz.prog 121 [fD f] (fD (bd_ f)) := by
 have hp : partF (f 3) = (0, 0) := by
  unfold partF
  rw [if_neg (by omega)]
  rw [if_neg (by omega)]
  rw [if_neg (by omega)]
  rw [if_neg (by omega)]
  rw [if_neg (by omega)]
  rw [if_neg (by omega)]
  rw [if_neg (by omega)]
  rw [if_neg (by omega)]
  rw [if_neg (by omega)]
  rw [if_neg (by omega)]
  rw [if_neg (by omega)]
  rw [if_neg (by omega)]
 refine ac_ (pn := ap_) aa_ Tryz.func121 rfl fun β0 => ?_
 simp only [Tryz.f121]
 unfold fD
 repeat(first|apply wG|(apply wR;simp -dsimp [bm_])|refine aI ?_)
 refine cF (by simp; omega) ?_
 repeat(first|apply wG|(apply wR;simp -dsimp)|refine aI ?_)
 refine cF (by simp; omega) ?_
 repeat(first|apply wG|(apply wR;simp -dsimp)|refine aI ?_)
 refine cF (by simp; omega) ?_
 repeat(first|apply wG|(apply wR;simp -dsimp)|refine aI ?_)
 refine cF (by simp; omega) ?_
 repeat(first|apply wG|(apply wR;simp -dsimp)|refine aI ?_)
 refine cF (by simp; omega) ?_
 repeat(first|apply wG|(apply wR;simp -dsimp)|refine aI ?_)
 refine cF (by simp; omega) ?_
 repeat(first|apply wG|(apply wR;simp -dsimp)|refine aI ?_)
 refine cF (by simp; omega) ?_
 repeat(first|apply wG|(apply wR;simp -dsimp)|refine aI ?_)
 refine cF (by simp; omega) ?_
 repeat(first|apply wG|(apply wR;simp -dsimp)|refine aI ?_)
 refine cF (by simp; omega) ?_
 repeat(first|apply wG|(apply wR;simp -dsimp)|refine aI ?_)
 refine cF (by simp; omega) ?_
 repeat(first|apply wG|(apply wR;simp -dsimp)|refine aI ?_)
 refine cF (by simp; omega) ?_
 repeat(first|apply wG|(apply wR;simp -dsimp)|refine aI ?_)
 refine cF (by simp; omega) ?_
 refine WP.skip ?_
 simp -dsimp
 repeat(first|apply wG|(apply wR;simp -dsimp)|refine aI ?_)
 refine WP.ret (ab_ ?_)
 simp -dsimp [bd_, hp, cH_]
 all_goals exact ai_ _
theorem vC_ (f : Nat → Int) : Fn0 Tryz.prog 121 [fD f] (fD (bd_ f)) := by
 have h : (f 3 < 1 ∨ 13 < f 3 ∨ f 3 = 12) ∨ f 3 = 1 ∨ f 3 = 2 ∨ f 3 = 3 ∨ f 3 = 4 ∨ f 3 = 5 ∨ f 3 = 6 ∨ f 3 = 7 ∨ f 3 = 8 ∨ f 3 = 9 ∨ f 3 = 10 ∨ f 3 = 11 ∨ f 3 = 13 := by omega
 rcases h with h | h | h | h | h | h | h | h | h | h | h | h | h
 ·exact vD_ f h
 ·exact xy_ f h
 ·exact xx_ f h
 ·exact xw_ f h
 ·exact xv_ f h
 ·exact xu_ f h
 ·exact xt_ f h
 ·exact xs_ f h
 ·exact xr_ f h
 ·exact xq_ f h
 ·exact vG_ f h
 ·exact vF_ f h
 ·exact vE_ f h
def cV_ (f : Nat → Int) : Bool := inB (f 0) 0 31 && inB (f 1) 1 1048576 && inB (f 2) 0 1099511627776 && conF f && eqF f (bd_ f)
theorem hO_ (f : Nat → Int) (hf : fOk f) : Fn0 Tryz.prog 72 [fD f] (.v (.int .i64 (if cV_ f = true then 0 else 120))) := by
 have h28 := pX_ f
 have h29 := vC_ f
 have ho := tp_ hf
 refine ac_ (pn := ap_) aa_ Tryz.func72 rfl fun β0 => ?_
 simp only [Tryz.f72]
 rw [fD]
 repeat(first|apply wG|(apply wR;simp -dsimp)|refine aI ?_)
 refine ad_ gQ_ (r0_ (f 0)) rfl rfl (by simp) ?_
 simp -dsimp
 repeat refine aI ?_
 refine af_ gP_ (fun _ => ls_ (f 1)) rfl (fun _ => rfl) (fun _ => by simp) ?_
 simp -dsimp
 repeat refine aI ?_
 refine af_ ar_ (fun _ => cf_ (f 2) 0 1099511627776) rfl (fun _ => rfl) (fun _ => by simp) ?_
 simp -dsimp
 repeat refine aI ?_
 refine af_ mF_ (fun _ => h28) rfl (fun _ => rfl) (fun _ => by simp [fD]) ?_
 simp -dsimp
 repeat refine aI ?_
 refine af_ mE_ (fun _ => h29) rfl (fun _ => rfl) (fun _ => by simp [fD]) ?_
 simp -dsimp [fD]
 repeat refine aI ?_
 refine mZ_ aa_ wJ_ jf_ rfl (.inr rfl) (m := 5) (by omega) cU_ (by decide) dL_ w4_ (cs := fcs f 0 57) (es := fcs (bd_ f) 0 57) (fun _ => by simp) (fun _ => by simp) (okF hf.1) (okF ho.1) (fi_ hf ho) ?_
 simp -dsimp [eqRes]
 repeat(first|apply wG|(apply wR;simp -dsimp)|refine aI ?_)
 refine WP.cond (b := !cV_ f) (by simp [cV_]) (fun hb => ?_) (fun hb => ?_)
 ·have hb : cV_ f = false := by simpa using hb
  repeat(first|apply wG|(apply wR;simp -dsimp)|refine aI ?_)
  refine WP.ret (ab_ ?_)
  simp -dsimp [hb]
 ·have hb : cV_ f = true := by simpa using hb
  refine WP.skip ?_
  simp -dsimp
  repeat(first|apply wG|(apply wR;simp -dsimp)|refine aI ?_)
  refine WP.ret (ab_ ?_)
  simp -dsimp [hb]
def dr_ (x y : Int) : Int := if x < y then -1 else if y < x then 1 else 0
theorem oC_ (x : Int) : Fn0 Tryz.prog 142 [.v (.int .i64 x)] (.v (.bool false)) := by
 refine ac_ (pn := ap_) aa_ Tryz.func142 rfl fun β0 => ?_
 simp only [Tryz.f142]
 repeat(first|apply wG|(apply wR;simp -dsimp)|refine aI ?_)
 refine WP.ret (ab_ ?_)
 simp -dsimp
theorem f9_ (x y : Int) : Fn0 Tryz.prog 85 [.v (.int .i64 x), .v (.int .i64 y)] (.v (.int .i64 (dr_ x y))) := by
 refine ac_ (pn := ap_) aa_ Tryz.func85 rfl fun β0 => ?_
 simp only [Tryz.f85]
 repeat(first|apply wG|(apply wR;simp -dsimp)|refine aI ?_)
 refine ad_ gM_ (oC_ x) rfl rfl (by simp) ?_
 simp -dsimp
 repeat(first|apply wG|(apply wR;simp -dsimp)|refine aI ?_)
 refine ad_ gM_ (oC_ y) rfl rfl (by simp) ?_
 simp -dsimp
 repeat(first|apply wG|(apply wR;simp -dsimp)|refine aI ?_)
 refine cF (by simp) ?_
 refine WP.skip ?_
 simp -dsimp
 repeat(first|apply wG|(apply wR;simp -dsimp)|refine aI ?_)
 refine cF (by simp) ?_
 refine WP.skip ?_
 simp -dsimp
 repeat(first|apply wG|(apply wR;simp -dsimp)|refine aI ?_)
 refine WP.cond (b := decide (x < y)) (by simp) (fun hb => ?_) (fun hb => ?_)
 ·have hb := of_decide_eq_true hb
  repeat(first|apply wG|(apply wR;simp -dsimp)|refine aI ?_)
  refine WP.ret (ab_ ?_)
  simp -dsimp [dr_, hb]
 have h1 := of_decide_eq_false hb
 refine WP.skip ?_
 simp -dsimp
 repeat(first|apply wG|(apply wR;simp -dsimp)|refine aI ?_)
 refine WP.cond (b := decide (y < x)) (by simp) (fun hb => ?_) (fun hb => ?_)
 ·have hb := of_decide_eq_true hb
  have e : dr_ x y = 1 := by rw [dr_, if_neg h1, if_pos hb]
  repeat(first|apply wG|(apply wR;simp -dsimp)|refine aI ?_)
  refine WP.ret (ab_ ?_)
  simp -dsimp [e]
 have h2 := of_decide_eq_false hb
 have e : dr_ x y = 0 := by rw [dr_, if_neg h1, if_neg h2]
 refine WP.skip ?_
 simp -dsimp
 repeat(first|apply wG|(apply wR;simp -dsimp)|refine aI ?_)
 refine WP.ret (ab_ ?_)
 simp -dsimp [e]
def orL : List Int → Int
 | [] => 0
 | x :: l => if x = 0 then orL l else x
theorem AO_ (l : List Int) (hl : l.length ≤ 1000) : Fn0 Tryz.prog 84 [slI l] (.v (.int .i64 (orL l))) := by
 refine ac_ (pn := ap_) aa_ Tryz.func84 rfl fun β0 => ?_
 simp only [Tryz.f84]
 repeat(first|apply wG|(apply wR;simp -dsimp)|refine aI ?_)
 refine ak_ (fun m S => ∃ l1 l2, l = l1 ++ l2 ∧ m = l2.length ∧ orL l = orL l2 ∧ S = mkS 18 [(3, .d (.v (.int .i64 0))), (6, .d (slI l)), (7, .d (.v (.int .i64 l.length))), (8, .d (.v (.int .i64 l1.length)))] []) l.length
  (S0 := mkS 18 [(3, .d (.v (.int .i64 0))), (6, .d (slI l)), (7, .d (.v (.int .i64 l.length))), (8, .d (.v (.int .i64 0)))] []) (ae_ [] (by simp) (by simp)) ⟨[], l, rfl, rfl, rfl, rfl⟩ ?_
 rintro _ _ ⟨l1, l2, hl12, rfl, ho, rfl⟩
 simp -dsimp
 repeat(first|apply wG|(apply wR;simp -dsimp)|refine aI ?_)
 cases l2 with
 | nil =>
  simp only [List.append_nil] at hl12
  subst hl12
  refine cF (by simp) ?_
  refine WP.exit ?_
  simp -dsimp
  repeat(first|apply wG|(apply wR;simp -dsimp)|refine aI ?_)
  refine WP.ret (ab_ ?_)
  simp -dsimp [ho, orL]
 | cons x l2 =>
  have hll : l.length = l1.length + (l2.length + 1) := by rw [hl12]; simp
  have e1 : IntKind.i64.wrap ((l1.length : Int) + 1) = (l1.length : Int) + 1 := IntWalk.i64_in _ (by omega)
  have h1 := v1_ l1 x l2
  rw [← hl12] at h1
  refine cT (by simp; omega) ?_
  refine WP.skip ?_
  simp -dsimp
  refine WP.seq (WP.block ?_)
  repeat(first|apply wG|(apply wR;simp -dsimp [h1])|refine aI ?_)
  refine WP.cond (b := !decide (x = 0)) (by simp) (fun hb => ?_) (fun hb => ?_)
  ·have hb : ¬ x = 0 := by simpa using hb
   repeat(first|apply wG|(apply wR;simp -dsimp)|refine aI ?_)
   refine WP.ret (ab_ ?_)
   simp -dsimp [ho, orL, hb]
  ·have hb : x = 0 := by simpa using hb
   refine WP.skip ?_
   simp -dsimp
   repeat(first|apply wG|(apply wR;simp -dsimp)|refine aI ?_)
   refine ah_ (mkS 18 [(3, .d (.v (.int .i64 0))), (6, .d (slI l)), (7, .d (.v (.int .i64 l.length))), (8, .d (.v (.int .i64 (l1 ++ [x]).length)))] []) (ae_ [] (by simp [e1]) (by simp)) l2.length (by simp) ⟨l1 ++ [x], l2, by simp [hl12], rfl, by rw [ho, orL, if_pos hb], rfl⟩
theorem vm_ (f g : Nat → Int) (hf : fOk f) (hg : fOk g) : Fn0 Tryz.prog 55 [fD f, fD g] (.v (.bool (eqF f g))) := by
 refine ac_ (pn := ap_) aa_ Tryz.func55 rfl fun β0 => ?_
 simp only [Tryz.f55]
 simp only [fD]
 repeat(first|apply wG|(apply wR;simp -dsimp)|refine aI ?_)
 refine dX_ aa_ wJ_ jf_ rfl (.inl rfl) (m := 5) (by omega) cU_ (by decide) dL_ w4_ (cs := fcs f 0 57) (es := fcs g 0 57) (by simp) (by simp) (okF hf.1) (okF hg.1) (fi_ hf hg) ?_
 simp -dsimp [eqRes]
 repeat(first|apply wG|(apply wR;simp -dsimp)|refine aI ?_)
 refine WP.ret (ab_ ?_)
 simp -dsimp
theorem d1_ (f g : Nat → Int) (hf : fOk f) (hg : fOk g) : Fn0 Tryz.prog 75 [fD f, fD g] (.v (.bool (eqF f g))) := by
 refine ac_ (pn := ap_) aa_ Tryz.func75 rfl fun β0 => ?_
 simp only [Tryz.f75]
 simp only [fD]
 repeat(first|apply wG|(apply wR;simp -dsimp)|refine aI ?_)
 refine dX_ aa_ wJ_ jf_ rfl (.inl rfl) (m := 5) (by omega) cU_ (by decide) dL_ w4_ (cs := fcs f 0 57) (es := fcs g 0 57) (by simp) (by simp) (okF hf.1) (okF hg.1) (fi_ hf hg) ?_
 simp -dsimp [eqRes]
 repeat(first|apply wG|(apply wR;simp -dsimp)|refine aI ?_)
 refine WP.ret (ab_ ?_)
 simp -dsimp
@[simp] theorem zw_ (cs xs : List AV) (h : cs.length = xs.length) : setL cs 0 xs = xs := by
 refine List.ext_getElem? fun i => ?_
 rw [jG_ _ _ _ _ (by omega)]
 split
 ·simp
 ·rw [List.getElem?_eq_none (by omega), List.getElem?_eq_none (by omega)]
def aJ_ (f : Nat → Int) : List Int := [f 3, f 0, f 1, f 2] ++
 (
 if f 3 = 1 then [f 4, f 5, f 6, f 7, f 8, f 9, f 10, f 11]
 else if f 3 = 2 then [f 12, f 13, f 14, f 15]
 else if f 3 = 3 then [f 16, f 17, f 18, f 19, f 20]
 else if f 3 = 4 then [f 21, f 22, f 23, f 24, f 25, f 26, f 27, f 28]
 else if f 3 = 5 then [f 29, f 30, f 31, f 32]
 else if f 3 = 6 then [f 33, f 34, f 35, f 36]
 else if f 3 = 7 then [f 37, f 38]
 else if f 3 = 8 then [f 39, f 40, f 41, f 42]
 else if f 3 = 9 then [f 43, f 44, f 45, f 46]
 else if f 3 = 10 then [f 47, f 48, f 49, f 50, f 51, f 52]
 else if f 3 = 11 then [f 53, if f 54 = 1 then 1 else 0]
 else if f 3 = 13 then [f 55, f 56]
 else [])
theorem lj_ (f : Nat → Int) (hk : f 3 = 1) : Fn0 Tryz.prog 189 [fD f] (slI (aJ_ f)) := by
 refine ac_ (pn := ap_) aa_ Tryz.func189 rfl fun β0 => ?_
 simp only [Tryz.f189]
 rw [fD]
 repeat(first|apply wG|(apply wR;simp -dsimp)|refine aI ?_)
 rw [hk]
 refine cT (by simp) ?_
 repeat(first|apply wG|(apply wR;simp -dsimp)|refine aI ?_)
 refine WP.ret (an_ (Wk.freeze (k := 46) (T := 3) (sz := 1) (n := 12) (ds := iD (aJ_ f)) (by simp [aJ_, hk, iD])) ?_)
 simp [aJ_, hk, iD]
theorem li_ (f : Nat → Int) (hk : f 3 = 2) : Fn0 Tryz.prog 189 [fD f] (slI (aJ_ f)) := by
 refine ac_ (pn := ap_) aa_ Tryz.func189 rfl fun β0 => ?_
 simp only [Tryz.f189]
 rw [fD]
 repeat(first|apply wG|(apply wR;simp -dsimp)|refine aI ?_)
 rw [hk]
 refine cF (by simp) ?_
 repeat(first|apply wG|(apply wR;simp -dsimp)|refine aI ?_)
 refine cT (by simp) ?_
 repeat(first|apply wG|(apply wR;simp -dsimp)|refine aI ?_)
 refine WP.ret (an_ (Wk.freeze (k := 61) (T := 3) (sz := 1) (n := 8) (ds := iD (aJ_ f)) (by simp [aJ_, hk, iD])) ?_)
 simp [aJ_, hk, iD]
theorem lh_ (f : Nat → Int) (hk : f 3 = 3) : Fn0 Tryz.prog 189 [fD f] (slI (aJ_ f)) := by
 refine ac_ (pn := ap_) aa_ Tryz.func189 rfl fun β0 => ?_
 simp only [Tryz.f189]
 rw [fD]
 repeat(first|apply wG|(apply wR;simp -dsimp)|refine aI ?_)
 rw [hk]
 refine cF (by simp) ?_
 repeat(first|apply wG|(apply wR;simp -dsimp)|refine aI ?_)
 refine cF (by simp) ?_
 repeat(first|apply wG|(apply wR;simp -dsimp)|refine aI ?_)
 refine cT (by simp) ?_
 repeat(first|apply wG|(apply wR;simp -dsimp)|refine aI ?_)
 refine WP.ret (an_ (Wk.freeze (k := 78) (T := 3) (sz := 1) (n := 9) (ds := iD (aJ_ f)) (by simp [aJ_, hk, iD])) ?_)
 simp [aJ_, hk, iD]
theorem lg_ (f : Nat → Int) (hk : f 3 = 4) : Fn0 Tryz.prog 189 [fD f] (slI (aJ_ f)) := by
 refine ac_ (pn := ap_) aa_ Tryz.func189 rfl fun β0 => ?_
 simp only [Tryz.f189]
 rw [fD]
 repeat(first|apply wG|(apply wR;simp -dsimp)|refine aI ?_)
 rw [hk]
 refine cF (by simp) ?_
 repeat(first|apply wG|(apply wR;simp -dsimp)|refine aI ?_)
 refine cF (by simp) ?_
 repeat(first|apply wG|(apply wR;simp -dsimp)|refine aI ?_)
 refine cF (by simp) ?_
 repeat(first|apply wG|(apply wR;simp -dsimp)|refine aI ?_)
 refine cT (by simp) ?_
 repeat(first|apply wG|(apply wR;simp -dsimp)|refine aI ?_)
 refine WP.ret (an_ (Wk.freeze (k := 101) (T := 3) (sz := 1) (n := 12) (ds := iD (aJ_ f)) (by simp [aJ_, hk, iD])) ?_)
 simp [aJ_, hk, iD]
theorem lf_ (f : Nat → Int) (hk : f 3 = 5) : Fn0 Tryz.prog 189 [fD f] (slI (aJ_ f)) := by
 refine ac_ (pn := ap_) aa_ Tryz.func189 rfl fun β0 => ?_
 simp only [Tryz.f189]
 rw [fD]
 repeat(first|apply wG|(apply wR;simp -dsimp)|refine aI ?_)
 rw [hk]
 refine cF (by simp) ?_
 repeat(first|apply wG|(apply wR;simp -dsimp)|refine aI ?_)
 refine cF (by simp) ?_
 repeat(first|apply wG|(apply wR;simp -dsimp)|refine aI ?_)
 refine cF (by simp) ?_
 repeat(first|apply wG|(apply wR;simp -dsimp)|refine aI ?_)
 refine cF (by simp) ?_
 repeat(first|apply wG|(apply wR;simp -dsimp)|refine aI ?_)
 refine cT (by simp) ?_
 repeat(first|apply wG|(apply wR;simp -dsimp)|refine aI ?_)
 refine WP.ret (an_ (Wk.freeze (k := 116) (T := 3) (sz := 1) (n := 8) (ds := iD (aJ_ f)) (by simp [aJ_, hk, iD])) ?_)
 simp [aJ_, hk, iD]
theorem le_ (f : Nat → Int) (hk : f 3 = 6) : Fn0 Tryz.prog 189 [fD f] (slI (aJ_ f)) := by
 refine ac_ (pn := ap_) aa_ Tryz.func189 rfl fun β0 => ?_
 simp only [Tryz.f189]
 rw [fD]
 repeat(first|apply wG|(apply wR;simp -dsimp)|refine aI ?_)
 rw [hk]
 refine cF (by simp) ?_
 repeat(first|apply wG|(apply wR;simp -dsimp)|refine aI ?_)
 refine cF (by simp) ?_
 repeat(first|apply wG|(apply wR;simp -dsimp)|refine aI ?_)
 refine cF (by simp) ?_
 repeat(first|apply wG|(apply wR;simp -dsimp)|refine aI ?_)
 refine cF (by simp) ?_
 repeat(first|apply wG|(apply wR;simp -dsimp)|refine aI ?_)
 refine cF (by simp) ?_
 repeat(first|apply wG|(apply wR;simp -dsimp)|refine aI ?_)
 refine cT (by simp) ?_
 repeat(first|apply wG|(apply wR;simp -dsimp)|refine aI ?_)
 refine WP.ret (an_ (Wk.freeze (k := 131) (T := 3) (sz := 1) (n := 8) (ds := iD (aJ_ f)) (by simp [aJ_, hk, iD])) ?_)
 simp [aJ_, hk, iD]
theorem ld_ (f : Nat → Int) (hk : f 3 = 7) : Fn0 Tryz.prog 189 [fD f] (slI (aJ_ f)) := by
 refine ac_ (pn := ap_) aa_ Tryz.func189 rfl fun β0 => ?_
 simp only [Tryz.f189]
 rw [fD]
 repeat(first|apply wG|(apply wR;simp -dsimp)|refine aI ?_)
 rw [hk]
 refine cF (by simp) ?_
 repeat(first|apply wG|(apply wR;simp -dsimp)|refine aI ?_)
 refine cF (by simp) ?_
 repeat(first|apply wG|(apply wR;simp -dsimp)|refine aI ?_)
 refine cF (by simp) ?_
 repeat(first|apply wG|(apply wR;simp -dsimp)|refine aI ?_)
 refine cF (by simp) ?_
 repeat(first|apply wG|(apply wR;simp -dsimp)|refine aI ?_)
 refine cF (by simp) ?_
 repeat(first|apply wG|(apply wR;simp -dsimp)|refine aI ?_)
 refine cF (by simp) ?_
 repeat(first|apply wG|(apply wR;simp -dsimp)|refine aI ?_)
 refine cT (by simp) ?_
 repeat(first|apply wG|(apply wR;simp -dsimp)|refine aI ?_)
 refine WP.ret (an_ (Wk.freeze (k := 142) (T := 3) (sz := 1) (n := 6) (ds := iD (aJ_ f)) (by simp [aJ_, hk, iD])) ?_)
 simp [aJ_, hk, iD]
theorem lc_ (f : Nat → Int) (hk : f 3 = 8) : Fn0 Tryz.prog 189 [fD f] (slI (aJ_ f)) := by
 refine ac_ (pn := ap_) aa_ Tryz.func189 rfl fun β0 => ?_
 simp only [Tryz.f189]
 rw [fD]
 repeat(first|apply wG|(apply wR;simp -dsimp)|refine aI ?_)
 rw [hk]
 refine cF (by simp) ?_
 repeat(first|apply wG|(apply wR;simp -dsimp)|refine aI ?_)
 refine cF (by simp) ?_
 repeat(first|apply wG|(apply wR;simp -dsimp)|refine aI ?_)
 refine cF (by simp) ?_
 repeat(first|apply wG|(apply wR;simp -dsimp)|refine aI ?_)
 refine cF (by simp) ?_
 repeat(first|apply wG|(apply wR;simp -dsimp)|refine aI ?_)
 refine cF (by simp) ?_
 repeat(first|apply wG|(apply wR;simp -dsimp)|refine aI ?_)
 refine cF (by simp) ?_
 repeat(first|apply wG|(apply wR;simp -dsimp)|refine aI ?_)
 refine cF (by simp) ?_
 repeat(first|apply wG|(apply wR;simp -dsimp)|refine aI ?_)
 refine cT (by simp) ?_
 repeat(first|apply wG|(apply wR;simp -dsimp)|refine aI ?_)
 refine WP.ret (an_ (Wk.freeze (k := 157) (T := 3) (sz := 1) (n := 8) (ds := iD (aJ_ f)) (by simp [aJ_, hk, iD])) ?_)
 simp [aJ_, hk, iD]
theorem lb_ (f : Nat → Int) (hk : f 3 = 9) : Fn0 Tryz.prog 189 [fD f] (slI (aJ_ f)) := by
 refine ac_ (pn := ap_) aa_ Tryz.func189 rfl fun β0 => ?_
 simp only [Tryz.f189]
 rw [fD]
 repeat(first|apply wG|(apply wR;simp -dsimp)|refine aI ?_)
 rw [hk]
 refine cF (by simp) ?_
 repeat(first|apply wG|(apply wR;simp -dsimp)|refine aI ?_)
 refine cF (by simp) ?_
 repeat(first|apply wG|(apply wR;simp -dsimp)|refine aI ?_)
 refine cF (by simp) ?_
 repeat(first|apply wG|(apply wR;simp -dsimp)|refine aI ?_)
 refine cF (by simp) ?_
 repeat(first|apply wG|(apply wR;simp -dsimp)|refine aI ?_)
 refine cF (by simp) ?_
 repeat(first|apply wG|(apply wR;simp -dsimp)|refine aI ?_)
 refine cF (by simp) ?_
 repeat(first|apply wG|(apply wR;simp -dsimp)|refine aI ?_)
 refine cF (by simp) ?_
 repeat(first|apply wG|(apply wR;simp -dsimp)|refine aI ?_)
 refine cF (by simp) ?_
 repeat(first|apply wG|(apply wR;simp -dsimp)|refine aI ?_)
 refine cT (by simp) ?_
 repeat(first|apply wG|(apply wR;simp -dsimp)|refine aI ?_)
 refine WP.ret (an_ (Wk.freeze (k := 172) (T := 3) (sz := 1) (n := 8) (ds := iD (aJ_ f)) (by simp [aJ_, hk, iD])) ?_)
 simp [aJ_, hk, iD]
theorem jU_ (f : Nat → Int) (hk : f 3 = 10) : Fn0 Tryz.prog 189 [fD f] (slI (aJ_ f)) := by
 refine ac_ (pn := ap_) aa_ Tryz.func189 rfl fun β0 => ?_
 simp only [Tryz.f189]
 rw [fD]
 repeat(first|apply wG|(apply wR;simp -dsimp)|refine aI ?_)
 rw [hk]
 refine cF (by simp) ?_
 repeat(first|apply wG|(apply wR;simp -dsimp)|refine aI ?_)
 refine cF (by simp) ?_
 repeat(first|apply wG|(apply wR;simp -dsimp)|refine aI ?_)
 refine cF (by simp) ?_
 repeat(first|apply wG|(apply wR;simp -dsimp)|refine aI ?_)
 refine cF (by simp) ?_
 repeat(first|apply wG|(apply wR;simp -dsimp)|refine aI ?_)
 refine cF (by simp) ?_
 repeat(first|apply wG|(apply wR;simp -dsimp)|refine aI ?_)
 refine cF (by simp) ?_
 repeat(first|apply wG|(apply wR;simp -dsimp)|refine aI ?_)
 refine cF (by simp) ?_
 repeat(first|apply wG|(apply wR;simp -dsimp)|refine aI ?_)
 refine cF (by simp) ?_
 repeat(first|apply wG|(apply wR;simp -dsimp)|refine aI ?_)
 refine cF (by simp) ?_
 repeat(first|apply wG|(apply wR;simp -dsimp)|refine aI ?_)
 refine cT (by simp) ?_
 repeat(first|apply wG|(apply wR;simp -dsimp)|refine aI ?_)
 refine WP.ret (an_ (Wk.freeze (k := 191) (T := 3) (sz := 1) (n := 10) (ds := iD (aJ_ f)) (by simp [aJ_, hk, iD])) ?_)
 simp [aJ_, hk, iD]
theorem jT_ (f : Nat → Int) (hk : f 3 = 11) : Fn0 Tryz.prog 189 [fD f] (slI (aJ_ f)) := by
 refine ac_ (pn := ap_) aa_ Tryz.func189 rfl fun β0 => ?_
 simp only [Tryz.f189]
 rw [fD]
 repeat(first|apply wG|(apply wR;simp -dsimp)|refine aI ?_)
 rw [hk]
 refine cF (by simp) ?_
 repeat(first|apply wG|(apply wR;simp -dsimp)|refine aI ?_)
 refine cF (by simp) ?_
 repeat(first|apply wG|(apply wR;simp -dsimp)|refine aI ?_)
 refine cF (by simp) ?_
 repeat(first|apply wG|(apply wR;simp -dsimp)|refine aI ?_)
 refine cF (by simp) ?_
 repeat(first|apply wG|(apply wR;simp -dsimp)|refine aI ?_)
 refine cF (by simp) ?_
 repeat(first|apply wG|(apply wR;simp -dsimp)|refine aI ?_)
 refine cF (by simp) ?_
 repeat(first|apply wG|(apply wR;simp -dsimp)|refine aI ?_)
 refine cF (by simp) ?_
 repeat(first|apply wG|(apply wR;simp -dsimp)|refine aI ?_)
 refine cF (by simp) ?_
 repeat(first|apply wG|(apply wR;simp -dsimp)|refine aI ?_)
 refine cF (by simp) ?_
 repeat(first|apply wG|(apply wR;simp -dsimp)|refine aI ?_)
 refine cF (by simp) ?_
 repeat(first|apply wG|(apply wR;simp -dsimp)|refine aI ?_)
 refine cT (by simp) ?_
 repeat(first|apply wG|(apply wR;simp -dsimp)|refine aI ?_)
 refine WP.cond (b := decide (f 54 = 1)) (by simp) (fun hb => ?_) (fun hb => ?_)
 ·have hb := of_decide_eq_true hb
  repeat(first|apply wG|(apply wR;simp -dsimp)|refine aI ?_)
  refine WP.ret (an_ (Wk.freeze (k := 202) (T := 3) (sz := 1) (n := 6) (ds := iD (aJ_ f)) (by simp [aJ_, hk, hb, iD])) ?_)
  simp [aJ_, hk, hb, iD]
 ·have hb := of_decide_eq_false hb
  refine WP.skip ?_
  simp -dsimp
  repeat(first|apply wG|(apply wR;simp -dsimp)|refine aI ?_)
  refine WP.ret (an_ (Wk.freeze (k := 208) (T := 3) (sz := 1) (n := 6) (ds := iD (aJ_ f)) (by simp [aJ_, hk, hb, iD])) ?_)
  simp [aJ_, hk, hb, iD]
theorem jS_ (f : Nat → Int) (hk : f 3 = 13) : Fn0 Tryz.prog 189 [fD f] (slI (aJ_ f)) := by
 refine ac_ (pn := ap_) aa_ Tryz.func189 rfl fun β0 => ?_
 simp only [Tryz.f189]
 rw [fD]
 repeat(first|apply wG|(apply wR;simp -dsimp)|refine aI ?_)
 rw [hk]
 refine cF (by simp) ?_
 repeat(first|apply wG|(apply wR;simp -dsimp)|refine aI ?_)
 refine cF (by simp) ?_
 repeat(first|apply wG|(apply wR;simp -dsimp)|refine aI ?_)
 refine cF (by simp) ?_
 repeat(first|apply wG|(apply wR;simp -dsimp)|refine aI ?_)
 refine cF (by simp) ?_
 repeat(first|apply wG|(apply wR;simp -dsimp)|refine aI ?_)
 refine cF (by simp) ?_
 repeat(first|apply wG|(apply wR;simp -dsimp)|refine aI ?_)
 refine cF (by simp) ?_
 repeat(first|apply wG|(apply wR;simp -dsimp)|refine aI ?_)
 refine cF (by simp) ?_
 repeat(first|apply wG|(apply wR;simp -dsimp)|refine aI ?_)
 refine cF (by simp) ?_
 repeat(first|apply wG|(apply wR;simp -dsimp)|refine aI ?_)
 refine cF (by simp) ?_
 repeat(first|apply wG|(apply wR;simp -dsimp)|refine aI ?_)
 refine cF (by simp) ?_
 repeat(first|apply wG|(apply wR;simp -dsimp)|refine aI ?_)
 refine cF (by simp) ?_
 repeat(first|apply wG|(apply wR;simp -dsimp)|refine aI ?_)
 refine cT (by simp) ?_
 repeat(first|apply wG|(apply wR;simp -dsimp)|refine aI ?_)
 refine WP.ret (an_ (Wk.freeze (k := 219) (T := 3) (sz := 1) (n := 6) (ds := iD (aJ_ f)) (by simp [aJ_, hk, iD])) ?_)
 simp [aJ_, hk, iD]
theorem jR_ (f : Nat → Int) (hk : f 3 < 1 ∨ 13 < f 3 ∨ f 3 = 12) : Fn0 Tryz.prog 189 [fD f] (slI (aJ_ f)) := by
 have hr : aJ_ f = [f 3, f 0, f 1, f 2] := by
  unfold aJ_
  rw [if_neg (by omega)]
  rw [if_neg (by omega)]
  rw [if_neg (by omega)]
  rw [if_neg (by omega)]
  rw [if_neg (by omega)]
  rw [if_neg (by omega)]
  rw [if_neg (by omega)]
  rw [if_neg (by omega)]
  rw [if_neg (by omega)]
  rw [if_neg (by omega)]
  rw [if_neg (by omega)]
  rw [if_neg (by omega)]
  rfl
 refine ac_ (pn := ap_) aa_ Tryz.func189 rfl fun β0 => ?_
 simp only [Tryz.f189]
 rw [fD]
 repeat(first|apply wG|(apply wR;simp -dsimp)|refine aI ?_)
 refine cF (by simp; omega) ?_
 repeat(first|apply wG|(apply wR;simp -dsimp)|refine aI ?_)
 refine cF (by simp; omega) ?_
 repeat(first|apply wG|(apply wR;simp -dsimp)|refine aI ?_)
 refine cF (by simp; omega) ?_
 repeat(first|apply wG|(apply wR;simp -dsimp)|refine aI ?_)
 refine cF (by simp; omega) ?_
 repeat(first|apply wG|(apply wR;simp -dsimp)|refine aI ?_)
 refine cF (by simp; omega) ?_
 repeat(first|apply wG|(apply wR;simp -dsimp)|refine aI ?_)
 refine cF (by simp; omega) ?_
 repeat(first|apply wG|(apply wR;simp -dsimp)|refine aI ?_)
 refine cF (by simp; omega) ?_
 repeat(first|apply wG|(apply wR;simp -dsimp)|refine aI ?_)
 refine cF (by simp; omega) ?_
 repeat(first|apply wG|(apply wR;simp -dsimp)|refine aI ?_)
 refine cF (by simp; omega) ?_
 repeat(first|apply wG|(apply wR;simp -dsimp)|refine aI ?_)
 refine cF (by simp; omega) ?_
 repeat(first|apply wG|(apply wR;simp -dsimp)|refine aI ?_)
 refine cF (by simp; omega) ?_
 repeat(first|apply wG|(apply wR;simp -dsimp)|refine aI ?_)
 refine cF (by simp; omega) ?_
 refine WP.skip ?_
 simp -dsimp
 repeat(first|apply wG|(apply wR;simp -dsimp)|refine aI ?_)
 refine WP.ret (an_ (Wk.freeze (k := 21) (T := 3) (sz := 1) (n := 4) (ds := iD (aJ_ f)) (by simp [hr, iD])) ?_)
 simp [hr, iD]
theorem jQ_ (f : Nat → Int) : Fn0 Tryz.prog 189 [fD f] (slI (aJ_ f)) := by
 have h : (f 3 < 1 ∨ 13 < f 3 ∨ f 3 = 12) ∨ f 3 = 1 ∨ f 3 = 2 ∨ f 3 = 3 ∨ f 3 = 4 ∨ f 3 = 5 ∨ f 3 = 6 ∨ f 3 = 7 ∨ f 3 = 8 ∨ f 3 = 9 ∨ f 3 = 10 ∨ f 3 = 11 ∨ f 3 = 13 := by omega
 rcases h with h | h | h | h | h | h | h | h | h | h | h | h | h
 ·exact jR_ f h
 ·exact lj_ f h
 ·exact li_ f h
 ·exact lh_ f h
 ·exact lg_ f h
 ·exact lf_ f h
 ·exact le_ f h
 ·exact ld_ f h
 ·exact lc_ f h
 ·exact lb_ f h
 ·exact jU_ f h
 ·exact jT_ f h
 ·exact jS_ f h
def sI (l l1 : List Int) : St :=
 mkS 23 [(0, .d (slI l)), (2, .ptr 2 0), (3, .ptr 3 0), (4, .d (.v (.int .i64 l1.length)))]
  [(2, .cells 207 [.d (.v (.int .i64 0)), .d (.v (.int .i64 0)), .d (.v (.string ⟨#[]⟩)), .d (.v (.slice none 0 0))]), (3, .cells 207 [.d (.v (.int .i64 3)), .d (.v (.int .i64 0)), .d (.v (.string ⟨#[]⟩)), .row 500]), (500, .row 207 4 l1.length ((aD_ (l1.map oD_)).map .d))]
theorem intV_d (x : Int) : (oD_ x).cells = [.v (.int .i64 1), .v (.int .i64 x), .v (.string ⟨#[]⟩), .sl 4 [] 0 false] := by simp [oD_, V.cells, aD_]
theorem vY_ (l : List Int) (hl : l.length ≤ 1000) : Fn0 Tryz.prog 188 [slI l] (bC_ l).d := by
 refine ac_ (pn := ap_) aa_ Tryz.func188 rfl fun β0 => ?_
 simp only [Tryz.f188]
 repeat(first|apply wG|(apply wR;simp -dsimp)|refine aI ?_)
 refine ak_ (fun m S => ∃ l1 l2, l = l1 ++ l2 ∧ m = l2.length ∧ S = sI l l1) l.length (S0 := sI l [])
  ((cS_ 3 3 500 207 4 (by simp; exact ⟨rfl, rfl⟩) rfl (by simp)).trans (ae_ [] (by simp [sI]) (by simp [sI, aD_]))) ⟨[], l, rfl, rfl, rfl⟩ ?_
 rintro _ _ ⟨l1, l2, hl12, rfl, rfl⟩
 simp -dsimp [sI]
 repeat(first|apply wG|(apply wR;simp -dsimp)|refine aI ?_)
 cases l2 with
 | nil =>
  simp only [List.append_nil] at hl12
  subst hl12
  refine cF (by simp) ?_
  refine WP.exit ?_
  simp -dsimp
  repeat(first|apply wG|(apply wR;simp -dsimp)|refine aI ?_)
  refine WP.ret (an_ (Wk.freeze (k := 500) (T := 207) (sz := 4) (n := l.length) (ds := aD_ (l.map oD_)) (by simp)) ?_)
  simp [bC_, V.d, V.cells]
 | cons x l2 =>
  have hll : l.length = l1.length + (l2.length + 1) := by rw [hl12]; simp
  have e1 : IntKind.i64.wrap ((l1.length : Int) + 1) = (l1.length : Int) + 1 := IntWalk.i64_in _ (by omega)
  have h1 := v1_ l1 x l2
  rw [← hl12] at h1
  refine cT (by simp; omega) ?_
  refine WP.skip ?_
  simp -dsimp
  refine WP.seq (WP.block ?_)
  repeat(first|apply wG|(apply wR;simp -dsimp [h1])|refine aI ?_)
  refine ad_ mc_ (x4_ x) rfl rfl (by simp) ?_
  simp -dsimp [V.d, V.cells, aD_]
  repeat(first|apply wG|(apply wR;simp -dsimp)|refine aI ?_)
  refine ah_ (sI l (l1 ++ [x])) (Wk.go [19] 20 500 (by decide) (by simp [sI]) (by simp [sI, e1]) (by simp [sI, cm_, aD_, intV_d])) l2.length (by simp) ⟨l1 ++ [x], l2, by simp [hl12], rfl, rfl⟩
theorem vs_ {f : Nat → Int} (hf : fOk f) : (∀ x ∈ aJ_ f, isI x) ∧ (aJ_ f).length ≤ 12 := by
 have h := hf.1
 have key : ∀ L : List Nat, L.length ≤ 12 → aJ_ f = L.map f → (∀ x ∈ aJ_ f, isI x) ∧ (aJ_ f).length ≤ 12 := fun L h1 h2 => by
  rw [h2]
  refine ⟨fun x hx => ?_, by simpa using h1⟩
  obtain ⟨i, _, rfl⟩ := List.mem_map.1 hx
  exact h i
 have hk : (f 3 < 1 ∨ 13 < f 3 ∨ f 3 = 12) ∨ f 3 = 1 ∨ f 3 = 2 ∨ f 3 = 3 ∨ f 3 = 4 ∨ f 3 = 5 ∨ f 3 = 6 ∨ f 3 = 7 ∨ f 3 = 8 ∨ f 3 = 9 ∨ f 3 = 10 ∨ f 3 = 11 ∨ f 3 = 13 := by omega
 rcases hk with hk | hk | hk | hk | hk | hk | hk | hk | hk | hk | hk | hk | hk
 ·refine key [3, 0, 1, 2] (by decide) ?_
  unfold aJ_
  rw [if_neg (by omega)]
  rw [if_neg (by omega)]
  rw [if_neg (by omega)]
  rw [if_neg (by omega)]
  rw [if_neg (by omega)]
  rw [if_neg (by omega)]
  rw [if_neg (by omega)]
  rw [if_neg (by omega)]
  rw [if_neg (by omega)]
  rw [if_neg (by omega)]
  rw [if_neg (by omega)]
  rw [if_neg (by omega)]
  rfl
 ·exact key [3, 0, 1, 2, 4, 5, 6, 7, 8, 9, 10, 11] (by decide) (by simp [aJ_, hk])
 ·exact key [3, 0, 1, 2, 12, 13, 14, 15] (by decide) (by simp [aJ_, hk])
 ·exact key [3, 0, 1, 2, 16, 17, 18, 19, 20] (by decide) (by simp [aJ_, hk])
 ·exact key [3, 0, 1, 2, 21, 22, 23, 24, 25, 26, 27, 28] (by decide) (by simp [aJ_, hk])
 ·exact key [3, 0, 1, 2, 29, 30, 31, 32] (by decide) (by simp [aJ_, hk])
 ·exact key [3, 0, 1, 2, 33, 34, 35, 36] (by decide) (by simp [aJ_, hk])
 ·exact key [3, 0, 1, 2, 37, 38] (by decide) (by simp [aJ_, hk])
 ·exact key [3, 0, 1, 2, 39, 40, 41, 42] (by decide) (by simp [aJ_, hk])
 ·exact key [3, 0, 1, 2, 43, 44, 45, 46] (by decide) (by simp [aJ_, hk])
 ·exact key [3, 0, 1, 2, 47, 48, 49, 50, 51, 52] (by decide) (by simp [aJ_, hk])
 ·have e : aJ_ f = [f 3, f 0, f 1, f 2, f 53, if f 54 = 1 then 1 else 0] := by simp [aJ_, hk]
  rw [e]
  refine ⟨fun x hx => ?_, by simp⟩
  simp only [List.mem_cons, List.not_mem_nil, or_false] at hx
  rcases hx with rfl | rfl | rfl | rfl | rfl | rfl <;> first | exact h _ | (split <;> simp [isI])
 ·exact key [3, 0, 1, 2, 55, 56] (by decide) (by simp [aJ_, hk])
def refR (f : Nat → Int) : List UInt8 × Int := if cV_ f = true then (V.enc (bC_ (aJ_ f)), 0) else ([], 120)
theorem dz_ (f : Nat → Int) (hf : fOk f) : Fn0 Tryz.prog 128 [fD f] (.tup [slB (refR f).1, .v (.int .i64 (refR f).2)]) := by
 have h12 := hO_ f hf
 have h35 := jQ_ f
 obtain ⟨hin, hlen⟩ := vs_ hf
 have h34 := vY_ (aJ_ f) (by omega)
 obtain ⟨c1, c2, c3, c4⟩ := c7_ hin (by omega)
 have h33 := x7_ (bC_ (aJ_ f)) (by omega) c2 (by omega)
 rw [show V.encB (bC_ (aJ_ f)) = V.enc (bC_ (aJ_ f)) from if_pos c1, c1] at h33
 refine ac_ (pn := ap_) aa_ Tryz.func128 rfl fun β0 => ?_
 simp only [Tryz.f128]
 rw [fD]
 repeat(first|apply wG|(apply wR;simp -dsimp)|refine aI ?_)
 refine ad_ ir_ h12 rfl rfl (by simp [fD]) ?_
 simp -dsimp
 repeat(first|apply wG|(apply wR;simp -dsimp)|refine aI ?_)
 cases hc : cV_ f with
 | false =>
  refine cT (by simp) ?_
  repeat(first|apply wG|(apply wR;simp -dsimp)|refine aI ?_)
  refine WP.ret (ab_ ?_)
  simp -dsimp [refR, hc]
 | true =>
  refine cF (by simp) ?_
  refine WP.skip ?_
  simp -dsimp
  repeat(first|apply wG|(apply wR;simp -dsimp)|refine aI ?_)
  refine ad_ mm_ h35 rfl rfl (by simp [fD]) ?_
  simp -dsimp
  repeat refine aI ?_
  refine ad_ mn_ h34 rfl rfl (by simp) ?_
  simp -dsimp
  repeat refine aI ?_
  refine ad_ mo_ h33 rfl rfl (by simp [bC_, V.d, V.cells]) ?_
  simp -dsimp
  repeat(first|apply wG|(apply wR;simp -dsimp)|refine aI ?_)
  refine WP.ret (ab_ ?_)
  simp -dsimp [refR, hc]
theorem ii_ (a b : List UInt8) : Fn0 Tryz.prog 87 [slB a, slB b] (.v (.int .i64 (Lib.compareBytes a b))) := by
 refine ac_ (pn := ap_) aa_ Tryz.func87 rfl fun β0 => ?_
 simp only [Tryz.f87]
 repeat(first|apply wG|(apply wR;simp -dsimp)|refine aI ?_)
 refine hz_ Tryz.func144 (by kernel_rfl) rfl (by kernel_rfl) (by kernel_rfl) rfl (l := a) (m := b) rfl rfl ?_
 simp -dsimp
 repeat(first|apply wG|(apply wR;simp -dsimp)|refine aI ?_)
 refine WP.ret (ab_ ?_)
 simp -dsimp
theorem xc_ (a b c : Int) : Fun Tryz.prog 84 [.row 1000] [(1000, .row 3 1 3 [.d (.v (.int .i64 a)), .d (.v (.int .i64 b)), .d (.v (.int .i64 c))])] (.d (.v (.int .i64 (orL [a, b, c])))) [] fun _ => False :=
 a1_ 1000 (T := 3) (cs := iD [a, b, c]) (AO_ [a, b, c] (by simp)) rfl rfl trivial
def bJ_ (f g : Nat → Int) : Int := orL [dr_ (f 2) (g 2), dr_ (f 0) (g 0), dr_ (f 1) (g 1)]
def aE_ (f g : Nat → Int) : Int := if bJ_ f g = 0 then Lib.compareBytes (encR f).1 (encR g).1 else bJ_ f g
theorem cj_ (f g : Nat → Int) (hf : fOk f) (hg : fOk g) : Fn0 Tryz.prog 39 [fD f, fD g] (.v (.int .i64 (aE_ f g))) := by
 have ef := ie_ f hf
 have eg := ie_ g hg
 unfold zM_ at ef eg
 refine ac_ (pn := ap_) aa_ Tryz.func39 rfl fun β0 => ?_
 simp only [Tryz.f39]
 simp only [fD]
 repeat(first|apply wG|(apply wR;simp -dsimp)|refine aI ?_)
 refine ad_ eL_ (f9_ (f 2) (g 2)) rfl rfl (by simp) ?_
 simp -dsimp
 repeat refine aI ?_
 refine ad_ eL_ (f9_ (f 0) (g 0)) rfl rfl (by simp) ?_
 simp -dsimp
 repeat refine aI ?_
 refine ad_ eL_ (f9_ (f 1) (g 1)) rfl rfl (by simp) ?_
 simp -dsimp
 repeat refine aI ?_
 refine vcStop.call nP_ (xc_ (dr_ (f 2) (g 2)) (dr_ (f 0) (g 0)) (dr_ (f 1) (g 1))) (rl [(1000, 25)]) rfl rfl (by simp [BoxLeq]) (aj_ (by simp [BoxLeq]) rfl (by first | rfl | (simp [BoxLeq]; done)) (by simp [BoxLeq]) (by simp [BoxLeq])) (fun _ h => h.elim) (fun ⟨_, h⟩ => h.elim) (fun ⟨_, h⟩ => h.elim) (by simp [BoxLeq]) ?_
 simp -dsimp
 repeat(first|apply wG|(apply wR;simp -dsimp)|refine aI ?_)
 refine WP.cond (b := !decide (bJ_ f g = 0)) (by simp [bJ_]; rfl) (fun hb => ?_) (fun hb => ?_)
 ·have hb : ¬ bJ_ f g = 0 := by simpa using hb
  repeat(first|apply wG|(apply wR;simp -dsimp)|refine aI ?_)
  have e : aE_ f g = bJ_ f g := if_neg hb
  refine WP.ret (ab_ ?_)
  simp -dsimp [e, bJ_]
 have hb : bJ_ f g = 0 := by simpa using hb
 refine WP.skip ?_
 simp -dsimp
 repeat(first|apply wG|(apply wR;simp -dsimp)|refine aI ?_)
 refine ad_ eK_ ef rfl rfl (by simp [fD]) ?_
 simp -dsimp
 repeat(first|apply wG|(apply wR;simp -dsimp)|refine aI ?_)
 refine ad_ eK_ eg rfl rfl (by simp [fD]) ?_
 simp -dsimp
 repeat(first|apply wG|(apply wR;simp -dsimp)|refine aI ?_)
 refine ad_ nO_ (ii_ (encR f).1 (encR g).1) rfl rfl (by simp) ?_
 simp -dsimp
 repeat(first|apply wG|(apply wR;simp -dsimp)|refine aI ?_)
 refine WP.ret (ab_ ?_)
 simp -dsimp [aE_, hb]
end Go.Proofs.YtnljenjcaeophaaGreatDoor
