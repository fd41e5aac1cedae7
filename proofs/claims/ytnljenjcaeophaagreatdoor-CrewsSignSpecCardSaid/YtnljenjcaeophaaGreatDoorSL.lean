/-
  Joined texts.
-/
import Derived.Test.YtnljenjcaeophaaGreatDoorSJ
import Derived.Test.YtnljenjcaeophaaGreatDoorSE
import Derived.Test.YtnljenjcaeophaaGreatDoorSX
set_option maxRecDepth 10000
set_option linter.unusedVariables false
set_option linter.unusedSimpArgs false
set_option linter.unusedSectionVars false
namespace Go.Proofs.YtnljenjcaeophaaGreatDoor
open Go.Xe Go.RowKit
def sgc (p : Sg) : List D := fcs p.1 0 57 ++ p.2
def sgV (p : Sg) : D := .agg (sgc p)
theorem sgc_len {p : Sg} (h : sgOk p) : (sgc p).length = 61 := by rw [sgc, List.length_append, fcs_len57, h.2.1]
theorem sgc_57 (p : Sg) : List.take 57 ((sgc p).map AV.d) = (fcs p.1 0 57).map .d := by
 rw [sgc, ← List.map_take, List.take_append, fcs_len57, List.take_of_length_le (by rw [fcs_len57]; omega)]
 simp
theorem sgc_57D (p : Sg) : List.take 57 (sgc p) = fcs p.1 0 57 := by
 rw [sgc, List.take_append, fcs_len57, List.take_of_length_le (by rw [fcs_len57]; omega)]
 simp
@[simp] theorem Leq_sgV (p : Sg) : Leq (.agg ((sgc p).map .d)) (.d (sgV p)) ↔ True := ⟨fun _ => trivial, fun _ => Leq.aggD _⟩
@[simp] theorem Leq_sgV' (p : Sg) : Leq (.agg ((sgc p).map .d)) (.d (.agg (sgc p))) ↔ True := ⟨fun _ => trivial, fun _ => Leq.aggD _⟩
theorem sgc_t {p : Sg} (h : sgOk p) : List.take 61 (sgc p) = sgc p := List.take_of_length_le (by rw [sgc_len h]; omega)
theorem sgc_tm {p : Sg} (h : sgOk p) : List.take 61 ((sgc p).map AV.d) = (sgc p).map .d := List.take_of_length_le (by rw [List.length_map, sgc_len h]; omega)
theorem sgc_at {x : List Sg} {i : Nat} (hi : i < x.length) (h : ∀ q ∈ x, sgOk q) : ((sgC x).drop (i * 61)).take 61 = sgc x[i] := by
 have e : x = x.take i ++ x[i] :: x.drop (i + 1) := by
  rw [← List.drop_eq_getElem_cons hi, List.take_append_drop]
 have := sgC_at (l1 := x.take i) (p := x[i]) (l2 := x.drop (i + 1)) (by rw [← e]; exact h)
 rw [← e, List.length_take, Nat.min_eq_left (by omega)] at this
 exact this
theorem sgc_oneD {p : Sg} (hp : sgOk p) : ∀ d ∈ sgc p, oneD d = true := fun d hd => by
 rcases List.mem_append.1 hd with hd | hd
 ·exact fcs_side hd
 ·exact hp.2.2 d hd
def posS (s : Sg) (x : List Sg) : Nat := (x.takeWhile fun t => decide (cmpF t.1 s.1 < 0)).length
def isS (s : Sg) (x : List Sg) : Bool := match x[posS s x]? with
 | some t => decide (cmpF t.1 s.1 = 0)
 | none => false
theorem posS_le (s : Sg) (x : List Sg) : posS s x ≤ x.length := (List.takeWhile_sublist _).length_le
theorem posS_cons (s t : Sg) (x : List Sg) : posS s (t :: x) = if cmpF t.1 s.1 < 0 then posS s x + 1 else 0 := by
 rw [posS, List.takeWhile_cons]
 by_cases h : cmpF t.1 s.1 < 0
 ·rw [if_pos h, if_pos (by simp [h])]; rfl
 ·rw [if_neg h, if_neg (by simp [h])]; rfl
theorem posS_lt (s : Sg) : ∀ (x : List Sg) (i : Nat) (hi : i < x.length), i < posS s x → cmpF x[i].1 s.1 < 0
 | t :: x, i, hi, h => by
  rw [posS_cons] at h
  split at h
  ·rename_i hlt
   cases i with
   | zero => exact hlt
   | succ i => exact posS_lt s x i (by simpa using hi) (by omega)
  ·omega
theorem posS_ge (s : Sg) : ∀ {x : List Sg}, AscS x → ∀ (i : Nat) (hi : i < x.length), posS s x ≤ i → ¬ cmpF x[i].1 s.1 < 0
 | t :: x, ha, i, hi, h => by
  obtain ⟨h1, h2⟩ := List.pairwise_cons.1 ha
  rw [posS_cons] at h
  split at h
  ·rename_i hlt
   cases i with
   | zero => omega
   | succ i => exact posS_ge s h2 i (by simpa using hi) (by omega)
  ·rename_i hnl
   cases i with
   | zero => exact hnl
   | succ i => exact fun k => hnl (cmp_lt_trans (h1 _ (List.getElem_mem (by simpa using hi))) k)
theorem insS_pos (s : Sg) : ∀ x : List Sg, insS s x = if isS s x = true then x else x.take (posS s x) ++ s :: x.drop (posS s x)
 | [] => rfl
 | t :: x => by
  have ih := insS_pos s x
  by_cases hlt : cmpF t.1 s.1 < 0
  ·have e1 : isS s (t :: x) = isS s x := by
    unfold isS
    rw [posS_cons, if_pos hlt, List.getElem?_cons_succ]
   rw [insS, if_pos hlt, ih, e1, posS_cons, if_pos hlt]
   split <;> simp
  ·have e0 : posS s (t :: x) = 0 := by rw [posS_cons, if_neg hlt]
   rw [insS, if_neg hlt, e0]
   by_cases hz : cmpF t.1 s.1 = 0
   ·rw [if_pos hz, if_pos (by unfold isS; rw [e0]; simp [hz])]
   ·rw [if_neg hz, if_neg (by unfold isS; rw [e0]; simp [hz])]
    rfl
theorem cmpP_ok (p q : Sg) (hp : sgOk p) (hq : sgOk q) : Fn0 Tryz.prog 138 [sgV p, sgV q] (.v (.int .i64 (cmpF p.1 q.1))) := by
 have h1 := sgc_57 p
 have h2 := sgc_57 q
 have l1 := sgc_len hp
 have l2 := sgc_len hq
 have hc := factsCompare_ok p.1 q.1 hp.1 hq.1
 refine Fun.of_wp (pn := noPn) Tryz.tab Tryz.func138 rfl fun β0 => ?_
 simp only [Tryz.f138]
 simp only [sgV]
 repeat(first|apply wG|(apply wR;simp -dsimp [h1, h2, l1, l2])|refine aI ?_)
 refine And.intro (sgc_oneD hp) ?_
 refine And.intro (sgc_oneD hq) ?_
 repeat(first|apply wG|(apply wR;simp -dsimp [h1, h2, l1, l2])|refine aI ?_)
 refine vcStop.call0 Tryz.body39 hc rfl rfl (by simp [fD]) ?_
 simp -dsimp
 repeat(first|apply wG|(apply wR;simp -dsimp)|refine aI ?_)
 refine WP.ret (finQ.retE ?_)
 simp -dsimp
theorem clone_d (x : List Sg) (b : Bool) (h0 : 0 < x.length) (hl : x.length ≤ 1000) (hx : ∀ p ∈ x, sgOk p) : Fun Tryz.prog 66 [.d (sgD x b)] [] (.row 0) [(0, .row 70 61 x.length ((sgC x).map .d))] fun _ => False := by
 refine Fun.of_wp (pn := noPn) Tryz.tab Tryz.func66 rfl fun β0 => ?_
 simp only [Tryz.f66]
 repeat(first|apply wG|(apply wR;simp -dsimp)|refine aI ?_)
 refine vcStop.eqNilSl Tryz.tab rfl rfl rfl rfl h0 ?_
 simp -dsimp
 repeat(first|apply wG|(apply wR;simp -dsimp)|refine aI ?_)
 refine cF (by simp) ?_
 refine WP.skip ?_
 simp -dsimp
 repeat(first|apply wG|(apply wR;simp -dsimp)|refine aI ?_)
 refine And.intro ⟨sgC_len hx, by omega⟩ ?_
 refine WP.ret (finQ.retWE (S' := mkS 8 [(2, .row 0)] [(0, .row 70 61 x.length ((sgC x).map .d))]) (Wk.go [] 7 0 (by decide) (by simp) (by simp) (by simp)) ?_)
 simp -dsimp
theorem clone_0 : Fn0 Tryz.prog 66 [.v (.slice none 0 0)] (.v (.slice none 0 0)) := by
 refine Fun.of_wp (pn := noPn) Tryz.tab Tryz.func66 rfl fun β0 => ?_
 simp only [Tryz.f66]
 repeat(first|apply wG|(apply wR;simp -dsimp)|refine aI ?_)
 refine vcStop.eqNilNil Tryz.tab rfl rfl rfl rfl ?_
 simp -dsimp
 repeat(first|apply wG|(apply wR;simp -dsimp)|refine aI ?_)
 refine cT (by simp) ?_
 repeat(first|apply wG|(apply wR;simp -dsimp)|refine aI ?_)
 refine WP.ret (finQ.retE ?_)
 simp -dsimp
abbrev cmpPD : D := .v (.func (.func 138) #[] #[])
abbrev bsS (x : List Sg) (b : Bool) (s : Sg) (i j : Nat) : St := mkS 49 [(0, .d (sgD x b)), (2, .d cmpPD), (4, .ptr 4 0), (8, .d (.v (.int .i64 x.length))), (9, .d (.v (.int .i64 i))), (10, .d (.v (.int .i64 j)))] [(4, .cells 70 ((sgc s).map .d))]
theorem search_ok (x : List Sg) (b : Bool) (s : Sg) (hl : x.length ≤ 1000) (hx : ∀ p ∈ x, sgOk p) (hs : sgOk s) (ha : AscS x) : Fn0 Tryz.prog 64 [sgD x b, sgV s, cmpPD] (.tup [.v (.int .i64 (posS s x)), .v (.bool (isS s x))]) := by
 have l2 := sgc_len hs
 have hp := posS_le s x
 refine Fun.of_wp (pn := noPn) Tryz.tab Tryz.func64 rfl fun β0 => ?_
 simp only [Tryz.f64]
 simp only [sgV]
 repeat(first|apply wG|(apply wR;simp -dsimp [l2])|refine aI ?_)
 refine And.intro (sgc_oneD hs) ?_
 repeat(first|apply wG|(apply wR;simp -dsimp [l2])|refine aI ?_)
 refine WP.loopWk (fun n S => ∃ i j, n = j - i ∧ i ≤ posS s x ∧ posS s x ≤ j ∧ j ≤ x.length ∧ S = bsS x b s i j) x.length (S0 := bsS x b s 0 x.length) (Wk.lessE [] (by simp) (by simp)) ⟨0, x.length, rfl, by omega, hp, by omega, rfl⟩ ?_
 rintro _ _ ⟨i, j, rfl, hi, hj, hjl, rfl⟩
 simp -dsimp
 repeat(first|apply wG|(apply wR;simp -dsimp)|refine aI ?_)
 by_cases hij : i < j
 ·refine cT (by simp; omega) ?_
  refine WP.skip ?_
  obtain ⟨h, hh⟩ : ∃ h, h = (i + j) / 2 := ⟨_, rfl⟩
  have hhx : h < x.length := by omega
  have e0 : IntKind.i64.wrap ((IntKind.u64.wrap (IntKind.i64.wrap ((i : Int) + j))).fdiv (2 ^ shN IntKind.u64 1)) = (h : Int) := by
   rw [IntWalk.i64_in ((i : Int) + j) (by omega), IntWalk.u64_in _ (by omega), show shN IntKind.u64 1 = 1 from rfl, Int.fdiv_eq_ediv_of_nonneg _ (by decide), IntWalk.i64_in _ (by omega)]
   omega
  have e1 : IntKind.i64.wrap ((h : Int) + 1) = ((h + 1 : Nat) : Int) := by rw [IntWalk.i64_in _ (by omega)]; omega
  have hat := sgc_at hhx hx
  have hok := hx x[h] (List.getElem_mem hhx)
  have lx := sgc_len hok
  have lc := sgC_len hx
  have hmin : 61 ≤ (sgC x).length - h * 61 := by omega
  simp -dsimp
  have ht := sgc_t hok
  have hts := sgc_tm hs
  repeat(first|apply wG|(apply wR;simp -dsimp [e0, hat, l2, ht, hts])|refine aI ?_)
  refine vcStop.call0L Tryz.body138 (cmpP_ok x[h] s hok hs) rfl rfl (by simp [sgV]) ?_
  simp -dsimp
  repeat(first|apply wG|(apply wR;simp -dsimp)|refine aI ?_)
  by_cases hlt : cmpF x[h].1 s.1 < 0
  ·have hps : h < posS s x := by
    rcases Nat.lt_or_ge h (posS s x) with k | k
    ·exact k
    ·exact absurd hlt (posS_ge s ha h hhx k)
   refine cT (by simp [hlt]) ?_
   repeat(first|apply wG|(apply wR;simp -dsimp)|refine aI ?_)
   refine loopW.next (bsS x b s (h + 1) j) (Wk.lessE [] (by simp [e1]) (by simp)) (j - (h + 1)) (by omega) ⟨h + 1, j, rfl, by omega, by omega, by omega, rfl⟩
  ·have hps : posS s x ≤ h := by
    rcases Nat.lt_or_ge h (posS s x) with k | k
    ·exact absurd (posS_lt s x h hhx k) hlt
    ·exact k
   refine cF (by simp [hlt]) ?_
   repeat(first|apply wG|(apply wR;simp -dsimp)|refine aI ?_)
   refine loopW.next (bsS x b s i h) (Wk.lessE [] (by simp) (by simp)) (h - i) (by omega) ⟨i, h, rfl, by omega, by omega, by omega, rfl⟩
 ·have hie : i = posS s x := by omega
  have lc := sgC_len hx
  refine cF (by simp; omega) ?_
  refine WP.exit ?_
  simp -dsimp
  by_cases hil : i < x.length
  ·have hat := sgc_at hil hx
   have hok := hx x[i] (List.getElem_mem hil)
   have lx := sgc_len hok
   have ht := sgc_t hok
   have hts := sgc_tm hs
   have hiS : isS s x = decide (cmpF x[i].1 s.1 = 0) := by
    unfold isS
    rw [← hie, List.getElem?_eq_getElem hil]
   repeat(first|apply wG|(apply wR;simp -dsimp [hat, l2, hil, ht, hts])|refine aI ?_)
   refine vcStopG.call0L Tryz.body138 (fun _ => cmpP_ok x[i] s hok hs) rfl (fun _ => rfl) (fun _ => by simp [sgV]) ?_
   simp -dsimp
   repeat(first|apply wG|(apply wR;simp -dsimp)|refine aI ?_)
   refine WP.ret (finQ.retE ?_)
   simp -dsimp [hiS, hie]
  ·have hiS : isS s x = false := by
    unfold isS
    rw [← hie, List.getElem?_eq_none (by omega)]
   repeat(first|apply wG|(apply wR;simp -dsimp [hil])|refine aI ?_)
   refine vcStopG.skip (.d (.v (.int .i64 0))) ?_
   simp -dsimp
   repeat(first|apply wG|(apply wR;simp -dsimp)|refine aI ?_)
   refine WP.ret (finQ.retE ?_)
   simp -dsimp [hiS, hie]
/-! ### places as keys -/
def FP : List TypeId := [3, 154]
theorem gokP : gOk Tryz.τ FP = true := by decide
theorem noarrP : FP.all (fun t => noArr (Tryz.τ t)) = true := by decide
theorem fit120 : fitG Tryz.τ 3 154 55 = true := by decide
theorem Tryz.key120 : Tryz.prog.keyTypeAt 5 154 = true := by kernel_rfl
theorem pla_key {r : Int × Int} (h1 : isI r.1) (h2 : isI r.2) : ∃ l, keyOf Tryz.prog 154 (refV r) = some l := by
 have h : ∀ i, isI ((fun i => if i = 55 then r.1 else if i = 56 then r.2 else 0 : Nat → Int) i) := fun i => by
  dsimp only
  split
  ·exact h1
  ·split
   ·exact h2
   ·exact isI0
 obtain ⟨n, hn, h3⟩ : ∃ n, n = Tryz.prog.types.size + 1 ∧ 3 ≤ n := ⟨_, rfl, by rw [nty]; decide⟩
 have ok : OkD Tryz.τ n 154 [.v (.int .i64 r.1), .v (.int .i64 r.2)] := okD_up 3 n 154 _ h3 (fit_ok h 3 154 55 fit120)
 have hl := keyLits_okD (w := (default : World)) (I := fun _ => False) Tryz.tab gokP noarrP n 154 5 _ [.int .i64 r.1, .int .i64 r.2] Tryz.key120 (by decide) ok ⟨_, _, rfl, rfl, _, _, rfl, rfl, rfl⟩
 rw [hn] at hl
 have hk : Tryz.prog.keyType 154 = true := by kernel_rfl
 have hf : (refV r).formed Tryz.prog 154 = true := by
  unfold refV Value.formed
  rw [Tryz.underlying154]
  have : Tryz.prog.cellsOf 154 = 2 := by kernel_rfl
  simp [this]
 have hc : (refV r).cells.toList = [.int .i64 r.1, .int .i64 r.2] := rfl
 simp only [keyOf, Tryz.underlying154, hk, hf, Bool.and_self, if_true, hc, hl, Option.map_some]
 exact ⟨_, rfl⟩
theorem pla_keyed : Maps.Keyed Tryz.prog 154 := Maps.Keyed.of_law (deep_law_gate laidOut (by rw [nty]; decide) (Nat.lt_of_lt_of_eq (by decide) nty.symm) (by kernel_rfl) (by rw [Tryz.underlying154]))
/-! ### the shelf -/
def plcN (l : List Sg) : List R2 := (plsL l).foldl addRef []
theorem plcN_snoc (l : List Sg) (s : Sg) (hv : vS2 s = true) : plcN (l ++ [s]) = addRef (plcN l) (refS s) := by
 rw [plcN, plsL, List.filter_append, List.map_append, List.foldl_append]
 simp [hv]
 rfl
theorem plcN_ok : ∀ (q a : List R2), a.Nodup → (q.foldl addRef a).Nodup ∧ ∀ r, r ∈ q.foldl addRef a ↔ r ∈ a ∨ r ∈ q
 | [], a, h => ⟨h, fun r => by simp⟩
 | x :: q, a, h => by
  obtain ⟨h1, h2⟩ := plcN_ok q (addRef a x) (addRef_nodup h)
  refine ⟨h1, fun r => ?_⟩
  rw [List.foldl_cons, h2, addRef_in, List.mem_cons]
  constructor
  ·rintro ((h | h) | h)
   ·exact .inl h
   ·exact .inr (.inl h)
   ·exact .inr (.inr h)
  ·rintro (h | h | h)
   ·exact .inl (.inl h)
   ·exact .inl (.inr h)
   ·exact .inr h
theorem plcN_in {l : List Sg} {r : R2} : r ∈ plcN l ↔ ∃ s ∈ l, vS2 s = true ∧ refS s = r := by
 rw [plcN, (plcN_ok (plsL l) [] List.nodup_nil).2, plsL, List.mem_map]
 simp only [List.mem_filter]
 constructor
 ·rintro (h | ⟨s, ⟨h1, h2⟩, h3⟩)
  ·cases h
  ·exact ⟨s, h1, h2, h3⟩
 ·rintro ⟨s, h1, h2, h3⟩; exact .inr ⟨s, ⟨h1, h2⟩, h3⟩
theorem plcN_nodup (l : List Sg) : (plcN l).Nodup := (plcN_ok (plsL l) [] List.nodup_nil).1
def shE (l : List Sg) (r : R2) : Value × D := (refV r, .sl 61 (sgC (shlf r l)) (shlf r l).length false)
def shM (l : List Sg) : List (Value × D) := (plcN l).map (shE l)
theorem shM_at {l : List Sg} {p : Value × D} (h : p ∈ shM l) : ∃ r ∈ plcN l, p = shE l r := by
 obtain ⟨r, hr, e⟩ := List.mem_map.1 h
 exact ⟨r, hr, e.symm⟩
theorem shlf_other {l : List Sg} {s : Sg} {r : R2} (h : refS s ≠ r) : shlf r (l ++ [s]) = shlf r l := by rw [shlf_snoc, putS, if_neg fun k => h k.2]
theorem shlf_same {l : List Sg} {s : Sg} (hv : vS2 s = true) : shlf (refS s) (l ++ [s]) = insS s (shlf (refS s) l) := by rw [shlf_snoc, putS, if_pos ⟨hv, rfl⟩]
theorem shM_keys {l : List Sg} (hl : ∀ s ∈ l, fOk s.1) : KeysOk Tryz.prog 154 (shM l) := fun p hp => by
 obtain ⟨r, hr, rfl⟩ := shM_at hp
 obtain ⟨s, hs, _, rfl⟩ := plcN_in.1 hr
 exact pla_key ((hl s hs).1 0) ((hl s hs).1 1)
theorem shM_other {l : List Sg} {s : Sg} {a : List R2} (h : refS s ∉ a) : a.map (shE (l ++ [s])) = a.map (shE l) :=
 List.map_congr_left fun r hr => by rw [shE, shE, shlf_other fun e => h (e ▸ hr)]
theorem shM_new {l : List Sg} {s : Sg} (hv : vS2 s = true) (hr : refS s ∉ plcN l) : shlf (refS s) l = [] ∧ GetOk (shM l) (refV (refS s)) (.v (.slice none 0 0)) (.v (.slice none 0 0)) ∧ PutOk (shM l) (refV (refS s)) (.sl 61 (sgC [s]) 1 false) (shM (l ++ [s])) := by
 have he : shlf (refS s) l = [] := by
  unfold shlf
  have : ∀ (m a : List Sg), (∀ t ∈ m, vS2 t = true → refS t ≠ refS s) → m.foldl (putS (refS s)) a = a := by
   intro m
   induction m with
   | nil => intro a _; rfl
   | cons t m ih =>
    intro a h
    rw [List.foldl_cons, putS, if_neg fun k => h t (by simp) k.1 k.2]
    exact ih a fun u hu => h u (by simp [hu])
  exact this l [] fun t ht h1 h2 => hr (plcN_in.2 ⟨t, ht, h1, h2⟩)
 have hno : ∀ p ∈ shM l, p.1 ≠ refV (refS s) := fun p hp e => by
  obtain ⟨r, hr2, rfl⟩ := shM_at hp
  exact hr (refV_inj (show refV r = refV (refS s) from e) ▸ hr2)
 refine ⟨he, .inr ⟨hno, rfl⟩, .inr ⟨hno, ?_⟩⟩
 rw [shM, plcN_snoc l s hv, addRef, if_neg hr, List.map_append, shM_other hr]
 rw [List.map_cons, List.map_nil, shE, shlf_same hv, he]
 rfl
theorem shM_old {l : List Sg} {s : Sg} (hv : vS2 s = true) (hr : refS s ∈ plcN l) : GetOk (shM l) (refV (refS s)) (.v (.slice none 0 0)) (.sl 61 (sgC (shlf (refS s) l)) (shlf (refS s) l).length false) ∧
  PutOk (shM l) (refV (refS s)) (.sl 61 (sgC (insS s (shlf (refS s) l))) (insS s (shlf (refS s) l)).length false) (shM (l ++ [s])) := by
 obtain ⟨a, b, e⟩ := List.append_of_mem hr
 have hnd := plcN_nodup l
 rw [e] at hnd
 have ha : refS s ∉ a := fun h => (List.nodup_append.1 hnd).2.2 _ h _ (by simp) rfl
 have hb : refS s ∉ b := (List.nodup_cons.1 (List.nodup_append.1 hnd).2.1).1
 have e1 : shM l = a.map (shE l) ++ shE l (refS s) :: b.map (shE l) := by rw [shM, e]; simp
 refine ⟨.inl ⟨_, _, e1⟩, .inl ⟨a.map (shE l), (shE l (refS s)).2, b.map (shE l), e1, ?_⟩⟩
 rw [shM, plcN_snoc l s hv, addRef, if_pos hr, e, List.map_append, List.map_cons, shM_other ha, shM_other hb]
 rw [shE, shlf_same hv]
theorem shM_stay {l : List Sg} {s : Sg} (hv : vS2 s = true) (hr : refS s ∈ plcN l) (hi : insS s (shlf (refS s) l) = shlf (refS s) l) : shM (l ++ [s]) = shM l := by
 rw [shM, plcN_snoc l s hv, addRef, if_pos hr, shM]
 refine List.map_congr_left fun r hr2 => ?_
 rw [shE, shE]
 by_cases h : refS s = r
 ·subst h; rw [shlf_same hv, hi]
 ·rw [shlf_other h]
/-! ### put -/
theorem placeOf_ok (f : F) : Fn0 Tryz.prog 93 [fD f] (.agg [.v (.int .i64 (f 0)), .v (.int .i64 (f 1))]) := by
 refine Fun.of_wp (pn := noPn) Tryz.tab Tryz.func93 rfl fun β0 => ?_
 simp only [Tryz.f93]
 rw [fD]
 repeat(first|apply wG|(apply wR;simp -dsimp)|refine aI ?_)
 refine WP.ret (finQ.retE ?_)
 simp -dsimp
theorem insS_len (s : Sg) : ∀ l : List Sg, (insS s l).length ≤ l.length + 1
 | [] => Nat.le_refl _
 | t :: l => by
  have := insS_len s l
  rw [insS]
  split
  ·simp; omega
  ·split <;> simp
theorem shlf_len (r : R2) (l : List Sg) : (shlf r l).length ≤ l.length := by
 have key : ∀ (l a : List Sg), (l.foldl (putS r) a).length ≤ a.length + l.length := by
  intro l
  induction l with
  | nil => intro a; simp
  | cons s l ih =>
   intro a
   have h1 := ih (putS r a s)
   have h2 : (putS r a s).length ≤ a.length + 1 := by
    unfold putS
    split
    ·exact insS_len s a
    ·omega
   rw [List.foldl_cons, List.length_cons]; omega
 have := key l []
 simpa [shlf] using this
theorem sgC_take {x : List Sg} (h : ∀ q ∈ x, sgOk q) {i : Nat} (hi : i ≤ x.length) : (sgC x).take (i * 61) = sgC (x.take i) ∧ (sgC x).drop (i * 61) = sgC (x.drop i) := by
 have e : sgC x = sgC (x.take i) ++ sgC (x.drop i) := by rw [← sgC_append, List.take_append_drop]
 have hl : (sgC (x.take i)).length = i * 61 := by rw [sgC_len fun q hq => h q (List.mem_of_mem_take hq), List.length_take, Nat.min_eq_left hi]
 rw [e, ← hl]
 exact ⟨List.take_left, List.drop_left⟩
theorem sgC_ins {x : List Sg} {s : Sg} (h : ∀ q ∈ x, sgOk q) {i : Nat} (hi : i ≤ x.length) : sgC (x.take i ++ s :: x.drop i) = insD i (sgC x) (sgc s) := by
 obtain ⟨h1, h2⟩ := sgC_take h hi
 rw [insD, h1, h2, sgC_append, List.append_assoc]
 rfl
theorem shput_ok (l : List Sg) (s : Sg) (hl : ∀ p ∈ l, sgOk p) (hs : sgOk s) (hv : vS2 s = true) (hn : l.length ≤ 900) :
  Fun Tryz.prog 82 [.row 1000, .d (sgV s)] [(1000, .mp (shM l))] (.d .any) [(1000, .mp (shM (l ++ [s])))] fun _ => False := by
 have hfo : ∀ p ∈ l, fOk p.1 := fun p hp => (hl p hp).1
 obtain ⟨hasc, hin⟩ := shlf_ok (refS s) l hfo
 have hks := shM_keys hfo
 obtain ⟨lk, hlk⟩ := pla_key (r := refS s) (hs.1.1 0) (hs.1.1 1)
 have l2 := sgc_len hs
 have h57 := sgc_57 s
 have hts := sgc_tm hs
 refine Fun.of_wp (pn := noPn) Tryz.tab Tryz.func82 rfl fun β0 => ?_
 simp only [Tryz.f82]
 simp only [sgV]
 repeat(first|apply wG|(apply wR;simp -dsimp [l2, hts])|refine aI ?_)
 refine And.intro (sgc_oneD hs) ?_
 repeat(first|apply wG|(apply wR;simp -dsimp [l2, h57, hts])|refine aI ?_)
 refine vcStop.call0 Tryz.body93 (placeOf_ok s.1) rfl rfl (by simp [fD]) ?_
 simp -dsimp
 repeat(first|apply wG|(apply wR;simp -dsimp)|refine aI ?_)
 by_cases hr : refS s ∈ plcN l
 ·obtain ⟨hget, hput⟩ := shM_old hv hr
  have hst := shM_stay (l := l) hv hr
  have hpo := insS_pos s (shlf (refS s) l)
  have hxk : ∀ p ∈ shlf (refS s) l, sgOk p := fun p hp => hl p (fstO_in ((hin p).1 hp).1)
  have hx0 : 0 < (shlf (refS s) l).length := by
   obtain ⟨t, ht, h1, h2⟩ := plcN_in.1 hr
   obtain ⟨u, hu, hu2⟩ := fstO_ex ht h1
   exact List.length_pos_of_mem ((hin u).2 ⟨hu, by rw [refS, hu2]; exact h2⟩)
  have hxl : (shlf (refS s) l).length ≤ 900 := Nat.le_trans (shlf_len _ _) hn
  generalize shlf (refS s) l = x at hasc hget hput hst hpo hxk hx0 hxl
  refine vcStop.mapGet Tryz.tab rfl rfl pla_keyed Tryz.zeroValue23 (j := 1000) rfl (kvs := shM l) rfl (key := refV (refS s)) (ref_leq _ _) (.sl 61 (sgC x) x.length false) hlk hks hget ?_
  simp -dsimp
  repeat(first|apply wG|(apply wR;simp -dsimp [l2, hts])|refine aI ?_)
  refine vcStop.call0L Tryz.body64 (search_ok x false s (by omega) hxk hs hasc) rfl rfl (by simp [sgV, hts]) ?_
  simp -dsimp
  repeat(first|apply wG|(apply wR;simp -dsimp)|refine aI ?_)
  have hpl := posS_le s x
  cases hi : isS s x with
  | true =>
   rw [if_pos hi] at hpo
   rw [hst hpo]
   refine cF (by simp [hi]) ?_
   refine WP.skip ?_
   refine finQ.normalE ?_
   simp -dsimp
  | false =>
   rw [if_neg (by simp [hi])] at hpo
   have hput2 : PutOk (shM l) (refV (refS s)) (.sl 61 (insD (posS s x) (sgC x) (sgc s)) (x.length + 1) false) (shM (l ++ [s])) := by
    have e1 : sgC (insS s x) = insD (posS s x) (sgC x) (sgc s) := by rw [hpo, sgC_ins hxk hpl]
    have e2 : (insS s x).length = x.length + 1 := by rw [hpo]; simp; omega
    rw [e1, e2] at hput
    exact hput
   refine cT (by simp [hi]) ?_
   repeat(first|apply wG|(apply wR;simp -dsimp)|refine aI ?_)
   refine vcStop.mapGet Tryz.tab rfl rfl pla_keyed Tryz.zeroValue23 (j := 1000) rfl (kvs := shM l) rfl (key := refV (refS s)) (ref_leq _ _) (.sl 61 (sgC x) x.length false) hlk hks hget ?_
   simp -dsimp [l2, hts]
   refine vcStop.call Tryz.body66 (clone_d x false hx0 (by omega) hxk) (rl [(0, 600)]) rfl rfl (by simp [BoxLeq]) (CallOk.of (by simp [BoxLeq]) rfl (by first | rfl | (simp [BoxLeq]; done)) (by simp [BoxLeq]) (by simp [BoxLeq])) (fun _ h => h.elim) (fun ⟨_, h⟩ => h.elim) (fun ⟨_, h⟩ => h.elim) (by simp [BoxLeq]) ?_
   simp -dsimp [l2, hts]
   repeat(first|apply wG|(apply wR;simp -dsimp [l2, hts])|refine aI ?_)
   refine And.intro (sgc_oneD hs) ?_
   refine vcStop.call Tryz.body65 (insertS_ok x.length (posS s x) (sgC x) (sgc s) (sgC_len hxk) l2 hpl (by omega)) (rl [(1000, 600), (1001, 28), (0, 700)]) rfl rfl (by simp [BoxLeq]) (CallOk.of (by simp [BoxLeq]) rfl (by first | rfl | (simp [BoxLeq]; done)) (by simp [BoxLeq]) (by simp [BoxLeq])) (fun _ h => h.elim) (fun ⟨_, h⟩ => h.elim) (fun ⟨_, h⟩ => h.elim) (by simp [BoxLeq]) ?_
   simp -dsimp
   refine vcStop.mapPutRow Tryz.tab rfl rfl pla_keyed (j := 1000) rfl (kvs := shM l) (shM (l ++ [s])) rfl (key := refV (refS s)) (ref_leq _ _) (k := 700) (by decide) rfl rfl hlk hks hput2 ?_
   simp -dsimp
   repeat(first|apply wG|(apply wR;simp -dsimp)|refine aI ?_)
   refine finQ.normalE ?_
   simp -dsimp
 ·obtain ⟨he, hget, hput⟩ := shM_new hv hr
  refine vcStop.mapGet Tryz.tab rfl rfl pla_keyed Tryz.zeroValue23 (j := 1000) rfl (kvs := shM l) rfl (key := refV (refS s)) (ref_leq _ _) (.v (.slice none 0 0)) hlk hks hget ?_
  simp -dsimp
  repeat(first|apply wG|(apply wR;simp -dsimp [l2, hts])|refine aI ?_)
  refine vcStop.call0L Tryz.body64 (search_ok [] false s (by simp) (by simp) hs List.Pairwise.nil) rfl rfl (by simp [sgV, sgC, hts]) ?_
  simp -dsimp
  repeat(first|apply wG|(apply wR;simp -dsimp)|refine aI ?_)
  refine cT (by rfl) ?_
  repeat(first|apply wG|(apply wR;simp -dsimp)|refine aI ?_)
  refine vcStop.mapGet Tryz.tab rfl rfl pla_keyed Tryz.zeroValue23 (j := 1000) rfl (kvs := shM l) rfl (key := refV (refS s)) (ref_leq _ _) (.v (.slice none 0 0)) hlk hks hget ?_
  simp -dsimp
  refine vcStop.call0 Tryz.body66 clone_0 rfl rfl (by simp) ?_
  simp -dsimp [l2, hts]
  have hp0 : posS s [] = 0 := rfl
  refine And.intro (sgc_oneD hs) ?_
  rw [hp0]
  have hins := Fun.nilRow (insertS_ok 0 0 [] (sgc s) rfl l2 (by omega) (by omega)) rfl (by simp) (by simp) rfl
  refine vcStop.call Tryz.body65 (hins) (rl [(1001, 28), (0, 700)]) rfl rfl (by simp [BoxLeq]) (CallOk.of (by simp [BoxLeq]) rfl (by first | rfl | (simp [BoxLeq]; done)) (by simp [BoxLeq]) (by simp [BoxLeq])) (fun _ h => h.elim) (fun ⟨_, h⟩ => h.elim) (fun ⟨_, h⟩ => h.elim) (by simp [BoxLeq]) ?_
  simp -dsimp
  refine vcStop.mapPutRow Tryz.tab rfl rfl pla_keyed (j := 1000) rfl (kvs := shM l) (shM (l ++ [s])) rfl (key := refV (refS s)) (ref_leq _ _) (k := 700) (by decide) rfl rfl hlk hks hput ?_
  simp -dsimp
  repeat(first|apply wG|(apply wR;simp -dsimp)|refine aI ?_)
  refine finQ.normalE ?_
  simp -dsimp
end Go.Proofs.YtnljenjcaeophaaGreatDoor
