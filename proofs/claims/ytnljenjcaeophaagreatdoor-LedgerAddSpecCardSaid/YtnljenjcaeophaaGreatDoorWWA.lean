/-
  Joined texts.
-/
import Derived.Test.YtnljenjcaeophaaGreatDoorWC
import Derived.Test.YtnljenjcaeophaaGreatDoorWG
import Derived.Test.YtnljenjcaeophaaGreatDoorWH
import Derived.Test.YtnljenjcaeophaaGreatDoorWTP
import Derived.Test.YtnljenjcaeophaaGreatDoorWOA
import Derived.Test.YtnljenjcaeophaaGreatDoorWYE
import Derived.Test.YtnljenjcaeophaaGreatDoorWTJ
import Derived.Test.YtnljenjcaeophaaGreatDoorWKT
set_option maxRecDepth 10000
set_option maxHeartbeats 4000000
set_option linter.unusedVariables false
set_option linter.unusedSimpArgs false
set_option linter.unusedSectionVars false
namespace Go.Proofs.YtnljenjcaeophaaGreatDoor
open Go.Xe Go.RowKit
theorem ll_ {f g : F} (hf : fOk f) (hg : fOk g) : bW_ f g = aE_ f g := by rw [bW_, aE_, nz_ hf, nz_ hg]
abbrev vdS (l : List Crw) (x : List Sg) (b : Bool) (i : Nat) : St := mkS 22 [(0, .d (crwD l)), (1, .d (sgD x b)), (5, .d (.v (.int .i64 i)))] []
theorem el_ (l : List Crw) (hl : ∀ c ∈ l, ec_ c) (hn : l.length ≤ 1000000000000) (x : List Sg) (b : Bool) (hx : ∀ p ∈ x, fOk p.1 ∧ sgT p) (hxn : x.length ≤ 1000000000000) : Fn0 Tryz.prog 60 [crwD l, sgD x b] (.v (.int .i64 (vfyL l x))) := by
 refine ac_ (pn := ap_) aa_ Tryz.func60 rfl fun β0 => ?_
 simp only [Tryz.f60]
 repeat(first|apply wG|(apply wR;simp -dsimp [crwD])|refine aI ?_)
 refine ak_ (fun m S => ∃ x1 x2, x = x1 ++ x2 ∧ m = x2.length ∧ vfyL l x = vfyL l x2 ∧ S = vdS l x b x1.length) x.length (S0 := vdS l x b 0) (ae_ [] (by simp [crwD]) (by simp)) ⟨[], x, rfl, rfl, rfl, rfl⟩ ?_
 rintro _ _ ⟨x1, x2, hx12, rfl, hv, rfl⟩
 simp -dsimp [crwD]
 repeat(first|apply wG|(apply wR;simp -dsimp)|refine aI ?_)
 rw [hv]
 cases x2 with
 | nil =>
  simp only [List.append_nil] at hx12
  subst hx12
  refine cF (by simp) ?_
  refine WP.exit ?_
  simp -dsimp
  repeat(first|apply wG|(apply wR;simp -dsimp)|refine aI ?_)
  refine WP.ret (ab_ ?_)
  simp -dsimp [vfyL]
 | cons p x2 =>
  have hll : x.length = x1.length + (x2.length + 1) := by rw [hx12]; simp
  have hlt : x1.length < x.length := by omega
  have hp := hx p (by rw [hx12]; simp)
  have hpo := be_ hp.1 hp.2
  have hxo : ∀ q ∈ x, sgOk q := fun q hq => be_ (hx q hq).1 (hx q hq).2
  have hat := cL_ hlt hxo
  have hpe : x[x1.length] = p := by simp [hx12]
  rw [hpe] at hat
  have lc := sgC_len hxo
  have lp := az_ hpo
  have tp := e0_ hpo
  have tm := bV_ hpo
  have hver := e4_ l hl hn p hp.1 hp.2
  have e1 : IntKind.i64.wrap ((x1.length : Int) + 1) = (x1.length : Int) + 1 := IntWalk.i64_in _ (by omega)
  refine cT (by simp; omega) ?_
  refine WP.skip ?_
  simp -dsimp
  repeat(first|apply wG|(apply wR;simp -dsimp [hat, lp, tp, tm])|refine aI ?_)
  refine ag_ iv_ hver rfl rfl (And.intro (by simp [crwD]) (And.intro (by simp [tm, tp, sgV]; try exact ai_ _) trivial)) ?_
  simp -dsimp
  repeat(first|apply wG|(apply wR;simp -dsimp)|refine aI ?_)
  rw [vfyL]
  by_cases hz : i2_ l p = 0
  ·rw [if_pos hz]
   refine cF (by simp [hz]) ?_
   refine WP.skip ?_
   simp -dsimp
   repeat(first|apply wG|(apply wR;simp -dsimp)|refine aI ?_)
   refine ah_ (vdS l x b (x1 ++ [p]).length) (ae_ [] (by simp [crwD, e1]) (by simp)) x2.length (by simp) ⟨x1 ++ [p], x2, by simp [hx12], rfl, by first | rfl | simp [vfyL, hz], rfl⟩
  ·rw [if_neg hz]
   refine cT (by simp [hz]) ?_
   repeat(first|apply wG|(apply wR;simp -dsimp)|refine aI ?_)
   refine WP.ret (ab_ ?_)
   simp -dsimp
abbrev orS (x : List Sg) (b : Bool) (i : Nat) : St := mkS 23 [(0, .d (sgD x b)), (3, .d (.v (.int .i64 i)))] []
theorem jP_ (x : List Sg) (b : Bool) (hxo : ∀ q ∈ x, sgOk q) (hxn : x.length ≤ 1000000000000) : Fn0 Tryz.prog 63 [sgD x b] (.v (.bool (nJ_ x))) := by
 have w1 : IntKind.i64.wrap 1 = 1 := by decide
 refine ac_ (pn := ap_) aa_ Tryz.func63 rfl fun β0 => ?_
 simp only [Tryz.f63]
 repeat(first|apply wG|(apply wR;simp -dsimp)|refine aI ?_)
 refine ak_ (fun m S => ∃ i : Nat, 1 ≤ i ∧ m = x.length - i ∧ i ≤ max 1 x.length ∧ nJ_ x = nJ_ (x.drop (i - 1)) ∧ S = orS x b i) (x.length - 1) (S0 := orS x b 1) (ae_ [] (by simp) (by simp)) ⟨1, Nat.le_refl _, rfl, by omega, rfl, rfl⟩ ?_
 rintro _ _ ⟨i, hi1, rfl, hi2, ha, rfl⟩
 rw [ha]
 simp -dsimp
 repeat(first|apply wG|(apply wR;simp -dsimp)|refine aI ?_)
 by_cases hil : i < x.length
 ·have has := st_ hi1 hil
  have a0 := cL_ (i := i - 1) (by omega) hxo
  have a1 := cL_ hil hxo
  have o0 := hxo _ (List.getElem_mem (by omega : i - 1 < x.length))
  have o1 := hxo _ (List.getElem_mem hil)
  generalize x[i - 1]'(by omega) = p at *
  generalize x[i] = q at *
  have lc := sgC_len hxo
  have lp := az_ o0
  have lq := az_ o1
  have p57 := e1_ p
  have q57 := e1_ q
  have p57D := hF_ p
  have q57D := hF_ q
  have hi0 : i - 1 < x.length := by omega
  have e1 : IntKind.i64.wrap ((i : Int) + 1) = ((i + 1 : Nat) : Int) := by rw [IntWalk.i64_in _ (by omega)]; omega
  have e2 : IntKind.i64.wrap ((i : Int) - 1) = ((i - 1 : Nat) : Int) := by rw [IntWalk.i64_in _ (by omega)]; omega
  have hcm := c1_ p.1 q.1 o0.1 o1.1
  rw [ll_ o0.1 o1.1] at hcm
  refine cT (by simp; omega) ?_
  refine WP.skip ?_
  simp -dsimp
  repeat(first|apply wG|(apply wR;simp -dsimp [e2, a0, a1, p57, q57, p57D, q57D, lp, lq, hi0, hil])|refine aI ?_)
  refine ag_ dT_ hcm rfl rfl (And.intro (by simp [fD]; try exact ai_ _) (And.intro (by simp [fD]; try exact ai_ _) trivial)) ?_
  simp -dsimp
  repeat(first|apply wG|(apply wR;simp -dsimp)|refine aI ?_)
  rw [has]
  by_cases hz : aE_ p.1 q.1 < 0
  ·refine cF (by simp; omega) ?_
   refine WP.skip ?_
   simp -dsimp
   repeat(first|apply wG|(apply wR;simp -dsimp)|refine aI ?_)
   have hd : decide (aE_ p.1 q.1 < 0) = true := decide_eq_true hz
   refine ah_ (orS x b (i + 1)) (ae_ [] (by simp [e1]) (by simp)) (x.length - (i + 1)) (by omega) ⟨i + 1, by omega, rfl, by omega, by rw [hd]; simp, rfl⟩
  ·have hd : decide (aE_ p.1 q.1 < 0) = false := decide_eq_false hz
   refine cT (by simp; omega) ?_
   repeat(first|apply wG|(apply wR;simp -dsimp)|refine aI ?_)
   refine WP.ret (ab_ ?_)
   simp -dsimp [hd]
 ·rw [ju_ (by omega)]
  refine cF (by simp; omega) ?_
  refine WP.exit ?_
  simp -dsimp
  repeat(first|apply wG|(apply wR;simp -dsimp)|refine aI ?_)
  refine WP.ret (ab_ ?_)
  simp -dsimp
theorem c2_ (l : List Crw) (hl : ∀ c ∈ l, ec_ c) (hn : l.length ≤ 1000000000000) (x : List Sg) (b : Bool) (hx : ∀ p ∈ x, fOk p.1 ∧ sgT p) (hxn : x.length ≤ 1000000000000) : Fn0 Tryz.prog 22 [crwD l, lgD x b] (.v (.int .i64 (gh_ l x))) := by
 have h34 := ev_ l hl hn
 have h60 := el_ l hl hn x b hx hxn
 have h63 := jP_ x b (fun q hq => be_ (hx q hq).1 (hx q hq).2) hxn
 refine ac_ (pn := ap_) aa_ Tryz.func22 rfl fun β0 => ?_
 simp only [Tryz.f22]
 repeat(first|apply wG|(apply wR;simp -dsimp [crwD])|refine aI ?_)
 refine ad_ eP_ h34 rfl rfl (by simp [crwD]) ?_
 simp -dsimp
 repeat(first|apply wG|(apply wR;simp -dsimp)|refine aI ?_)
 rw [gh_, qp_]
 by_cases hc : crB l = true
 ·rw [if_pos hc, if_pos hc]
  refine cF (by simp [hc]) ?_
  refine WP.skip ?_
  simp -dsimp
  repeat(first|apply wG|(apply wR;simp -dsimp)|refine aI ?_)
  by_cases hb : 65536 < x.length
  ·rw [if_pos hb]
   refine cT (by simp; omega) ?_
   repeat(first|apply wG|(apply wR;simp -dsimp)|refine aI ?_)
   refine WP.ret (ab_ ?_)
   simp -dsimp
  ·rw [if_neg hb]
   refine cF (by simp; omega) ?_
   refine WP.skip ?_
   simp -dsimp
   repeat(first|apply wG|(apply wR;simp -dsimp [crwD])|refine aI ?_)
   refine ag_ it_ h60 rfl rfl (And.intro (by simp [crwD]) (And.intro (.refl _) trivial)) ?_
   simp -dsimp
   repeat(first|apply wG|(apply wR;simp -dsimp)|refine aI ?_)
   by_cases hv : vfyL l x = 0
   ·rw [if_pos hv]
    refine cF (by simp [hv]) ?_
    refine WP.skip ?_
    simp -dsimp
    repeat(first|apply wG|(apply wR;simp -dsimp)|refine aI ?_)
    refine ag_ nW_ h63 rfl rfl (And.intro (.refl _) trivial) ?_
    simp -dsimp
    repeat(first|apply wG|(apply wR;simp -dsimp)|refine aI ?_)
    cases ha : nJ_ x with
    | true =>
     refine cF (by simp [ha]) ?_
     refine WP.skip ?_
     simp -dsimp
     repeat(first|apply wG|(apply wR;simp -dsimp)|refine aI ?_)
     refine WP.ret (ab_ ?_)
     simp -dsimp
    | false =>
     refine cT (by simp [ha]) ?_
     repeat(first|apply wG|(apply wR;simp -dsimp)|refine aI ?_)
     refine WP.ret (ab_ ?_)
     simp -dsimp
   ·rw [if_neg hv]
    refine cT (by simp [hv]) ?_
    repeat(first|apply wG|(apply wR;simp -dsimp)|refine aI ?_)
    refine WP.ret (ab_ ?_)
    simp -dsimp
 ·rw [if_neg hc]
  refine cT (by simp [hc]) ?_
  repeat(first|apply wG|(apply wR;simp -dsimp)|refine aI ?_)
  refine WP.ret (ab_ ?_)
  simp -dsimp [hc]
theorem fY_ (p : Sg) : ∀ (l1 l2 : List Sg), (∀ s ∈ l1, aE_ s.1 p.1 < 0) → insS p (l1 ++ l2) = l1 ++ insS p l2
 | [], _, _ => rfl
 | s :: l1, l2, h => by
  rw [List.cons_append, insS, if_pos (h s (by simp)), fY_ p l1 l2 fun t ht => h t (by simp [ht])]
  rfl
theorem jc_ (p : Sg) : ∀ (l1 l2 : List Sg), (∀ s ∈ l1, aE_ s.1 p.1 < 0) → posS p (l1 ++ l2) = l1.length + posS p l2
 | [], l2, _ => by simp
 | s :: l1, l2, h => by
  rw [List.cons_append, cc_, if_pos (h s (by simp)), jc_ p l1 l2 fun t ht => h t (by simp [ht])]
  simp; omega
theorem lx_ (p : Sg) (l1 l2 : List Sg) (h : ∀ s ∈ l1, aE_ s.1 p.1 < 0) : isS p (l1 ++ l2) = isS p l2 := by
 rw [isS, jc_ p l1 l2 h, List.getElem?_append_right (by omega), Nat.add_sub_cancel_left, isS]
def wF_ (x : List Sg) (p : Sg) : D := .tup [sgD (insS p x) false, .v (.bool (!isS p x))]
abbrev wiS (x : List Sg) (p : Sg) (j : Nat) : St := mkS 52 [(0, .d (sgD x false)), (3, .ptr 3 0), (6, .d (.v (.int .i64 j)))] [(3, .cells 70 ((sgc p).map .d))]
theorem qn_ (x : List Sg) (p : Sg) (hx : ∀ q ∈ x, sgOk q) (hp : sgOk p) (vx : ∀ q ∈ x, m1_ q) (vp : m1_ p) (hn : x.length ≤ 1000) : Fn0 Tryz.prog 61 [sgD x false, sgV p] (wF_ x p) := by
 have lp := az_ hp
 have h57 := e1_ p
 have h57D := hF_ p
 have ht := e0_ hp
 have htm := bV_ hp
 have hone := sgc_oneD hp
 have hset : ∀ cs : List AV, cs.length = 61 → setL cs 0 ((sgc p).map AV.d) = (sgc p).map .d := fun cs hc => by
  rw [c0_ _ _ _ (by rw [List.length_map]; omega), List.take_zero, List.nil_append, List.length_map, List.drop_of_length_le (by omega), List.append_nil]
 refine ac_ (pn := ap_) aa_ Tryz.func61 rfl fun β0 => ?_
 simp only [Tryz.f61]
 simp only [sgV]
 repeat(first|apply wG|(apply wR;simp -dsimp [lp])|refine aI ?_)
 refine ak_ (fun m Z => ∃ x1 x2, x = x1 ++ x2 ∧ m = x2.length ∧ (∀ s ∈ x1, aE_ s.1 p.1 < 0) ∧ Z = wiS x p x1.length) x.length (S0 := wiS x p 0) (ae_ [] (by simp) (by simp)) ⟨[], x, rfl, rfl, by simp, rfl⟩ ?_
 rintro m _ ⟨x1, x2, hx12, rfl, hbf, rfl⟩
 have hxC := sgC_len hx
 have hxl : x.length = x1.length + x2.length := by rw [hx12]; simp
 simp -dsimp
 have hdrS : List.take ((x.length - x1.length) * 61) (List.drop (x1.length * 61) ((sgC x).map AV.d)) = (sgC x2).map .d := by
  have hk2 : ∀ s ∈ x2, sgOk s := fun s hs => hx s (by rw [hx12]; simp [hs])
  have hk1 : ∀ s ∈ x1, sgOk s := fun s hs => hx s (by rw [hx12]; simp [hs])
  conv => lhs; rw [hx12]
  rw [a7_, List.map_append, List.drop_left' (by rw [List.length_map, sgC_len hk1]), List.take_of_length_le (by rw [List.length_map, sgC_len hk2, List.length_append]; omega)]
 have htkS : List.take (x1.length * 61) ((sgC x).map AV.d) = (sgC x1).map .d := by
  have hk1 : ∀ s ∈ x1, sgOk s := fun s hs => hx s (by rw [hx12]; simp [hs])
  conv => lhs; rw [hx12]
  rw [a7_, List.map_append, List.take_left' (by rw [List.length_map, sgC_len hk1])]
 have hrc := c1_ p.1 p.1 hp.1 hp.1
 have hrs := d1_ p.1 p.1 hp.1 hp.1
 cases x2 with
 | nil =>
  have hil : ¬ x1.length < x.length := by simp at hxl; omega
  have hins : insS p x = x1 ++ [p] := by rw [hx12, fY_ p x1 [] hbf]; rfl
  have his : isS p x = false := by rw [hx12, lx_ p x1 [] hbf]; rfl
  rw [wF_, his]
  repeat(first|apply wG|(apply wR;simp -dsimp [hil])|refine aI ?_)
  refine af_ dT_ (fun _ => hrc) rfl (fun _ => rfl) (fun h => by simp at h) ?_
  simp -dsimp [hil]
  repeat(first|apply wG|(apply wR;simp -dsimp [hil])|refine aI ?_)
  refine cF (by simp) ?_
  refine WP.exit ?_
  simp -dsimp [hil]
  repeat(first|apply wG|(apply wR;simp -dsimp [hil])|refine aI ?_)
  refine af_ dg_ (fun _ => hrs) rfl (fun _ => rfl) (fun h => by simp at h) ?_
  simp -dsimp [hil]
  repeat(first|apply wG|(apply wR;simp -dsimp [hil])|refine aI ?_)
  refine cF (by simp) ?_
  refine WP.skip ?_
  simp -dsimp
  repeat(first|apply wG|(apply wR;simp -dsimp [hdrS, htkS, ht, htm, hset, lp])|refine aI ?_)
  have hR : (sgC x1).map AV.d ++ ((sgc p).map AV.d ++ (sgC []).map AV.d) = (sgC (insS p x)).map .d := by
   rw [hins, a7_, List.map_append, show sgC (p :: []) = sgc p ++ sgC [] from rfl, List.map_append]
  have hlen : x1.length + (1 + (x.length - x1.length)) = (insS p x).length := by rw [hins, hxl]; first | (simp; done) | (simp; omega)
  rw [hR, hlen]
  refine WP.ret (an_ (Wk.freeze (k := 51) (T := 70) (sz := 61) (n := (insS p x).length) (ds := sgC (insS p x)) (by simp)) ?_)
  simp -dsimp
 | cons s x2 =>
  have hil : x1.length < x.length := by simp at hxl; omega
  have h2 := cL_ hil hx
  have hre2 : x[x1.length] = s := by simp [hx12]
  have hs := hx x[x1.length] (List.getElem_mem hil)
  have vs := vx x[x1.length] (List.getElem_mem hil)
  rw [hre2] at h2 hs vs
  have k57 := e1_ s
  have k57D := hF_ s
  have ls := az_ hs
  have hS2l : (sgC (s :: x2)).length = (x.length - x1.length) * 61 := by
   have hk2 : ∀ t ∈ s :: x2, sgOk t := fun t ht => hx t (by rw [hx12]; exact List.mem_append.2 (.inr ht))
   rw [sgC_len hk2, hxl, Nat.add_sub_cancel_left]
  have hbo := c1_ s.1 p.1 hs.1 hp.1
  rw [ll_ hs.1 hp.1] at hbo
  have hsa := d1_ s.1 p.1 hs.1 hp.1
  have hsz := lU_ vs vp
  repeat(first|apply wG|(apply wR;simp -dsimp [hil, h2, h57, h57D, k57, k57D, lp])|refine aI ?_)
  refine af_ dT_ (fun _ => hbo) rfl (fun _ => rfl) (fun _ => by simp [fD]) ?_
  simp -dsimp
  repeat(first|apply wG|(apply wR;simp -dsimp)|refine aI ?_)
  by_cases hb : aE_ s.1 p.1 < 0
  ·have e2 : IntKind.i64.wrap ((x1.length : Int) + 1) = ((x1 ++ [s]).length : Nat) := by rw [IntWalk.i64_in _ (by omega)]; simp
   refine cT (by simp [hb]) ?_
   refine WP.skip ?_
   simp -dsimp
   repeat(first|apply wG|(apply wR;simp -dsimp)|refine aI ?_)
   refine ah_ (wiS x p (x1 ++ [s]).length) (ae_ [] (by simp [e2]) (by simp)) x2.length (by simp) ⟨x1 ++ [s], x2, by simp [hx12], rfl, fun t ht => ?_, rfl⟩
   rcases List.mem_append.1 ht with ht | ht
   ·exact hbf t ht
   ·rw [List.mem_singleton.1 ht]; exact hb
  ·refine cF (by simp [hb]) ?_
   refine WP.exit ?_
   simp -dsimp
   repeat(first|apply wG|(apply wR;simp -dsimp [hil, h2, h57, h57D, k57, k57D, lp])|refine aI ?_)
   refine af_ dg_ (fun _ => hsa) rfl (fun _ => rfl) (fun _ => by simp [fD]) ?_
   simp -dsimp
   repeat(first|apply wG|(apply wR;simp -dsimp)|refine aI ?_)
   have his : isS p x = decide (aE_ s.1 p.1 = 0) := by
    rw [hx12, lx_ p x1 _ hbf, isS, cc_, if_neg hb]; rfl
   cases he : eqF s.1 p.1 with
   | true =>
    have hz : aE_ s.1 p.1 = 0 := hsz.2 ((eH_ hs.1 hp.1).1 he)
    have hins : insS p x = x := by rw [d3_, his, decide_eq_true hz]; rfl
    rw [wF_, his, hins, decide_eq_true hz]
    refine cT (by simp [he]) ?_
    repeat(first|apply wG|(apply wR;simp -dsimp)|refine aI ?_)
    refine WP.ret (ab_ ?_)
    simp -dsimp
   | false =>
    have hz : ¬ aE_ s.1 p.1 = 0 := fun h => by rw [(eH_ hs.1 hp.1).2 (hsz.1 h)] at he; cases he
    have hins : insS p x = x1 ++ p :: s :: x2 := by rw [hx12, fY_ p x1 _ hbf, insS, if_neg hb, if_neg hz]
    rw [wF_, his, decide_eq_false hz]
    refine cF (by simp [he]) ?_
    refine WP.skip ?_
    simp -dsimp
    repeat(first|apply wG|(apply wR;simp -dsimp [hdrS, htkS, ht, htm, hset, lp])|refine aI ?_)
    have hR : (sgC x1).map AV.d ++ ((sgc p).map AV.d ++ (sgC (s :: x2)).map AV.d) = (sgC (insS p x)).map .d := by
     rw [hins, a7_, List.map_append, show sgC (p :: (s :: x2)) = sgc p ++ sgC (s :: x2) from rfl, List.map_append]
    have hlen : x1.length + (1 + (x.length - x1.length)) = (insS p x).length := by rw [hins, hxl]; first | (simp; done) | (simp; omega)
    rw [hR, hlen]
    refine WP.ret (an_ (Wk.freeze (k := 51) (T := 70) (sz := 61) (n := (insS p x).length) (ds := sgC (insS p x)) (by simp)) ?_)
    simp -dsimp
theorem qJ_ (l : List Sg) (p : Sg) : setS (l ++ [p]) = insS p (setS l) := by rw [setS, List.foldl_append]; rfl
theorem cI_ {l : List Crw} {p : Sg} (hf : fOk p.1) (hT : sgT p) (h : i2_ l p = 0) : m1_ p := by
 obtain ⟨k, op, cl, pa, e, hg⟩ := hT
 rw [mY_ e hg] at h
 refine ⟨hf, ?_⟩
 unfold u2_ at h
 split at h
 ·split at h
  ·assumption
  ·cases h
 ·cases h
abbrev nwS (x : List Sg) (b : Bool) (S : List Sg) (i : Nat) : St := mkS 45 [(1, .d (sgD x b)), (4, .ptr 4 0), (8, .d (sgD S false)), (9, .d (.v (.int .i64 i)))] [(4, .cells 25 [.d (.v (.slice none 0 0))])]
theorem nc_ (l : List Crw) (hl : ∀ c ∈ l, ec_ c) (hn : l.length ≤ 1000000000000) (x : List Sg) (b : Bool) (hx : ∀ p ∈ x, fOk p.1 ∧ sgT p) (hxn : x.length ≤ 900) : Fn0 Tryz.prog 19 [crwD l, sgD x b] (lgR (newR l x)) := by
 have h34 := ev_ l hl hn
 have h60 := el_ l hl hn x b hx (by omega)
 have hxo : ∀ q ∈ x, sgOk q := fun q hq => be_ (hx q hq).1 (hx q hq).2
 rw [newR, qp_]
 refine ac_ (pn := ap_) aa_ Tryz.func19 rfl fun β0 => ?_
 simp only [Tryz.f19]
 repeat(first|apply wG|(apply wR;simp -dsimp [crwD])|refine aI ?_)
 refine ag_ eP_ h34 rfl rfl (And.intro (by simp [crwD]) trivial) ?_
 simp -dsimp
 repeat(first|apply wG|(apply wR;simp -dsimp)|refine aI ?_)
 by_cases hc : crB l = true
 ·rw [if_pos hc]
  refine cF (by simp [hc]) ?_
  refine WP.skip ?_
  simp -dsimp
  repeat(first|apply wG|(apply wR;simp -dsimp [crwD])|refine aI ?_)
  refine ag_ it_ h60 rfl rfl (And.intro (by simp [crwD]) (And.intro (.refl _) trivial)) ?_
  simp -dsimp
  repeat(first|apply wG|(apply wR;simp -dsimp)|refine aI ?_)
  by_cases hv : vfyL l x = 0
  ·rw [if_pos hv]
   have hva : ∀ p ∈ x, m1_ p := fun p hp => cI_ (hx p hp).1 (hx p hp).2 ((jA_ l x).1 hv p hp)
   refine cF (by simp [hv]) ?_
   refine WP.skip ?_
   simp -dsimp
   repeat(first|apply wG|(apply wR;simp -dsimp)|refine aI ?_)
   refine ak_ (fun m Z => ∃ x1 x2, x = x1 ++ x2 ∧ m = x2.length ∧ Z = nwS x b (setS x1) x1.length) x.length (S0 := nwS x b [] 0) ((ae_ [] (S' := mkS 45 [(1, .d (sgD x b)), (4, .ptr 4 0), (8, .row 23), (9, .d (.v (.int .i64 0)))] [(4, .cells 25 [.d (.v (.slice none 0 0))]), (23, .row 70 61 0 [])]) (by simp) (by simp)).trans ((Wk.freeze (k := 23) (T := 70) (sz := 61) (n := 0) (ds := []) (by simp)).trans (ae_ [] (by simp [sgC]) (by simp)))) ⟨[], x, rfl, rfl, rfl⟩ ?_
   rintro _ _ ⟨x1, x2, hx12, rfl, rfl⟩
   have hle := hi_ x1 []
   rw [show x1.foldl (fun a s => insS s a) [] = setS x1 from rfl] at hle
   simp only [List.length_nil, Nat.zero_add] at hle
   have hxl : x.length = x1.length + x2.length := by rw [hx12]; simp
   simp -dsimp
   repeat(first|apply wG|(apply wR;simp -dsimp)|refine aI ?_)
   cases x2 with
   | nil =>
    simp only [List.append_nil] at hx12
    subst hx12
    refine cF (by simp) ?_
    refine WP.exit ?_
    simp -dsimp
    repeat(first|apply wG|(apply wR;simp -dsimp)|refine aI ?_)
    refine cF (by simp; omega) ?_
    refine WP.skip ?_
    simp -dsimp
    repeat(first|apply wG|(apply wR;simp -dsimp)|refine aI ?_)
    refine WP.ret (ab_ ?_)
    simp -dsimp [lgR]
   | cons p x2 =>
    have hlt : x1.length < x.length := by simp at hxl; omega
    have hp := hx p (by rw [hx12]; simp)
    have hpo := be_ hp.1 hp.2
    have hat := cL_ hlt hxo
    have hpe : x[x1.length] = p := by simp [hx12]
    rw [hpe] at hat
    have lc := sgC_len hxo
    have lp := az_ hpo
    have tp := e0_ hpo
    have tm := bV_ hpo
    have hm := (qK_ x1 [] (fun s hs => hva s (by rw [hx12]; simp [hs])) (fun s hs => by cases hs) List.Pairwise.nil).2.1
    rw [show x1.foldl (fun a s => insS s a) [] = setS x1 from rfl] at hm
    have hmx : ∀ s ∈ setS x1, s ∈ x := fun s hs => by
     rcases hm s hs with h | h
     ·cases h
     ·rw [hx12]; simp [h]
    have hw := qn_ (setS x1) p (fun s hs => hxo s (hmx s hs)) hpo (fun s hs => hva s (hmx s hs)) (hva p (by rw [hx12]; simp)) (by omega)
    have hsn := qJ_ x1 p
    have e1 : IntKind.i64.wrap ((x1.length : Int) + 1) = ((x1 ++ [p]).length : Nat) := by rw [IntWalk.i64_in _ (by omega)]; simp
    rw [wF_, ← hsn] at hw
    generalize setS x1 = S at *
    generalize isS p S = c at *
    refine cT (by simp; omega) ?_
    refine WP.skip ?_
    simp -dsimp
    repeat(first|apply wG|(apply wR;simp -dsimp [hat, lp, tp, tm])|refine aI ?_)
    refine ag_ is_ hw rfl rfl (And.intro (.refl _) (And.intro (by simp [tm, tp, sgV]; try exact ai_ _) trivial)) ?_
    simp -dsimp
    repeat(first|apply wG|(apply wR;simp -dsimp)|refine aI ?_)
    refine ah_ (nwS x b (setS (x1 ++ [p])) (x1 ++ [p]).length) (ae_ [] (by simp [e1]) (by simp)) x2.length (by simp) ⟨x1 ++ [p], x2, by simp [hx12], rfl, rfl⟩
  ·rw [if_neg hv]
   refine cT (by simp [hv]) ?_
   repeat(first|apply wG|(apply wR;simp -dsimp)|refine aI ?_)
   refine WP.ret (ab_ ?_)
   simp -dsimp [lgR, show sgC [] = [] from rfl]
 ·rw [if_neg hc]
  refine cT (by simp [hc]) ?_
  repeat(first|apply wG|(apply wR;simp -dsimp)|refine aI ?_)
  refine WP.ret (ab_ ?_)
  simp -dsimp [hc, lgR, show sgC [] = [] from rfl]
abbrev sfS (x : List Sg) (i : Nat) : St := mkS 29 [(0, .d (sgD x false)), (1, .d (sgD x false)), (5, .d (.v (.int .i64 i)))] []
theorem k6_ (x : List Sg) (hxo : ∀ q ∈ x, sgOk q) (hxn : x.length ≤ 1000000000000) : Fn0 Tryz.prog 62 [sgD x false, sgD x false] (.v (.bool true)) := by
 refine ac_ (pn := ap_) aa_ Tryz.func62 rfl fun β0 => ?_
 simp only [Tryz.f62]
 repeat(first|apply wG|(apply wR;simp -dsimp)|refine aI ?_)
 refine cF (by simp) ?_
 refine WP.skip ?_
 simp -dsimp
 repeat(first|apply wG|(apply wR;simp -dsimp)|refine aI ?_)
 refine ak_ (fun m S => ∃ i : Nat, m = x.length - i ∧ i ≤ x.length ∧ S = sfS x i) x.length (S0 := sfS x 0) (ae_ [] (by simp) (by simp)) ⟨0, rfl, by omega, rfl⟩ ?_
 rintro _ _ ⟨i, rfl, hi, rfl⟩
 simp -dsimp
 repeat(first|apply wG|(apply wR;simp -dsimp)|refine aI ?_)
 by_cases hil : i < x.length
 ·have a1 := cL_ hil hxo
  have o1 := hxo _ (List.getElem_mem hil)
  generalize x[i] = q at *
  have lc := sgC_len hxo
  have lq := az_ o1
  have q57 := e1_ q
  have q57D := hF_ q
  have e1 : IntKind.i64.wrap ((i : Int) + 1) = ((i + 1 : Nat) : Int) := by rw [IntWalk.i64_in _ (by omega)]; omega
  have hsa := d1_ q.1 q.1 o1.1 o1.1
  rw [(eH_ o1.1 o1.1).2 rfl] at hsa
  refine cT (by simp; omega) ?_
  refine WP.skip ?_
  simp -dsimp
  repeat(first|apply wG|(apply wR;simp -dsimp [a1, q57, q57D, lq, hil])|refine aI ?_)
  refine ag_ dg_ hsa rfl rfl (And.intro (by simp [fD]; try exact ai_ _) (And.intro (by simp [fD]; try exact ai_ _) trivial)) ?_
  simp -dsimp
  repeat(first|apply wG|(apply wR;simp -dsimp)|refine aI ?_)
  refine cF (by simp) ?_
  refine WP.skip ?_
  simp -dsimp
  repeat(first|apply wG|(apply wR;simp -dsimp)|refine aI ?_)
  refine ah_ (sfS x (i + 1)) (ae_ [] (by simp [e1]) (by simp)) (x.length - (i + 1)) (by omega) ⟨i + 1, rfl, by omega, rfl⟩
 ·refine cF (by simp; omega) ?_
  refine WP.exit ?_
  simp -dsimp
  repeat(first|apply wG|(apply wR;simp -dsimp)|refine aI ?_)
  refine WP.ret (ab_ ?_)
  simp -dsimp
abbrev slS (x : List Sg) (i : Nat) : St := mkS 31 [(2, .ptr 2 0), (3, .ptr 3 0), (5, .d (.v (.int .i64 i)))] [(2, .cells 25 [.d (sgD x false)]), (3, .cells 25 [.d (sgD x false)])]
theorem k5_ (x : List Sg) (hx : ∀ p ∈ x, fOk p.1 ∧ sgT p) (hxn : x.length ≤ 1000000000000) : Fn0 Tryz.prog 20 [lgD x false, lgD x false] (.v (.bool true)) := by
 have hxo : ∀ q ∈ x, sgOk q := fun q hq => be_ (hx q hq).1 (hx q hq).2
 have hsf := k6_ x hxo hxn
 refine ac_ (pn := ap_) aa_ Tryz.func20 rfl fun β0 => ?_
 simp only [Tryz.f20]
 repeat(first|apply wG|(apply wR;simp -dsimp)|refine aI ?_)
 refine ag_ nX_ hsf rfl rfl (And.intro (.refl _) (And.intro (.refl _) trivial)) ?_
 simp -dsimp
 repeat(first|apply wG|(apply wR;simp -dsimp)|refine aI ?_)
 refine cF (by simp) ?_
 refine WP.skip ?_
 simp -dsimp
 repeat(first|apply wG|(apply wR;simp -dsimp)|refine aI ?_)
 refine ak_ (fun m S => ∃ i : Nat, m = x.length - i ∧ i ≤ x.length ∧ S = slS x i) x.length (S0 := slS x 0) (ae_ [] (by simp) (by simp)) ⟨0, rfl, by omega, rfl⟩ ?_
 rintro _ _ ⟨i, rfl, hi, rfl⟩
 simp -dsimp
 repeat(first|apply wG|(apply wR;simp -dsimp)|refine aI ?_)
 by_cases hil : i < x.length
 ·have a1 := cL_ hil hxo
  have o1 := hxo _ (List.getElem_mem hil)
  obtain ⟨r, hr, hrt⟩ := pv_ x[i] x[i] o1 o1 (hx _ (List.getElem_mem hil)).2 (hx _ (List.getElem_mem hil)).2
  rw [hrt rfl] at hr
  clear hrt
  generalize x[i] = q at *
  have lc := sgC_len hxo
  have lq := az_ o1
  have tq := e0_ o1
  have tm := bV_ o1
  have e1 : IntKind.i64.wrap ((i : Int) + 1) = ((i + 1 : Nat) : Int) := by rw [IntWalk.i64_in _ (by omega)]; omega
  refine cT (by simp; omega) ?_
  refine WP.skip ?_
  simp -dsimp
  repeat(first|apply wG|(apply wR;simp -dsimp [a1, tq, tm, lq, hil])|refine aI ?_)
  refine ag_ n1_ hr rfl rfl (And.intro (by simp [tm, tq, sgV]; try exact ai_ _) (And.intro (by simp [tm, tq, sgV]; try exact ai_ _) trivial)) ?_
  simp -dsimp
  repeat(first|apply wG|(apply wR;simp -dsimp)|refine aI ?_)
  refine cF (by simp) ?_
  refine WP.skip ?_
  simp -dsimp
  repeat(first|apply wG|(apply wR;simp -dsimp)|refine aI ?_)
  refine ah_ (slS x (i + 1)) (ae_ [] (by simp [e1]) (by simp)) (x.length - (i + 1)) (by omega) ⟨i + 1, rfl, by omega, rfl⟩
 ·refine cF (by simp; omega) ?_
  refine WP.exit ?_
  simp -dsimp
  repeat(first|apply wG|(apply wR;simp -dsimp)|refine aI ?_)
  refine WP.ret (ab_ ?_)
  simp -dsimp
theorem jV_ (l : List Crw) (hl : ∀ c ∈ l, ec_ c) (hn : l.length ≤ 1000000000000) (a b : List Sg) (ha : ∀ p ∈ a, fOk p.1 ∧ sgT p) (hb : ∀ p ∈ b, fOk p.1 ∧ sgT p) (hab : a.length + b.length ≤ 900) : Fn0 Tryz.prog 25 [crwD l, lgD a false, lgD b false] (lgR (mrgR l a b)) := by
 have hca := c2_ l hl hn a false ha (by omega)
 have hcb := c2_ l hl hn b false hb (by omega)
 have oa : ∀ p ∈ a, sgOk p := fun p hp => be_ (ha p hp).1 (ha p hp).2
 have ob : ∀ p ∈ b, sgOk p := fun p hp => be_ (hb p hp).1 (hb p hp).2
 have la := sgC_len oa
 have lb := sgC_len ob
 have hne := nc_ l hl hn (a ++ b) false (fun p hp => by
  rcases List.mem_append.1 hp with h | h
  ·exact ha p h
  ·exact hb p h) (by rw [List.length_append]; exact hab)
 have hne2 : Fun Tryz.prog 19 [.d (crwD l), .row 1000] [(1000, sgB (a ++ b))] (.d (lgR (newR l (a ++ b)))) [] fun _ => False := a1_ 1000 (T := 70) (cs := sgC (a ++ b)) (args' := [.d (crwD l), .row 1000]) (bi' := [(1000, sgB (a ++ b))]) hne rfl rfl trivial
 have hap : sgC (a ++ b) = sgC a ++ sgC b := a7_ a b
 refine ac_ (pn := ap_) aa_ Tryz.func25 rfl fun β0 => ?_
 simp only [Tryz.f25]
 repeat(first|apply wG|(apply wR;simp -dsimp [crwD])|refine aI ?_)
 refine ag_ eQ_ hca rfl rfl (And.intro (by simp [crwD]) (And.intro (ai_ [sgD a false]) trivial)) ?_
 simp -dsimp
 repeat(first|apply wG|(apply wR;simp -dsimp)|refine aI ?_)
 rw [mrgR]
 by_cases h1 : gh_ l a = 0
 ·rw [if_pos h1]
  refine cF (by simp [h1]) ?_
  refine WP.skip ?_
  simp -dsimp
  repeat(first|apply wG|(apply wR;simp -dsimp [crwD])|refine aI ?_)
  refine ag_ eQ_ hcb rfl rfl (And.intro (by simp [crwD]) (And.intro (ai_ [sgD b false]) trivial)) ?_
  simp -dsimp
  repeat(first|apply wG|(apply wR;simp -dsimp)|refine aI ?_)
  by_cases h2 : gh_ l b = 0
  ·rw [if_pos h2]
   generalize newR l (a ++ b) = R at *
   refine cF (by simp [h2]) ?_
   refine WP.skip ?_
   simp -dsimp
   repeat(first|apply wG|(apply wR;simp -dsimp [la, lb])|refine aI ?_)
   refine vcStop.call n5_ (hne2) (rl [(1000, 31)]) rfl rfl (by simp [crwD, hap, BoxLeq]) (aj_ (by simp [crwD, hap, BoxLeq]) rfl (by first | rfl | (simp [crwD, hap, BoxLeq]; done)) (by simp [crwD, hap, BoxLeq]) (by simp [crwD, hap, BoxLeq])) (fun _ h => h.elim) (fun ⟨_, h⟩ => h.elim) (fun ⟨_, h⟩ => h.elim) (by simp [crwD, hap, BoxLeq]) ?_
   simp -dsimp [lgR]
   repeat(first|apply wG|(apply wR;simp -dsimp)|refine aI ?_)
   refine WP.ret (ab_ ?_)
   simp -dsimp [lgR]
  ·rw [if_neg h2]
   refine cT (by simp [h2]) ?_
   repeat(first|apply wG|(apply wR;simp -dsimp)|refine aI ?_)
   refine WP.ret (ab_ ?_)
   simp -dsimp [lgR, show sgC [] = [] from rfl]
 ·rw [if_neg h1]
  refine cT (by simp [h1]) ?_
  repeat(first|apply wG|(apply wR;simp -dsimp)|refine aI ?_)
  refine WP.ret (ab_ ?_)
  simp -dsimp [lgR, show sgC [] = [] from rfl]
def dI_ (l : List Crw) (x : List Sg) (p : Sg) : D :=
 if gh_ l x = 0 then (if i2_ l p = 0 then .tup [lgD (insS p x) false, .v (.bool (!isS p x)), .v (.int .i64 0)] else .tup [lgD [] false, .v (.bool false), .v (.int .i64 (i2_ l p))]) else .tup [lgD [] false, .v (.bool false), .v (.int .i64 (gh_ l x))]
theorem nh_ (l : List Crw) (hl : ∀ c ∈ l, ec_ c) (hn : l.length ≤ 1000000000000) (x : List Sg) (p : Sg) (hx : ∀ p ∈ x, fOk p.1 ∧ sgT p) (hp : fOk p.1 ∧ sgT p) (hxn : x.length ≤ 900) : Fn0 Tryz.prog 24 [crwD l, lgD x false, sgV p] (dI_ l x p) := by
 have hca := c2_ l hl hn x false hx (by omega)
 have hve := e4_ l hl hn p hp.1 hp.2
 have hxo : ∀ q ∈ x, sgOk q := fun q hq => be_ (hx q hq).1 (hx q hq).2
 have hpo := be_ hp.1 hp.2
 have lp := az_ hpo
 have tp := e0_ hpo
 have tm := bV_ hpo
 rw [dI_]
 refine ac_ (pn := ap_) aa_ Tryz.func24 rfl fun β0 => ?_
 simp only [Tryz.f24]
 simp only [sgV]
 repeat(first|apply wG|(apply wR;simp -dsimp [crwD, lp])|refine aI ?_)
 refine And.intro (sgc_oneD hpo) ?_
 repeat(first|apply wG|(apply wR;simp -dsimp [crwD, lp])|refine aI ?_)
 refine ag_ eQ_ hca rfl rfl (And.intro (by simp [crwD]) (And.intro (ai_ [sgD x false]) trivial)) ?_
 simp -dsimp
 repeat(first|apply wG|(apply wR;simp -dsimp)|refine aI ?_)
 by_cases h1 : gh_ l x = 0
 ·rw [if_pos h1]
  refine cF (by simp [h1]) ?_
  refine WP.skip ?_
  simp -dsimp
  repeat(first|apply wG|(apply wR;simp -dsimp [crwD, lp, tp, tm])|refine aI ?_)
  refine ag_ iv_ hve rfl rfl (And.intro (by simp [crwD]) (And.intro (by simp [tm, tp, sgV]; try exact ai_ _) trivial)) ?_
  simp -dsimp
  repeat(first|apply wG|(apply wR;simp -dsimp)|refine aI ?_)
  by_cases h2 : i2_ l p = 0
  ·rw [if_pos h2]
   have hva : ∀ q ∈ x, m1_ q := fun q hq => cI_ (hx q hq).1 (hx q hq).2 ((fk_ h1).2.2.1 q hq)
   have hw := qn_ x p hxo hpo hva (cI_ hp.1 hp.2 h2) (by omega)
   have hil := kd_ p x
   rw [wF_] at hw
   refine cF (by simp [h2]) ?_
   refine WP.skip ?_
   simp -dsimp
   repeat(first|apply wG|(apply wR;simp -dsimp [lp, tp, tm])|refine aI ?_)
   refine ag_ is_ hw rfl rfl (And.intro (.refl _) (And.intro (by simp [tm, tp, sgV]; try exact ai_ _) trivial)) ?_
   simp -dsimp
   repeat(first|apply wG|(apply wR;simp -dsimp)|refine aI ?_)
   refine cF (by simp; omega) ?_
   refine WP.skip ?_
   simp -dsimp
   repeat(first|apply wG|(apply wR;simp -dsimp)|refine aI ?_)
   refine WP.ret (ab_ ?_)
   simp -dsimp
  ·rw [if_neg h2]
   refine cT (by simp [h2]) ?_
   repeat(first|apply wG|(apply wR;simp -dsimp)|refine aI ?_)
   refine WP.ret (ab_ ?_)
   simp -dsimp [show sgC [] = [] from rfl]
 ·rw [if_neg h1]
  refine cT (by simp [h1]) ?_
  repeat(first|apply wG|(apply wR;simp -dsimp)|refine aI ?_)
  refine WP.ret (ab_ ?_)
  simp -dsimp [show sgC [] = [] from rfl]
theorem o9_ : ∀ {l : List Sg}, nJ_ l = true → wE_ l
 | [], _ => List.Pairwise.nil
 | [_], _ => List.pairwise_singleton _ _
 | a :: b :: l, h => by
  rw [nJ_, Bool.and_eq_true, decide_eq_true_eq] at h
  have ih := o9_ h.2
  obtain ⟨h1, h2⟩ := List.pairwise_cons.1 ih
  refine List.pairwise_cons.2 ⟨fun t ht => ?_, ih⟩
  rcases List.mem_cons.1 ht with rfl | ht
  ·exact h.1
  ·exact bL_ h.1 (h1 t ht)
abbrev bsS2 (x : List Sg) (b : Bool) (s : Sg) (i j : Nat) : St := mkS 49 [(0, .d (sgD x b)), (2, .d ha_), (4, .ptr 4 0), (8, .d (.v (.int .i64 x.length))), (9, .d (.v (.int .i64 i))), (10, .d (.v (.int .i64 j)))] [(4, .cells 70 ((sgc s).map .d))]
theorem fO_ (x : List Sg) (b : Bool) (s : Sg) (hl : x.length ≤ 1000) (hx : ∀ p ∈ x, sgOk p) (hs : sgOk s) (ha : wE_ x) : Fn0 Tryz.prog 64 [sgD x b, sgV s, ha_] (.tup [.v (.int .i64 (posS s x)), .v (.bool (isS s x))]) := by
 have l2 := az_ hs
 have hp := jZ_ s x
 refine ac_ (pn := ap_) aa_ Tryz.func64 rfl fun β0 => ?_
 simp only [Tryz.f64]
 simp only [sgV]
 repeat(first|apply wG|(apply wR;simp -dsimp [l2])|refine aI ?_)
 refine And.intro (sgc_oneD hs) ?_
 repeat(first|apply wG|(apply wR;simp -dsimp [l2])|refine aI ?_)
 refine ak_ (fun n S => ∃ i j, n = j - i ∧ i ≤ posS s x ∧ posS s x ≤ j ∧ j ≤ x.length ∧ S = bsS2 x b s i j) x.length (S0 := bsS2 x b s 0 x.length) (ae_ [] (by simp) (by simp)) ⟨0, x.length, rfl, by omega, hp, by omega, rfl⟩ ?_
 rintro _ _ ⟨i, j, rfl, hi, hj, hjl, rfl⟩
 simp -dsimp
 repeat(first|apply wG|(apply wR;simp -dsimp)|refine aI ?_)
 by_cases hij : i < j
 ·refine cT (by simp; omega) ?_
  refine WP.skip ?_
  obtain ⟨h, hh⟩ : ∃ h, h = (i + j) / 2 := ⟨_, rfl⟩
  have hhx : h < x.length := by omega
  have e0 : IntKind.i64.wrap ((IntKind.u64.wrap (IntKind.i64.wrap ((i : Int) + j))).fdiv (2 ^ shN IntKind.u64 1)) = (h : Int) := by
   rw [IntWalk.i64_in ((i : Int) + j) (by omega), IntWalk.u64_in _ (by omega), show shN IntKind.u64 1 = 1 from rfl, Int.fdiv_eq_ediv_of_nonneg _ (by decide), IntWalk.i64_in _ (by omega)]
   omega
  have e1 : IntKind.i64.wrap ((h : Int) + 1) = ((h + 1 : Nat) : Int) := by rw [IntWalk.i64_in _ (by omega)]; omega
  have hat := cL_ hhx hx
  have hok := hx x[h] (List.getElem_mem hhx)
  have lx := az_ hok
  have lc := sgC_len hx
  have hmin : 61 ≤ (sgC x).length - h * 61 := by omega
  simp -dsimp
  have ht := e0_ hok
  have hts := bV_ hs
  repeat(first|apply wG|(apply wR;simp -dsimp [e0, hat, l2, ht, hts])|refine aI ?_)
  refine ag_ cn_ (h2_ x[h] s hok hs) rfl rfl (by simp [sgV]) ?_
  simp -dsimp
  repeat(first|apply wG|(apply wR;simp -dsimp)|refine aI ?_)
  by_cases hlt : aE_ x[h].1 s.1 < 0
  ·have hps : h < posS s x := by
    rcases Nat.lt_or_ge h (posS s x) with k | k
    ·exact k
    ·exact absurd hlt (q7_ s ha h hhx k)
   refine cT (by simp [hlt]) ?_
   repeat(first|apply wG|(apply wR;simp -dsimp)|refine aI ?_)
   refine ah_ (bsS2 x b s (h + 1) j) (ae_ [] (by simp [e1]) (by simp)) (j - (h + 1)) (by omega) ⟨h + 1, j, rfl, by omega, by omega, by omega, rfl⟩
  ·have hps : posS s x ≤ h := by
    rcases Nat.lt_or_ge h (posS s x) with k | k
    ·exact absurd (q6_ s x h hhx k) hlt
    ·exact k
   refine cF (by simp [hlt]) ?_
   repeat(first|apply wG|(apply wR;simp -dsimp)|refine aI ?_)
   refine ah_ (bsS2 x b s i h) (ae_ [] (by simp) (by simp)) (h - i) (by omega) ⟨i, h, rfl, by omega, by omega, by omega, rfl⟩
 ·have hie : i = posS s x := by omega
  have lc := sgC_len hx
  refine cF (by simp; omega) ?_
  refine WP.exit ?_
  simp -dsimp
  by_cases hil : i < x.length
  ·have hat := cL_ hil hx
   have hok := hx x[i] (List.getElem_mem hil)
   have lx := az_ hok
   have ht := e0_ hok
   have hts := bV_ hs
   have hiS : isS s x = decide (aE_ x[i].1 s.1 = 0) := by
    unfold isS
    rw [← hie, List.getElem?_eq_getElem hil]
   repeat(first|apply wG|(apply wR;simp -dsimp [hat, l2, hil, ht, hts])|refine aI ?_)
   refine aP_ cn_ (fun _ => h2_ x[i] s hok hs) rfl (fun _ => rfl) (fun _ => by simp [sgV]) ?_
   simp -dsimp
   repeat(first|apply wG|(apply wR;simp -dsimp)|refine aI ?_)
   refine WP.ret (ab_ ?_)
   simp -dsimp [hiS, hie]
  ·have hiS : isS s x = false := by
    unfold isS
    rw [← hie, List.getElem?_eq_none (by omega)]
   repeat(first|apply wG|(apply wR;simp -dsimp [hil])|refine aI ?_)
   refine vcStopG.skip (.d (.v (.int .i64 0))) ?_
   simp -dsimp
   repeat(first|apply wG|(apply wR;simp -dsimp)|refine aI ?_)
   refine WP.ret (ab_ ?_)
   simp -dsimp [hiS, hie]
set_option maxHeartbeats 2000000 in
theorem rt_ (l : List Crw) (hl : ∀ c ∈ l, ec_ c) (hn : l.length ≤ 1000000000000) (x : List Sg) (p : Sg) (hx : ∀ p ∈ x, fOk p.1 ∧ sgT p) (hp : fOk p.1 ∧ sgT p) (hx0 : 0 < x.length) (hxn : x.length ≤ 900) : Fn0 Tryz.prog 23 [crwD l, .agg [sgD x false], sgV p] (dI_ l x p) := by
 have hca := bj_ l hl hn x false hx (by omega)
 have hve := bZ_ l hl hn p hp.1 hp.2
 have hxo : ∀ q ∈ x, sgOk q := fun q hq => be_ (hx q hq).1 (hx q hq).2
 have hpo := be_ hp.1 hp.2
 have lp := az_ hpo
 have tp := e0_ hpo
 have tm := bV_ hpo
 rw [dI_]
 refine ac_ (pn := ap_) aa_ Tryz.func23 rfl fun β0 => ?_
 simp only [Tryz.f23]
 simp only [sgV]
 repeat(first|apply wG|(apply wR;simp -dsimp [crwD, lp])|refine aI ?_)
 refine And.intro (sgc_oneD hpo) ?_
 repeat(first|apply wG|(apply wR;simp -dsimp [crwD, lp])|refine aI ?_)
 refine ag_ cr_ hca rfl rfl (And.intro (by simp [crwD]) (And.intro (ai_ [sgD x false]) trivial)) ?_
 simp -dsimp
 repeat(first|apply wG|(apply wR;simp -dsimp)|refine aI ?_)
 by_cases h1 : gh_ l x = 0
 ·rw [if_pos h1]
  refine cF (by simp [h1]) ?_
  refine WP.skip ?_
  simp -dsimp
  repeat(first|apply wG|(apply wR;simp -dsimp [crwD, lp, tp, tm])|refine aI ?_)
  refine ag_ cq_ hve rfl rfl (And.intro (by simp [crwD]) (And.intro (by simp [tm, tp, sgV]; try exact ai_ _) trivial)) ?_
  simp -dsimp
  repeat(first|apply wG|(apply wR;simp -dsimp)|refine aI ?_)
  by_cases h2 : i2_ l p = 0
  ·rw [if_pos h2]
   have hva : ∀ q ∈ x, m1_ q := fun q hq => cI_ (hx q hq).1 (hx q hq).2 ((fk_ h1).2.2.1 q hq)
   have hpo2 := d3_ p x
   have hpl := jZ_ p x
   have hse := fO_ x false p (by omega) hxo hpo (o9_ (fk_ h1).2.2.2)
   refine cF (by simp [h2]) ?_
   refine WP.skip ?_
   simp -dsimp
   repeat(first|apply wG|(apply wR;simp -dsimp [lp, tp, tm])|refine aI ?_)
   refine ag_ eN_ hse rfl rfl (And.intro (.refl _) (And.intro (by simp [tm, tp, sgV]; try exact ai_ _) (And.intro (.refl _) trivial))) ?_
   simp -dsimp
   repeat(first|apply wG|(apply wR;simp -dsimp)|refine aI ?_)
   cases hi : isS p x with
   | true =>
    rw [if_pos hi] at hpo2
    rw [hpo2]
    refine cT (by simp [hi]) ?_
    repeat(first|apply wG|(apply wR;simp -dsimp)|refine aI ?_)
    refine WP.ret (ab_ ?_)
    simp -dsimp
   | false =>
    rw [if_neg (by simp [hi])] at hpo2
    have e1 : sgC (insS p x) = h6_ (posS p x) (sgC x) (sgc p) := by rw [hpo2, vj_ hxo hpl]
    have e2 : (insS p x).length = x.length + 1 := by rw [hpo2]; simp; omega
    have hR : lgD (insS p x) false = .agg [.sl 61 (h6_ (posS p x) (sgC x) (sgc p)) (x.length + 1) false] := by rw [lgD, sgD, e1, e2]
    rw [hR]
    refine cF (by simp [hi]) ?_
    repeat(first|apply wG|(apply wR;simp -dsimp)|refine aI ?_)
    refine cF (by simp; omega) ?_
    refine WP.skip ?_
    simp -dsimp
    repeat(first|apply wG|(apply wR;simp -dsimp [lp, tp, tm])|refine aI ?_)
    refine vcStop.call bF_ (sh_ x false hx0 (by omega) hxo) (rl [(0, 600)]) rfl rfl (by simp [BoxLeq]) (aj_ (by simp [BoxLeq]) rfl (by first | rfl | (simp [BoxLeq]; done)) (by simp [BoxLeq]) (by simp [BoxLeq])) (fun _ h => h.elim) (fun ⟨_, h⟩ => h.elim) (fun ⟨_, h⟩ => h.elim) (by simp [BoxLeq]) ?_
    simp -dsimp [lp, tp, tm]
    repeat(first|apply wG|(apply wR;simp -dsimp [lp, tp, tm])|refine aI ?_)
    refine And.intro (sgc_oneD hpo) ?_
    repeat(first|apply wG|(apply wR;simp -dsimp [lp, tp, tm])|refine aI ?_)
    refine vcStop.call eM_ (fX_ x.length (posS p x) (sgC x) (sgc p) (sgC_len hxo) lp hpl (by omega)) (rl [(1000, 600), (1001, 48), (0, 700)]) rfl rfl (by simp [BoxLeq]) (aj_ (by simp [BoxLeq]) rfl (by first | rfl | (simp [BoxLeq]; done)) (by simp [BoxLeq]) (by simp [BoxLeq])) (fun _ h => h.elim) (fun ⟨_, h⟩ => h.elim) (fun ⟨_, h⟩ => h.elim) (by simp [BoxLeq]) ?_
    simp -dsimp
    repeat(first|apply wG|(apply wR;simp -dsimp)|refine aI ?_)
    refine WP.ret (an_ (Wk.freeze (k := 700) (T := 70) (sz := 61) (n := x.length + 1) (ds := h6_ (posS p x) (sgC x) (sgc p)) (by simp [show sgC [] = [] from rfl])) ?_)
    simp -dsimp
  ·rw [if_neg h2]
   refine cT (by simp [h2]) ?_
   repeat(first|apply wG|(apply wR;simp -dsimp)|refine aI ?_)
   refine WP.ret (ab_ ?_)
   simp -dsimp [show sgC [] = [] from rfl]
 ·rw [if_neg h1]
  refine cT (by simp [h1]) ?_
  repeat(first|apply wG|(apply wR;simp -dsimp)|refine aI ?_)
  refine WP.ret (ab_ ?_)
  simp -dsimp [show sgC [] = [] from rfl]
set_option maxHeartbeats 2000000 in
theorem tz_ (l : List Crw) (hl : ∀ c ∈ l, ec_ c) (hn : l.length ≤ 1000000000000) (p : Sg) (hp : fOk p.1 ∧ sgT p) : Fn0 Tryz.prog 23 [crwD l, .agg [.v (.slice none 0 0)], sgV p] (dI_ l [] p) := by
 have hx : ∀ q ∈ ([] : List Sg), fOk q.1 ∧ sgT q := fun q hq => by cases hq
 have hca := bj_ l hl hn [] false hx (by simp)
 have hve := bZ_ l hl hn p hp.1 hp.2
 have hxo : ∀ q ∈ [], sgOk q := fun q hq => be_ (hx q hq).1 (hx q hq).2
 have hpo := be_ hp.1 hp.2
 have lp := az_ hpo
 have tp := e0_ hpo
 have tm := bV_ hpo
 rw [dI_]
 refine ac_ (pn := ap_) aa_ Tryz.func23 rfl fun β0 => ?_
 simp only [Tryz.f23]
 simp only [sgV]
 repeat(first|apply wG|(apply wR;simp -dsimp [crwD, lp])|refine aI ?_)
 refine And.intro (sgc_oneD hpo) ?_
 repeat(first|apply wG|(apply wR;simp -dsimp [crwD, lp])|refine aI ?_)
 refine ag_ cr_ hca rfl rfl (And.intro (by simp [crwD]) (And.intro ((Leq.agg (l := [.d (.v (.slice none 0 0))]) (l' := [.d (sgD [] false)]) ⟨Leq.nil 61, trivial⟩).trans (ai_ [sgD [] false])) trivial)) ?_
 simp -dsimp
 repeat(first|apply wG|(apply wR;simp -dsimp)|refine aI ?_)
 by_cases h1 : gh_ l [] = 0
 ·rw [if_pos h1]
  refine cF (by simp [h1]) ?_
  refine WP.skip ?_
  simp -dsimp
  repeat(first|apply wG|(apply wR;simp -dsimp [crwD, lp, tp, tm])|refine aI ?_)
  refine ag_ cq_ hve rfl rfl (And.intro (by simp [crwD]) (And.intro (by simp [tm, tp, sgV]; try exact ai_ _) trivial)) ?_
  simp -dsimp
  repeat(first|apply wG|(apply wR;simp -dsimp)|refine aI ?_)
  by_cases h2 : i2_ l p = 0
  ·rw [if_pos h2]
   have hva : ∀ q ∈ [], m1_ q := fun q hq => cI_ (hx q hq).1 (hx q hq).2 ((fk_ h1).2.2.1 q hq)
   have hpo2 := d3_ p []
   have hpl := jZ_ p []
   have hse := fO_ [] false p (by simp) hxo hpo (List.Pairwise.nil)
   rw [show posS p [] = 0 from rfl] at hse
   refine cF (by simp [h2]) ?_
   refine WP.skip ?_
   simp -dsimp
   repeat(first|apply wG|(apply wR;simp -dsimp [lp, tp, tm])|refine aI ?_)
   refine ag_ eN_ hse rfl rfl (And.intro (Leq.nil 61) (And.intro (by simp [tm, tp, sgV]; try exact ai_ _) (And.intro (.refl _) trivial))) ?_
   simp -dsimp
   repeat(first|apply wG|(apply wR;simp -dsimp)|refine aI ?_)
   have hi : isS p [] = false := rfl
   have e0 : posS p [] = 0 := rfl
   have e1 : sgC (insS p []) = h6_ 0 (sgC []) (sgc p) := by rw [show insS p [] = [p] from rfl]; simp [h6_, sgC, sgc]
   have e2 : (insS p []).length = 0 + 1 := rfl
   have hR : lgD (insS p []) false = .agg [.sl 61 (h6_ 0 (sgC []) (sgc p)) (0 + 1) false] := by rw [lgD, sgD, e1, e2]
   rw [hR]
   try rw [hi]
   refine cF (by simp [hi]) ?_
   repeat(first|apply wG|(apply wR;simp -dsimp)|refine aI ?_)
   refine cF (by simp) ?_
   refine WP.skip ?_
   simp -dsimp
   repeat(first|apply wG|(apply wR;simp -dsimp [lp, tp, tm])|refine aI ?_)
   refine ad_ bF_ wg_ rfl rfl (by simp) ?_
   simp -dsimp [lp, tp, tm]
   repeat(first|apply wG|(apply wR;simp -dsimp [lp, tp, tm])|refine aI ?_)
   refine And.intro (sgc_oneD hpo) ?_
   repeat(first|apply wG|(apply wR;simp -dsimp [lp, tp, tm])|refine aI ?_)
   refine vcStop.call eM_ (ee_ (fX_ 0 0 [] (sgc p) rfl lp (by omega) (by omega)) rfl (by simp) (by simp) rfl) (rl [(1001, 48), (0, 700)]) rfl rfl (by simp [BoxLeq]) (aj_ (by simp [BoxLeq]) rfl (by first | rfl | (simp [BoxLeq]; done)) (by simp [BoxLeq]) (by simp [BoxLeq])) (fun _ h => h.elim) (fun ⟨_, h⟩ => h.elim) (fun ⟨_, h⟩ => h.elim) (by simp [BoxLeq]) ?_
   simp -dsimp
   repeat(first|apply wG|(apply wR;simp -dsimp)|refine aI ?_)
   refine WP.ret (an_ (Wk.freeze (k := 700) (T := 70) (sz := 61) (n := 0 + 1) (ds := h6_ (0) (sgC []) (sgc p)) (by simp [show sgC [] = [] from rfl])) ?_)
   simp -dsimp
  ·rw [if_neg h2]
   refine cT (by simp [h2]) ?_
   repeat(first|apply wG|(apply wR;simp -dsimp)|refine aI ?_)
   refine WP.ret (ab_ ?_)
   simp -dsimp [show sgC [] = [] from rfl]
 ·rw [if_neg h1]
  refine cT (by simp [h1]) ?_
  repeat(first|apply wG|(apply wR;simp -dsimp)|refine aI ?_)
  refine WP.ret (ab_ ?_)
  simp -dsimp [show sgC [] = [] from rfl]
set_option maxHeartbeats 2000000 in
theorem pH_ (l : List Crw) (hl : ∀ c ∈ l, ec_ c) (hn : l.length ≤ 1000000000000) (ad : Addr) (cap : Nat) (hcap : cap ≤ maxLen) (p : Sg) (hp : fOk p.1 ∧ sgT p) : Fn0 Tryz.prog 23 [crwD l, .agg [.v (.slice (some ad) 0 cap)], sgV p] (dI_ l [] p) := by
 have hx : ∀ q ∈ ([] : List Sg), fOk q.1 ∧ sgT q := fun q hq => by cases hq
 have hca := bj_ l hl hn [] false hx (by simp)
 have hve := bZ_ l hl hn p hp.1 hp.2
 have hxo : ∀ q ∈ [], sgOk q := fun q hq => be_ (hx q hq).1 (hx q hq).2
 have hpo := be_ hp.1 hp.2
 have lp := az_ hpo
 have tp := e0_ hpo
 have tm := bV_ hpo
 rw [dI_]
 refine ac_ (pn := ap_) aa_ Tryz.func23 rfl fun β0 => ?_
 simp only [Tryz.f23]
 simp only [sgV]
 repeat(first|apply wG|(apply wR;simp -dsimp [crwD, lp])|refine aI ?_)
 refine And.intro (sgc_oneD hpo) ?_
 repeat(first|apply wG|(apply wR;simp -dsimp [crwD, lp])|refine aI ?_)
 refine ag_ cr_ hca rfl rfl (And.intro (by simp [crwD]) (And.intro ((Leq.agg (l := [.d (.v (.slice (some ad) 0 cap))]) (l' := [.d (sgD [] false)]) ⟨eT_ ad cap 61 hcap, trivial⟩).trans (ai_ [sgD [] false])) trivial)) ?_
 simp -dsimp
 repeat(first|apply wG|(apply wR;simp -dsimp)|refine aI ?_)
 by_cases h1 : gh_ l [] = 0
 ·rw [if_pos h1]
  refine cF (by simp [h1]) ?_
  refine WP.skip ?_
  simp -dsimp
  repeat(first|apply wG|(apply wR;simp -dsimp [crwD, lp, tp, tm])|refine aI ?_)
  refine ag_ cq_ hve rfl rfl (And.intro (by simp [crwD]) (And.intro (by simp [tm, tp, sgV]; try exact ai_ _) trivial)) ?_
  simp -dsimp
  repeat(first|apply wG|(apply wR;simp -dsimp)|refine aI ?_)
  by_cases h2 : i2_ l p = 0
  ·rw [if_pos h2]
   have hva : ∀ q ∈ [], m1_ q := fun q hq => cI_ (hx q hq).1 (hx q hq).2 ((fk_ h1).2.2.1 q hq)
   have hpo2 := d3_ p []
   have hpl := jZ_ p []
   have hse := fO_ [] false p (by simp) hxo hpo (List.Pairwise.nil)
   rw [show posS p [] = 0 from rfl] at hse
   refine cF (by simp [h2]) ?_
   refine WP.skip ?_
   simp -dsimp
   repeat(first|apply wG|(apply wR;simp -dsimp [lp, tp, tm])|refine aI ?_)
   refine ag_ eN_ hse rfl rfl (And.intro (eT_ ad cap 61 hcap) (And.intro (by simp [tm, tp, sgV]; try exact ai_ _) (And.intro (.refl _) trivial))) ?_
   simp -dsimp
   repeat(first|apply wG|(apply wR;simp -dsimp)|refine aI ?_)
   have hi : isS p [] = false := rfl
   have e0 : posS p [] = 0 := rfl
   have e1 : sgC (insS p []) = h6_ 0 (sgC []) (sgc p) := by rw [show insS p [] = [p] from rfl]; simp [h6_, sgC, sgc]
   have e2 : (insS p []).length = 0 + 1 := rfl
   have hR : lgD (insS p []) false = .agg [.sl 61 (h6_ 0 (sgC []) (sgc p)) (0 + 1) false] := by rw [lgD, sgD, e1, e2]
   rw [hR]
   try rw [hi]
   refine cF (by simp [hi]) ?_
   repeat(first|apply wG|(apply wR;simp -dsimp)|refine aI ?_)
   refine cF (by simp) ?_
   refine WP.skip ?_
   simp -dsimp
   repeat(first|apply wG|(apply wR;simp -dsimp [lp, tp, tm])|refine aI ?_)
   refine vcStop.call bF_ (lW_ ad cap hcap) (rl [(0, 600)]) rfl rfl (by simp [BoxLeq]) (aj_ (by simp [BoxLeq]) rfl (by first | rfl | (simp [BoxLeq]; done)) (by simp [BoxLeq]) (by simp [BoxLeq])) (fun _ h => h.elim) (fun ⟨_, h⟩ => h.elim) (fun ⟨_, h⟩ => h.elim) (by simp [BoxLeq]) ?_
   simp -dsimp [lp, tp, tm]
   repeat(first|apply wG|(apply wR;simp -dsimp [lp, tp, tm])|refine aI ?_)
   refine And.intro (sgc_oneD hpo) ?_
   repeat(first|apply wG|(apply wR;simp -dsimp [lp, tp, tm])|refine aI ?_)
   refine vcStop.call eM_ (fX_ 0 0 [] (sgc p) rfl lp (by omega) (by omega)) (rl [(1000, 600), (1001, 48), (0, 700)]) rfl rfl (by simp [BoxLeq]) (aj_ (by simp [BoxLeq]) rfl (by first | rfl | (simp [BoxLeq]; done)) (by simp [BoxLeq]) (by simp [BoxLeq])) (fun _ h => h.elim) (fun ⟨_, h⟩ => h.elim) (fun ⟨_, h⟩ => h.elim) (by simp [BoxLeq]) ?_
   simp -dsimp
   repeat(first|apply wG|(apply wR;simp -dsimp)|refine aI ?_)
   refine WP.ret (an_ (Wk.freeze (k := 700) (T := 70) (sz := 61) (n := 0 + 1) (ds := h6_ (0) (sgC []) (sgc p)) (by simp [show sgC [] = [] from rfl])) ?_)
   simp -dsimp
  ·rw [if_neg h2]
   refine cT (by simp [h2]) ?_
   repeat(first|apply wG|(apply wR;simp -dsimp)|refine aI ?_)
   refine WP.ret (ab_ ?_)
   simp -dsimp [show sgC [] = [] from rfl]
 ·rw [if_neg h1]
  refine cT (by simp [h1]) ?_
  repeat(first|apply wG|(apply wR;simp -dsimp)|refine aI ?_)
  refine WP.ret (ab_ ?_)
  simp -dsimp [show sgC [] = [] from rfl]
theorem qg_ {P : Program} {f : FuncId} {a c : D} {r : D} (sz : Nat) (b : Bool) (h0 : Fn0 P f [a, .agg [.v (.slice none 0 0)], c] r) (h1 : ∀ ad cap, cap ≤ maxLen → Fn0 P f [a, .agg [.v (.slice (some ad) 0 cap)], c] r) : Fn0 P f [a, .agg [.sl sz [] 0 b], c] r := by
 intro w I β vs hm hd
 obtain ⟨va, vs1, rfl, ha, hr⟩ := hd
 obtain ⟨v, vs2, rfl, hv, hr⟩ := hr
 have hv' : Den w I (.agg [.sl sz [] 0 b]) v := hv
 rw [Den] at hv'
 obtain ⟨ws, rfl, hws⟩ := hv'
 obtain ⟨u, us, rfl, hu, hus⟩ := hws
 have hu' : Den w I (.sl sz [] 0 b) u := hu
 obtain ⟨ao, cap, rfl, _, h2, _, _, h4, _⟩ := hu'
 cases ao with
 | none =>
  obtain ⟨_, rfl⟩ := h4 rfl
  exact h0 w I β _ hm ⟨_, _, rfl, ha, ⟨_, _, rfl, by show Den w I (.agg [.v (.slice none 0 0)]) _; rw [Den]; exact ⟨_, rfl, ⟨_, _, rfl, rfl, hus⟩⟩, hr⟩⟩
 | some ad => exact h1 ad cap h2 w I β _ hm ⟨_, _, rfl, ha, ⟨_, _, rfl, by show Den w I (.agg [.v (.slice (some ad) 0 cap)]) _; rw [Den]; exact ⟨_, rfl, ⟨_, _, rfl, rfl, hus⟩⟩, hr⟩⟩
theorem vW_ (l : List Crw) (hl : ∀ c ∈ l, ec_ c) (hn : l.length ≤ 1000000000000) (x : List Sg) (p : Sg) (hx : ∀ p ∈ x, fOk p.1 ∧ sgT p) (hp : fOk p.1 ∧ sgT p) (hxn : x.length ≤ 900) : Fn0 Tryz.prog 23 [crwD l, lgD x false, sgV p] (dI_ l x p) := by
 cases x with
 | nil => exact qg_ 61 false (tz_ l hl hn p hp) fun ad cap hc => pH_ l hl hn ad cap hc p hp
 | cons q x => exact rt_ l hl hn (q :: x) p hx hp (by simp) hxn
theorem insS_subW {s : Sg} : ∀ {l : List Sg} {t : Sg}, t ∈ insS s l → t = s ∨ t ∈ l := fun {l t} h => by
 rw [d3_] at h
 split at h
 ·exact .inr h
 ·rcases List.mem_append.1 h with h | h
  ·exact .inr (List.mem_of_mem_take h)
  ·rcases List.mem_cons.1 h with h | h
   ·exact .inl h
   ·exact .inr (List.mem_of_mem_drop h)
theorem ts_ {l : List Crw} {x : List Sg} : ∀ p ∈ (newR l x).1, p ∈ x := fun p hp => by
 rw [newR] at hp
 split at hp
 ·have key : ∀ (l a : List Sg), ∀ p ∈ l.foldl (fun a s => insS s a) a, p ∈ a ∨ p ∈ l := fun l => by
   induction l with
   | nil => exact fun a p h => .inl h
   | cons s l ih =>
    intro a p h
    rcases ih (insS s a) p h with h | h
    ·rcases insS_subW h with rfl | h
     ·exact .inr (by simp)
     ·exact .inl h
    ·exact .inr (by simp [h])
  rcases key x [] p hp with h | h
  ·cases h
  ·exact h
 ·cases hp
theorem tt_ {l : List Crw} {x : List Sg} : (newR l x).1.length ≤ x.length := by
 rw [newR]
 split
 ·have h := hi_ x []
  rw [show x.foldl (fun a s => insS s a) [] = setS x from rfl] at h
  simpa using h
 ·exact Nat.zero_le _
def addL14 (l : List Crw) (x : List Sg) (p : Sg) : List Sg × Bool × Int :=
 if gh_ l x = 0 then (if i2_ l p = 0 then (insS p x, !isS p x, 0) else ([], false, i2_ l p)) else ([], false, gh_ l x)
theorem sy_ (l : List Crw) (x : List Sg) (p : Sg) : dI_ l x p = .tup [lgD (addL14 l x p).1 false, .v (.bool (addL14 l x p).2.1), .v (.int .i64 (addL14 l x p).2.2)] := by
 unfold dI_ addL14
 split
 ·split <;> rfl
 ·rfl
theorem addL14_sub {l : List Crw} {x : List Sg} {p : Sg} : ∀ q ∈ (addL14 l x p).1, q = p ∨ q ∈ x := fun q hq => by
 unfold addL14 at hq
 split at hq
 ·split at hq
  ·exact insS_subW hq
  ·cases hq
 ·cases hq
theorem qb_ {l : List Crw} {x : List Sg} {p : Sg} : (addL14 l x p).1.length ≤ x.length + 1 := by
 unfold addL14
 split
 ·split
  ·exact kd_ p x
  ·exact Nat.zero_le _
 ·exact Nat.zero_le _
theorem mrgR_sub {l : List Crw} {a b : List Sg} : ∀ q ∈ (mrgR l a b).1, q ∈ a ++ b := fun q hq => by
 rw [mrgR] at hq
 split at hq
 ·split at hq
  ·exact ts_ q hq
  ·cases hq
 ·cases hq
theorem tu_ {l : List Crw} {a b : List Sg} : (mrgR l a b).1.length ≤ (a ++ b).length := by
 rw [mrgR]
 split
 ·split
  ·exact tt_
  ·exact Nat.zero_le _
 ·exact Nat.zero_le _
theorem vU_ (l : List Crw) (hl : ∀ c ∈ l, ec_ c) (hn : l.length ≤ 10000000000000) (a : List Sg) (ha : ∀ p ∈ a, fOk p.1 ∧ sgT p) (han : a.length ≤ 1000000000000) (b : List Sg) (hb : ∀ p ∈ b, fOk p.1 ∧ sgT p) (hbn : b.length ≤ 1000000000000) (p : Sg) (hp : fOk p.1 ∧ sgT p) : Fn0 Tryz.prog 5 [crwD l, lgD a false, lgD b false, sgV p] (.v (.bool true)) := by
 have hpo := be_ hp.1 hp.2
 have lp := az_ hpo
 have tp := e0_ hpo
 have tm := bV_ hpo
 refine ac_ (pn := ap_) aa_ Tryz.func5 rfl fun β0 => ?_
 simp only [Tryz.f5]
 simp only [sgV]
 repeat(first|apply wG|(apply wR;simp -dsimp [crwD, lp])|refine aI ?_)
 refine And.intro (sgc_oneD hpo) ?_
 repeat(first|apply wG|(apply wR;simp -dsimp [crwD, lp])|refine aI ?_)
 refine ad_ n6_ vl_ rfl rfl (by simp) ?_
 simp -dsimp
 repeat(first|apply wG|(apply wR;simp -dsimp)|refine aI ?_)
 refine cF (by simp) ?_
 refine WP.skip ?_
 simp -dsimp
 have e0 : IntKind.i64.wrap ((a.length : Int) + (b.length : Int)) = (a.length : Int) + (b.length : Int) := IntWalk.i64_in _ (by omega)
 by_cases hbig : 40 < l.length
 ·have hd : decide ((40 : Int) < (l.length : Int)) = true := by rw [decide_eq_true_iff]; omega
  repeat(first|apply wG|(apply wR;simp -dsimp [hd])|refine aI ?_)
  refine cT (by simp [hd]) ?_
  repeat(first|apply wG|(apply wR;simp -dsimp)|refine aI ?_)
  refine WP.ret (ab_ ?_)
  simp -dsimp
 ·have hd : decide ((40 : Int) < (l.length : Int)) = false := by rw [decide_eq_false_iff_not]; omega
  repeat(first|apply wG|(apply wR;simp -dsimp [hd, e0])|refine aI ?_)
  by_cases hbig2 : 3 < a.length + b.length
  ·refine cT (by simp; omega) ?_
   repeat(first|apply wG|(apply wR;simp -dsimp)|refine aI ?_)
   refine WP.ret (ab_ ?_)
   simp -dsimp
  ·have h23 := vW_ l hl (by omega) a p ha hp (by omega)
   have h24 := nh_ l hl (by omega) a p ha hp (by omega)
   have h14 := tv_ l hl (by omega) a b ha hb (by omega)
   have h25 := jV_ l hl (by omega) a b ha hb (by omega)
   rw [sy_] at h23 h24
   rw [lgR] at h14 h25
   have s1 := k5_ (addL14 l a p).1 (fun q hq => by
    rcases addL14_sub q hq with rfl | h
    ·exact hp
    ·exact ha q h) (Nat.le_trans qb_ (by omega))
   have s2 := k5_ (mrgR l a b).1 (fun q hq => by
    rcases List.mem_append.1 (mrgR_sub q hq) with h | h
    ·exact ha q h
    ·exact hb q h) (Nat.le_trans tu_ (by rw [List.length_append]; omega))
   generalize addL14 l a p = R at *
   generalize mrgR l a b = M at *
   refine cF (by simp; omega) ?_
   refine WP.skip ?_
   simp -dsimp
   repeat(first|apply wG|(apply wR;simp -dsimp [crwD, lp, tp, tm])|refine aI ?_)
   refine ag_ n4_ h23 rfl rfl (And.intro (by simp [crwD]) (And.intro (ai_ [sgD a false]) (And.intro (by simp [tm, tp, sgV]; try exact ai_ _) trivial))) ?_
   simp -dsimp
   repeat(first|apply wG|(apply wR;simp -dsimp [crwD, lp, tp, tm])|refine aI ?_)
   refine ag_ n3_ h24 rfl rfl (And.intro (by simp [crwD]) (And.intro (ai_ [sgD a false]) (And.intro (by simp [tm, tp, sgV]; try exact ai_ _) trivial))) ?_
   simp -dsimp
   repeat(first|apply wG|(apply wR;simp -dsimp [crwD])|refine aI ?_)
   refine ag_ n7_ h14 rfl rfl (And.intro (by simp [crwD]) (And.intro (ai_ [sgD a false]) (And.intro (ai_ [sgD b false]) trivial))) ?_
   simp -dsimp
   repeat(first|apply wG|(apply wR;simp -dsimp [crwD])|refine aI ?_)
   refine ag_ n2_ h25 rfl rfl (And.intro (by simp [crwD]) (And.intro (ai_ [sgD a false]) (And.intro (ai_ [sgD b false]) trivial))) ?_
   simp -dsimp
   repeat(first|apply wG|(apply wR;simp -dsimp)|refine aI ?_)
   refine ag_ iw_ s1 rfl rfl (And.intro (ai_ [sgD R.1 false]) (And.intro (ai_ [sgD R.1 false]) trivial)) ?_
   simp -dsimp
   repeat(first|apply wG|(apply wR;simp -dsimp)|refine aI ?_)
   refine aP_ iw_ (fun _ => s2) rfl (fun _ => rfl) (fun _ => And.intro (ai_ [sgD M.1 false]) (And.intro (ai_ [sgD M.1 false]) trivial)) ?_
   simp -dsimp
   repeat(first|apply wG|(apply wR;simp -dsimp)|refine aI ?_)
   refine WP.ret (ab_ ?_)
   simp -dsimp
end Go.Proofs.YtnljenjcaeophaaGreatDoor
