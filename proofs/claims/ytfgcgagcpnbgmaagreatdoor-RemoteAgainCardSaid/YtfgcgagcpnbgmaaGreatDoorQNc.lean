/-
  Joined texts.
-/
import Derived.Test.YtfgcgagcpnbgmaaGreatDoorQ9
import Derived.Test.YtfgcgagcpnbgmaaGreatDoorQG
import Derived.Test.YtfgcgagcpnbgmaaGreatDoorQJz
import Derived.Test.YtfgcgagcpnbgmaaGreatDoorQJd
import Derived.Test.YtfgcgagcpnbgmaaGreatDoorQKh
import Derived.Test.YtfgcgagcpnbgmaaGreatDoorQKc
import Derived.Test.YtfgcgagcpnbgmaaGreatDoorQJa
import Derived.Test.YtfgcgagcpnbgmaaGreatDoorQF
import Derived.Test.YtfgcgagcpnbgmaaGreatDoorQEX
import Derived.Test.YtfgcgagcpnbgmaaGreatDoorQEngFz
import Derived.Test.YtfgcgagcpnbgmaaGreatDoorQMa
import Derived.Test.YtfgcgagcpnbgmaaGreatDoorQEngCr
import Derived.Test.YtfgcgagcpnbgmaaGreatDoorQNb
import Derived.Test.YtfgcgagcpnbgmaaGreatDoorQPe
set_option linter.unusedVariables false
set_option linter.unusedSimpArgs false
set_option linter.unusedSectionVars false
namespace Go.Proofs.YtfgcgagcpnbgmaaGreatDoor
open Go.Xe Go.RowKit
def unDgs (c : List D) (n : Nat) : List Dg := (List.range n).map fun i => ((c.drop (i * 32)).take 32).map unBD
theorem unDgs_dgL {l : List Dg} (h : all32 l) : unDgs (dgL l) l.length = l := by
 refine digA_ext (by simp [unDgs]) fun i hi => ?_
 have hi : i < l.length := by simpa [unDgs] using hi
 rw [digA, List.getD_eq_getElem?_getD, unDgs, List.getElem?_map, List.getElem?_range hi, Option.map_some, Option.getD_some, dgL_at h i hi]
 exact map_unBD _
def sgK (s : List D) : Int := match s with
 | .v (.int _ k) :: _ => k
 | _ => 0
def sgDg (s : List D) (i : Nat) : List Dg := match s[i]? with
 | some (.sl _ c n _) => unDgs c n
 | _ => []
def sgT (p : Sg) : Prop := ∃ k op cl pa, p.2 = sigC k op cl pa ∧ sigG k op cl pa
def vfyS (l : List Crw) (p : Sg) : Int := vfyE l p.1 (sgK p.2) (sgDg p.2 1) (sgDg p.2 2) (sgDg p.2 3)
theorem vfyS_eq {l : List Crw} {p : Sg} {k : Int} {op cl pa : List Dg} (e : p.2 = sigC k op cl pa) (h : sigG k op cl pa) : vfyS l p = vfyE l p.1 k op cl pa := by
 rw [vfyS, e]
 simp only [sigC, slG, sgK, sgDg, List.getElem?_cons_succ, List.getElem?_cons_zero]
 rw [unDgs_dgL h.ho, unDgs_dgL h.hc, unDgs_dgL h.hp]
theorem crwVerifyS_ok (l : List Crw) (hl : ∀ c ∈ l, crOk c) (hn : l.length ≤ 1000000000000) (p : Sg) (hf : fOk p.1) (hp : sgT p) : Fn0 Tryz.prog 30 [crwD l, sgV p] (.v (.int .i64 (vfyS l p))) := by
 obtain ⟨k, op, cl, pa, e, h⟩ := hp
 rw [vfyS_eq e h, sgV, sgc, e]
 exact crwVerify_ok l hl hn p.1 hf k op cl pa h
theorem sgT_ok {p : Sg} (hf : fOk p.1) (h : sgT p) : sgOk p := by
 obtain ⟨k, op, cl, pa, e, _⟩ := h
 refine ⟨hf, by rw [e]; rfl, fun d hd => ?_⟩
 rw [e] at hd
 exact sigC_one hd
end Go.Proofs.YtfgcgagcpnbgmaaGreatDoor
set_option maxRecDepth 10000
set_option linter.unusedVariables false
set_option linter.unusedSimpArgs false
set_option linter.unusedSectionVars false
namespace Go.Proofs.YtfgcgagcpnbgmaaGreatDoor
open Go.Xe Go.RowKit
def sgFT (p : Sg) : Prop := ∃ (k : Int) (s1 n1 s2 n2 s3 n3 : Nat) (c1 c2 c3 : List D), isI k ∧ p.2 = [.v (.int .i64 k), .sl s1 c1 n1 false, .sl s2 c2 n2 false, .sl s3 c3 n3 false]
def shrtT (p : Sg) : Bool := match p.2 with
 | [_, .sl _ _ n1 _, .sl _ _ n2 _, .sl _ _ n3 _] => decide (n1 ≤ 100) && (decide (n2 ≤ 100) && decide (n3 ≤ 20))
 | _ => false
theorem shortT_ok (p : Sg) (h : sgFT p) : Fn0 Tryz.prog 80 [.agg p.2] (.v (.bool (shrtT p))) := by
 obtain ⟨k, s1, n1, s2, n2, s3, n3, c1, c2, c3, _, e⟩ := h
 have hs : shrtT p = (decide (n1 ≤ 100) && (decide (n2 ≤ 100) && decide (n3 ≤ 20))) := by rw [shrtT, e]
 rw [hs, e]
 have e1 : ((n1 : Int) ≤ 100) = (n1 ≤ 100) := propext (by omega)
 have e2 : ((n2 : Int) ≤ 100) = (n2 ≤ 100) := propext (by omega)
 have e3 : ((n3 : Int) ≤ 20) = (n3 ≤ 20) := propext (by omega)
 refine Fun.of_wp (pn := noPn) Tryz.tab Tryz.func80 rfl fun β0 => ?_
 simp only [Tryz.f80]
 repeat(first|apply wG|(apply wR;simp -dsimp)|refine aI ?_)
 refine WP.ret (finQ.retE ?_)
 simp -dsimp [e1, e2, e3, Bool.and_assoc]
theorem sgcT_sig {p : Sg} (h : sgOk p) : List.take 4 (List.drop 57 (sgc p)) = p.2 := by
 rw [sgc, List.drop_left' (fcs_len57 _), List.take_of_length_le (by rw [h.2.1]; omega)]
abbrev fwT (l : List Sg) (b : Bool) (m : Int) (i : Nat) : St := mkS 23 [(0, .d (sgD l b)), (1, .d (.v (.int .i64 m))), (5, .d (.v (.int .i64 i)))] []
theorem few13T_ok (l : List Sg) (b : Bool) (m : Nat) (hl : ∀ p ∈ l, sgOk p) (hf : ∀ p ∈ l, sgFT p) (hn : l.length ≤ 1000000000000) : Fn0 Tryz.prog 37 [sgD l b, .v (.int .i64 m)] (.v (.bool (decide (l.length ≤ m) && l.all shrtT))) := by
 refine Fun.of_wp (pn := noPn) Tryz.tab Tryz.func37 rfl fun β0 => ?_
 simp only [Tryz.f37]
 repeat(first|apply wG|(apply wR;simp -dsimp)|refine aI ?_)
 by_cases hlm : l.length ≤ m
 ·have hd : decide (l.length ≤ m) = true := by simpa using hlm
  rw [hd, Bool.true_and]
  refine cF (by simp; omega) ?_
  refine WP.skip ?_
  simp -dsimp
  repeat(first|apply wG|(apply wR;simp -dsimp)|refine aI ?_)
  refine WP.loopWk (fun q S => ∃ l1 l2, l = l1 ++ l2 ∧ q = l2.length ∧ l1.all shrtT = true ∧ S = fwT l b m l1.length) l.length (S0 := fwT l b m 0) (Wk.lessE [] (by simp) (by simp)) ⟨[], l, rfl, rfl, rfl, rfl⟩ ?_
  rintro _ _ ⟨l1, l2, hl12, rfl, ha, rfl⟩
  simp -dsimp
  repeat(first|apply wG|(apply wR;simp -dsimp)|refine aI ?_)
  cases l2 with
  | nil =>
   simp only [List.append_nil] at hl12
   subst hl12
   refine cF (by simp) ?_
   refine WP.exit ?_
   simp -dsimp
   repeat(first|apply wG|(apply wR;simp -dsimp)|refine aI ?_)
   refine WP.ret (finQ.retE ?_)
   simp -dsimp [ha]
  | cons p l2 =>
   have hll : l.length = l1.length + (l2.length + 1) := by rw [hl12]; simp
   have hlt : l1.length < l.length := by omega
   have hp := hl p (by rw [hl12]; simp)
   have hat := sgc_at hlt hl
   have hpe : l[l1.length] = p := by simp [hl12]
   rw [hpe] at hat
   have lc := sgC_len hl
   have l2' := sgc_len hp
   have hsg := sgcT_sig hp
   have hsl := hp.2.1
   have hso := hp.2.2
   have e1 : IntKind.i64.wrap ((l1.length : Int) + 1) = (l1.length : Int) + 1 := IntWalk.i64_in _ (by omega)
   refine cT (by simp; omega) ?_
   refine WP.skip ?_
   simp -dsimp
   repeat(first|apply wG|(apply wR;simp -dsimp [hat, hsg, l2'])|refine aI ?_)
   refine vcStop.call0L Tryz.body80 (shortT_ok p (hf p (by rw [hl12]; simp))) rfl rfl (And.intro (.refl _) trivial) ?_
   simp -dsimp
   repeat(first|apply wG|(apply wR;simp -dsimp)|refine aI ?_)
   cases hs : shrtT p with
   | true =>
    refine cF (by simp [hs]) ?_
    refine WP.skip ?_
    simp -dsimp
    repeat(first|apply wG|(apply wR;simp -dsimp)|refine aI ?_)
    refine loopW.next (fwT l b m (l1 ++ [p]).length) (Wk.lessE [] (by simp [e1]) (by simp)) l2.length (by simp) ⟨l1 ++ [p], l2, by simp [hl12], rfl, by rw [List.all_append, ha]; simp [hs], rfl⟩
   | false =>
    refine cT (by simp [hs]) ?_
    have hal : l.all shrtT = false := by rw [hl12, List.all_append, List.all_cons, hs]; simp
    repeat(first|apply wG|(apply wR;simp -dsimp)|refine aI ?_)
    refine WP.ret (finQ.retE ?_)
    simp -dsimp [hal]
 ·have hd : decide (l.length ≤ m) = false := by simpa using hlm
  rw [hd, Bool.false_and]
  refine cT (by simp; omega) ?_
  repeat(first|apply wG|(apply wR;simp -dsimp)|refine aI ?_)
  refine WP.ret (finQ.retE ?_)
  simp -dsimp
theorem sgT_F {p : Sg} (h : sgT p) : sgFT p := by
 obtain ⟨k, op, cl, pa, e, h⟩ := h
 exact ⟨k, 32, op.length, 32, cl.length, 32, pa.length, dgL op, dgL cl, dgL pa, h.isk, e⟩
end Go.Proofs.YtfgcgagcpnbgmaaGreatDoor
set_option linter.unusedVariables false
set_option linter.unusedSimpArgs false
set_option linter.unusedSectionVars false
namespace Go.Proofs.YtfgcgagcpnbgmaaGreatDoor
open Go.Xe Go.RowKit
theorem n_isI {x : Int} (h1 : -1000 ≤ x) (h2 : x ≤ 1000) : isI x := by unfold isI; omega
theorem nS_ok (c n t : Int) (h1 : -1000 ≤ c) (h2 : c ≤ 1000) (h3 : -1000 ≤ n) (h4 : n ≤ 1000) (h5 : -1000 ≤ t) (h6 : t ≤ 1000) : fOk (shF c n t) := shF_ok (n_isI h1 h2) (n_isI h3 h4) (n_isI h5 h6)
theorem f0_ok : fOk f0 := ⟨fun i => by simp [f0, isI], .inl rfl, fun i _ => rfl⟩
theorem sig_sgn (seed : List UInt8) (m i : Nat) (msg : List UInt8) (hm : m ≤ 4096) (hi : i < m) : sigG i (openedB seed i (kbB seed m i msg) 64) (closedB seed i (kbB seed m i msg) 64) (pathB (pubsB seed m) i) := by
 refine ⟨by unfold isI; omega, openedB_32 _ _ _ _, closedB_32 _ _ _ _, path_32 _ _ _ (Nat.le_refl _), by rw [openedB_len]; decide, by rw [closedB_len]; decide, ?_⟩
 have h1 := (path_up _ (pubsB seed m) i (Nat.le_refl _) (by rw [pubsB_len]; exact hi)).1
 have h2 := dirB_len (pubsB seed m).length i (pubsB seed m).length (Nat.le_refl _)
 rw [pubsB_len] at h1 h2
 omega
theorem vfy_sgn (seed : List UInt8) (m : Nat) (u : Int) (f : Nat → Int) (hv : (numF f).2 = true) (hk : keyV seed m u = true) (hn : f 1 - 1 < m) (l : List Crw) (hcr : crB l = true) (hlen : f 0 < l.length) (hat : l.getD (f 0).toNat (z32, 0) = (treeB (pubsB seed m), (m : Int))) :
  vfyE l f (f 1 - 1).toNat (openedB seed (f 1 - 1).toNat (kbB seed m (f 1 - 1).toNat (msgB f)) 64) (closedB seed (f 1 - 1).toNat (kbB seed m (f 1 - 1).toNat (msgB f)) 64) (pathB (pubsB seed m) (f 1 - 1).toNat) = 0 := by
 obtain ⟨_, h1, _⟩ := num_hd hv
 have hm : m ≤ 4096 := by simp only [keyV, decide_eq_true_eq] at hk; omega
 have hs := seal_sign seed m (f 1 - 1).toNat (msgB f) (by omega) hm (by rw [msgB_len]; decide)
 rw [vfyE, if_pos hcr, if_pos hv, if_neg (by omega), hat, if_pos ⟨by omega, hs⟩]
end Go.Proofs.YtfgcgagcpnbgmaaGreatDoor
set_option maxRecDepth 10000
set_option linter.unusedVariables false
set_option linter.unusedSimpArgs false
set_option linter.unusedSectionVars false
namespace Go.Proofs.YtfgcgagcpnbgmaaGreatDoor
open Go.Xe Go.RowKit
abbrev smS0 (a b : List Dg) (i : Nat) : St := mkS 26 [(0, .d (slG a)), (1, .d (slG b)), (5, .d (.v (.int .i64 i)))] []
theorem Tryz.gdX : Tryz.prog.eqGuardType Tryz.prog.depth 87 = false := by kernel_rfl
theorem bys_t32L {x : Dg} (h : x.length = 32) : List.take 32 (bys x) = bys x := List.take_of_length_le (by rw [bys_len]; omega)
set_option maxHeartbeats 4000000 in
theorem sameDg_ok (a b : List Dg) (ha : all32 a) (hb : all32 b) (hna : a.length ≤ 10000000000000) (hnb : b.length ≤ 10000000000000) : Fn0 Tryz.prog 119 [slG a, slG b] (.v (.bool (decide (a = b)))) := by
 refine Fun.of_wp (pn := noPn) Tryz.tab Tryz.func119 rfl fun β0 => ?_
 simp only [Tryz.f119]
 repeat(first|apply wG|(apply wR;simp -dsimp [slG])|refine aI ?_)
 by_cases hl : a.length = b.length
 ·refine cF (by simp [hl]) ?_
  refine WP.skip ?_
  simp -dsimp
  repeat(first|apply wG|(apply wR;simp -dsimp)|refine aI ?_)
  refine WP.loopWk (fun q S => ∃ i : Nat, q = a.length - i ∧ i ≤ a.length ∧ (∀ j, j < i → digA a j = digA b j) ∧ S = smS0 a b i) a.length (S0 := smS0 a b 0) (Wk.lessE [] (by simp [slG]) (by simp)) ⟨0, rfl, by omega, fun j h => by omega, rfl⟩ ?_
  rintro _ _ ⟨i, rfl, hi, hj, rfl⟩
  simp -dsimp [slG]
  repeat(first|apply wG|(apply wR;simp -dsimp)|refine aI ?_)
  by_cases hil : i < a.length
  ·have hib : i < b.length := by omega
   have aa := dgL_at ha i hil
   have ab := dgL_at hb i hib
   have la := digA_32 ha i hil
   have lb := digA_32 hb i hib
   have ca := dgL_len ha
   have cb := dgL_len hb
   have ta := bys_t32L la
   have tb := bys_t32L lb
   have e1 : IntKind.i64.wrap ((i : Int) + 1) = ((i + 1 : Nat) : Int) := by rw [IntWalk.i64_in _ (by omega)]; omega
   have hstep : digA a i = digA b i → ∀ j, j < i + 1 → digA a j = digA b j := fun h j hj1 => by
    rcases Nat.lt_or_ge j i with h1 | h1
    ·exact hj j h1
    ·rw [show j = i by omega]; exact h
   have hbad : digA a i ≠ digA b i → a ≠ b := fun h e => h (by rw [e])
   generalize digA a i = x at *
   generalize digA b i = y at *
   refine cT (by simp; omega) ?_
   refine WP.skip ?_
   simp -dsimp
   repeat(first|apply wG|(apply wR;simp -dsimp [aa, ab, ta, tb])|refine aI ?_)
   refine vcStop.eqA Tryz.tab gokB noarrB rfl (.inr rfl) (q := 4) (by omega) (T := 87) Tryz.τ87 Tryz.keyB (by decide) Tryz.gdX (cs := onesB x) (es := onesB y) (by simp [onesB_flat]) (by simp [onesB_flat]) (by simp [onesB, la]) (by simp [onesB, lb]) (onesB_ok x) (onesB_ok y) (lits_same x y) ?_
   simp -dsimp [eqRes]
   repeat(first|apply wG|(apply wR;simp -dsimp)|refine aI ?_)
   by_cases hxy : x = y
   ·refine cF (by simp [eqRes, hxy]) ?_
    refine WP.skip ?_
    simp -dsimp
    repeat(first|apply wG|(apply wR;simp -dsimp)|refine aI ?_)
    refine loopW.next (smS0 a b (i + 1)) (Wk.lessE [] (by simp [e1, slG]) (by simp)) (a.length - (i + 1)) (by omega) ⟨i + 1, rfl, by omega, hstep hxy, rfl⟩
   ·refine cT (by simp [eqRes, hxy]) ?_
    have hr : decide (a = b) = false := decide_eq_false (hbad hxy)
    repeat(first|apply wG|(apply wR;simp -dsimp)|refine aI ?_)
    refine WP.ret (finQ.retE ?_)
    simp -dsimp [hr]
  ·refine cF (by simp; omega) ?_
   refine WP.exit ?_
   have hr : decide (a = b) = true := decide_eq_true (digA_ext hl fun j h => hj j (by omega))
   simp -dsimp
   repeat(first|apply wG|(apply wR;simp -dsimp)|refine aI ?_)
   refine WP.ret (finQ.retE ?_)
   simp -dsimp [hr]
 ·refine cT (by simp; omega) ?_
  have hr : decide (a = b) = false := decide_eq_false fun h => hl (by rw [h])
  repeat(first|apply wG|(apply wR;simp -dsimp)|refine aI ?_)
  refine WP.ret (finQ.retE ?_)
  simp -dsimp [hr]
theorem sameSig4_ok (k k' : Int) (o c p o' c' p' : List Dg) (h : sigG k o c p) (h' : sigG k' o' c' p') : ∃ r, Fn0 Tryz.prog 69 [.agg (sigC k o c p), .agg (sigC k' o' c' p')] (.v (.bool r)) ∧ (r = true ↔ k = k' ∧ o = o' ∧ c = c' ∧ p = p') := by
 have k1 := sameDg_ok o o' h.ho h'.ho h.no h'.no
 have k2 := sameDg_ok c c' h.hc h'.hc h.nc h'.nc
 have k3 := sameDg_ok p p' h.hp h'.hp h.np h'.np
 have e : (decide (k = k') && (decide (o = o') && (decide (c = c') && decide (p = p')))) = true ↔ k = k' ∧ o = o' ∧ c = c' ∧ p = p' := by simp
 refine ⟨_, ?_, e⟩
 generalize decide (o = o') = b1 at *
 generalize decide (c = c') = b2 at *
 generalize decide (p = p') = b3 at *
 clear e
 by_cases hk : k = k'
 ·subst hk
  refine Fun.of_wp (pn := noPn) Tryz.tab Tryz.func69 rfl fun β0 => ?_
  simp only [Tryz.f69]
  repeat(first|apply wG|(apply wR;simp -dsimp [sigC, slG])|refine aI ?_)
  refine vcStopG.call0 Tryz.body119 (fun _ => k1) rfl (fun _ => rfl) (fun _ => by simp [slG]) ?_
  cases b1 with
  | false =>
   simp -dsimp
   repeat(first|apply wG|(apply wR;simp -dsimp)|refine aI ?_)
   refine vcStopG.skip (.d (.v (.bool false))) ?_
   simp -dsimp
   repeat(first|apply wG|(apply wR;simp -dsimp)|refine aI ?_)
   refine vcStopG.skip (.d (.v (.bool false))) ?_
   simp -dsimp
   repeat(first|apply wG|(apply wR;simp -dsimp)|refine aI ?_)
   refine WP.ret (finQ.retE ?_)
   simp -dsimp
  | true =>
   simp -dsimp
   repeat(first|apply wG|(apply wR;simp -dsimp)|refine aI ?_)
   refine vcStopG.call0 Tryz.body119 (fun _ => k2) rfl (fun _ => rfl) (fun _ => by simp [slG]) ?_
   cases b2 with
   | false =>
    simp -dsimp
    repeat(first|apply wG|(apply wR;simp -dsimp)|refine aI ?_)
    refine vcStopG.skip (.d (.v (.bool false))) ?_
    simp -dsimp
    repeat(first|apply wG|(apply wR;simp -dsimp)|refine aI ?_)
    refine WP.ret (finQ.retE ?_)
    simp -dsimp
   | true =>
    simp -dsimp
    repeat(first|apply wG|(apply wR;simp -dsimp)|refine aI ?_)
    refine vcStopG.call0 Tryz.body119 (fun _ => k3) rfl (fun _ => rfl) (fun _ => by simp [slG]) ?_
    simp -dsimp
    repeat(first|apply wG|(apply wR;simp -dsimp)|refine aI ?_)
    refine WP.ret (finQ.retE ?_)
    simp -dsimp
 ·have hd : decide (k = k') = false := decide_eq_false hk
  refine Fun.of_wp (pn := noPn) Tryz.tab Tryz.func69 rfl fun β0 => ?_
  simp only [Tryz.f69]
  repeat(first|apply wG|(apply wR;simp -dsimp [sigC, slG, hd])|refine aI ?_)
  refine vcStopG.skip (.d (.v (.bool false))) ?_
  simp -dsimp
  repeat(first|apply wG|(apply wR;simp -dsimp)|refine aI ?_)
  refine vcStopG.skip (.d (.v (.bool false))) ?_
  simp -dsimp
  repeat(first|apply wG|(apply wR;simp -dsimp)|refine aI ?_)
  refine vcStopG.skip (.d (.v (.bool false))) ?_
  simp -dsimp
  repeat(first|apply wG|(apply wR;simp -dsimp)|refine aI ?_)
  refine WP.ret (finQ.retE ?_)
  simp -dsimp [hd]
theorem sig_inj {k k' : Int} {o c p o' c' p' : List Dg} (h : sigG k o c p) (h' : sigG k' o' c' p') (e : sigC k o c p = sigC k' o' c' p') : k = k' ∧ o = o' ∧ c = c' ∧ p = p' := by
 have key : ∀ {a b : List Dg}, all32 a → all32 b → dgL a = dgL b → a.length = b.length → a = b := fun {a b} ha hb e hl => by
  rw [← unDgs_dgL ha, e, hl, unDgs_dgL hb]
 simp only [sigC, slG, List.cons.injEq, D.v.injEq, Value.int.injEq, D.sl.injEq, true_and, and_true] at e
 obtain ⟨e1, ⟨e2, n2⟩, ⟨e3, n3⟩, e4, n4⟩ := e
 exact ⟨e1, key h.ho h'.ho e2 n2, key h.hc h'.hc e3 n3, key h.hp h'.hp e4 n4⟩
theorem sameSgU_ok (p q : Sg) (hp : sgOk p) (hq : sgOk q) (up : sgT p) (uq : sgT q) : ∃ r, Fn0 Tryz.prog 28 [sgV p, sgV q] (.v (.bool r)) ∧ (p = q → r = true) := by
 have k1 := refSame_ok p.1 q.1 hp.1 hq.1
 have l1 := sgc_len hp
 have l2 := sgc_len hq
 have h57 := sgc_57 p
 have g57 := sgc_57 q
 have h4 : List.take 4 (List.drop 57 ((sgc p).map AV.d)) = p.2.map .d := by rw [← List.map_drop, ← List.map_take, sgcT_sig hp]
 have g4 : List.take 4 (List.drop 57 ((sgc q).map AV.d)) = q.2.map .d := by rw [← List.map_drop, ← List.map_take, sgcT_sig hq]
 obtain ⟨k, op, cl, pa, e, hg⟩ := up
 obtain ⟨k', op', cl', pa', e', hg'⟩ := uq
 obtain ⟨r2, k2, hr2⟩ := sameSig4_ok k k' op cl pa op' cl' pa' hg hg'
 rw [← e, ← e'] at k2
 have hr : p = q → (eqF p.1 q.1 && r2) = true := fun h => by
  subst h
  rw [(eqF_iff hp.1 hp.1).2 rfl, hr2.2 (sig_inj hg hg' (e.symm.trans e'))]
  rfl
 refine ⟨_, ?_, hr⟩
 clear hr hr2 hg hg' e e'
 generalize eqF p.1 q.1 = b1 at k1
 simp only [sgV]
 refine Fun.of_wp (pn := noPn) Tryz.tab Tryz.func28 rfl fun β0 => ?_
 simp only [Tryz.f28]
 repeat(first|apply wG|(apply wR;simp -dsimp)|refine aI ?_)
 refine And.intro (sgc_oneD hp) ?_
 repeat(first|apply wG|(apply wR;simp -dsimp)|refine aI ?_)
 refine And.intro (sgc_oneD hq) ?_
 repeat(first|apply wG|(apply wR;simp -dsimp [h57, h4, g57, g4])|refine aI ?_)
 refine vcStop.call0L Tryz.body68 k1 rfl rfl (And.intro (by simp [fD]) (And.intro (by simp [fD]) trivial)) ?_
 cases b1 with
 | true =>
  simp -dsimp
  repeat(first|apply wG|(apply wR;simp -dsimp [h57, h4, g57, g4])|refine aI ?_)
  refine vcStopG.call0L Tryz.body69 (fun _ => k2) rfl (fun _ => rfl) (fun _ => And.intro (by simp [h4]) (And.intro (by simp [g4]) trivial)) ?_
  simp -dsimp
  repeat(first|apply wG|(apply wR;simp -dsimp)|refine aI ?_)
  refine WP.ret (finQ.retE ?_)
  simp -dsimp
 | false =>
  simp -dsimp
  repeat(first|apply wG|(apply wR;simp -dsimp [h57, h4, g57, g4])|refine aI ?_)
  refine vcStopG.skip (.d (.v (.bool false))) ?_
  simp -dsimp
  repeat(first|apply wG|(apply wR;simp -dsimp)|refine aI ?_)
  refine WP.ret (finQ.retE ?_)
  simp -dsimp
end Go.Proofs.YtfgcgagcpnbgmaaGreatDoor
set_option linter.unusedVariables false
set_option linter.unusedSimpArgs false
set_option linter.unusedSectionVars false
namespace Go.Proofs.YtfgcgagcpnbgmaaGreatDoor
open Go.Xe Go.RowKit
def sgQ (seed : By) (m : Int) (f : Nat → Int) : Sg := (f, sgnC seed m.toNat (f 1 - 1).toNat (msgB f))
def onK (crew m : Int) (i : Nat) (b : By) : Bool := decide ((decF b).2 = 0 ∧ (decF b).1 0 = crew ∧ (decF b).1 1 = (i : Int) + 1 ∧ (i : Int) < m)
def onB (crew m : Int) : Nat → List By → Bool
 | _, [] => true
 | i, b :: l => onK crew m i b && onB crew m (i + 1) l
def onL (seed : By) (m : Int) (l : List By) : List Sg := l.map fun b => sgQ seed m (decF b).1
theorem onB_app (crew m : Int) : ∀ (i : Nat) (a b : List By), onB crew m i (a ++ b) = (onB crew m i a && onB crew m (i + a.length) b)
 | i, [], b => by simp [onB]
 | i, x :: a, b => by rw [List.cons_append, onB, onB, onB_app crew m (i + 1) a b, List.length_cons, Bool.and_assoc, Nat.add_assoc, Nat.add_comm 1]
theorem onB_get {crew m : Int} : ∀ {i : Nat} {l : List By} (_ : onB crew m i l = true) {j : Nat} (hj : j < l.length), onK crew m (i + j) l[j] = true
 | _, [], _, j, hj => by simp at hj
 | i, b :: l, h, 0, hj => by rw [onB, Bool.and_eq_true] at h; exact h.1
 | i, b :: l, h, j + 1, hj => by
  rw [onB, Bool.and_eq_true] at h
  have := onB_get h.2 (j := j) (by simpa using hj)
  rw [List.getElem_cons_succ, show i + (j + 1) = i + 1 + j by omega]; exact this
structure Rm where
 crew : Int
 seed : By
 many : Int
 used : Int
 dk : Dk
 lm : Int
 lr : List By
 ls : Int
 fs : List Sg
 sent : Int
def zeR : Rm := ⟨0, [], 0, 0, ⟨[], [], 0, false⟩, 0, [], 0, [], 0⟩
def sgEq (p q : Sg) : Bool := eqF p.1 q.1 && (decide (sgK p.2 = sgK q.2) && (decide (sgDg p.2 1 = sgDg q.2 1) && (decide (sgDg p.2 2 = sgDg q.2 2) && decide (sgDg p.2 3 = sgDg q.2 3))))
def sgsB : List Sg → List Sg → Bool
 | [], [] => true
 | p :: a, q :: b => sgEq p q && sgsB a b
 | _, _ => false
def rmB (r : Rm) : Bool :=
 decide (0 ≤ r.crew ∧ r.crew < 32 ∧ r.used = r.fs.length ∧ 0 ≤ r.sent ∧ r.sent ≤ r.fs.length) && (keyV r.seed r.many r.used && ((dkB r.dk && (!r.dk.st && decide (r.dk.p.length = 0))) &&
  (decide ((r.dk.s.length : Int) = r.lm ∧ ((recs r.dk.s).length : Int) = r.ls ∧ recs r.dk.s = r.lr) && (onB r.crew r.many 0 r.lr && sgsB (onL r.seed r.many r.lr) r.fs))))
def mkR (crew : Int) (seed : By) (m : Int) (s : List By) (left sent : Int) : Rm := ⟨crew, seed, m, (recs s).length, ⟨s, [], left, false⟩, s.length, recs s, (recs s).length, onL seed m (recs s), sent⟩
structure okR (crew : Int) (seed : By) (m : Int) (s : List By) (left sent : Int) : Prop where
 c0 : 0 ≤ crew
 c1 : crew < 32
 key : keyV seed m (recs s).length = true
 n1 : 1 ≤ s.length
 n2 : s.length ≤ 4096
 l1 : -1 ≤ left
 l2 : left ≤ 65536
 h128 : ∀ b ∈ s, b.length = 128
 on : onB crew m 0 (recs s) = true
 s0 : 0 ≤ sent
 s1 : sent ≤ (recs s).length
theorem keyV_iff {seed : By} {m u : Int} : keyV seed m u = true ↔ 1 ≤ seed.length ∧ seed.length ≤ 64 ∧ 1 ≤ m ∧ m ≤ 4096 ∧ 0 ≤ u ∧ u ≤ m := by rw [keyV, decide_eq_true_eq]
theorem sgDg_sig {k : Int} {op cl pa : List Dg} (h : sigG k op cl pa) : sgDg (sigC k op cl pa) 1 = op ∧ sgDg (sigC k op cl pa) 2 = cl ∧ sgDg (sigC k op cl pa) 3 = pa := by
 simp only [sigC, slG, sgDg, List.getElem?_cons_succ, List.getElem?_cons_zero]
 exact ⟨unDgs_dgL h.ho, unDgs_dgL h.hc, unDgs_dgL h.hp⟩
theorem sgEq_iff {p q : Sg} (hp : fOk p.1) (hq : fOk q.1) (tp : sgT p) (tq : sgT q) : sgEq p q = true ↔ p = q := by
 constructor
 ·intro h
  obtain ⟨f, ps⟩ := p
  obtain ⟨g, qs⟩ := q
  obtain ⟨k, o, c, a, e, h1⟩ := tp
  obtain ⟨k', o', c', a', e', h2⟩ := tq
  simp only at e e' hp hq
  subst e e'
  simp only [sgEq, Bool.and_eq_true, decide_eq_true_eq] at h
  obtain ⟨g1, g2, g3, g4, g5⟩ := h
  rw [eqF_iff hp hq] at g1
  have e1 : sgK (sigC k o c a) = k := rfl
  have e2 : sgK (sigC k' o' c' a') = k' := rfl
  rw [e1, e2] at g2
  rw [(sgDg_sig h1).1, (sgDg_sig h2).1] at g3
  rw [(sgDg_sig h1).2.1, (sgDg_sig h2).2.1] at g4
  rw [(sgDg_sig h1).2.2, (sgDg_sig h2).2.2] at g5
  subst g1 g2 g3 g4 g5
  rfl
 ·rintro rfl
  simp only [sgEq, decide_true, Bool.and_true]
  exact (eqF_iff hp hp).2 rfl
theorem sgsB_iff : ∀ {a b : List Sg}, (∀ p ∈ a, fOk p.1 ∧ sgT p) → (∀ p ∈ b, fOk p.1 ∧ sgT p) → (sgsB a b = true ↔ a = b)
 | [], [], _, _ => by simp [sgsB]
 | [], _ :: _, _, _ => by simp [sgsB]
 | _ :: _, [], _, _ => by simp [sgsB]
 | p :: a, q :: b, h, h' => by
  rw [sgsB, Bool.and_eq_true, sgEq_iff (h p (by simp)).1 (h' q (by simp)).1 (h p (by simp)).2 (h' q (by simp)).2, sgsB_iff (fun x hx => h x (by simp [hx])) (fun x hx => h' x (by simp [hx])), List.cons.injEq]
theorem onL_T {crew m : Int} {seed : By} {i : Nat} {l : List By} (h : onB crew m i l = true) (hm : m ≤ 4096) (hl : ∀ b ∈ l, b.length ≤ 1000000000000) : ∀ p ∈ onL seed m l, fOk p.1 ∧ sgT p := by
 intro p hp
 obtain ⟨b, hb, rfl⟩ := List.mem_map.1 hp
 obtain ⟨j, hj, rfl⟩ := List.mem_iff_getElem.1 hb
 have hk := onB_get h hj
 rw [onK, decide_eq_true_eq] at hk
 obtain ⟨_, _, h3, h4⟩ := hk
 exact ⟨decF_ok (hl _ hb), _, _, _, _, rfl, sig_sgn seed m.toNat _ _ (by omega) (by omega)⟩
theorem onL_len (seed : By) (m : Int) (l : List By) : (onL seed m l).length = l.length := by rw [onL, List.length_map]
theorem mk_valid {crew : Int} {seed : By} {m : Int} {s : List By} {left sent : Int} (h : okR crew seed m s left sent) (hl : ∀ b ∈ recs s, b.length ≤ 1000000000000) : rmB (mkR crew seed m s left sent) = true := by
 have hm := (keyV_iff.1 h.key).2.2.2.1
 have hT := onL_T (seed := seed) h.on hm hl
 simp only [rmB, mkR, Bool.and_eq_true, decide_eq_true_eq, onL_len, Bool.not_eq_true', List.length_nil]
 exact ⟨⟨h.c0, h.c1, trivial, h.s0, h.s1⟩, h.key, ⟨dkB_iff.2 ⟨⟨h.n1, h.n2, Nat.zero_le _, h.l1, h.l2⟩, (fun _ h => by cases h), h.h128⟩, trivial, trivial⟩, ⟨trivial, trivial, trivial⟩, h.on, (sgsB_iff hT hT).2 rfl⟩
theorem valid_mk {r : Rm} (hr : ∀ p ∈ r.fs, fOk p.1 ∧ sgT p) (hl : ∀ b ∈ recs r.dk.s, b.length ≤ 1000000000000) (h : rmB r = true) : okR r.crew r.seed r.many r.dk.s r.dk.left r.sent ∧ r = mkR r.crew r.seed r.many r.dk.s r.dk.left r.sent := by
 obtain ⟨crew, seed, m, u, ⟨s, p, left, st⟩, lm, lr, ls, fs, sent⟩ := r
 simp only [rmB, Bool.and_eq_true, decide_eq_true_eq, Bool.not_eq_true'] at h hr hl ⊢
 obtain ⟨⟨h1, h2, h3, h4, h5⟩, hk, ⟨hd, hst, hp⟩, ⟨e1, e2, e3⟩, hon, hs⟩ := h
 subst e3
 have hm := (keyV_iff.1 hk).2.2.2.1
 have hT := onL_T (seed := seed) hon hm hl
 have hfs := (sgsB_iff hT hr).1 hs
 have hpn : p = [] := List.length_eq_zero_iff.1 hp
 subst hfs e1 e2 hst hpn
 obtain ⟨⟨d1, d2, _, d4, d5⟩, _, d6⟩ := dkB_iff.1 hd
 rw [onL_len] at h3 h5
 subst h3
 exact ⟨⟨h1, h2, hk, d1, d2, d4, d5, d6, hon, h4, h5⟩, rfl⟩
/-! ### New -/
def zeS (n : Nat) : List By := List.replicate n (List.replicate 128 0)
theorem recs_zeS (n : Nat) : recs (zeS n) = [] := by
 have hz : gdB (List.replicate 128 0) 0 = false := by
  have : genS (List.replicate 128 0) = 0 := by decide
  simp only [gdB, this, Nat.lt_irrefl, decide_false, Bool.false_and, Bool.and_false]
 rw [recs]
 cases n with
 | zero => rfl
 | succ n =>
  have hl : (zeS (n + 1)).length = n + 1 := by simp [zeS]
  have h0 : (zeS (n + 1)).getD 0 [] = List.replicate 128 0 := by simp [zeS]
  rw [hl, rcs, hl, Nat.sub_zero, rd, h0, if_neg (by rw [hz]; rintro ⟨h, _⟩; cases h)]
  rfl
theorem new_okR {crew : Int} {seed : By} {m : Int} {n : Nat} (h0 : 0 ≤ crew) (h1 : crew < 32) (hk : keyV seed m 0 = true) (hn : 1 ≤ n) (hn2 : n ≤ 4096) : okR crew seed m (zeS n) (-1) 0 := by
 have hr := recs_zeS n
 refine ⟨h0, h1, by rw [hr]; exact hk, by simp [zeS]; omega, by simp [zeS]; omega, by omega, by omega, ?_, by rw [hr]; rfl, by omega, by rw [hr]; exact Int.le_refl _⟩
 intro b hb
 rw [(List.mem_replicate.1 hb).2]; simp
/-! ### Record -/
def ownF (crew : Int) (n : Nat) (f : Nat → Int) : Nat → Int := fup (fup f 0 crew) 1 ((n : Int) + 1)
def leftN (left : Int) (n : Nat) : Int := if 0 ≤ left then left - n else left
section
variable {crew : Int} {seed : By} {m : Int} {s : List By} {left sent : Int} (h : okR crew seed m s left sent) {g : Nat → Int} (hg : fOk g) (hv : (numF g).2 = true) (hc : g 0 = crew) (hn : g 1 = (recs s).length + 1)
 (hm : ((recs s).length : Int) < m) (hu : usd (recs s) + secs (encF g).length ≤ s.length) (hgen : gnr s < 4294967296)
include h hg hv hc hn hm hu hgen
omit hu hgen in
theorem rec_on : onB crew m 0 (recs s ++ [encF g]) = true := by
 rw [onB_app, h.on, Bool.true_and, Nat.zero_add, onB, onB, Bool.and_true, onK, dec_of_enc hg hv, decide_eq_true_eq]
 exact ⟨rfl, hc, hn, hm⟩
theorem rec_okR (hno : ¬ (0 ≤ left ∧ left < secs (encF g).length)) : okR crew seed m (perf s (wrI (wrR s (encF g)))) (leftN left (secs (encF g).length)) sent ∧ recs (perf s (wrI (wrR s (encF g)))) = recs s ++ [encF g] := by
 have hr := sync_whole h.h128 hgen hu
 refine ⟨⟨h.c0, h.c1, ?_, by rw [perf_len]; exact h.n1, by rw [perf_len]; exact h.n2, ?_, ?_, ?_, ?_, h.s0, ?_⟩, hr⟩
 ·rw [hr, List.length_append]
  have hk := keyV_iff.1 h.key
  exact keyV_iff.2 ⟨hk.1, hk.2.1, hk.2.2.1, hk.2.2.2.1, by simp; omega, by simp; omega⟩
 ·have := h.l1; unfold leftN; split <;> omega
 ·have := h.l2; unfold leftN; split <;> omega
 ·refine perf_128 h.h128 fun w hw => ?_
  obtain ⟨x, hx, rfl⟩ := List.mem_map.1 hw
  exact wrt_128 _ _ _ _ _ x hx
 ·rw [hr]; exact rec_on h hg hv hc hn hm
 ·rw [hr, List.length_append]; have := h.s1; simp; omega
omit hg hv hc hn hm in
theorem stop_okR {k : Nat} (hk : k < secs (encF g).length) : okR crew seed m (stopS s (wrR s (encF g)) k) (-1) 0 ∧ recs (stopS s (wrR s (encF g)) k) = recs s := by
 have hr := sync_stop h.h128 hgen hu hk
 have hl : (stopS s (wrR s (encF g)) k).length = s.length := by rw [stopS, List.length_set, perf_len]
 have hw : ∀ x ∈ wrR s (encF g), x.2.length = 128 := fun x hx => wrt_128 _ _ _ _ _ x hx
 have hp : ∀ b ∈ perf s (wrI ((wrR s (encF g)).take k)), b.length = 128 := perf_128 h.h128 fun w hw' => by
  obtain ⟨x, hx, rfl⟩ := List.mem_map.1 hw'
  exact hw x (List.mem_of_mem_take hx)
 refine ⟨⟨h.c0, h.c1, by rw [hr]; exact h.key, by rw [hl]; exact h.n1, by rw [hl]; exact h.n2, by omega, by omega, ?_, by rw [hr]; exact h.on, by omega, by omega⟩, hr⟩
 intro b hb
 rw [stopS] at hb
 have hwl : (wrR s (encF g)).length = secs (encF g).length := wrt_len _ _ _ _ _
 have hkk : (wrR s (encF g)).getD k (0, []) ∈ wrR s (encF g) := by
  rw [List.getD_eq_getElem?_getD, List.getElem?_eq_getElem (by omega), Option.getD_some]; exact List.getElem_mem _
 have hat : ((wrR s (encF g)).getD k (0, [])).1 < s.length := by
  have hf := wrt_fst (gnr s) (secs (encF g).length) (usd (recs s)) 1 (encF g)
  have h1 : ((wrR s (encF g)).getD k (0, [])).1 ∈ (wrR s (encF g)).map (·.1) := List.mem_map_of_mem hkk
  rw [wrR, hf, List.mem_range'_1] at h1
  rw [wrR]; omega
 rcases List.mem_or_eq_of_mem_set hb with hb | rfl
 ·exact hp b hb
 ·have h1 := hw _ hkk
  have h2 : ((perf s (wrI ((wrR s (encF g)).take k))).getD ((wrR s (encF g)).getD k (0, [])).1 []).length = 128 := by
   refine hp _ ?_
   rw [List.getD_eq_getElem?_getD, List.getElem?_eq_getElem (by rw [perf_len]; omega), Option.getD_some]; exact List.getElem_mem _
  rw [tornB, List.length_append, List.length_take, List.length_drop, h1, h2]
  rfl
end
theorem recs_small {s : List By} (hs : ∀ b ∈ s, b.length = 128) (hn : s.length ≤ 4096) : ∀ b ∈ recs s, b.length ≤ 458752 := by
 have key : ∀ {l : List By}, ∀ b ∈ l, b.length ≤ 112 * usd l := by
  intro l
  induction l with
  | nil => intro b h; cases h
  | cons x l ih =>
   intro b hb
   rw [usd]
   rcases List.mem_cons.1 hb with rfl | hb
   ·have : secs b.length ≥ (b.length + 111) / 112 := by rw [secs]; omega
    omega
   ·have := ih b hb; omega
 obtain ⟨h1, h2, h3⟩ := recs_facts hs
 obtain ⟨_, g2, _⟩ := rcs_facts hs (gnr s) (fun x hx => (gnr_gt hx).1) (k := s.length) (at_ := 0) (last := 0) (Nat.zero_le _) (gnr_pos s)
 intro b hb
 have := key b hb
 omega
theorem recs_used {s : List By} (hs : ∀ b ∈ s, b.length = 128) : usd (recs s) ≤ s.length ∧ (recs s).length ≤ usd (recs s) := by
 obtain ⟨h1, h2, h3⟩ := recs_facts hs
 obtain ⟨_, g2, _⟩ := rcs_facts hs (gnr s) (fun x hx => (gnr_gt hx).1) (k := s.length) (at_ := 0) (last := 0) (Nat.zero_le _) (gnr_pos s)
 exact ⟨by omega, by rw [recs, List.length_map]; exact h3⟩
/-! ### Restart -/
/-! ### what the functions hand back -/
def newP (crew : Int) (seed : By) (m u k : Int) : Rm × Int :=
 if 0 ≤ crew ∧ crew < 32 then
  if keyV seed m u = true then if 1 ≤ k ∧ k ≤ 4096 then (mkR crew seed m (zeS k.toNat) (-1) 0, 0) else (zeR, 1) else (zeR, 40)
 else (zeR, 440)
def resP (r : Rm) : Rm × Int :=
 if 0 ≤ r.crew ∧ r.crew < 32 then
  if keyV r.seed r.many 0 = true then
   if dkB ⟨r.dk.s, [], -1, false⟩ = true then if onB r.crew r.many 0 (recs r.dk.s) = true then (mkR r.crew r.seed r.many r.dk.s (-1) 0, 0) else (zeR, 440)
   else (zeR, 380)
  else (zeR, 40)
 else (zeR, 440)
def recV (crew : Int) (seed : By) (m : Int) (s : List By) (left sent : Int) (g : Nat → Int) : Rm × Int :=
 if (numF g).2 = true then
  if ((recs s).length : Int) < m then
   if usd (recs s) + secs (encF g).length ≤ s.length then
    if gnr s < 4294967296 then
     if 0 ≤ left ∧ left < secs (encF g).length then (mkR crew seed m (stopS s (wrR s (encF g)) left.toNat) (-1) 0, 380)
     else (mkR crew seed m (perf s (wrI (wrR s (encF g)))) (leftN left (secs (encF g).length)) sent, 0)
    else (zeR, 390)
   else (zeR, 2)
  else (zeR, 40)
 else (zeR, 120)
def recP (r : Rm) (f : Nat → Int) : Rm × Int := if rmB r = true then recV r.crew r.seed r.many r.dk.s r.dk.left r.sent (ownF r.crew (recs r.dk.s).length f) else (zeR, 440)
theorem ownF_ok {crew : Int} {n : Nat} {f : Nat → Int} (hf : fOk f) (hc : isI crew) (hn : n ≤ 1000000) : fOk (ownF crew n f) := by
 have h1 : isI ((n : Int) + 1) := by unfold isI; omega
 refine ⟨fun i => ?_, ?_, fun i hi => ?_⟩
 ·unfold ownF fup
  split
  ·exact h1
  ·split
   ·exact hc
   ·exact hf.1 i
 ·have e : ownF crew n f 54 = f 54 := by unfold ownF fup; rw [if_neg (by omega), if_neg (by omega)]
  rw [e]; exact hf.2.1
 ·have e : ownF crew n f i = f i := by unfold ownF fup; rw [if_neg (by omega), if_neg (by omega)]
  rw [e]; exact hf.2.2 i hi
theorem ownF_0 (crew : Int) (n : Nat) (f : Nat → Int) : ownF crew n f 0 = crew := by unfold ownF fup; rw [if_neg (by omega), if_pos rfl]
theorem ownF_1 (crew : Int) (n : Nat) (f : Nat → Int) : ownF crew n f 1 = n + 1 := by unfold ownF fup; rw [if_pos rfl]
theorem recV_cases {crew : Int} {seed : By} {m : Int} {s : List By} {left sent : Int} (h : okR crew seed m s left sent) {g : Nat → Int} (hg : fOk g) (hc : g 0 = crew) (hn : g 1 = (recs s).length + 1) :
  (∃ s' l', recV crew seed m s left sent g = (mkR crew seed m s' l' sent, 0) ∧ okR crew seed m s' l' sent ∧ recs s' = recs s ++ [encF g] ∧ decF (encF g) = (g, 0)) ∨
  (∃ s', recV crew seed m s left sent g = (mkR crew seed m s' (-1) 0, 380) ∧ okR crew seed m s' (-1) 0 ∧ recs s' = recs s) ∨
  (∃ e, recV crew seed m s left sent g = (zeR, e) ∧ e ≠ 0 ∧ e ≠ 380) := by
 unfold recV
 by_cases hv : (numF g).2 = true
 ·rw [if_pos hv]
  by_cases hm : ((recs s).length : Int) < m
  ·rw [if_pos hm]
   by_cases hu : usd (recs s) + secs (encF g).length ≤ s.length
   ·rw [if_pos hu]
    by_cases hgen : gnr s < 4294967296
    ·rw [if_pos hgen]
     by_cases hl : 0 ≤ left ∧ left < secs (encF g).length
     ·rw [if_pos hl]
      obtain ⟨h1, h2⟩ := stop_okR h hu hgen (k := left.toNat) (by omega)
      exact .inr (.inl ⟨_, rfl, h1, h2⟩)
     ·rw [if_neg hl]
      obtain ⟨h1, h2⟩ := rec_okR h hg hv hc hn hm hu hgen hl
      exact .inl ⟨_, _, rfl, h1, h2, dec_of_enc hg hv⟩
    ·rw [if_neg hgen]; exact .inr (.inr ⟨_, rfl, by decide, by decide⟩)
   ·rw [if_neg hu]; exact .inr (.inr ⟨_, rfl, by decide, by decide⟩)
  ·rw [if_neg hm]; exact .inr (.inr ⟨_, rfl, by decide, by decide⟩)
 ·rw [if_neg hv]; exact .inr (.inr ⟨_, rfl, by decide, by decide⟩)
theorem recV_left {crew : Int} {seed : By} {m : Int} {s : List By} {left sent : Int} {g : Nat → Int} (h : (recV crew seed m s left sent g).2 ≠ 380) :
  (recV crew seed m s (-1) 0 g).2 = (recV crew seed m s left sent g).2 ∧ ((recV crew seed m s left sent g).2 = 0 → (recV crew seed m s (-1) 0 g).1.fs = (recV crew seed m s left sent g).1.fs) := by
 unfold recV at h ⊢
 by_cases hv : (numF g).2 = true
 ·rw [if_pos hv] at h
  rw [if_pos hv, if_pos hv]
  by_cases hm : ((recs s).length : Int) < m
  ·rw [if_pos hm] at h
   rw [if_pos hm, if_pos hm]
   by_cases hu : usd (recs s) + secs (encF g).length ≤ s.length
   ·rw [if_pos hu] at h
    rw [if_pos hu, if_pos hu]
    by_cases hgen : gnr s < 4294967296
    ·rw [if_pos hgen] at h
     rw [if_pos hgen, if_pos hgen]
     by_cases hl : 0 ≤ left ∧ left < secs (encF g).length
     ·rw [if_pos hl] at h; exact absurd rfl h
     ·rw [if_neg hl, if_neg (by omega)]; exact ⟨rfl, fun _ => rfl⟩
    ·rw [if_neg hgen, if_neg hgen]; exact ⟨rfl, fun _ => rfl⟩
   ·rw [if_neg hu, if_neg hu]; exact ⟨rfl, fun _ => rfl⟩
  ·rw [if_neg hm, if_neg hm]; exact ⟨rfl, fun _ => rfl⟩
 ·rw [if_neg hv, if_neg hv]; exact ⟨rfl, fun _ => rfl⟩
end Go.Proofs.YtfgcgagcpnbgmaaGreatDoor
