/-
  Joined texts.
-/
import Derived.Test.YtnljenjcaeophaaGreatDoorWTA
import Derived.Test.YtnljenjcaeophaaGreatDoorWT
import Derived.Test.YtnljenjcaeophaaGreatDoorWTE
import Derived.Test.YtnljenjcaeophaaGreatDoorWAB
import Derived.Test.YtnljenjcaeophaaGreatDoorWG
set_option maxRecDepth 10000
set_option maxHeartbeats 4000000
set_option linter.unusedVariables false
set_option linter.unusedSimpArgs false
set_option linter.unusedSectionVars false
namespace Go.Proofs.YtnljenjcaeophaaGreatDoor
open Go.Xe Go.RowKit
theorem nd_ : ∀ (N n i : Nat), n ≤ N → 1 ≤ n → i < n → n ≤ 65536 → Fn0 Tryz.prog 191 [.v (.int .i64 i), .v (.int .i64 n)] (.v (.int .i64 (fu_ i n).length)) := by
 intro N
 induction N with
 | zero => intro n i h1 h2; omega
 | succ N ih =>
  intro n i hf h1 hi hn
  by_cases hn1 : n ≤ 1
  ·obtain rfl : n = 1 := by omega
   rw [lQ_ i 1 (by omega)]
   refine ac_ (pn := ap_) aa_ Tryz.func191 rfl fun β0 => ?_
   simp only [Tryz.f191]
   repeat(first|apply wG|(apply wR;simp -dsimp)|refine aI ?_)
   refine cT (by simp) ?_
   repeat(first|apply wG|(apply wR;simp -dsimp)|refine aI ?_)
   refine WP.ret (ab_ ?_)
   simp -dsimp
  ·have k1 := cg_ n
   have k2 := d6_ n (by omega)
   have hh := i9_ n h1 hn
   have hd := lP_ i n (by omega)
   have hl1 := ea_ (halfN n) i (halfN n) (Nat.le_refl _)
   have hl2 := ea_ (n - halfN n) (i - halfN n) (n - halfN n) (Nat.le_refl _)
   generalize halfN n = k at *
   rw [hd]
   refine ac_ (pn := ap_) aa_ Tryz.func191 rfl fun β0 => ?_
   simp only [Tryz.f191]
   repeat(first|apply wG|(apply wR;simp -dsimp)|refine aI ?_)
   refine cF (by simp; omega) ?_
   refine WP.skip ?_
   simp -dsimp
   repeat(first|apply wG|(apply wR;simp -dsimp)|refine aI ?_)
   refine ad_ dP_ hh rfl rfl (by simp) ?_
   simp -dsimp
   repeat(first|apply wG|(apply wR;simp -dsimp)|refine aI ?_)
   by_cases hik : i < k
   ·rw [if_pos hik]
    have hr := ih k i (by omega) (by omega) hik (by omega)
    have e1 : IntKind.i64.wrap (1 + ((fu_ i k).length : Int)) = (((true :: fu_ i k).length : Nat) : Int) := by rw [IntWalk.i64_in _ (by omega), List.length_cons]; omega
    refine cT (by simp; omega) ?_
    repeat(first|apply wG|(apply wR;simp -dsimp)|refine aI ?_)
    refine ad_ cB_ hr rfl rfl (by simp) ?_
    simp -dsimp [e1]
    repeat(first|apply wG|(apply wR;simp -dsimp [e1])|refine aI ?_)
    refine WP.ret (ab_ ?_)
    simp -dsimp [e1]
   ·rw [if_neg hik]
    have hr := ih (n - k) (i - k) (by omega) (by omega) (by omega) (by omega)
    have e1 : IntKind.i64.wrap (1 + ((fu_ (i - k) (n - k)).length : Int)) = (((false :: fu_ (i - k) (n - k)).length : Nat) : Int) := by rw [IntWalk.i64_in _ (by omega), List.length_cons]; omega
    have e2 : IntKind.i64.wrap ((i : Int) - k) = ((i - k : Nat) : Int) := by rw [IntWalk.i64_in _ (by omega)]; omega
    have e3 : IntKind.i64.wrap ((n : Int) - k) = ((n - k : Nat) : Int) := by rw [IntWalk.i64_in _ (by omega)]; omega
    refine cF (by simp; omega) ?_
    refine WP.skip ?_
    simp -dsimp
    repeat(first|apply wG|(apply wR;simp -dsimp [e2, e3])|refine aI ?_)
    refine ad_ cB_ hr rfl rfl (by simp) ?_
    simp -dsimp [e1]
    repeat(first|apply wG|(apply wR;simp -dsimp [e1])|refine aI ?_)
    refine WP.ret (ab_ ?_)
    simp -dsimp [e1]
theorem lk_ (n i : Nat) (h1 : 1 ≤ n) (hi : i < n) (hn : n ≤ 65536) : Fn0 Tryz.prog 191 [.v (.int .i64 i), .v (.int .i64 n)] (.v (.int .i64 (fu_ i n).length)) := nd_ n n i (Nat.le_refl _) h1 hi hn
theorem i8_ (hsum : ∀ b : List UInt8, b.length ≤ 100000 → Fn0 Tryz.prog 190 [slB b] (dD (hD_ b))) (a b : Dg) (ha : a.length = 32) (hb : b.length = 32) : Fn0 Tryz.prog 185 [dD a, dD b] (dD (nodeB a b)) := by
 have ht := cN_ hsum ⟨#[110, 111, 100, 101]⟩ (by decide) (a ++ b) (by simp; omega)
 rw [show (⟨#[110, 111, 100, 101]⟩ : ByteArray).data.toList = tB "node" by decide +kernel, show tagB (tB "node") (a ++ b) = nodeB a b from rfl] at ht
 have ho : (nodeB a b).length = 32 := bH_ _ _
 have hlen : (a ++ b).length = 64 := by simp; omega
 have eb : bys (a ++ b) = bys a ++ bys b := by rw [bys, bys, bys, List.map_append]
 rw [slB, hlen] at ht
 generalize nodeB a b = r at *
 have htr : Fun Tryz.prog 129 [.d (.v (.string ⟨#[110, 111, 100, 101]⟩)), .row 1000] [(1000, .row 5 1 64 ((bys (a ++ b)).map .d))] (.d (dD r)) [] fun _ => False := a1_ 1000 (T := 5) (cs := bys (a ++ b)) (args' := [.d (.v (.string ⟨#[110, 111, 100, 101]⟩)), .row 1000]) (bi' := [(1000, .row 5 1 64 ((bys (a ++ b)).map .d))]) ht rfl rfl trivial
 refine ac_ (pn := ap_) aa_ Tryz.func185 rfl fun β0 => ?_
 simp only [Tryz.f185]
 refine WP.seq ?_
 refine WP.region aa_ ?_
 simp -dsimp [dD, bys_len, ha, hb]
 refine And.intro (fun a h => ao_ h) ?_
 refine And.intro (fun a h => ao_ h) ?_
 refine au_ (aG_ (k := 2) (T := 102) (ds := bys a) (by simp [bys_len, ha])) ?_
 simp -dsimp [eW_, fzc, ci_, ki_]
 refine au_ (aG_ (k := 3) (T := 102) (ds := bys b) (by simp [bys_len, hb])) ?_
 simp -dsimp [eW_, fzc, ci_, ki_]
 repeat(first|apply wG|(apply wR;simp -dsimp)|refine aI ?_)
 refine at_ aa_ rfl rfl rfl rfl (by simp [bys_len, ha]) (by decide) rfl ?_
 simp -dsimp [bys_t32, ha]
 repeat(first|apply wG|(apply wR;simp -dsimp [bys_len, ha])|refine aI ?_)
 refine at_ aa_ rfl rfl rfl rfl (by simp [bys_len, hb]) (by decide) rfl ?_
 simp -dsimp [bys_t32, ha, hb]
 repeat(first|apply wG|(apply wR;simp -dsimp [bys_len, ha, hb])|refine aI ?_)
 refine vcStop.call bs_ (htr) (rl [(1000, 9)]) rfl rfl (by simp [eb, BoxLeq]) (aj_ (by simp [eb, BoxLeq]) rfl (by first | rfl | (simp [eb, BoxLeq]; done)) (by simp [eb, BoxLeq]) (by simp [eb, BoxLeq])) (fun _ h => h.elim) (fun ⟨_, h⟩ => h.elim) (fun ⟨_, h⟩ => h.elim) (by simp [eb, BoxLeq]) ?_
 simp -dsimp [dD]
 refine And.intro ⟨ho, fun a h => ao_ h⟩ ?_
 repeat(first|apply wG|(apply wR;simp -dsimp [bys_len, ho])|refine aI ?_)
 refine WP.ret (ab_ ?_)
 simp -dsimp [setL_whole, bys_len, ho, bysA_take]
 exact ai_ _
abbrev smS0 (a b : List Dg) (i : Nat) : St := mkS 26 [(0, .d (slG a)), (1, .d (slG b)), (5, .d (.v (.int .i64 i)))] []
theorem uh_ : Tryz.prog.eqGuardType Tryz.prog.depth 102 = false := by kernel_rfl
theorem bys_t32L {x : Dg} (h : x.length = 32) : List.take 32 (bys x) = bys x := List.take_of_length_le (by rw [bys_len]; omega)
theorem hI_ (a b : List Dg) (ha : bi_ a) (hb : bi_ b) (hna : a.length ≤ 10000000000000) (hnb : b.length ≤ 10000000000000) : Fn0 Tryz.prog 130 [slG a, slG b] (.v (.bool (decide (a = b)))) := by
 refine ac_ (pn := ap_) aa_ Tryz.func130 rfl fun β0 => ?_
 simp only [Tryz.f130]
 repeat(first|apply wG|(apply wR;simp -dsimp [slG])|refine aI ?_)
 by_cases hl : a.length = b.length
 ·refine cF (by simp [hl]) ?_
  refine WP.skip ?_
  simp -dsimp
  repeat(first|apply wG|(apply wR;simp -dsimp)|refine aI ?_)
  refine ak_ (fun q S => ∃ i : Nat, q = a.length - i ∧ i ≤ a.length ∧ (∀ j, j < i → digA a j = digA b j) ∧ S = smS0 a b i) a.length (S0 := smS0 a b 0) (ae_ [] (by simp [slG]) (by simp)) ⟨0, rfl, by omega, fun j h => by omega, rfl⟩ ?_
  rintro _ _ ⟨i, rfl, hi, hj, rfl⟩
  simp -dsimp [slG]
  repeat(first|apply wG|(apply wR;simp -dsimp)|refine aI ?_)
  by_cases hil : i < a.length
  ·have hib : i < b.length := by omega
   have aa := eo_ ha i hil
   have ab := eo_ hb i hib
   have la := ck_ ha i hil
   have lb := ck_ hb i hib
   have ca := cl_ ha
   have cb := cl_ hb
   have ta := bys_t32L la
   have tb := bys_t32L lb
   have e1 : IntKind.i64.wrap ((i : Int) + 1) = ((i + 1 : Nat) : Int) := by rw [IntWalk.i64_in _ (by omega)]; omega
   have hstep : digA a i = digA b i → ∀ j, j < i + 1 → digA a j = digA b j := fun h j hj1 => by
    rcases Nat.lt_or_ge j i with h1 | h1
    ·exact hj j h1
    ·rw [show j = i by omega]; exact h
   have hbad : digA a i ≠ digA b i → a ≠ b := fun h e => h (by rw [e])
   generalize digA a i = x at *
   generalize digA b i = y at *
   refine cT (by simp; omega) ?_
   refine WP.skip ?_
   simp -dsimp
   repeat(first|apply wG|(apply wR;simp -dsimp [aa, ab, ta, tb])|refine aI ?_)
   refine pj_ aa_ A9_ rl_ rfl (.inr rfl) (q := 4) (by omega) (T := 102) fC_ ip_ (by decide) uh_ (cs := dp_ x) (es := dp_ y) (by simp [bn_]) (by simp [bn_]) (by simp [dp_, la]) (by simp [dp_, lb]) (d2_ x) (d2_ y) (h1_ x y) ?_
   simp -dsimp [eqRes]
   repeat(first|apply wG|(apply wR;simp -dsimp)|refine aI ?_)
   by_cases hxy : x = y
   ·refine cF (by simp [eqRes, hxy]) ?_
    refine WP.skip ?_
    simp -dsimp
    repeat(first|apply wG|(apply wR;simp -dsimp)|refine aI ?_)
    refine ah_ (smS0 a b (i + 1)) (ae_ [] (by simp [e1, slG]) (by simp)) (a.length - (i + 1)) (by omega) ⟨i + 1, rfl, by omega, hstep hxy, rfl⟩
   ·refine cT (by simp [eqRes, hxy]) ?_
    have hr : decide (a = b) = false := decide_eq_false (hbad hxy)
    repeat(first|apply wG|(apply wR;simp -dsimp)|refine aI ?_)
    refine WP.ret (ab_ ?_)
    simp -dsimp [hr]
  ·refine cF (by simp; omega) ?_
   refine WP.exit ?_
   have hr : decide (a = b) = true := decide_eq_true (oX_ hl fun j h => hj j (by omega))
   simp -dsimp
   repeat(first|apply wG|(apply wR;simp -dsimp)|refine aI ?_)
   refine WP.ret (ab_ ?_)
   simp -dsimp [hr]
 ·refine cT (by simp; omega) ?_
  have hr : decide (a = b) = false := decide_eq_false fun h => hl (by rw [h])
  repeat(first|apply wG|(apply wR;simp -dsimp)|refine aI ?_)
  refine WP.ret (ab_ ?_)
  simp -dsimp [hr]
theorem na_ (k k' : Int) (o c p o' c' p' : List Dg) (h : sigG k o c p) (h' : sigG k' o' c' p') : ∃ r, Fn0 Tryz.prog 76 [.agg (sigC k o c p), .agg (sigC k' o' c' p')] (.v (.bool r)) ∧ (r = true ↔ k = k' ∧ o = o' ∧ c = c' ∧ p = p') := by
 have k1 := hI_ o o' h.ho h'.ho h.no h'.no
 have k2 := hI_ c c' h.hc h'.hc h.nc h'.nc
 have k3 := hI_ p p' h.hp h'.hp h.np h'.np
 have e : (decide (k = k') && (decide (o = o') && (decide (c = c') && decide (p = p')))) = true ↔ k = k' ∧ o = o' ∧ c = c' ∧ p = p' := by simp
 refine ⟨_, ?_, e⟩
 generalize decide (o = o') = b1 at *
 generalize decide (c = c') = b2 at *
 generalize decide (p = p') = b3 at *
 clear e
 by_cases hk : k = k'
 ·subst hk
  refine ac_ (pn := ap_) aa_ Tryz.func76 rfl fun β0 => ?_
  simp only [Tryz.f76]
  repeat(first|apply wG|(apply wR;simp -dsimp [sigC, slG])|refine aI ?_)
  refine af_ dR_ (fun _ => k1) rfl (fun _ => rfl) (fun _ => by simp [slG]) ?_
  cases b1 with
  | false =>
   simp -dsimp
   repeat(first|apply wG|(apply wR;simp -dsimp)|refine aI ?_)
   refine vcStopG.skip (.d (.v (.bool false))) ?_
   simp -dsimp
   repeat(first|apply wG|(apply wR;simp -dsimp)|refine aI ?_)
   refine vcStopG.skip (.d (.v (.bool false))) ?_
   simp -dsimp
   repeat(first|apply wG|(apply wR;simp -dsimp)|refine aI ?_)
   refine WP.ret (ab_ ?_)
   simp -dsimp
  | true =>
   simp -dsimp
   repeat(first|apply wG|(apply wR;simp -dsimp)|refine aI ?_)
   refine af_ dR_ (fun _ => k2) rfl (fun _ => rfl) (fun _ => by simp [slG]) ?_
   cases b2 with
   | false =>
    simp -dsimp
    repeat(first|apply wG|(apply wR;simp -dsimp)|refine aI ?_)
    refine vcStopG.skip (.d (.v (.bool false))) ?_
    simp -dsimp
    repeat(first|apply wG|(apply wR;simp -dsimp)|refine aI ?_)
    refine WP.ret (ab_ ?_)
    simp -dsimp
   | true =>
    simp -dsimp
    repeat(first|apply wG|(apply wR;simp -dsimp)|refine aI ?_)
    refine af_ dR_ (fun _ => k3) rfl (fun _ => rfl) (fun _ => by simp [slG]) ?_
    simp -dsimp
    repeat(first|apply wG|(apply wR;simp -dsimp)|refine aI ?_)
    refine WP.ret (ab_ ?_)
    simp -dsimp
 ·have hd : decide (k = k') = false := decide_eq_false hk
  refine ac_ (pn := ap_) aa_ Tryz.func76 rfl fun β0 => ?_
  simp only [Tryz.f76]
  repeat(first|apply wG|(apply wR;simp -dsimp [sigC, slG, hd])|refine aI ?_)
  refine vcStopG.skip (.d (.v (.bool false))) ?_
  simp -dsimp
  repeat(first|apply wG|(apply wR;simp -dsimp)|refine aI ?_)
  refine vcStopG.skip (.d (.v (.bool false))) ?_
  simp -dsimp
  repeat(first|apply wG|(apply wR;simp -dsimp)|refine aI ?_)
  refine vcStopG.skip (.d (.v (.bool false))) ?_
  simp -dsimp
  repeat(first|apply wG|(apply wR;simp -dsimp)|refine aI ?_)
  refine WP.ret (ab_ ?_)
  simp -dsimp [hd]
theorem vg_ {k k' : Int} {o c p o' c' p' : List Dg} (h : sigG k o c p) (h' : sigG k' o' c' p') (e : sigC k o c p = sigC k' o' c' p') : k = k' ∧ o = o' ∧ c = c' ∧ p = p' := by
 have key : ∀ {a b : List Dg}, bi_ a → bi_ b → dgL a = dgL b → a.length = b.length → a = b := fun {a b} ha hb e hl => by
  rw [← dv_ ha, e, hl, dv_ hb]
 simp only [sigC, slG, List.cons.injEq, D.v.injEq, Value.int.injEq, D.sl.injEq, true_and, and_true] at e
 obtain ⟨e1, ⟨e2, n2⟩, ⟨e3, n3⟩, e4, n4⟩ := e
 exact ⟨e1, key h.ho h'.ho e2 n2, key h.hc h'.hc e3 n3, key h.hp h'.hp e4 n4⟩
theorem pv_ (p q : Sg) (hp : sgOk p) (hq : sgOk q) (up : sgT p) (uq : sgT q) : ∃ r, Fn0 Tryz.prog 31 [sgV p, sgV q] (.v (.bool r)) ∧ (p = q → r = true) := by
 have k1 := d1_ p.1 q.1 hp.1 hq.1
 have l1 := az_ hp
 have l2 := az_ hq
 have h57 := e1_ p
 have g57 := e1_ q
 have h4 : List.take 4 (List.drop 57 ((sgc p).map AV.d)) = p.2.map .d := by rw [← List.map_drop, ← List.map_take, ol_ hp]
 have g4 : List.take 4 (List.drop 57 ((sgc q).map AV.d)) = q.2.map .d := by rw [← List.map_drop, ← List.map_take, ol_ hq]
 obtain ⟨k, op, cl, pa, e, hg⟩ := up
 obtain ⟨k', op', cl', pa', e', hg'⟩ := uq
 obtain ⟨r2, k2, hr2⟩ := na_ k k' op cl pa op' cl' pa' hg hg'
 rw [← e, ← e'] at k2
 have hr : p = q → (eqF p.1 q.1 && r2) = true := fun h => by
  subst h
  rw [(eH_ hp.1 hp.1).2 rfl, hr2.2 (vg_ hg hg' (e.symm.trans e'))]
  rfl
 refine ⟨_, ?_, hr⟩
 clear hr hr2 hg hg' e e'
 generalize eqF p.1 q.1 = b1 at k1
 simp only [sgV]
 refine ac_ (pn := ap_) aa_ Tryz.func31 rfl fun β0 => ?_
 simp only [Tryz.f31]
 repeat(first|apply wG|(apply wR;simp -dsimp)|refine aI ?_)
 refine And.intro (sgc_oneD hp) ?_
 repeat(first|apply wG|(apply wR;simp -dsimp)|refine aI ?_)
 refine And.intro (sgc_oneD hq) ?_
 repeat(first|apply wG|(apply wR;simp -dsimp [h57, h4, g57, g4])|refine aI ?_)
 refine ag_ dg_ k1 rfl rfl (And.intro (by simp [fD]) (And.intro (by simp [fD]) trivial)) ?_
 cases b1 with
 | true =>
  simp -dsimp
  repeat(first|apply wG|(apply wR;simp -dsimp [h57, h4, g57, g4])|refine aI ?_)
  refine aP_ nT_ (fun _ => k2) rfl (fun _ => rfl) (fun _ => And.intro (by simp [h4]) (And.intro (by simp [g4]) trivial)) ?_
  simp -dsimp
  repeat(first|apply wG|(apply wR;simp -dsimp)|refine aI ?_)
  refine WP.ret (ab_ ?_)
  simp -dsimp
 | false =>
  simp -dsimp
  repeat(first|apply wG|(apply wR;simp -dsimp [h57, h4, g57, g4])|refine aI ?_)
  refine vcStopG.skip (.d (.v (.bool false))) ?_
  simp -dsimp
  repeat(first|apply wG|(apply wR;simp -dsimp)|refine aI ?_)
  refine WP.ret (ab_ ?_)
  simp -dsimp
theorem tY_ {p : List Dg} (h : bi_ p) (h0 : 0 < p.length) : List.take ((p.length - 1) * 32) ((dgL p).map AV.d) = (dgL p.dropLast).map .d := by
 rw [← List.map_take, hr_ _ h, List.dropLast_eq_take]
theorem pD_ (hsum : ∀ b : List UInt8, b.length ≤ 100000 → Fn0 Tryz.prog 190 [slB b] (dD (hD_ b))) (d : Dg) (hd : d.length = 32) : ∀ (N n i : Nat) (p : List Dg), n ≤ N → 1 ≤ n → i < n → n ≤ 65536 → bi_ p → p.length = (fu_ i n).length →
  Fn0 Tryz.prog 192 [dD d, .v (.int .i64 i), .v (.int .i64 n), slG p] (dD (climbF N d i n p)) ∧ (climbF N d i n p).length = 32 := by
 intro N
 induction N with
 | zero => intro n i p h1 h2; omega
 | succ N ih =>
  intro n i p hf h1 hi hn hp hpl
  have ht := cN_ hsum ⟨#[108, 101, 97, 102]⟩ (by decide) d (by omega)
  rw [show (⟨#[108, 101, 97, 102]⟩ : ByteArray).data.toList = tB "leaf" by decide +kernel, show tagB (tB "leaf") d = leafB d from rfl] at ht
  have hlf := dC_ d
  by_cases hn1 : n ≤ 1
  ·obtain rfl : n = 1 := by omega
   rw [climbF, if_pos (by omega)]
   refine ⟨?_, hlf⟩
   generalize leafB d = r at *
   refine ac_ (pn := ap_) aa_ Tryz.func192 rfl fun β0 => ?_
   simp only [Tryz.f192]
   refine WP.seq ?_
   refine WP.region aa_ ?_
   simp -dsimp [dD, bys_len, hd]
   refine And.intro (fun a h => ao_ h) ?_
   refine au_ (aG_ (k := 4) (T := 102) (ds := bys d) (by simp [bys_len, hd])) ?_
   simp -dsimp [eW_, fzc, ci_, ki_]
   repeat(first|apply wG|(apply wR;simp -dsimp [slG])|refine aI ?_)
   refine cT (by simp) ?_
   repeat(first|apply wG|(apply wR;simp -dsimp)|refine aI ?_)
   refine at_ aa_ rfl rfl rfl rfl (by simp [bys_len, hd]) (by decide) rfl ?_
   simp -dsimp [bys_t32, hd]
   repeat(first|apply wG|(apply wR;simp -dsimp [bys_len, hd])|refine aI ?_)
   refine ad_ bs_ ht rfl rfl (by simp [slB, hd]) ?_
   simp -dsimp [dD]
   refine And.intro ⟨hlf, fun a h => ao_ h⟩ ?_
   repeat(first|apply wG|(apply wR;simp -dsimp [bys_len, hlf])|refine aI ?_)
   refine WP.ret (ab_ ?_)
   simp -dsimp [setL_whole, bys_len, hlf, bysA_take]
   exact ai_ _
  ·have k1 := cg_ n
   have k2 := d6_ n (by omega)
   have hh := i9_ n h1 hn
   have hd2 := lP_ i n (by omega)
   have hdl0 := ea_ n i n (Nat.le_refl _)
   have h0 : 0 < p.length := by rw [hpl, hd2]; split <;> simp
   have hat := eo_ hp (p.length - 1) (by omega)
   have hx := ck_ hp (p.length - 1) (by omega)
   have hdl : bi_ p.dropLast := fun x hx => hp x ((List.dropLast_sublist p).subset hx)
   have hdn : p.dropLast.length = p.length - 1 := List.length_dropLast
   have tk := tY_ hp h0
   have tkD : List.take ((p.length - 1) * 32) (dgL p) = dgL p.dropLast := by rw [hr_ _ hp, List.dropLast_eq_take]
   have lC := cl_ hp
   have hp1 : p.length - 1 < p.length := by omega
   have e0 : IntKind.i64.wrap ((p.length : Int) - 1) = ((p.length - 1 : Nat) : Int) := by rw [IntWalk.i64_in _ (by omega)]; omega
   rw [climbF, if_neg hn1]
   generalize halfN n = k at *
   by_cases hik : i < k
   ·simp only [if_pos hik] at hd2 ⊢
    obtain ⟨hr, hrl⟩ := ih k i p.dropLast (by omega) (by omega) hik (by omega) hdl (by rw [hdn, hpl, hd2]; simp)
    have hnode := i8_ hsum (climbF N d i k p.dropLast) (digA p (p.length - 1)) hrl hx
    have hno : (nodeB (climbF N d i k p.dropLast) (digA p (p.length - 1))).length = 32 := bH_ _ _
    refine ⟨?_, hno⟩
    generalize nodeB (climbF N d i k p.dropLast) (digA p (p.length - 1)) = r at *
    generalize climbF N d i k p.dropLast = c at *
    generalize digA p (p.length - 1) = x at *
    have tx := bys_t32L hx
    refine ac_ (pn := ap_) aa_ Tryz.func192 rfl fun β0 => ?_
    simp only [Tryz.f192]
    refine WP.seq ?_
    refine WP.region aa_ ?_
    simp -dsimp [dD, bys_len, hd]
    refine And.intro (fun a h => ao_ h) ?_
    repeat(first|apply wG|(apply wR;simp -dsimp [slG])|refine aI ?_)
    refine cF (by simp; omega) ?_
    refine WP.skip ?_
    simp -dsimp
    repeat(first|apply wG|(apply wR;simp -dsimp)|refine aI ?_)
    refine ad_ dP_ hh rfl rfl (by simp) ?_
    simp -dsimp
    repeat(first|apply wG|(apply wR;simp -dsimp [e0, hat, tx, lC, hp1, bys_len, hx, slG])|refine aI ?_)
    refine And.intro (fun a h => ao_ h) ?_
    repeat(first|apply wG|(apply wR;simp -dsimp [bys_len, hx])|refine aI ?_)
    refine cT (by simp; omega) ?_
    repeat(first|apply wG|(apply wR;simp -dsimp [e0, tk, lC, bysA_take, hd, hx, hdn])|refine aI ?_)
    refine ag_ dO_ hr rfl rfl (And.intro (by simp [dD, bysA_take, hd]; try exact ai_ _) (And.intro (by simp) (And.intro (by simp) (And.intro (by simp [slG, hdn, tkD]) trivial)))) ?_
    simp -dsimp [dD]
    repeat(first|apply wG|(apply wR;simp -dsimp [bysA_take, hd, hx])|refine aI ?_)
    refine ag_ gE_ hnode rfl rfl (And.intro (by simp [dD]) (And.intro (by simp [dD, bysA_take, hx]; try exact ai_ _) trivial)) ?_
    simp -dsimp [dD]
    refine And.intro ⟨hno, fun a h => ao_ h⟩ ?_
    repeat(first|apply wG|(apply wR;simp -dsimp [bys_len, hno])|refine aI ?_)
    refine WP.ret (ab_ ?_)
    simp -dsimp [setL_whole, bys_len, hno, bysA_take]
    exact ai_ _
   ·simp only [if_neg hik] at hd2 ⊢
    obtain ⟨hr, hrl⟩ := ih (n - k) (i - k) p.dropLast (by omega) (by omega) (by omega) (by omega) hdl (by rw [hdn, hpl, hd2]; simp)
    have hnode := i8_ hsum (digA p (p.length - 1)) (climbF N d (i - k) (n - k) p.dropLast) hx hrl
    have hno : (nodeB (digA p (p.length - 1)) (climbF N d (i - k) (n - k) p.dropLast)).length = 32 := bH_ _ _
    refine ⟨?_, hno⟩
    generalize nodeB (digA p (p.length - 1)) (climbF N d (i - k) (n - k) p.dropLast) = r at *
    generalize climbF N d (i - k) (n - k) p.dropLast = c at *
    generalize digA p (p.length - 1) = x at *
    have tx := bys_t32L hx
    have e2 : IntKind.i64.wrap ((i : Int) - k) = ((i - k : Nat) : Int) := by rw [IntWalk.i64_in _ (by omega)]; omega
    have e3 : IntKind.i64.wrap ((n : Int) - k) = ((n - k : Nat) : Int) := by rw [IntWalk.i64_in _ (by omega)]; omega
    refine ac_ (pn := ap_) aa_ Tryz.func192 rfl fun β0 => ?_
    simp only [Tryz.f192]
    refine WP.seq ?_
    refine WP.region aa_ ?_
    simp -dsimp [dD, bys_len, hd]
    refine And.intro (fun a h => ao_ h) ?_
    repeat(first|apply wG|(apply wR;simp -dsimp [slG])|refine aI ?_)
    refine cF (by simp; omega) ?_
    refine WP.skip ?_
    simp -dsimp
    repeat(first|apply wG|(apply wR;simp -dsimp)|refine aI ?_)
    refine ad_ dP_ hh rfl rfl (by simp) ?_
    simp -dsimp
    repeat(first|apply wG|(apply wR;simp -dsimp [e0, hat, tx, lC, hp1, bys_len, hx, slG])|refine aI ?_)
    refine And.intro (fun a h => ao_ h) ?_
    repeat(first|apply wG|(apply wR;simp -dsimp [bys_len, hx])|refine aI ?_)
    refine cF (by simp; omega) ?_
    refine WP.skip ?_
    simp -dsimp
    repeat(first|apply wG|(apply wR;simp -dsimp [e0, e2, e3, tk, lC, bysA_take, hd, hx, hdn])|refine aI ?_)
    refine ag_ dO_ hr rfl rfl (And.intro (by simp [dD, bysA_take, hd]; try exact ai_ _) (And.intro (by simp) (And.intro (by simp) (And.intro (by simp [slG, hdn, tkD]) trivial)))) ?_
    simp -dsimp [dD]
    repeat(first|apply wG|(apply wR;simp -dsimp [bysA_take, hd, hx])|refine aI ?_)
    refine ag_ gE_ hnode rfl rfl (And.intro (by simp [dD, bysA_take, hx]; try exact ai_ _) (And.intro (by simp [dD]) trivial)) ?_
    simp -dsimp [dD]
    refine And.intro ⟨hno, fun a h => ao_ h⟩ ?_
    repeat(first|apply wG|(apply wR;simp -dsimp [bys_len, hno])|refine aI ?_)
    refine WP.ret (ab_ ?_)
    simp -dsimp [setL_whole, bys_len, hno, bysA_take]
    exact ai_ _
def wM_ (d : Dg) (i n : Nat) (p : List Dg) : Dg × Int := if p.length = (fu_ i n).length then (climbF n d i n p, 0) else (z32, 1)
theorem ne_ (hsum : ∀ b : List UInt8, b.length ≤ 100000 → Fn0 Tryz.prog 190 [slB b] (dD (hD_ b))) (d : Dg) (hd : d.length = 32) (n i : Nat) (p : List Dg) (h1 : 1 ≤ n) (hi : i < n) (hn : n ≤ 65536) (hp : bi_ p) (hpn : p.length ≤ 10000000000000) :
  Fn0 Tryz.prog 136 [dD d, .v (.int .i64 i), .v (.int .i64 n), slG p] (.tup [dD (wM_ d i n p).1, .v (.int .i64 (wM_ d i n p).2)]) := by
 have hlen := lk_ n i h1 hi hn
 have d1 : decide ((n : Int) < 1) = false := by rw [decide_eq_false_iff_not]; omega
 have d2 : decide ((1099511627776 : Int) < (n : Int)) = false := by rw [decide_eq_false_iff_not]; omega
 have d3 : decide ((i : Int) < 0) = false := by rw [decide_eq_false_iff_not]; omega
 have d4 : decide ((n : Int) ≤ (i : Int)) = false := by rw [decide_eq_false_iff_not]; omega
 have d1' : decide (n < 1) = false := by rw [decide_eq_false_iff_not]; omega
 have d4' : decide (n ≤ i) = false := by rw [decide_eq_false_iff_not]; omega
 have d2' : decide (1099511627776 < n) = false := by rw [decide_eq_false_iff_not]; omega
 have lz : z32.length = 32 := rfl
 by_cases hpl : p.length = (fu_ i n).length
 ·rw [wM_, if_pos hpl]
  obtain ⟨hc, hcl⟩ := pD_ hsum d hd n n i p (Nat.le_refl _) h1 hi hn hp hpl
  generalize climbF n d i n p = r at *
  refine ac_ (pn := ap_) aa_ Tryz.func136 rfl fun β0 => ?_
  simp only [Tryz.f136]
  refine WP.seq ?_
  refine WP.region aa_ ?_
  simp -dsimp [dD, bys_len, hd]
  refine And.intro (fun a h => ao_ h) ?_
  repeat(first|apply wG|(apply wR;simp -dsimp [slG, d1, d2, d3, d4, d1', d2', d4'])|refine aI ?_)
  refine af_ cB_ (fun _ => hlen) rfl (fun _ => rfl) (fun _ => by simp) ?_
  simp -dsimp [d1, d2, d3, d4, d1', d2', d4']
  repeat(first|apply wG|(apply wR;simp -dsimp [d1, d2, d3, d4, d1', d2', d4'])|refine aI ?_)
  refine cF (by simp [hpl]) ?_
  refine WP.skip ?_
  simp -dsimp
  repeat(first|apply wG|(apply wR;simp -dsimp [bysA_take, hd])|refine aI ?_)
  refine ag_ dO_ hc rfl rfl (And.intro (by simp [dD, bysA_take, hd]; try exact ai_ _) (And.intro (by simp) (And.intro (by simp) (And.intro (by simp [slG]) trivial)))) ?_
  simp -dsimp [dD]
  refine And.intro ⟨hcl, fun a h => ao_ h⟩ ?_
  repeat(first|apply wG|(apply wR;simp -dsimp [bys_len, hcl])|refine aI ?_)
  refine WP.ret (ab_ ?_)
  simp -dsimp [setL_whole, bys_len, hcl, bysA_take]
  exact (Leq.tup (l := [.agg ((bys r).map .d), .d (.v (.int .i64 0))]) (l' := [.d (.agg (bys r)), .d (.v (.int .i64 0))]) ⟨ai_ (bys r), .refl _, trivial⟩).trans (fD_ [.agg (bys r), .v (.int .i64 0)])
 ·rw [wM_, if_neg hpl]
  refine ac_ (pn := ap_) aa_ Tryz.func136 rfl fun β0 => ?_
  simp only [Tryz.f136]
  refine WP.seq ?_
  refine WP.region aa_ ?_
  simp -dsimp [dD, bys_len, hd]
  refine And.intro (fun a h => ao_ h) ?_
  repeat(first|apply wG|(apply wR;simp -dsimp [slG, d1, d2, d3, d4, d1', d2', d4'])|refine aI ?_)
  refine af_ cB_ (fun _ => hlen) rfl (fun _ => rfl) (fun _ => by simp) ?_
  simp -dsimp [d1, d2, d3, d4, d1', d2', d4']
  repeat(first|apply wG|(apply wR;simp -dsimp [d1, d2, d3, d4, d1', d2', d4'])|refine aI ?_)
  refine cT (by simp; omega) ?_
  repeat(first|apply wG|(apply wR;simp -dsimp)|refine aI ?_)
  refine WP.ret (ab_ ?_)
  simp -dsimp
  exact (Leq.tup (l := [.agg ((bys z32).map .d), .d (.v (.int .i64 1))]) (l' := [.d (.agg (bys z32)), .d (.v (.int .i64 1))]) ⟨ai_ (bys z32), .refl _, trivial⟩).trans (fD_ [.agg (bys z32), .v (.int .i64 1)])
end Go.Proofs.YtnljenjcaeophaaGreatDoor
