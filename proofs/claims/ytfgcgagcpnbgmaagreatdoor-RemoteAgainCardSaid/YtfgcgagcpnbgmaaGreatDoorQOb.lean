/-
  Joined texts.
-/
import Derived.Test.YtfgcgagcpnbgmaaGreatDoorQNl
import Derived.Test.YtfgcgagcpnbgmaaGreatDoorQNc
import Derived.Test.YtfgcgagcpnbgmaaGreatDoorQEngFz
import Derived.Test.YtfgcgagcpnbgmaaGreatDoorQNd
import Derived.Test.YtfgcgagcpnbgmaaGreatDoorQMa
set_option linter.unusedVariables false
set_option linter.unusedSimpArgs false
set_option linter.unusedSectionVars false
namespace Go.Proofs.YtfgcgagcpnbgmaaGreatDoor
open Go.Xe Go.RowKit
def synJ (s : List By) (left : Int) (b : By) : D :=
 if gnr s < 4294967296 then
  if 0 ≤ left ∧ left < secs b.length then .tup [logD 0 [] 0, dkD ⟨stopS s (wrR s b) left.toNat, [], 0, true⟩, .v (.int .i64 380)]
  else .tup [logD s.length (recs s ++ [b]) ((recs s).length + 1), dkD ⟨perf s (wrI (wrR s b)), [], leftN left (secs b.length), false⟩, .v (.int .i64 0)]
 else .tup [logD 0 [] 0, dkD ⟨[], [], 0, false⟩, .v (.int .i64 390)]
theorem gnr_step (s : List By) {i : Nat} (h : i < s.length) : gnr (s.take (i + 1)) = max (gnr (s.take i)) (max (genS s[i] + 1) (tailS s[i] + 1)) := by
 have e : s.take (i + 1) = s.take i ++ [s[i]] := by rw [List.take_add_one, List.getElem?_eq_getElem h]; rfl
 rw [e, gnr, List.foldl_append]; rfl
abbrev jB2 (s : List By) (b : By) : Box := .cells 30 [.d (.v (.int .i64 s.length)), .d (slLB (recs s ++ [b])), .d (.v (.int .i64 (recs s).length))]
abbrev jB3 (d : Dk) : Box := .cells 28 ((dkC d).map .d)
abbrev jB4 : Box := .cells 30 [.d (.v (.int .i64 0)), .d (.v (.slice none 0 0)), .d (.v (.int .i64 0))]
abbrev jB5 : Box := .cells 28 [.d (.v (.slice none 0 0)), .d (.v (.slice none 0 0)), .d (.v (.int .i64 0)), .d (.v (.bool false))]
abbrev jB9 (s : List By) : Box := .cells 30 [.d (.v (.int .i64 s.length)), .d (slLB (recs s)), .d (.v (.int .i64 (recs s).length))]
abbrev jBx (s : List By) (b : By) (d : Dk) : Bxs := [(2, jB2 s b), (3, jB3 d), (4, jB4), (5, jB5), (9, jB9 s)]
abbrev jG (s : List By) (b : By) (d : Dk) (i : Nat) : St := mkS 167 [(2, .ptr 2 0), (3, .ptr 3 0), (4, .ptr 4 0), (5, .ptr 5 0), (9, .ptr 9 0), (10, .d (.v (.int .u64 (gnr (s.take i))))), (57, .d (slLB s)), (58, .d (.v (.int .i64 s.length))), (59, .d (.v (.int .i64 i)))] (jBx s b d)
abbrev jI (s : List By) (b : By) (left : Int) (at_ n kind : Nat) (rest : By) (w : List (Nat × By)) : St :=
 mkS 167 [(2, .ptr 2 0), (3, .ptr 3 0), (4, .ptr 4 0), (5, .ptr 5 0), (9, .ptr 9 0), (10, .d (.v (.int .u64 (gnr s)))), (13, .d (.v (.int .i64 at_))), (15, .d (slB rest)), (16, .d (.v (.int .u8 kind))), (17, .d (.v (.int .i64 n))), (108, .d (.sl 1 [slB b] 1 false)), (109, .d (.v (.int .i64 1))), (110, .d (.v (.int .i64 0)))] (jBx s b ⟨s, wrI w, left, false⟩)
abbrev jO (s : List By) (b : By) (left : Int) (at_ : Nat) (w : List (Nat × By)) (i : Nat) : St :=
 mkS 167 [(2, .ptr 2 0), (3, .ptr 3 0), (4, .ptr 4 0), (5, .ptr 5 0), (9, .ptr 9 0), (10, .d (.v (.int .u64 (gnr s)))), (13, .d (.v (.int .i64 at_))), (108, .d (.sl 1 [slB b] 1 false)), (109, .d (.v (.int .i64 1))), (110, .d (.v (.int .i64 i)))] (jBx s b ⟨s, wrI w, left, false⟩)
theorem wrI_take (w : List (Nat × By)) (m : Nat) : (wrI w).take m = wrI (w.take m) := by rw [wrI, wrI, List.map_take]
theorem wrI_getD (w : List (Nat × By)) (m : Nat) : (wrI w).getD m (0, []) = (((w.getD m (0, [])).1 : Int), (w.getD m (0, [])).2) := by
 simp only [wrI, List.getD_eq_getElem?_getD, List.getElem?_map]
 cases w[m]? <;> rfl
theorem wrR_mem {s : List By} {b : By} (hu : usd (recs s) + secs b.length ≤ s.length) {w : Nat × By} (h : w ∈ wrR s b) : w.1 < s.length ∧ w.2.length = 128 := by
 refine ⟨?_, wrt_128 _ _ _ _ _ w h⟩
 have h2 : w.1 ∈ (wrR s b).map (·.1) := List.mem_map_of_mem h
 rw [wrR, wrt_fst, List.mem_range'_1] at h2
 omega
theorem wrR_len (s : List By) (b : By) : (wrR s b).length = secs b.length := wrt_len _ _ _ _ _
theorem dkB_pre {s : List By} (hs : ∀ x ∈ s, x.length = 128) (n1 : 1 ≤ s.length) (n2 : s.length ≤ 4096) {left : Int} (l1 : -1 ≤ left) (l2 : left ≤ 65536) {b : By} (hu : usd (recs s) + secs b.length ≤ s.length) {w w' : List (Nat × By)} (h : wrR s b = w ++ w') :
  dkB ⟨s, wrI w, left, false⟩ = true := by
 have hl : w.length ≤ secs b.length := by rw [← wrR_len s b, h, List.length_append]; omega
 refine dkB_iff.2 ⟨⟨n1, n2, ?_, l1, l2⟩, fun x hx => ?_, hs⟩
 ·simp only [wrI_len]; omega
 ·obtain ⟨y, hy, rfl⟩ := List.mem_map.1 hx
  have := wrR_mem hu (w := y) (by rw [h]; exact List.mem_append_left _ hy)
  exact ⟨Int.natCast_nonneg _, by simp only; omega, this.2⟩
theorem dkSyn_wr (s : List By) (b : By) (left : Int) : dkSyn ⟨s, wrI (wrR s b), left, false⟩ =
  if 0 ≤ left ∧ left < secs b.length then (⟨stopS s (wrR s b) left.toNat, [], 0, true⟩, 380) else (⟨perf s (wrI (wrR s b)), [], leftN left (secs b.length), false⟩, 0) := by
 simp only [dkSyn, wrI_len, wrR_len, synS, synW, wrI_take, wrI_getD, Int.toNat_natCast, stopS, leftN]
theorem or_u8_2 {k : Nat} (h : k ≤ 1) : bits .or .u8 (k : Int) 2 = ((k + 2 : Nat) : Int) := by
 rcases (by omega : k = 0 ∨ k = 1) with rfl | rfl <;> decide
theorem jshr32 (n : Nat) : (n : Int).fdiv (2 ^ shN .u64 32) = ((n / 4294967296 : Nat) : Int) := by
 rw [show ((2 : Int) ^ shN .u64 32) = ((4294967296 : Nat) : Int) by decide, Int.fdiv_eq_ediv_of_nonneg _ (Int.natCast_nonneg _), ← Int.natCast_ediv]
set_option maxRecDepth 10000 in
set_option maxHeartbeats 4000000 in
theorem jSync_ok (s : List By) (hs : ∀ x ∈ s, x.length = 128) (n1 : 1 ≤ s.length) (n2 : s.length ≤ 4096) (left : Int) (l1 : -1 ≤ left) (l2 : left ≤ 65536) (b : By) (hb : b.length ≤ 1000000) (hu : usd (recs s) + secs b.length ≤ s.length) :
  Fn0 Tryz.prog 57 [logD s.length (recs s ++ [b]) (recs s).length, dkD ⟨s, [], left, false⟩] (synJ s left b) := by
 have hdk : dkB ⟨s, [], left, false⟩ = true := dkB_iff.2 ⟨⟨n1, n2, Nat.zero_le _, l1, l2⟩, (fun _ h => by cases h), hs⟩
 have hus := recs_used hs
 have hsm := recs_small hs n2
 have lgk : lgOk s.length (recs s ++ [b]) (recs s).length := ⟨n1, n2, by simp, by rw [usd_app]; simp [usd]; omega, fun x hx => by
  rcases List.mem_append.1 hx with hx | hx
  ·have := hsm x hx; omega
  ·rw [List.mem_singleton.1 hx]; exact hb, by simp; omega⟩
 have h95 := jCheck_ok lgk
 have h82 := dkCheck_ok ⟨s, [], left, false⟩ (dkB_ok hdk)
 rw [dkE, if_pos hdk] at h82
 have h40 := open_ok4 ⟨s, [], left, false⟩ (dkB_ok hdk)
 rw [opnP, if_pos hdk, if_neg (by simp), if_neg (by simp)] at h40
 have h87 := eqRecs_ok (recs s) (recs s) (by omega) (by omega)
 rw [decide_eq_true rfl] at h87
 have h97 := used_ok (recs s) (by omega) (by omega) (fun x hx => by have := hsm x hx; omega)
 have lR := lsB_len (recs s)
 have hla : lsB (recs s ++ [b]) = lsB (recs s) ++ [slB b] := by simp [lsB]
 refine Fun.of_wp (pn := noPn) Tryz.tab Tryz.func57 rfl fun β0 => ?_
 simp only [Tryz.f57]
 repeat(first|apply wG|(apply wR;simp -dsimp [logD, lgC, dkD, dkC, wrC])|refine aI ?_)
 refine vcStop.call0 Tryz.body95 h95 rfl rfl (by simp [logD, lgC]) ?_
 simp -dsimp
 repeat(first|apply wG|(apply wR;simp -dsimp)|refine aI ?_)
 refine cF (by simp) ?_
 refine WP.skip ?_
 simp -dsimp
 repeat(first|apply wG|(apply wR;simp -dsimp)|refine aI ?_)
 refine vcStop.call0 Tryz.body82 h82 rfl rfl (by simp [dkD, dkC, wrC]) ?_
 simp -dsimp
 repeat(first|apply wG|(apply wR;simp -dsimp)|refine aI ?_)
 refine cF (by simp) ?_
 refine WP.skip ?_
 simp -dsimp
 repeat(first|apply wG|(apply wR;simp -dsimp)|refine aI ?_)
 refine cF (by simp) ?_
 refine WP.skip ?_
 simp -dsimp
 repeat(first|apply wG|(apply wR;simp -dsimp)|refine aI ?_)
 refine vcStop.call0 Tryz.body40 h40 rfl rfl (by simp [dkD, dkC, wrC]) ?_
 simp -dsimp [logD, lgC]
 repeat(first|apply wG|(apply wR;simp -dsimp)|refine aI ?_)
 refine cF (by simp) ?_
 refine WP.skip ?_
 simp -dsimp
 repeat(first|apply wG|(apply wR;simp -dsimp)|refine aI ?_)
 refine WP.loopWk (fun q S => ∃ i : Nat, q = s.length - i ∧ i ≤ s.length ∧ S = jG s b ⟨s, [], left, false⟩ i) s.length (S0 := jG s b ⟨s, [], left, false⟩ 0) (Wk.lessE [] (by simp [gnr]) (by simp [dkC, wrC])) ⟨0, rfl, by omega, rfl⟩ ?_
 rintro _ _ ⟨i, rfl, hi, rfl⟩
 simp -dsimp
 repeat(first|apply wG|(apply wR;simp -dsimp)|refine aI ?_)
 by_cases hx : i = s.length
 ·subst hx
  refine cF (by simp) ?_
  refine WP.exit ?_
  simp -dsimp [List.take_length]
  have htk : List.take (recs s).length (lsB (recs s ++ [b])) = lsB (recs s) := by rw [hla, List.take_left' lR]
  have lA : (lsB (recs s ++ [b])).length = (recs s).length + 1 := by rw [lsB_len]; simp
  repeat(first|apply wG|(apply wR;simp -dsimp [htk, lA, List.take_length])|refine aI ?_)
  refine vcStop.call0 Tryz.body87 h87 rfl rfl (by simp [htk]) ?_
  simp -dsimp
  repeat refine aI ?_
  have hsh := jshr32 (gnr s)
  unfold synJ
  by_cases hg : gnr s < 4294967296
  ·rw [if_pos hg]
   have hg0 : gnr s / 4294967296 = 0 := by omega
   rw [hg0] at hsh
   refine cF (by simp [hsh]) ?_
   refine WP.skip ?_
   simp -dsimp
   repeat(first|apply wG|(apply wR;simp -dsimp)|refine aI ?_)
   refine cF (by simp [lA]; omega) ?_
   refine WP.skip ?_
   simp -dsimp
   repeat(first|apply wG|(apply wR;simp -dsimp [htk, lA])|refine aI ?_)
   refine vcStop.call0 Tryz.body97 h97 rfl rfl (by simp [htk]) ?_
   simp -dsimp
   have hdr : List.drop (recs s).length (lsB (recs s ++ [b])) = [slB b] := by rw [hla, List.drop_left' lR]
   repeat(first|apply wG|(apply wR;simp -dsimp [htk, hdr, lA])|refine aI ?_)
   have i1 : ∀ i : Nat, IntKind.i64.wrap ((((recs s).length + 1 : Nat) : Int) - ((recs s).length : Nat)) = 1 := fun _ => by rw [IntWalk.i64_in _ (by omega)]; omega
   refine WP.loopWk (fun q S => (q = 1 ∧ S = jO s b left (usd (recs s)) [] 0) ∨ (q = 0 ∧ S = jO s b left (usd (recs s) + secs b.length) (wrR s b) 1)) 1 (S0 := jO s b left (usd (recs s)) [] 0) (Wk.lessE [] (by simp [hdr, lA, List.take_length]) (by simp [wrI, dkC, wrC])) (.inl ⟨rfl, rfl⟩) ?_
   rintro _ _ (⟨rfl, rfl⟩ | ⟨rfl, rfl⟩)
   ·simp -dsimp
    repeat(first|apply wG|(apply wR;simp -dsimp)|refine aI ?_)
    refine cT (by simp) ?_
    refine WP.skip ?_
    simp -dsimp
    repeat(first|apply wG|(apply wR;simp -dsimp)|refine aI ?_)
    refine vcStop.call0 Tryz.body96 (sectors_ok b (by omega)) rfl rfl (by simp) ?_
    simp -dsimp
    repeat(first|apply wG|(apply wR;simp -dsimp)|refine aI ?_)
    refine WP.loopWk (fun q S => ∃ (n kind at_ : Nat) (rest : By) (w : List (Nat × By)), q = n ∧ at_ = usd (recs s) + w.length ∧ wrR s b = w ++ wrt (gnr s) n at_ kind rest ∧ kind ≤ 1 ∧ rest.length ≤ 1000000 ∧ S = jI s b left at_ n kind rest w) (secs b.length) (S0 := jI s b left (usd (recs s)) (secs b.length) 1 b []) (Wk.lessE [] (by simp [slB]) (by simp)) ⟨secs b.length, 1, usd (recs s), b, [], rfl, rfl, rfl, by omega, hb, rfl⟩ ?_
    rintro n _ ⟨_, kind, at_, rest, w, rfl, ha, hw, hk, hr, rfl⟩
    have hwl := wrR_len s b
    rw [hw, List.length_append, wrt_len] at hwl
    simp -dsimp
    repeat(first|apply wG|(apply wR;simp -dsimp)|refine aI ?_)
    cases n with
    | zero =>
     rw [wrt, List.append_nil] at hw
     refine cF (by simp) ?_
     refine WP.exit ?_
     simp -dsimp
     repeat(first|apply wG|(apply wR;simp -dsimp)|refine aI ?_)
     have w1 : IntKind.i64.wrap 1 = 1 := by decide
     obtain rfl : at_ = usd (recs s) + secs b.length := by omega
     refine loopW.next (jO s b left (usd (recs s) + secs b.length) (wrR s b) 1) (Wk.lessE [] (by simp [w1]) (by simp [hw])) 0 (by omega) (.inr ⟨rfl, rfl⟩)
    | succ n =>
     have hpre := dkB_pre hs n1 n2 l1 l2 hu hw
     obtain ⟨m, hm⟩ : ∃ m : Nat, m = min rest.length 112 := ⟨_, rfl⟩
     have em : min (rest.length : Int) 112 = (m : Int) := by omega
     have hml : m ≤ rest.length := by omega
     have htm : rest.take 112 = rest.take m := by
      rcases Nat.le_total rest.length 112 with h | h
      ·rw [List.take_of_length_le h, List.take_of_length_le (by omega)]
      ·rw [show m = 112 by omega]
     have hdm : rest.drop 112 = rest.drop m := by
      rcases Nat.le_total rest.length 112 with h | h
      ·rw [List.drop_of_length_le h, List.drop_of_length_le (by omega)]
      ·rw [show m = 112 by omega]
     have lr := bys_len rest
     obtain ⟨k2, hk2, hk3⟩ : ∃ k2 : Nat, k2 = (if n = 0 then kind + 2 else kind) ∧ k2 ≤ 3 := ⟨_, rfl, by split <;> omega⟩
     have hkk : (UInt8.ofNat k2).toNat = k2 := by rw [UInt8.toNat_ofNat']; omega
     have henc := encode_ok4 (gnr s) at_ (by omega) (by omega) (UInt8.ofNat k2) (rest.take m) (by rw [List.length_take]; omega)
     rw [slB_take rest m hml, hkk] at henc
     have lE := secE_len (g := gnr s) (num := at_) (kind := k2) (b := rest.take m) (by rw [List.length_take]; omega)
     have hwr := write_ok ⟨s, wrI w, left, false⟩ hpre rfl at_ (by simp only; omega) (secE (gnr s) at_ k2 (rest.take m)) lE (by simp only [wrI_len]; omega)
     rw [wrt, ← hk2, htm, hdm] at hw
     have hwi : wrI w ++ [((at_ : Int), secE (gnr s) at_ k2 (rest.take m))] = wrI (w ++ [(at_, secE (gnr s) at_ k2 (rest.take m))]) := by rw [wrI, wrI, List.map_append]; rfl
     rw [hwi] at hwr
     generalize secE (gnr s) at_ k2 (rest.take m) = E at *
     have hor := or_u8_2 hk
     refine cT (by simp) ?_
     refine WP.skip ?_
     simp -dsimp
     repeat(first|apply wG|(apply wR;simp -dsimp)|refine aI ?_)
     refine WP.cond (b := decide (n = 0)) (by simp; omega) (fun hb => ?_) (fun hb => ?_)
     have hb := of_decide_eq_true hb
     rw [if_pos hb] at hk2
     refine WP.region Tryz.tab ?_
     simp -dsimp [hor]
     repeat refine aI ?_
     refine WP.weak (S' := jI s b left at_ (n + 1) k2 rest w) (Wk.lessE [] (by simp [hk2]) (by simp)) ?_
     rotate_left
     have hb := of_decide_eq_false hb
     rw [if_neg hb] at hk2
     refine WP.skip ?_
     refine WP.weak (S' := jI s b left at_ (n + 1) k2 rest w) (Wk.lessE [] (by simp [hk2]) (by simp)) ?_
     all_goals
      simp -dsimp
      repeat(first|apply wG|(apply wR;simp -dsimp [em, dkC, wrD, lr, hml])|refine aI ?_)
      have ea : IntKind.i64.wrap ((at_ : Int) + 1) = (at_ : Int) + 1 := IntWalk.i64_in _ (by omega)
      have en : IntKind.i64.wrap (n : Int) = (n : Int) := IntWalk.i64_in _ (by omega)
      have hbd : bys (rest.drop m) = (bys rest).drop m := by rw [bys, List.map_drop]; rfl
      have htd : List.take (rest.length - m) ((bys rest).drop m) = (bys rest).drop m := List.take_of_length_le (by rw [List.length_drop, lr]; exact Nat.le_refl _)
      refine vcStop.call0 Tryz.body102 henc rfl rfl (by simp) ?_
      simp -dsimp
      repeat refine aI ?_
      refine vcStop.call0 Tryz.body101 hwr rfl rfl (by simp [dkD, dkC, wrD]) ?_
      simp -dsimp [dkD, dkC, wrD]
      repeat refine aI ?_
      repeat(first|apply wG|(apply wR;simp -dsimp)|refine aI ?_)
      refine cF (by simp) ?_
      refine WP.skip ?_
      simp -dsimp
      repeat(first|apply wG|(apply wR;simp -dsimp [lr, hml])|refine aI ?_)
      refine loopW.next (jI s b left (at_ + 1) n 0 (rest.drop m) (w ++ [(at_, E)])) (Wk.lessE [] (by simp [ea, en, hbd, htd]) (by simp [dkC, wrD])) n (by omega) ⟨n, 0, at_ + 1, rest.drop m, w ++ [(at_, E)], rfl, by simp; omega, by rw [hw]; simp, by omega, by rw [List.length_drop]; omega, rfl⟩
   ·simp -dsimp
    repeat(first|apply wG|(apply wR;simp -dsimp)|refine aI ?_)
    refine cF (by simp) ?_
    refine WP.exit ?_
    simp -dsimp
    have h103 := dsync_ok ⟨s, wrI (wrR s b), left, false⟩ (dkB_pre hs n1 n2 l1 l2 hu (w' := []) (by simp)) rfl
    rw [dkSyn_wr] at h103
    repeat(first|apply wG|(apply wR;simp -dsimp [dkC, wrD])|refine aI ?_)
    refine vcStop.call0 Tryz.body103 h103 rfl rfl (by simp [dkD, dkC, wrD]) ?_
    simp -dsimp
    by_cases hc : 0 ≤ left ∧ left < secs b.length
    ·rw [if_pos hc, if_pos hc]
     simp -dsimp [dkD, dkC, wrC, wrD]
     repeat(first|apply wG|(apply wR;simp -dsimp)|refine aI ?_)
     refine cT (by simp) ?_
     repeat(first|apply wG|(apply wR;simp -dsimp)|refine aI ?_)
     refine WP.ret (finQ.retE ?_)
     simp -dsimp [logD, lgC, dkD, dkC, wrC, slLB, lsB, wrD]
    ·rw [if_neg hc, if_neg hc]
     simp -dsimp [dkD, dkC, wrC, wrD]
     repeat(first|apply wG|(apply wR;simp -dsimp)|refine aI ?_)
     refine cF (by simp) ?_
     refine WP.skip ?_
     simp -dsimp
     repeat(first|apply wG|(apply wR;simp -dsimp [lA])|refine aI ?_)
     refine WP.ret (finQ.retE ?_)
     simp -dsimp [logD, lgC, dkD, dkC, wrC, slLB, wrD]
  ·rw [if_neg hg]
   have hg0 : gnr s / 4294967296 ≠ 0 := by omega
   refine cT (by simp [hsh]; omega) ?_
   repeat(first|apply wG|(apply wR;simp -dsimp)|refine aI ?_)
   refine WP.ret (finQ.retE ?_)
   simp -dsimp [logD, lgC, dkD, dkC, wrC, slLB, lsB, wrD]
 ·have hlt : i < s.length := by omega
  have e1 : IntKind.i64.wrap ((i : Int) + 1) = (i : Int) + 1 := IntWalk.i64_in _ (by omega)
  have hsi : s[i].length = 128 := hs _ (List.getElem_mem _)
  have hat := lsB_at (s.take i) s[i] (s.drop (i + 1))
  rw [← List.drop_eq_getElem_cons hlt, List.take_append_drop, List.length_take, Nat.min_eq_left hi] at hat
  have lS := lsB_len s
  have hst := gnr_step s hlt
  have g0 := jget_ok (s[i].take 4) (by rw [List.length_take]; omega)
  have g1 := jget_ok ((s[i].drop 124).take 4) (by rw [List.length_take]; omega)
  rw [slB_take _ _ (by omega), ← genS] at g0
  rw [slB_mid _ _ _ (by omega), List.take_of_length_le (l := s[i].drop 124) (by rw [List.length_drop]; omega), ← tailS] at g1
  have hg0 := genS_lt s[i]
  have hg1 := tailS_lt hsi
  generalize s[i] = x at *
  have lx := bys_len x
  refine cT (by simp; omega) ?_
  refine WP.skip ?_
  simp -dsimp
  repeat(first|apply wG|(apply wR;simp -dsimp [hat, lS, hlt, slB, hsi, lx])|refine aI ?_)
  refine vcStop.call0 Tryz.body100 g0 rfl rfl (by simp) ?_
  simp -dsimp
  repeat refine aI ?_
  refine vcStop.call0 Tryz.body100 g1 rfl rfl (by simp [lx, hsi]) ?_
  simp -dsimp
  repeat refine aI ?_
  refine vcStop.max3 rfl rfl rfl rfl ?_
  simp -dsimp
  repeat refine aI ?_
  have em : max ((gnr (s.take i) : Nat) : Int) (max (IntKind.u64.wrap ((genS x : Int) + 1)) (IntKind.u64.wrap ((tailS x : Int) + 1))) = ((gnr (s.take (i + 1)) : Nat) : Int) := by
   rw [hst, IntKind.wrap_u64, IntKind.wrap_u64, Int.emod_eq_of_lt (by omega) (by omega), Int.emod_eq_of_lt (by omega) (by omega)]; omega
  repeat(first|apply wG|(apply wR;simp -dsimp)|refine aI ?_)
  refine loopW.next (jG s b ⟨s, [], left, false⟩ (i + 1)) (Wk.lessE [12] (by simp [e1, em]) (by simp)) (s.length - (i + 1)) (by omega) ⟨i + 1, rfl, by omega, rfl⟩
end Go.Proofs.YtfgcgagcpnbgmaaGreatDoor
set_option maxRecDepth 10000
set_option linter.unusedVariables false
set_option linter.unusedSimpArgs false
set_option linter.unusedSectionVars false
namespace Go.Proofs.YtfgcgagcpnbgmaaGreatDoor
open Go.Xe Go.RowKit
theorem isCrew_ok (c : Int) : Fn0 Tryz.prog 38 [.v (.int .i64 c)] (.v (.bool (decide (0 ≤ c) && decide (c < 32)))) := by
 refine Fun.of_wp (pn := noPn) Tryz.tab Tryz.func38 rfl fun β0 => ?_
 simp only [Tryz.f38]
 repeat(first|apply wG|(apply wR;simp -dsimp)|refine aI ?_)
 refine WP.ret (finQ.retE ?_)
 simp -dsimp
abbrev nbX (M : Int) (R : List By) (Y : Int) : Box := .cells 30 ((lgC M R Y).map .d)
abbrev nbS (lp : Nat) (M : Int) (R : List By) (Y : Int) (i : Nat) (B : Value → World → (Nat → Prop) → Prop) : St := mkS 20 [(0, .d (.v (.func (.yield lp) #[] #[]))), (1, .ptr 1000 0), (6, .d (slLB R)), (7, .d (.v (.int .i64 R.length))), (8, .d (.v (.int .i64 i)))] [(1000, nbX M R Y), (500, .opq B)]
set_option maxHeartbeats 1000000 in
theorem numbered_it (M : Int) (R : List By) (Y : Int) (hR : R.length ≤ 1000000) (goes : Nat → Bool) (m : Nat) (hm : m ≤ R.length) (hg : ∀ i, i + 1 < m → goes i = true) (he : m = R.length ∨ 0 < m ∧ goes (m - 1) = false) :
  IterOk Tryz.prog 184 [.ptr 1000 0] [(1000, nbX M R Y)] (fun i => [.v (.int .i64 ((i + 1 : Nat) : Int)), slB (R.getD i [])]) goes m := by
 intro lp B hB
 simp only [List.cons_append, List.nil_append]
 have lR := lsB_len R
 refine Fun.of_wp (pn := noPn) Tryz.tab Tryz.func184 rfl fun β0 => ?_
 simp only [Tryz.f184]
 repeat(first|apply wG|(apply wR;simp -dsimp [lgC])|refine aI ?_)
 refine WP.loopWk (fun q S => ∃ i : Nat, q = R.length - i ∧ i ≤ m ∧ (i = m → m = R.length) ∧ S = nbS lp M R Y i (B i)) R.length (S0 := nbS lp M R Y 0 (B 0)) (Wk.go [] 1999 500 (by decide) (by simp) (by simp) (by simp [lgC])) ⟨0, by omega, by omega, fun h => by rcases he with he | he <;> omega, rfl⟩ ?_
 rintro _ _ ⟨i, rfl, hi, hi2, rfl⟩
 simp -dsimp
 repeat(first|apply wG|(apply wR;simp -dsimp)|refine aI ?_)
 by_cases hx : i = R.length
 ·subst hx
  have hmm : m = R.length := by omega
  subst hmm
  refine cF (by simp) ?_
  refine WP.exit ?_
  simp -dsimp
  refine finQ.normalWE (S' := mkS 20 [] [(1000, nbX M R Y), (0, .opq (B R.length))]) (Wk.go [] 500 0 (by decide) (by simp) (by simp) (by simp)) ?_
  simp -dsimp
 ·have hlt : i < m := by
   rcases Nat.lt_or_ge i m with h | h
   ·exact h
   ·have := hi2 (by omega); omega
  have hlR : i < R.length := by omega
  have e1 : IntKind.i64.wrap ((i : Int) + 1) = (i : Int) + 1 := IntWalk.i64_in _ (by omega)
  have hat := lsB_at (R.take i) R[i] (R.drop (i + 1))
  rw [← List.drop_eq_getElem_cons hlR, List.take_append_drop, List.length_take, Nat.min_eq_left (by omega)] at hat
  have hyy := hB i hlt
  have hgd : R.getD i [] = R[i] := by rw [List.getD_eq_getElem?_getD, List.getElem?_eq_getElem hlR]; rfl
  simp only [hgd] at hyy
  generalize R[i] = x at *
  refine cT (by simp; omega) ?_
  refine WP.skip ?_
  simp -dsimp
  repeat(first|apply wG|(apply wR;simp -dsimp [hat, lR, hlR, e1])|refine aI ?_)
  refine vcStop.yield hyy 500 501 rfl rfl (by simp [e1]) rfl (by decide) (by simp) ?_
  simp -dsimp
  repeat(first|apply wG|(apply wR;simp -dsimp)|refine aI ?_)
  refine WP.cond (b := !goes i) (by simp) (fun hgo => ?_) (fun hgo => ?_)
  ·have hgo : goes i = false := by simpa using hgo
   have hme : i + 1 = m := by
    rcases Nat.lt_or_ge (i + 1) m with h | h
    ·rw [hg _ h] at hgo; cases hgo
    ·omega
   refine WP.ret (finQ.retWE (S' := mkS 20 [] [(1000, nbX M R Y), (0, .opq (B m))]) (Wk.go [] 501 0 (by decide) (by simp) (by simp) (by simp [hme])) ?_)
   simp -dsimp
  ·have hgo : goes i = true := by simpa using hgo
   refine WP.skip ?_
   simp -dsimp
   repeat(first|apply wG|(apply wR;simp -dsimp)|refine aI ?_)
   refine loopW.next (nbS lp M R Y (i + 1) (B (i + 1))) (Wk.go [] 501 500 (by decide) (by simp) (by simp [e1]) (by simp)) (R.length - (i + 1)) (by omega) ⟨i + 1, rfl, by omega, fun h => ?_, rfl⟩
   rcases he with he | ⟨_, he⟩
   ·exact he
   ·rw [← h, Nat.add_sub_cancel, hgo] at he; cases he
theorem numbered_ok (M : Int) (R : List By) (Y : Int) : Fun Tryz.prog 117 [.d (logD M R Y)] [] (.fn (.func 184) [] [.ptr 0 0]) [(0, nbX M R Y)] fun _ => False := by
 refine Fun.of_wp (pn := noPn) Tryz.tab Tryz.func117 rfl fun β0 => ?_
 simp only [Tryz.f117]
 repeat(first|apply wG|(apply wR;simp -dsimp [logD, lgC])|refine aI ?_)
 refine WP.ret (finQ.retWE (S' := mkS 4 [(2, .fn (.func 184) [] [.ptr 0 0])] [(0, nbX M R Y)]) (Wk.go [] 1 0 (by decide) (by simp) (by simp) (by simp [lgC])) ?_)
 simp -dsimp
end Go.Proofs.YtfgcgagcpnbgmaaGreatDoor
set_option linter.unusedVariables false
set_option linter.unusedSimpArgs false
set_option linter.unusedSectionVars false
namespace Go.Proofs.YtfgcgagcpnbgmaaGreatDoor
open Go.Xe Go.RowKit
def sgnL (crew : Int) (seed : By) (m : Int) (R : List By) : D := if onB crew m 0 R = true then .tup [sgD (onL seed m R) false, .v (.bool true)] else .tup [.v (.slice none 0 0), .v (.bool false)]
def dcB (crew : Int) (i : Nat) (b : By) : Bool := decide ((decF b).2 = 0 ∧ (decF b).1 0 = crew ∧ (decF b).1 1 = (i : Int) + 1)
theorem onK_dc (crew m : Int) (i : Nat) (b : By) : onK crew m i b = (dcB crew i b && decide ((i : Int) < m)) := by
 rw [Bool.eq_iff_iff, Bool.and_eq_true, onK, dcB, decide_eq_true_eq, decide_eq_true_eq, decide_eq_true_eq]; simp only [and_assoc]
abbrev sdB (crew : Int) (seed : By) (m u : Int) (R : List By) (i : Nat) : Bxs :=
 [(1103, .cells 3 [.d (.v (.int .i64 crew))]), (1104, .cells 24 [.d (slB seed), .d (.v (.int .i64 m)), .d (.v (.int .i64 u))]), (1106, .cells 31 [.row 505]), (1107, .cells 4 [.d (.v (.bool false))]), (505, .row 82 61 i ((sgC (onL seed m (R.take i))).map .d))]
abbrev sdF (crew : Int) (seed : By) (m u : Int) : Bxs :=
 [(1103, .cells 3 [.d (.v (.int .i64 crew))]), (1104, .cells 24 [.d (slB seed), .d (.v (.int .i64 m)), .d (.v (.int .i64 u))]), (1106, .cells 31 [.d (.v (.slice none 0 0))]), (1107, .cells 4 [.d (.v (.bool false))])]
def sdX (crew : Int) (seed : By) (m u : Int) (R : List By) : Nat → Bxs
 | 0 => sdF crew seed m u
 | i + 1 => sdB crew seed m u R (i + 1)
theorem sdB_singles (crew : Int) (seed : By) (m u : Int) (R : List By) (i : Nat) : singles (sdB crew seed m u R i) := by
 intro k b h
 simp only [sdB, getB] at h
 (repeat' split at h) <;> cases h <;> rfl
theorem sdF_singles (crew : Int) (seed : By) (m u : Int) : singles (sdF crew seed m u) := by
 intro k b h
 simp only [sdF, getB] at h
 (repeat' split at h) <;> cases h <;> rfl
theorem sdX_singles (crew : Int) (seed : By) (m u : Int) (R : List By) (i : Nat) : singles (sdX crew seed m u R i) := by
 cases i with
 | zero => exact sdF_singles _ _ _ _
 | succ i => exact sdB_singles _ _ _ _ _ _
theorem sdX_wk (crew : Int) (seed : By) (m u : Int) (R : List By) (i : Nat) (x y : D) :
  Wk ⟨setP (mkS 49 [(3, .ptr 1103 0), (4, .ptr 1104 0), (6, .ptr 1106 0), (7, .ptr 1107 0)] []).sl #[15, 16].toList [.d x, .d y], sdX crew seed m u R i, []⟩
   ⟨setP (mkS 49 [(3, .ptr 1103 0), (4, .ptr 1104 0), (6, .ptr 1106 0), (7, .ptr 1107 0)] []).sl #[15, 16].toList [.d x, .d y], sdB crew seed m u R i, []⟩ := by
 cases i with
 | zero => exact (Wk.nilCell 1106 0 505 82 61 (by simp [sdX]; exact ⟨rfl, rfl⟩) rfl (by simp [sdX])).trans (Wk.lessE [] (by simp) (by simp [sdX]; rfl))
 | succ i => exact Wk.lessE [] (by simp) (by simp [sdX])
theorem onL_snoc (seed : By) (m : Int) (R : List By) {i : Nat} (h : i < R.length) : sgC (onL seed m (R.take (i + 1))) = sgC (onL seed m (R.take i)) ++ sgc (sgQ seed m (decF (R.getD i [])).1) := by
 have e : R.take (i + 1) = R.take i ++ [R.getD i []] := by
  rw [List.take_add_one, List.getElem?_eq_getElem h, List.getD_eq_getElem?_getD, List.getElem?_eq_getElem h]; rfl
 rw [e, onL, List.map_append, sgC_append]
 simp [onL, sgC, sgc]
theorem sgQ_len (seed : By) (m : Int) (f : Nat → Int) : (sgc (sgQ seed m f)).length = 61 := by rw [sgc, sgQ, List.length_append, fcs_len57]; rfl
theorem onL_C_len (seed : By) (m : Int) : ∀ l : List By, (sgC (onL seed m l)).length = l.length * 61
 | [] => rfl
 | b :: l => by
  have h := onL_C_len seed m l
  have h2 := sgQ_len seed m (decF b).1
  rw [sgC, onL] at h
  rw [sgC, onL, List.map_cons, List.flatMap_cons, List.length_append, h, List.length_cons]
  rw [sgc] at h2
  omega
theorem onB_bad : ∀ {crew m : Int} {i : Nat} {l : List By}, onB crew m i l = false → ∃ p b q, l = p ++ b :: q ∧ onB crew m i p = true ∧ onK crew m (i + p.length) b = false
 | _, _, _, [], h => by simp [onB] at h
 | crew, m, i, b :: l, h => by
  rw [onB] at h
  cases hb : onK crew m i b with
  | false => exact ⟨[], b, l, rfl, rfl, hb⟩
  | true =>
   rw [hb, Bool.true_and] at h
   obtain ⟨p, c, q, rfl, hp, hc⟩ := onB_bad h
   exact ⟨b :: p, c, q, rfl, by rw [onB, hb, hp]; rfl, by rw [List.length_cons, ← Nat.add_assoc, Nat.add_right_comm]; exact hc⟩
set_option maxRecDepth 10000 in
set_option maxHeartbeats 4000000 in
theorem signed44_ok (crew : Int) (seed : By) (m u : Int) (M : Int) (R : List By) (Y : Int) (hk : keyV seed m u = true) (hR : R.length ≤ 1000000) (hb : ∀ b ∈ R, b.length ≤ 1000000) :
  Fn0 Tryz.prog 65 [.v (.int .i64 crew), keyD seed m u, logD M R Y] (sgnL crew seed m R) := by
 obtain ⟨k1, k2, k3, k4, k5, k6⟩ := keyV_iff.1 hk
 refine Fun.of_wpR Tryz.tab Tryz.func65 rfl fun β0 => ?_
 simp only [Tryz.f65]
 repeat(first|apply wG|(apply wR;simp -dsimp [logD, lgC, keyD])|refine aI ?_)
 refine vcStop.call Tryz.body117 (numbered_ok M R Y) (rl [(0, 600)]) rfl rfl (by simp [logD, lgC, BoxLeq]) (CallOk.of (by simp [logD, lgC, BoxLeq]) rfl (by first | rfl | (simp [logD, lgC, BoxLeq]; done)) (by simp [logD, lgC, BoxLeq]) (by simp [logD, lgC, BoxLeq])) (fun _ h => h.elim) (fun ⟨_, h⟩ => h.elim) (fun ⟨_, h⟩ => h.elim) (by simp [logD, lgC, BoxLeq]) ?_
 simp -dsimp
 repeat(first|apply wG|(apply wR;simp -dsimp)|refine aI ?_)
 unfold sgnL
 cases hon : onB crew m 0 R with
 | true =>
  rw [if_pos rfl]
  refine WP.rangeFuncE Tryz.body184 (m := R.length) (jump := fun _ => none) (numbered_it M R Y hR (fun _ => true) R.length (Nat.le_refl _) (fun _ _ => rfl) (.inl rfl)) (sdX crew seed m u R) (mkS 49 [(3, .ptr 1103 0), (4, .ptr 1104 0), (6, .ptr 1106 0), (7, .ptr 1107 0)] []).sl 990 (rl [(1000, 600), (1103, 3), (1104, 4), (1106, 6), (1107, 7), (505, 510), (990, 602)]) rfl rfl rfl (by simp) (by simp) (by simp) (fun i _ => sdX_singles _ _ _ _ _ i)
   (by cases R.length <;> simp [sdX]) (by simp) (by cases R.length <;> simp [sdX]) (by simp) (by decide) (by cases R.length <;> simp [sdX]) (fun _ _ => rfl) (fun _ _ => rfl) ?_ (fun G => CallOk.of (by simp [slB, lgC, sdX]) (by cases R.length <;> simp [sdX]) (by cases R.length <;> simp [sdX]) (by cases R.length <;> simp [sdX]) (by cases R.length <;> simp [sdX])) (fun G => by cases R.length <;> simp [sdX]) ?_
  ·intro i hi lp β1
   have hsn := onL_snoc seed m R hi
   have hgd : R.getD i [] = R[i] := by rw [List.getD_eq_getElem?_getD, List.getElem?_eq_getElem hi]; rfl
   have hbi : (R.getD i []).length ≤ 1000000 := by rw [hgd]; exact hb _ (List.getElem_mem hi)
   have hok := onB_get hon hi
   rw [Nat.zero_add, ← hgd] at hok
   obtain ⟨f1, f2, f3, f4, f5⟩ := onK_facts hok (by omega)
   rw [onK, decide_eq_true_eq] at hok
   have hdec := factsDecode_ok (R.getD i []) (by omega)
   rw [decFD, fD, hok.1] at hdec
   generalize R.getD i [] = b at *
   generalize (decF b).1 = f at *
   have hsg := crwSign_ok seed (by omega) m u f f1
   have hsr : sgnR seed m u f = (sgc (sgQ seed m f), 0) := by
    rw [sgnR, if_pos f2, if_pos ⟨hk, by omega⟩]; rfl
   rw [hsr] at hsg
   simp only at hsg
   have lW := onL_C_len seed m (R.take i)
   rw [List.length_take, Nat.min_eq_left (by omega)] at lW
   have hl57 := fcs_len57 f
   have hl61 := sgQ_len seed m f
   have hso : sgOk (sgQ seed m f) := ⟨f1, rfl, fun d hd => sigC_one hd⟩
   refine WP.weak (sdX_wk crew seed m u R i _ _) ?_
   simp -dsimp
   repeat(first|apply wG|(apply wR;simp -dsimp)|refine aI ?_)
   refine vcStop.call0 Tryz.body118 hdec rfl rfl (by simp) ?_
   simp -dsimp
   repeat(first|apply wG|(apply wR;simp -dsimp [setL_whole, hl57])|refine aI ?_)
   refine cF (by simp [f3, f4]) ?_
   refine WP.skip ?_
   simp -dsimp
   repeat(first|apply wG|(apply wR;simp -dsimp [hl57, slB])|refine aI ?_)
   refine vcStop.call0 Tryz.body54 hsg rfl rfl (by simp [keyD, fD, slB]) ?_
   simp -dsimp
   repeat(first|apply wG|(apply wR;simp -dsimp [setL_whole, hl61])|refine aI ?_)
   refine And.intro ⟨hl61, fun d hd => sgc_oneD hso d hd⟩ ?_
   simp -dsimp [setL_whole, hl61]
   repeat(first|apply wG|(apply wR;simp -dsimp)|refine aI ?_)
   refine cF (by simp) ?_
   refine WP.skip ?_
   simp -dsimp
   have h61 := sgc_tm hso
   have h1o := sgc_one hso
   repeat(first|apply wG|(apply wR;simp -dsimp [hl61, lW, h61])|refine aI ?_)
   exact ⟨mkS 49 [] (sdB crew seed m u R (i + 1)), Wk.go [10, 12, 46] 47 505 (by decide) (by simp) (by simp) (by simp [hsn]), subB_ok (by simp [sdX])⟩
  ·intro G
   rw [pendOf_none, endQ_none]
   cases hw : R.length with
   | zero =>
    have hw0 : R = [] := List.eq_nil_of_length_eq_zero hw
    subst hw0
    simp -dsimp [sdX]
    repeat(first|apply wG|(apply wR;simp -dsimp)|refine aI ?_)
    refine WP.ret (finQR.retM ?_ G 602 rfl rfl rfl)
    simp -dsimp [onL, sgC]
   | succ q =>
    simp -dsimp [sdX]
    rw [← hw, List.take_length]
    repeat(first|apply wG|(apply wR;simp -dsimp)|refine aI ?_)
    refine WP.ret (finQR.retW (Wk.freeze (k := 510) (T := 82) (sz := 61) (n := R.length) (ds := sgC (onL seed m R)) (by simp)) ?_ G 602 rfl rfl rfl)
    simp -dsimp [onL_len]
 | false =>
  rw [if_neg (by decide)]
  obtain ⟨p, bb, q, hpq, hp, hbad⟩ := onB_bad hon
  rw [Nat.zero_add] at hbad
  have hpl : p.length < R.length := by rw [hpq]; simp
  have hgb : R.getD p.length [] = bb := by rw [hpq]; simp
  have hgood : ∀ i, i < p.length → onK crew m i (R.getD i []) = true := fun i hi => by
   have := onB_get hp hi
   rw [Nat.zero_add] at this
   rw [hpq, List.getD_eq_getElem?_getD, List.getElem?_append_left hi, List.getElem?_eq_getElem hi]
   exact this
  refine WP.rangeFuncE Tryz.body184 (m := p.length + 1) (jump := fun i => if i = p.length then some .ret else none) (numbered_it M R Y hR _ (p.length + 1) (by omega) (fun i hi => by simp; omega) (.inr ⟨by omega, by simp⟩)) (fun i => if i = p.length + 1 then sdF crew seed m u else sdX crew seed m u R i) (mkS 49 [(3, .ptr 1103 0), (4, .ptr 1104 0), (6, .ptr 1106 0), (7, .ptr 1107 0)] []).sl 990 (rl [(1000, 600), (1103, 3), (1104, 4), (1106, 6), (1107, 7), (505, 510), (990, 602)]) rfl rfl rfl (by simp) (by simp) (by simp)
   (fun i _ => by split; exact sdF_singles _ _ _ _; exact sdX_singles _ _ _ _ _ i) (by simp [sdX]) (by simp) (by simp [sdX]) (by simp) (by decide) (by simp [sdX]) (fun i hi => if_neg (by omega)) (fun _ _ => rfl) ?_ (fun G => CallOk.of (by simp [slB, lgC, sdX]) (by simp [sdX]) (by simp [sdX]) (by simp [sdX]) (by simp [sdX])) (fun G => by simp [sdX]) ?_
  ·intro i hi0 lp β1
   have hi : i < R.length := by omega
   rcases Nat.lt_or_eq_of_le (show i ≤ p.length by omega) with hlt | heq
   ·have c1 : ¬ i = p.length + 1 := by omega
    have c2 : ¬ i = p.length := by omega
    have c3 : ¬ i + 1 = p.length + 1 := by omega
    rw [if_neg c1, if_neg c2, if_neg c3]
    have hsn := onL_snoc seed m R hi
    have hgd : R.getD i [] = R[i] := by rw [List.getD_eq_getElem?_getD, List.getElem?_eq_getElem hi]; rfl
    have hbi : (R.getD i []).length ≤ 1000000 := by rw [hgd]; exact hb _ (List.getElem_mem hi)
    have hok := hgood i hlt
    obtain ⟨f1, f2, f3, f4, f5⟩ := onK_facts hok (by omega)
    rw [onK, decide_eq_true_eq] at hok
    have hdec := factsDecode_ok (R.getD i []) (by omega)
    rw [decFD, fD, hok.1] at hdec
    generalize R.getD i [] = b at *
    generalize (decF b).1 = f at *
    have hsg := crwSign_ok seed (by omega) m u f f1
    have hsr : sgnR seed m u f = (sgc (sgQ seed m f), 0) := by
     rw [sgnR, if_pos f2, if_pos ⟨hk, by omega⟩]; rfl
    rw [hsr] at hsg
    simp only at hsg
    have lW := onL_C_len seed m (R.take i)
    rw [List.length_take, Nat.min_eq_left (by omega)] at lW
    have hl57 := fcs_len57 f
    have hl61 := sgQ_len seed m f
    have hso : sgOk (sgQ seed m f) := ⟨f1, rfl, fun d hd => sigC_one hd⟩
    refine WP.weak (sdX_wk crew seed m u R i _ _) ?_
    simp -dsimp
    repeat(first|apply wG|(apply wR;simp -dsimp)|refine aI ?_)
    refine vcStop.call0 Tryz.body118 hdec rfl rfl (by simp) ?_
    simp -dsimp
    repeat(first|apply wG|(apply wR;simp -dsimp [setL_whole, hl57])|refine aI ?_)
    refine cF (by simp [f3, f4]) ?_
    refine WP.skip ?_
    simp -dsimp
    repeat(first|apply wG|(apply wR;simp -dsimp [hl57, slB])|refine aI ?_)
    refine vcStop.call0 Tryz.body54 hsg rfl rfl (by simp [keyD, fD, slB]) ?_
    simp -dsimp
    repeat(first|apply wG|(apply wR;simp -dsimp [setL_whole, hl61])|refine aI ?_)
    refine And.intro ⟨hl61, fun d hd => sgc_oneD hso d hd⟩ ?_
    simp -dsimp [setL_whole, hl61]
    repeat(first|apply wG|(apply wR;simp -dsimp)|refine aI ?_)
    refine cF (by simp) ?_
    refine WP.skip ?_
    simp -dsimp
    have h61 := sgc_tm hso
    have h1o := sgc_one hso
    repeat(first|apply wG|(apply wR;simp -dsimp [hl61, lW, h61])|refine aI ?_)
    exact ⟨mkS 49 [] (sdB crew seed m u R (i + 1)), Wk.go [10, 12, 46] 47 505 (by decide) (by simp) (by simp) (by simp [hsn]), subB_ok (by simp [sdX])⟩
   ·have c1 : ¬ i = p.length + 1 := by omega
    rw [if_neg c1, if_pos heq, if_pos (show i + 1 = p.length + 1 by omega)]
    have hgd : R.getD i [] = R[i] := by rw [List.getD_eq_getElem?_getD, List.getElem?_eq_getElem hi]; rfl
    have hbi : (R.getD i []).length ≤ 1000000 := by rw [hgd]; exact hb _ (List.getElem_mem hi)
    have hno : onK crew m i (R.getD i []) = false := by rw [heq, hgb]; exact hbad
    have hdec := factsDecode_ok (R.getD i []) (by omega)
    have f1 := decF_ok (bs := R.getD i []) (by omega)
    rw [onK_dc] at hno
    rw [decFD, fD] at hdec
    unfold dcB at hno
    generalize R.getD i [] = b at *
    generalize (decF b).1 = f at *
    generalize (decF b).2 = e at *
    have hsg := crwSign_ok seed (by omega) m u f f1
    have hl57 := fcs_len57 f
    refine WP.weak (sdX_wk crew seed m u R i _ _) ?_
    simp -dsimp
    repeat(first|apply wG|(apply wR;simp -dsimp)|refine aI ?_)
    refine vcStop.call0 Tryz.body118 hdec rfl rfl (by simp) ?_
    simp -dsimp
    repeat(first|apply wG|(apply wR;simp -dsimp [setL_whole, hl57])|refine aI ?_)
    by_cases hdc : e = 0 ∧ f 0 = crew ∧ f 1 = (i : Int) + 1
    ·rw [decide_eq_true hdc, Bool.true_and, decide_eq_false_iff_not] at hno
     obtain ⟨rfl, f3, f4⟩ := hdc
     have hsr : (sgnR seed m u f).1 = fcs f0 0 57 ++ zsC ∧ (sgnR seed m u f).2 ≠ 0 := by
      unfold sgnR
      split
      ·rw [if_neg (by rintro ⟨_, h⟩; omega)]; exact ⟨rfl, by decide⟩
      ·exact ⟨rfl, by decide⟩
     obtain ⟨hs1, hs2⟩ := hsr
     rw [hs1] at hsg
     have hzo : sgOk (f0, zsC) := ⟨f0_ok, rfl, by decide⟩
     have hz1 := sgc_oneD hzo
     have hz61 := sgc_len hzo
     simp only [sgc] at hz1 hz61
     generalize fcs f0 0 57 ++ zsC = Z at *
     generalize (sgnR seed m u f).2 = z at *
     refine cF (by simp [f3, f4]) ?_
     refine WP.skip ?_
     simp -dsimp
     repeat(first|apply wG|(apply wR;simp -dsimp [hl57, slB])|refine aI ?_)
     refine vcStop.call0 Tryz.body54 hsg rfl rfl (by simp [keyD, fD, slB]) ?_
     simp -dsimp
     repeat(first|apply wG|(apply wR;simp -dsimp [setL_whole])|refine aI ?_)
     refine cT (by simp [hs2]) ?_
     repeat(first|apply wG|(apply wR;simp -dsimp)|refine aI ?_)
     refine WP.ret ?_
     simp -dsimp
     exact ⟨rfl, mkS 49 [] (sdF crew seed m u), Wk.lessE [10, 12, 505] (by simp) (by simp), subB_ok (by simp)⟩
    ·refine cT (by simp; omega) ?_
     repeat(first|apply wG|(apply wR;simp -dsimp)|refine aI ?_)
     refine WP.ret ?_
     simp -dsimp
     exact ⟨rfl, mkS 49 [] (sdF crew seed m u), Wk.lessE [10, 505] (by simp) (by simp), subB_ok (by simp)⟩
  ·intro G
   rw [show pendOf (fun i => if i = p.length then some Code.ret else none) (p.length + 1) = some Code.ret from if_pos rfl, endQ_some, if_pos rfl]
   simp -dsimp [sdX]
   refine WP.ret (finQR.retM ?_ G 602 rfl rfl rfl)
   simp -dsimp
end Go.Proofs.YtfgcgagcpnbgmaaGreatDoor
