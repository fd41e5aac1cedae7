/-
  Joined texts.
-/
import Derived.Test.YtnljenjcaeophaaGreatDoorWOA
import Derived.Test.YtnljenjcaeophaaGreatDoorWN
import Derived.Test.YtnljenjcaeophaaGreatDoorWW
import Derived.Test.YtnljenjcaeophaaGreatDoorWJ
set_option maxRecDepth 10000
set_option maxHeartbeats 4000000
set_option linter.unusedVariables false
set_option linter.unusedSimpArgs false
set_option linter.unusedSectionVars false
namespace Go.Proofs.YtnljenjcaeophaaGreatDoor
open Go.Xe Go.RowKit
theorem qP_ {l : List Sg} {i : Nat} (h : i < l.length) : sat l i = l[i] := by simp [sat, List.getD_eq_getElem?_getD, h]
theorem e3_ {l : List Sg} {i : Nat} (h : i < l.length) : sat l i ∈ l := by
 rw [qP_ h]; exact List.getElem_mem h
theorem s4_ {l : List Sg} {i : Nat} (h : i < l.length) : l.take (i + 1) = l.take i ++ [sat l i] := by
 rw [qP_ h, List.take_add_one, List.getElem?_eq_getElem h]; rfl
theorem take_setS {l : List Sg} {i : Nat} (h : i < l.length) (f : Sg) : (l.set i f).take (i + 1) = l.take i ++ [f] := by
 rw [List.set_eq_take_append_cons_drop, if_pos h, List.take_append, List.length_take, Nat.min_eq_left (by omega), List.take_of_length_le (by simp; omega), show i + 1 - i = 1 by omega]
 rfl
theorem set_sgOk {e : List Sg} (h : ∀ f ∈ e, sgOk f) {p : Nat} {x : Sg} (hx : sgOk x) : ∀ f ∈ e.set p x, sgOk f := fun f hf => by
 rcases List.mem_or_eq_of_mem_set hf with h1 | rfl
 ·exact h f h1
 ·exact hx
theorem on_ {e l : List Sg} {i j : Nat} (h : e.drop i = l.drop i) (hij : i ≤ j) : sat e j = sat l j := by
 have := congrArg (fun q => q[j - i]?) h
 simp only [List.getElem?_drop, show i + (j - i) = j by omega] at this
 unfold sat
 rw [List.getD_eq_getElem?_getD, List.getD_eq_getElem?_getD, this]
theorem wG_ {x : List Sg} {i : Nat} (h : ∀ q ∈ x, sgOk q) (hi : i < x.length) : (((sgC x).map AV.d).drop (i * 61)).take 61 = (sgc (sat x i)).map .d := by
 rw [vh_ hi h, qP_ hi]
theorem kv_ {l : List Sg} : ∀ m, m ≤ l.length → (∀ j, 1 ≤ j → j < m → aE_ (sat l j).1 (sat l (j - 1)).1 ≠ 0) → cNS l m = l.take m
 | 0, _, _ => by simp [cNS]
 | m + 1, h, hj => by
  rw [cNS, kv_ m (by omega) (fun j h1 h2 => hj j h1 (by omega)), s4_ (by omega), if_pos]
  rcases Nat.eq_zero_or_pos m with h0 | h0
  ·exact .inl h0
  ·exact .inr (hj m h0 (by omega))
theorem uT_ {l : List Sg} : ∀ m, m ≤ l.length → ∀ x ∈ cNS l m, x ∈ l
 | 0, _, x, h => by simp [cNS] at h
 | m + 1, hm, x, h => by
  rw [cNS, List.mem_append] at h
  rcases h with h | h
  ·exact uT_ m (by omega) x h
  ·split at h
   ·rw [List.mem_singleton] at h; subst h; exact e3_ (by omega)
   ·cases h
@[simp] def rBS (l : List Sg) : Box := .row 70 61 l.length ((sgC l).map .d)
theorem lM_ (p q : Sg) (hp : sgOk p) (hq : sgOk q) : Fun Tryz.prog 104 [.d (sgV p), .d (sgV q), .ptr 1000 0] [(1000, cBS)] (.d (.v (.bool (decide (aE_ p.1 q.1 = 0))))) [(1000, cBS)] fun _ => False := by
 have hc := h2_ p q hp hq
 have l1 := az_ hp
 have l2 := az_ hq
 have m1 := bV_ hp
 have m2 := bV_ hq
 refine ac_ (pn := ap_) aa_ Tryz.func104 rfl fun β0 => ?_
 simp only [Tryz.f104]
 simp only [sgV]
 repeat(first|apply wG|(apply wR;simp -dsimp [l1, l2])|refine aI ?_)
 refine And.intro (sgc_oneD hp) ?_
 refine And.intro (sgc_oneD hq) ?_
 repeat(first|apply wG|(apply wR;simp -dsimp [l1, l2])|refine aI ?_)
 refine ag_ cn_ hc rfl rfl (And.intro (by simp [sgV, m1]; try exact ai_ _) (And.intro (by simp [sgV, m2]; try exact ai_ _) trivial)) ?_
 simp -dsimp
 repeat(first|apply wG|(apply wR;simp -dsimp)|refine aI ?_)
 refine WP.ret (ab_ ?_)
 simp -dsimp
theorem innS_go {W : List Sg} {j : Nat} (hj : 0 < j) (h : lwS W j = true) : mT_ j W = mT_ (j - 1) (swS W j) := by
 obtain ⟨q, rfl⟩ : ∃ q, j = q + 1 := ⟨j - 1, by omega⟩
 rw [mT_, if_pos h]
 rfl
theorem tC_ {W : List Sg} {j : Nat} (h : j = 0 ∨ lwS W j = false) : mT_ j W = W := by
 cases j with
 | zero => rfl
 | succ q =>
  rw [mT_, if_neg]
  rcases h with h | h
  ·omega
  ·simp [h]
theorem swS_ok {W : List Sg} (h : ∀ f ∈ W, sgOk f) {j : Nat} (hj : j < W.length) : ∀ f ∈ swS W j, sgOk f :=
 set_sgOk (set_sgOk h (h _ (e3_ (by omega)))) (h _ (e3_ hj))
theorem v0_ {j : Nat} : ∀ {W : List Sg}, (∀ f ∈ W, sgOk f) → j < W.length ∨ j = 0 → ∀ f ∈ mT_ j W, sgOk f := by
 induction j with
 | zero => intro W h _; exact h
 | succ j ih =>
  intro W h hj
  rw [mT_]
  split
  ·refine ih (swS_ok h (by omega)) ?_
   rw [swS_len]
   omega
  ·exact h
theorem rc_ {M : List Sg} (h : ∀ f ∈ M, sgOk f) : ∀ i, i ≤ M.length → ∀ f ∈ outS i M, sgOk f
 | 0, _ => h
 | i + 1, hi => by
  rw [outS]
  exact v0_ (rc_ h i (by omega)) (.inl (by rw [fc_]; omega))
theorem vX_ {M : List Sg} (h : ∀ f ∈ M, sgOk f) : ∀ f ∈ mS_ M, sgOk f := fun f hf => by
 rw [ru_, qC_] at hf
 rcases hf with hf | hf
 ·exact h f hf
 ·cases hf
abbrev inSI (M W : List Sg) (i : Nat) : St := mkS 53 [(0, .row 1000), (1, .d (.v (.int .i64 0))), (2, .d (.v (.int .i64 M.length))), (3, .d ha_), (8, .d (.v (.int .i64 i)))] [(1000, .row 70 61 M.length ((sgC W).map .d))]
abbrev inSJ (M W : List Sg) (i j : Nat) : St := mkS 53 [(0, .row 1000), (1, .d (.v (.int .i64 0))), (2, .d (.v (.int .i64 M.length))), (3, .d ha_), (8, .d (.v (.int .i64 i))), (9, .d (.v (.int .i64 j)))] [(1000, .row 70 61 M.length ((sgC W).map .d))]
theorem nr_ (M : List Sg) (hM : ∀ f ∈ M, sgOk f) (hl : M.length ≤ 1000) : Fun Tryz.prog 208 [.row 1000, .d (.v (.int .i64 0)), .d (.v (.int .i64 M.length)), .d ha_] [(1000, .row 70 61 M.length ((sgC M).map .d))] (.d .any) [(1000, .row 70 61 M.length ((sgC (mS_ M)).map .d))] fun _ => False := by
 have w1 : IntKind.i64.wrap 1 = 1 := by decide
 refine ac_ (pn := ap_) aa_ Tryz.func208 rfl fun β0 => ?_
 simp only [Tryz.f208]
 repeat(first|apply wG|(apply wR;simp -dsimp)|refine aI ?_)
 refine ak_ (fun m S => ∃ i, 1 ≤ i ∧ i + m = max 1 M.length ∧ S = inSI M (outS i M) i) (max 1 M.length - 1) (S0 := inSI M (outS 1 M) 1) (ae_ [] (by simp [w1]) (by simp [outS, mT_])) ⟨1, by omega, by omega, rfl⟩ ?_
 rintro m _ ⟨i, hi1, him, rfl⟩
 simp -dsimp
 repeat(first|apply wG|(apply wR;simp -dsimp)|refine aI ?_)
 by_cases hiL : i < M.length
 ·refine cT (by simp; omega) ?_
  refine WP.skip ?_
  simp -dsimp
  repeat(first|apply wG|(apply wR;simp -dsimp)|refine aI ?_)
  refine ak_ (fun n S => ∃ j W, n = j ∧ j ≤ i ∧ W.length = M.length ∧ (∀ f ∈ W, sgOk f) ∧ mT_ j W = mT_ i (outS i M) ∧ S = inSJ M W i j) i (S0 := inSJ M (outS i M) i i) (ae_ [] (by simp) (by simp)) ⟨i, outS i M, rfl, by omega, fc_ _ _, rc_ hM i (by omega), rfl, rfl⟩ ?_
  have e4 : IntKind.i64.wrap ((i : Int) + 1) = ((i + 1 : Nat) : Int) := by rw [IntWalk.i64_in _ (by omega)]; omega
  rintro n _ ⟨j, W, rfl, hji, hWl, hWo, hin, rfl⟩
  simp -dsimp
  rcases Nat.eq_zero_or_pos n with rfl | hn0
  ·repeat(first|apply wG|(apply wR;simp -dsimp)|refine aI ?_)
   refine vcStopG.skip (.d (.v (.int .i64 0))) ?_
   simp -dsimp
   repeat(first|apply wG|(apply wR;simp -dsimp)|refine aI ?_)
   refine cF (by simp) ?_
   refine WP.exit ?_
   simp -dsimp
   repeat(first|apply wG|(apply wR;simp -dsimp)|refine aI ?_)
   have e5 : outS (i + 1) M = W := by rw [outS, ← hin]; rfl
   refine ah_ (inSI M (outS (i + 1) M) (i + 1)) (ae_ [] (by simp [e4]) (by simp [e5])) (m - 1) (by omega) ⟨i + 1, by omega, by omega, rfl⟩
  ·have hat := wG_ hWo (i := n) (by omega)
   have hat1 := wG_ hWo (i := n - 1) (by omega)
   have o0 := hWo _ (e3_ (show n < W.length by omega))
   have o1 := hWo _ (e3_ (show n - 1 < W.length by omega))
   have l0 := az_ o0
   have l1 := az_ o1
   have lW := sgC_len hWo
   have s1 := m4_ hWo (i := n) (by omega) o1
   have lW1 := sgC_len (set_sgOk hWo (p := n) o1)
   have lS1 : (W.set n (sat W (n - 1))).length = W.length := List.length_set
   have s2 := m4_ (set_sgOk hWo (p := n) o1) (i := n - 1) (by simp; omega) o0
   have e1 : IntKind.i64.wrap ((n : Int) - 1) = ((n - 1 : Nat) : Int) := by rw [IntWalk.i64_in _ (by omega)]; omega
   have hd : decide (0 < n) = true := by simp; omega
   repeat(first|apply wG|(apply wR;simp -dsimp [hat, hat1, e1, hd, l0, l1, lW, hWl])|refine aI ?_)
   refine aP_ cn_ (fun _ => h2_ (sat W n) (sat W (n - 1)) o0 o1) rfl (fun _ => rfl) (fun _ => And.intro (by simp [sgV]; try exact ai_ _) (And.intro (by simp [sgV]; try exact ai_ _) trivial)) ?_
   simp -dsimp
   repeat(first|apply wG|(apply wR;simp -dsimp)|refine aI ?_)
   by_cases hls : lwS W n = true
   ·refine cT (by rw [← hls]; simp [lwS]) ?_
    refine WP.skip ?_
    simp -dsimp
    repeat(first|apply wG|(apply wR;simp -dsimp [hat, hat1, e1, l0, l1, lW, hWl, s1, s2])|refine aI ?_)
    refine And.intro ⟨by omega, fun _ h => sgc_oneD o1 _ h⟩ ?_
    repeat refine aI ?_
    refine And.intro ⟨by omega, fun _ h => sgc_oneD o0 _ h⟩ ?_
    repeat(first|apply wG|(apply wR;simp -dsimp)|refine aI ?_)
    refine ah_ (inSJ M (swS W n) i (n - 1)) (ae_ [] (by simp [e1]) (by simp [swS])) (n - 1) (by omega) ⟨n - 1, swS W n, rfl, by omega, by rw [swS_len, hWl], swS_ok hWo (by omega), by rw [← innS_go hn0 hls, hin], rfl⟩
   ·have hls : lwS W n = false := by simpa using hls
    refine cF (by rw [← hls]; simp [lwS]) ?_
    refine WP.exit ?_
    simp -dsimp
    repeat(first|apply wG|(apply wR;simp -dsimp)|refine aI ?_)
    have e5 : outS (i + 1) M = W := by rw [outS, ← hin, tC_ (.inr hls)]
    refine ah_ (inSI M (outS (i + 1) M) (i + 1)) (ae_ [] (by simp [e4]) (by simp [e5])) (m - 1) (by omega) ⟨i + 1, by omega, by omega, rfl⟩
 ·refine cF (by simp; omega) ?_
  refine WP.exit ?_
  simp -dsimp
  repeat(first|apply wG|(apply wR;simp -dsimp)|refine aI ?_)
  have e6 : mS_ M = outS i M := by
   rw [mS_]
   congr 1
   omega
  refine dF_ ?_
  simp -dsimp [e6, fc_]
theorem m2_ (l : List Sg) (hv : ∀ f ∈ l, sgOk f) (hl : l.length ≤ 14) : Fun Tryz.prog 161 [.row 1000, .d (.v (.int .i64 l.length)), .d ha_] [(1000, .row 70 61 l.length ((sgC l).map .d))] (.tup []) [(1000, .row 70 61 l.length ((sgC (mS_ l)).map .d))] fun _ => False := by
 refine ac_ (pn := ap_) aa_ Tryz.func161 rfl fun β0 => ?_
 simp only [Tryz.f161]
 repeat(first|apply wG|(apply wR;simp -dsimp)|refine aI ?_)
 refine ak_ (fun m S => S = mkS 63 [(0, .row 1000), (1, .d (.v (.int .i64 l.length))), (2, .d ha_), (6, .d (.v (.int .i64 20))), (7, .d (.v (.int .i64 0))), (8, .d (.v (.int .i64 20)))] [(1000, .row 70 61 l.length ((sgC l).map .d))]) 1
  (S0 := mkS 63 [(0, .row 1000), (1, .d (.v (.int .i64 l.length))), (2, .d ha_), (6, .d (.v (.int .i64 20))), (7, .d (.v (.int .i64 0))), (8, .d (.v (.int .i64 20)))] [(1000, .row 70 61 l.length ((sgC l).map .d))]) (ae_ [] (by simp) (by simp)) rfl ?_
 rintro _ _ rfl
 simp -dsimp
 repeat(first|apply wG|(apply wR;simp -dsimp)|refine aI ?_)
 refine cF (by simp; omega) ?_
 refine WP.exit ?_
 simp -dsimp
 repeat(first|apply wG|(apply wR;simp -dsimp)|refine aI ?_)
 refine vcStop.call gy_ (nr_ l hv (by omega)) (rl []) rfl rfl (by simp [BoxLeq]) (aj_ (by simp [BoxLeq]) rfl (by first | rfl | (simp [BoxLeq]; done)) (by simp [BoxLeq]) (by simp [BoxLeq])) (fun _ h => h.elim) (fun ⟨_, h⟩ => h.elim) (fun ⟨_, h⟩ => h.elim) (by simp [BoxLeq]) ?_
 simp -dsimp
 repeat(first|apply wG|(apply wR;simp -dsimp)|refine aI ?_)
 refine ak_ (fun m S => S = mkS 63 [(0, .row 1000), (1, .d (.v (.int .i64 l.length))), (2, .d ha_), (6, .d (.v (.int .i64 20)))] [(1000, .row 70 61 l.length ((sgC (mS_ l)).map .d))]) 1
  (S0 := mkS 63 [(0, .row 1000), (1, .d (.v (.int .i64 l.length))), (2, .d ha_), (6, .d (.v (.int .i64 20)))] [(1000, .row 70 61 l.length ((sgC (mS_ l)).map .d))]) (ae_ [] (by simp) (by simp)) rfl ?_
 rintro _ _ rfl
 simp -dsimp
 repeat(first|apply wG|(apply wR;simp -dsimp)|refine aI ?_)
 refine cF (by simp; omega) ?_
 refine WP.exit ?_
 simp -dsimp
 refine aF_ (S' := mkS 63 [] [(1000, .row 70 61 l.length ((sgC (mS_ l)).map .d))]) (ae_ [] (by simp) (by simp)) ?_
 simp -dsimp
theorem dx_ (l : List Sg) (hv : ∀ f ∈ l, sgOk f) (hl : l.length ≤ 14) : Fun Tryz.prog 102 [.row 1000, .d ha_] [(1000, .row 70 61 l.length ((sgC l).map .d))] (.tup []) [(1000, .row 70 61 l.length ((sgC (mS_ l)).map .d))] fun _ => False := by
 refine ac_ (pn := ap_) aa_ Tryz.func102 rfl fun β0 => ?_
 simp only [Tryz.f102]
 repeat(first|apply wG|(apply wR;simp -dsimp)|refine aI ?_)
 refine vcStop.call gJ_ (m2_ l hv hl) (rl []) rfl rfl (by simp [BoxLeq]) (aj_ (by simp [BoxLeq]) rfl (by first | rfl | (simp [BoxLeq]; done)) (by simp [BoxLeq]) (by simp [BoxLeq])) (fun _ h => h.elim) (fun ⟨_, h⟩ => h.elim) (fun ⟨_, h⟩ => h.elim) (by simp [BoxLeq]) ?_
 simp -dsimp
 refine aF_ (S' := mkS 9 [] [(1000, .row 70 61 l.length ((sgC (mS_ l)).map .d))]) (ae_ [] (by simp) (by simp)) ?_
 simp -dsimp
theorem if_ (l : List Sg) (hl : l.length ≤ 14) (hv : ∀ f ∈ l, sgOk f) : Fun Tryz.prog 103 [.row 1000, eqS] [(1000, rBS l), (1001, cBS)] (.row 0) [(1001, cBS), (0, rBS (cmptS l))] fun _ => False := by
 have hll := sgC_len hv
 refine ac_ (pn := ap_) aa_ Tryz.func103 rfl fun β0 => ?_
 simp only [Tryz.f103]
 repeat(first|apply wG|(apply wR;simp -dsimp)|refine aI ?_)
 refine WP.cond (b := decide (l.length < 2)) (by simp; omega) (fun hb => ?_) (fun hb => ?_)
 ·have hb := of_decide_eq_true hb
  have e : cmptS l = l := by rw [cmptS, kv_ _ (Nat.le_refl _) (fun j h1 h2 => by omega), List.take_length]
  rw [e]
  repeat(first|apply wG|(apply wR;simp -dsimp)|refine aI ?_)
  refine WP.ret (an_ (S' := mkS 66 [(4, .row 0)] [(1001, cBS), (0, rBS l)]) (Wk.go [] 1000 0 (by decide) (by simp) (by simp) (by simp)) ?_)
  simp -dsimp
 have hb := of_decide_eq_false hb
 refine WP.skip ?_
 simp -dsimp
 repeat(first|apply wG|(apply wR;simp -dsimp)|refine aI ?_)
 refine ak_ (fun m S => ∃ k, 1 ≤ k ∧ k + m = l.length ∧ (∀ j, 1 ≤ j → j < k → aE_ (sat l j).1 (sat l (j - 1)).1 ≠ 0) ∧ S = mkS 66 [(0, .row 1000), (1, eqS), (5, .d (.v (.int .i64 k)))] [(1000, rBS l), (1001, cBS)]) (l.length - 1)
  (S0 := mkS 66 [(0, .row 1000), (1, eqS), (5, .d (.v (.int .i64 1)))] [(1000, rBS l), (1001, cBS)]) (ae_ [] (by simp) (by simp)) ⟨1, Nat.le_refl _, by omega, fun j h1 h2 => by omega, rfl⟩ ?_
 rintro m _ ⟨k, hk1, hkm, hne, rfl⟩
 simp -dsimp
 repeat(first|apply wG|(apply wR;simp -dsimp)|refine aI ?_)
 by_cases hkn : k < l.length
 ·refine cT (by simp; omega) ?_
  refine WP.skip ?_
  simp -dsimp
  have e1 : IntKind.i64.wrap ((k : Int) - 1) = ((k - 1 : Nat) : Int) := by rw [IntWalk.i64_in _ (by omega)]; omega
  have e2 : IntKind.i64.wrap ((k : Int) + 1) = ((k + 1 : Nat) : Int) := by rw [IntWalk.i64_in _ (by omega)]; omega
  have a1 := wG_ (x := l) (i := k) hv hkn
  have a2 := wG_ (x := l) (i := k - 1) hv (by omega)
  have vk := hv _ (e3_ hkn)
  have vk1 := hv _ (e3_ (show k - 1 < l.length by omega))
  have lk := az_ vk
  have lk1 := az_ vk1
  repeat(first|apply wG|(apply wR;simp -dsimp [e1, a1, a2, hll, lk, lk1])|refine aI ?_)
  refine vcStop.call gS_ (lM_ (sat l k) (sat l (k - 1)) vk vk1) (rl [(1000, 1001)]) rfl rfl (by simp [sgV, BoxLeq]) (aj_ (by simp [sgV, BoxLeq]) rfl (by first | rfl | (simp [sgV, BoxLeq]; done)) (by simp [sgV, BoxLeq]) (by simp [sgV, BoxLeq])) (fun _ h => h.elim) (fun ⟨_, h⟩ => h.elim) (fun ⟨_, h⟩ => h.elim) (by simp [sgV, BoxLeq]) ?_
  simp -dsimp
  repeat(first|apply wG|(apply wR;simp -dsimp)|refine aI ?_)
  refine WP.cond (b := decide (aE_ (sat l k).1 (sat l (k - 1)).1 = 0)) (by simp) (fun hc => ?_) (fun hc => ?_)
  ·have hc := of_decide_eq_true hc
   have hk0 : cNS l k = l.take k := kv_ k (by omega) hne
   have hk1' : cNS l (k + 1) = l.take k := by rw [cNS, hk0, if_neg (by rintro (h | h); omega; exact h hc), List.append_nil]
   repeat(first|apply wG|(apply wR;simp -dsimp)|refine aI ?_)
   refine bv_ aa_ (k := 1000) rfl rfl rfl rfl rfl hkn rfl ?_
   simp -dsimp
   repeat(first|apply wG|(apply wR;simp -dsimp)|refine aI ?_)
   refine ak_ (fun m S => ∃ e q p, e.length = l.length ∧ (∀ f ∈ e, sgOk f) ∧ 1 ≤ q ∧ k + q + m = l.length ∧ p = (cNS l (k + q)).length ∧ e.take p = cNS l (k + q) ∧ e.drop (k + q - 1) = l.drop (k + q - 1) ∧ p ≤ k + q - 1 ∧
     S = mkS 66 [(0, .row 1000), (1, eqS), (5, .d (.v (.int .i64 (p : Nat)))), (6, .rsl 1000 (k * 61) (l.length - k)), (7, .d (.v (.int .i64 (q : Nat))))] [(1000, .row 70 61 l.length ((sgC e).map .d)), (1001, cBS)]) (l.length - k - 1)
    (S0 := mkS 66 [(0, .row 1000), (1, eqS), (5, .d (.v (.int .i64 (k : Nat)))), (6, .rsl 1000 (k * 61) (l.length - k)), (7, .d (.v (.int .i64 1)))] [(1000, .row 70 61 l.length ((sgC l).map .d)), (1001, cBS)]) (ae_ [] (by simp) (by simp))
    ⟨l, 1, k, rfl, hv, Nat.le_refl _, by omega, by rw [hk1', List.length_take]; omega, hk1'.symm, rfl, by omega, rfl⟩ ?_
   rintro m2 _ ⟨e, q, p, hel, heo, hq1, hqm, hp, het, hed, hpq, rfl⟩
   simp -dsimp
   repeat(first|apply wG|(apply wR;simp -dsimp)|refine aI ?_)
   by_cases hqn : k + q < l.length
   ·refine cT (by simp; omega) ?_
    refine WP.skip ?_
    simp -dsimp
    have e3 : IntKind.i64.wrap ((q : Int) - 1) = ((q - 1 : Nat) : Int) := by rw [IntWalk.i64_in _ (by omega)]; omega
    have e4 : IntKind.i64.wrap ((q : Int) + 1) = ((q + 1 : Nat) : Int) := by rw [IntWalk.i64_in _ (by omega)]; omega
    have e5 : IntKind.i64.wrap ((p : Int) + 1) = ((p + 1 : Nat) : Int) := by rw [IntWalk.i64_in _ (by omega)]; omega
    have f1 : sat e (k + q) = sat l (k + q) := on_ hed (by omega)
    have f2 : sat e (k + q - 1) = sat l (k + q - 1) := on_ hed (by omega)
    have hle := sgC_len heo
    have b1 : (((sgC e).map AV.d).drop (k * 61 + q * 61)).take 61 = (sgc (sat l (k + q))).map .d := by
     rw [← f1, ← wG_ heo (by omega), Nat.add_mul]
    have b2 : (((sgC e).map AV.d).drop (k * 61 + (q - 1) * 61)).take 61 = (sgc (sat l (k + q - 1))).map .d := by
     rw [← f2, ← wG_ heo (by omega), ← Nat.add_mul, show k + (q - 1) = k + q - 1 by omega]
    have v1 := hv _ (e3_ hqn)
    have v2 := hv _ (e3_ (show k + q - 1 < l.length by omega))
    have l1 := az_ v1
    have l2 := az_ v2
    repeat(first|apply wG|(apply wR;simp -dsimp [e3, b1, b2, hle, hel, l1, l2])|refine aI ?_)
    refine vcStop.call gS_ (lM_ (sat l (k + q)) (sat l (k + q - 1)) v1 v2) (rl [(1000, 1001)]) rfl rfl (by simp [sgV, BoxLeq]) (aj_ (by simp [sgV, BoxLeq]) rfl (by first | rfl | (simp [sgV, BoxLeq]; done)) (by simp [sgV, BoxLeq]) (by simp [sgV, BoxLeq])) (fun _ h => h.elim) (fun ⟨_, h⟩ => h.elim) (fun ⟨_, h⟩ => h.elim) (by simp [sgV, BoxLeq]) ?_
    simp -dsimp
    repeat(first|apply wG|(apply wR;simp -dsimp)|refine aI ?_)
    refine WP.cond (b := !decide (aE_ (sat l (k + q)).1 (sat l (k + q - 1)).1 = 0)) (by simp) (fun hd => ?_) (fun hd => ?_)
    ·have hd : ¬ aE_ (sat l (k + q)).1 (sat l (k + q - 1)).1 = 0 := by simpa using hd
     have hn : cNS l (k + (q + 1)) = cNS l (k + q) ++ [sat l (k + q)] := by
      rw [show k + (q + 1) = (k + q) + 1 by omega, cNS, if_pos (.inr hd)]
     repeat(first|apply wG|(apply wR;simp -dsimp [b1, hle, hel, l1])|refine aI ?_)
     refine And.intro ⟨by omega, fun _ h => sgc_oneD v1 _ h⟩ ?_
     repeat(first|apply wG|(apply wR;simp -dsimp)|refine aI ?_)
     have hs := m4_ heo (i := p) (by omega) v1
     refine ah_ (mkS 66 [(0, .row 1000), (1, eqS), (5, .d (.v (.int .i64 ((p + 1 : Nat) : Int)))), (6, .rsl 1000 (k * 61) (l.length - k)), (7, .d (.v (.int .i64 ((q + 1 : Nat) : Int))))] [(1000, .row 70 61 l.length ((sgC (e.set p (sat l (k + q)))).map .d)), (1001, cBS)])
      (ae_ [] (by simp [e4, e5]) (by simp [hs])) (m2 - 1) (by omega) ⟨e.set p (sat l (k + q)), q + 1, p + 1, by simp [hel], set_sgOk heo v1, by omega, by omega, by rw [hn, List.length_append, ← hp]; rfl, by rw [take_setS (by omega), het, hn], ?_, by omega, rfl⟩
     rw [List.drop_set_of_lt (by omega)]
     have := congrArg (List.drop 1) hed
     rw [List.drop_drop, List.drop_drop] at this
     rw [show k + (q + 1) - 1 = k + q - 1 + 1 by omega]
     exact this
    ·have hd : aE_ (sat l (k + q)).1 (sat l (k + q - 1)).1 = 0 := by simpa using hd
     have hn : cNS l (k + (q + 1)) = cNS l (k + q) := by
      rw [show k + (q + 1) = (k + q) + 1 by omega, cNS, if_neg (by rintro (h | h); omega; exact h hd), List.append_nil]
     refine WP.skip ?_
     simp -dsimp
     repeat(first|apply wG|(apply wR;simp -dsimp)|refine aI ?_)
     refine ah_ (mkS 66 [(0, .row 1000), (1, eqS), (5, .d (.v (.int .i64 (p : Nat)))), (6, .rsl 1000 (k * 61) (l.length - k)), (7, .d (.v (.int .i64 ((q + 1 : Nat) : Int))))] [(1000, .row 70 61 l.length ((sgC e).map .d)), (1001, cBS)])
      (ae_ [] (by simp [e4]) (by simp)) (m2 - 1) (by omega) ⟨e, q + 1, p, hel, heo, by omega, by omega, by rw [hn, hp], by rw [hn, het], ?_, by omega, rfl⟩
     have := congrArg (List.drop 1) hed
     rw [List.drop_drop, List.drop_drop] at this
     rw [show k + (q + 1) - 1 = k + q - 1 + 1 by omega]
     exact this
   ·have hqe : k + q = l.length := by omega
    refine cF (by simp; omega) ?_
    refine WP.exit ?_
    simp -dsimp
    repeat(first|apply wG|(apply wR;simp -dsimp)|refine aI ?_)
    refine bv_ aa_ (k := 1000) rfl rfl rfl rfl rfl (m := p) (by omega) rfl ?_
    simp -dsimp
    have hle2 := sgC_len heo
    refine du_ aa_ rfl rfl rfl rfl rfl rfl (by simp [hle2, hel]; omega) (by omega) ?_
    simp -dsimp
    repeat(first|apply wG|(apply wR;simp -dsimp)|refine aI ?_)
    refine bw_ aa_ (j := 1000) (k := 500) (m := p) rfl rfl rfl rfl rfl (by omega) (by omega) rfl (by simp; exact lD_ _ _ _ _) ?_
    simp -dsimp
    repeat(first|apply wG|(apply wR;simp -dsimp)|refine aI ?_)
    have hq : cNS l (k + q) = cmptS l := by rw [hqe]; rfl
    have hfin : List.take (p * 61) (setL (List.map AV.d (sgC e)) (p * 61) (List.replicate ((l.length - p) * 61) (AV.d D.any))) = (sgC (cmptS l)).map .d := by
     rw [c0_ _ _ _ (by rw [List.length_map, hle2, List.length_replicate, hel]; omega), List.append_assoc, List.take_append, List.take_take, Nat.min_self, ← List.map_take, (hh_ heo (by omega)).1, het, hq]
     have : (List.map AV.d (sgC (cmptS l))).length = p * 61 := by rw [List.length_map, show (sgC (cmptS l)).length = (cmptS l).length * 61 from sgC_len (fun f hf => hv f (uT_ l.length (Nat.le_refl _) f hf)), ← hq, ← hp]
     rw [this, Nat.sub_self, List.take_zero, List.append_nil]
    have hpl : (cmptS l).length = p := by rw [← hq, hp]
    refine WP.ret (an_ (S' := mkS 66 [(4, .row 0)] [(1001, cBS), (0, rBS (cmptS l))]) (Wk.go [] 500 0 (by decide) (by simp [hfin]) (by simp) (by simp [hfin, hpl])) ?_)
    simp -dsimp
  ·have hc : ¬ aE_ (sat l k).1 (sat l (k - 1)).1 = 0 := of_decide_eq_false hc
   refine WP.skip ?_
   simp -dsimp
   repeat(first|apply wG|(apply wR;simp -dsimp)|refine aI ?_)
   refine ah_ (mkS 66 [(0, .row 1000), (1, eqS), (5, .d (.v (.int .i64 ((k + 1 : Nat) : Int))))] [(1000, rBS l), (1001, cBS)]) (ae_ [] (by simp [e2]) (by simp)) (m - 1) (by omega) ⟨k + 1, by omega, by omega, fun j h1 h2 => ?_, rfl⟩
   by_cases hjk : j = k
   ·subst hjk; exact hc
   ·exact hne j h1 (by omega)
 ·have hke : k = l.length := by omega
  refine cF (by simp; omega) ?_
  refine WP.exit ?_
  simp -dsimp
  repeat(first|apply wG|(apply wR;simp -dsimp)|refine aI ?_)
  have e : cmptS l = l := by rw [cmptS, kv_ _ (Nat.le_refl _) (fun j h1 h2 => hne j h1 (by omega)), List.take_length]
  rw [e]
  refine WP.ret (an_ (S' := mkS 66 [(4, .row 0)] [(1001, cBS), (0, rBS l)]) (Wk.go [] 1000 0 (by decide) (by simp) (by simp) (by simp)) ?_)
  simp -dsimp
theorem s7_ (l : List Sg) (b : Bool) (h0 : 0 < l.length) (hl : l.length ≤ 14) (hv : ∀ p ∈ l, sgOk p) : Fn0 Tryz.prog 58 [sgD l b, ha_] (sgD (setS l) false) := by
 have hk := tA_ l
 have hs := se_ l
 refine ac_ (pn := ap_) aa_ Tryz.func58 rfl fun β0 => ?_
 simp only [Tryz.f58]
 repeat(first|apply wG|(apply wR;simp -dsimp)|refine aI ?_)
 refine vcStop.call bF_ (sh_ l b h0 (by omega) hv) (rl [(0, 600)]) rfl rfl (by simp [BoxLeq]) (aj_ (by simp [BoxLeq]) rfl (by first | rfl | (simp [BoxLeq]; done)) (by simp [BoxLeq]) (by simp [BoxLeq])) (fun _ h => h.elim) (fun ⟨_, h⟩ => h.elim) (fun ⟨_, h⟩ => h.elim) (by simp [BoxLeq]) ?_
 simp -dsimp
 repeat(first|apply wG|(apply wR;simp -dsimp)|refine aI ?_)
 refine vcStop.call dV_ (dx_ l hv hl) (rl [(1000, 600)]) rfl rfl (by simp [BoxLeq]) (aj_ (by simp [BoxLeq]) rfl (by first | rfl | (simp [BoxLeq]; done)) (by simp [BoxLeq]) (by simp [BoxLeq])) (fun _ h => h.elim) (fun ⟨_, h⟩ => h.elim) (fun ⟨_, h⟩ => h.elim) (by simp [BoxLeq]) ?_
 simp -dsimp
 repeat(first|apply wG|(apply wR;simp -dsimp)|refine aI ?_)
 refine vcStop.call dU_ (if_ (mS_ l) (by omega) (vX_ hv)) (rl [(1000, 600), (1001, 3), (0, 700)]) rfl rfl (by simp [hk, BoxLeq]) (aj_ (by simp [hk, BoxLeq]) rfl (by first | rfl | (simp [hk, BoxLeq]; done)) (by simp [hk, BoxLeq]) (by simp [hk, BoxLeq])) (fun _ h => h.elim) (fun ⟨_, h⟩ => h.elim) (fun ⟨_, h⟩ => h.elim) (by simp [hk, BoxLeq]) ?_
 simp -dsimp
 repeat(first|apply wG|(apply wR;simp -dsimp)|refine aI ?_)
 refine WP.ret (an_ (Wk.freeze (k := 700) (T := 70) (sz := 61) (n := (setS l).length) (ds := sgC (setS l)) (by simp [hs])) ?_)
 simp -dsimp
theorem qf_ {P : Program} {f : FuncId} {args : List D} {r : D} (sz : Nat) (b : Bool) (h0 : Fn0 P f (.v (.slice none 0 0) :: args) r) (h1 : ∀ ad cap, cap ≤ maxLen → Fn0 P f (.v (.slice (some ad) 0 cap) :: args) r) : Fn0 P f (.sl sz [] 0 b :: args) r := by
 intro w I β vs hm hd
 obtain ⟨v, vs', rfl, hv, hr⟩ := hd
 have hv' : Den w I (.sl sz [] 0 b) v := hv
 obtain ⟨a, cap, rfl, _, h2, _, _, h4, _⟩ := hv'
 cases a with
 | none =>
  obtain ⟨_, rfl⟩ := h4 rfl
  exact h0 w I β _ hm ⟨_, _, rfl, rfl, hr⟩
 | some ad => exact h1 ad cap h2 w I β _ hm ⟨_, _, rfl, rfl, hr⟩
def newR (l : List Crw) (x : List Sg) : List Sg × Int := if qp_ l x = 0 then (setS x, 0) else ([], qp_ l x)
def lgR (r : List Sg × Int) : D := .tup [lgD r.1 false, .v (.int .i64 r.2)]
theorem eT_ (ad : Addr) (cap sz : Nat) (h : cap ≤ maxLen) : Leq (.d (.v (.slice (some ad) 0 cap))) (.d (.sl sz [] 0 false)) := fun w I β v hv => by
 have hv : v = .slice (some ad) 0 cap := hv
 exact ⟨some ad, cap, hv, Nat.zero_le _, h, (fun h => by cases h), (by simp), (fun h => by cases h), fun _ _ => ⟨fun h => absurd h (Nat.lt_irrefl _), trivial⟩⟩
theorem mK_ {P : Program} {τ : Tab} (hτ : as_ P τ) {ds : Dn} {pn : Pn} {o : Oper} {S : St} {T T' E : TypeId} {x y : Operand} {sz1 b1 : Nat} {z1 : List Value} (ho : o.op = .binOp .eql T x y T') (ht : τ T = some ⟨.slice E, sz1, b1, z1⟩)
  {ad : Addr} {n cap : Nat} (hx : S.ev x = .d (.v (.slice (some ad) n cap))) (hy : S.ev y = .d (.v (.slice none 0 0))) :
  LCore P ds pn o S ⟨.d (.v (.bool false)), [], [], []⟩ [] := by
 intro S1 hs hf
 have ex := hs.1 x (by simp [ho, Op.operands])
 have ey := hs.1 y (by simp [ho, Op.operands])
 rw [← ex] at hx
 rw [← ey] at hy
 obtain ⟨d, hu, hk⟩ := (hτ T _ ht).und
 simp only [TK.ok] at hk
 subst hk
 refine Core.value fun w0 I0 F I β a w hr => ⟨.bool false, ?_, DenA_v.2 rfl⟩
 have hv := hr.ev x
 have hv2 := hr.ev y
 rw [hx, DenA_v] at hv
 rw [hy, DenA_v] at hv2
 have h := dZ_ (w := w) (x := x) (y := y) hu (some ad) n cap
 simp [execOp, ho, hv, hv2, h.1, h.2]
theorem jC_ {P : Program} {τ : Tab} (hτ : as_ P τ) {ds : Dn} {pn : Pn} {o : Oper} {S : St} {acc : List TI} {rest : St → List TI → Prop} {T T' E : TypeId} {x y : Operand} {sz1 b1 : Nat} {z1 : List Value} (ho : o.op = .binOp .eql T x y T') (ht : τ T = some ⟨.slice E, sz1, b1, z1⟩)
  {ad : Addr} {n cap : Nat} (hx : S.ev x = .d (.v (.slice (some ad) n cap))) (hy : S.ev y = .d (.v (.slice none 0 0)))
  (h : rest (S.app o.dst ⟨.d (.v (.bool false)), [], [], []⟩) (⟨⟨.d (.v (.bool false)), [], [], []⟩, []⟩ :: acc)) : vcStop P ds pn o rest S acc :=
 ⟨_, _, mK_ hτ ho ht hx hy, trivial, h⟩
theorem lW_ (ad : Addr) (cap : Nat) (hc : cap ≤ maxLen) : Fun Tryz.prog 66 [.d (.v (.slice (some ad) 0 cap))] [] (.row 0) [(0, .row 70 61 0 [])] fun _ => False := by
 refine ac_ (pn := ap_) aa_ Tryz.func66 rfl fun β0 => ?_
 simp only [Tryz.f66]
 repeat(first|apply wG|(apply wR;simp -dsimp)|refine aI ?_)
 refine jC_ aa_ rfl rfl rfl rfl ?_
 simp -dsimp
 repeat(first|apply wG|(apply wR;simp -dsimp)|refine aI ?_)
 refine cF (by simp) ?_
 refine WP.skip ?_
 simp -dsimp
 refine au_ (S' := mkS 8 [(0, .d (.sl 61 [] 0 false)), (2, .d (.v (.slice none 0 0)))] []) (ae_ [] (by simp [eT_ _ _ _ hc]) (by simp)) ?_
 simp -dsimp
 repeat(first|apply wG|(apply wR;simp -dsimp)|refine aI ?_)
 refine WP.ret (an_ (S' := mkS 8 [(2, .row 0)] [(0, .row 70 61 0 [])]) (Wk.go [] 7 0 (by decide) (by simp) (by simp) (by simp)) ?_)
 simp -dsimp
theorem qI_ (ad : Addr) (cap : Nat) (hc : cap ≤ maxLen) : Fn0 Tryz.prog 58 [.v (.slice (some ad) 0 cap), ha_] (sgD [] false) := by
 have h1 : Fun Tryz.prog 102 [.row 1000, .d ha_] [(1000, .row 70 61 0 [])] (.tup []) [(1000, .row 70 61 0 [])] fun _ => False := dx_ [] (by simp) (by simp)
 have h2 : Fun Tryz.prog 103 [.row 1000, eqS] [(1000, .row 70 61 0 []), (1001, cBS)] (.row 0) [(1001, cBS), (0, .row 70 61 0 [])] fun _ => False := if_ [] (by simp) (by simp)
 show Fn0 Tryz.prog 58 [.v (.slice (some ad) 0 cap), ha_] (.sl 61 [] 0 false)
 refine ac_ (pn := ap_) aa_ Tryz.func58 rfl fun β0 => ?_
 simp only [Tryz.f58]
 repeat(first|apply wG|(apply wR;simp -dsimp)|refine aI ?_)
 refine vcStop.call bF_ (lW_ ad cap hc) (rl [(0, 600)]) rfl rfl (by simp [BoxLeq]) (aj_ (by simp [BoxLeq]) rfl (by first | rfl | (simp [BoxLeq]; done)) (by simp [BoxLeq]) (by simp [BoxLeq])) (fun _ h => h.elim) (fun ⟨_, h⟩ => h.elim) (fun ⟨_, h⟩ => h.elim) (by simp [BoxLeq]) ?_
 simp -dsimp
 repeat(first|apply wG|(apply wR;simp -dsimp)|refine aI ?_)
 refine vcStop.call dV_ (h1) (rl [(1000, 600)]) rfl rfl (by simp [BoxLeq]) (aj_ (by simp [BoxLeq]) rfl (by first | rfl | (simp [BoxLeq]; done)) (by simp [BoxLeq]) (by simp [BoxLeq])) (fun _ h => h.elim) (fun ⟨_, h⟩ => h.elim) (fun ⟨_, h⟩ => h.elim) (by simp [BoxLeq]) ?_
 simp -dsimp
 repeat(first|apply wG|(apply wR;simp -dsimp)|refine aI ?_)
 refine vcStop.call dU_ (h2) (rl [(1000, 600), (1001, 3), (0, 700)]) rfl rfl (by simp [BoxLeq]) (aj_ (by simp [BoxLeq]) rfl (by first | rfl | (simp [BoxLeq]; done)) (by simp [BoxLeq]) (by simp [BoxLeq])) (fun _ h => h.elim) (fun ⟨_, h⟩ => h.elim) (fun ⟨_, h⟩ => h.elim) (by simp [BoxLeq]) ?_
 simp -dsimp
 repeat(first|apply wG|(apply wR;simp -dsimp)|refine aI ?_)
 refine WP.ret (an_ (Wk.freeze (k := 700) (T := 70) (sz := 61) (n := 0) (ds := []) (by simp)) ?_)
 simp -dsimp
theorem qH_ (l : List Sg) (b : Bool) (hl : l.length ≤ 14) (hv : ∀ p ∈ l, sgOk p) : Fn0 Tryz.prog 58 [sgD l b, ha_] (sgD (setS l) false) := by
 cases l with
 | nil =>
  refine qf_ 61 b ?_ fun ad cap hc => qI_ ad cap hc
  exact wD_ om_ (Leq.nil 61) (by simp [qx_])
 | cons p l => exact s7_ (p :: l) b (by simp) hl hv
theorem xF_ (l : List Crw) (hl : ∀ c ∈ l, ec_ c) (hn : l.length ≤ 1000000000000) (x : List Sg) (b : Bool) (hx : ∀ p ∈ x, fOk p.1 ∧ sgT p) (hxn : x.length ≤ 14) : Fn0 Tryz.prog 18 [crwD l, sgD x b] (lgR (newR l x)) := by
 have h57 := i3_ l hl hn x b hx (by omega)
 have hset := qH_ x b hxn fun p hp => be_ (hx p hp).1 (hx p hp).2
 have hsl := hi_ x []
 rw [show x.foldl (fun a s => insS s a) [] = setS x from rfl] at hsl
 simp only [List.length_nil, Nat.zero_add] at hsl
 rw [newR]
 refine ac_ (pn := ap_) aa_ Tryz.func18 rfl fun β0 => ?_
 simp only [Tryz.f18]
 repeat(first|apply wG|(apply wR;simp -dsimp [crwD])|refine aI ?_)
 refine ag_ di_ h57 rfl rfl (And.intro (by simp [crwD]) (And.intro (.refl _) trivial)) ?_
 simp -dsimp
 repeat(first|apply wG|(apply wR;simp -dsimp)|refine aI ?_)
 by_cases hv : qp_ l x = 0
 ·rw [if_pos hv, lgR]
  refine cF (by simp [hv]) ?_
  refine WP.skip ?_
  simp -dsimp
  repeat(first|apply wG|(apply wR;simp -dsimp)|refine aI ?_)
  refine ag_ iu_ hset rfl rfl (And.intro (.refl _) (And.intro (.refl _) trivial)) ?_
  simp -dsimp
  repeat(first|apply wG|(apply wR;simp -dsimp)|refine aI ?_)
  refine cF (by simp; omega) ?_
  refine WP.skip ?_
  simp -dsimp
  repeat(first|apply wG|(apply wR;simp -dsimp)|refine aI ?_)
  refine WP.ret (ab_ ?_)
  simp -dsimp
 ·rw [if_neg hv, lgR]
  refine cT (by simp [hv]) ?_
  repeat(first|apply wG|(apply wR;simp -dsimp)|refine aI ?_)
  refine WP.ret (ab_ ?_)
  simp -dsimp [show sgC [] = [] from rfl]
def mrgR (l : List Crw) (a b : List Sg) : List Sg × Int := if gh_ l a = 0 then (if gh_ l b = 0 then newR l (a ++ b) else ([], gh_ l b)) else ([], gh_ l a)
abbrev mgS (l : List Crw) (a b : List Sg) (i : Nat) : St := mkS 37 [(0, .d (crwD l)), (4, .ptr 4 0), (5, .ptr 5 0), (6, .ptr 6 0), (7, .d (.v (.int .i64 0))), (13, .row 13), (14, .d (.v (.int .i64 2))), (15, .d (.v (.int .i64 i)))]
 [(4, .cells 25 [.d (sgD a false)]), (5, .cells 25 [.d (sgD b false)]), (6, .cells 25 [.d nilD]), (13, .row 25 1 2 [.d (sgD a false), .d (sgD b false)])]
theorem tv_ (l : List Crw) (hl : ∀ c ∈ l, ec_ c) (hn : l.length ≤ 1000000000000) (a b : List Sg) (ha : ∀ p ∈ a, fOk p.1 ∧ sgT p) (hb : ∀ p ∈ b, fOk p.1 ∧ sgT p) (hab : a.length + b.length ≤ 14) : Fn0 Tryz.prog 14 [crwD l, lgD a false, lgD b false] (lgR (mrgR l a b)) := by
 have hca := bj_ l hl hn a false ha (by omega)
 have hcb := bj_ l hl hn b false hb (by omega)
 have oa : ∀ p ∈ a, sgOk p := fun p hp => be_ (ha p hp).1 (ha p hp).2
 have ob : ∀ p ∈ b, sgOk p := fun p hp => be_ (hb p hp).1 (hb p hp).2
 have hc2 := p5_ a b oa ob (by omega)
 have hne := xF_ l hl hn (a ++ b) false (fun p hp => by
  rcases List.mem_append.1 hp with h | h
  ·exact ha p h
  ·exact hb p h) (by rw [List.length_append]; exact hab)
 have hne2 : Fun Tryz.prog 18 [.d (crwD l), .row 1000] [(1000, sgB (a ++ b))] (.d (lgR (newR l (a ++ b)))) [] fun _ => False := a1_ 1000 (T := 70) (cs := sgC (a ++ b)) (args' := [.d (crwD l), .row 1000]) (bi' := [(1000, sgB (a ++ b))]) hne rfl rfl trivial
 have w1 : IntKind.i64.wrap 1 = 1 := by decide
 have w2 : IntKind.i64.wrap 2 = 2 := by decide
 refine ac_ (pn := ap_) aa_ Tryz.func14 rfl fun β0 => ?_
 simp only [Tryz.f14]
 repeat(first|apply wG|(apply wR;simp -dsimp [crwD])|refine aI ?_)
 refine ak_ (fun m S => ∃ i : Nat, i ≤ 2 ∧ m = 2 - i ∧ (1 ≤ i → gh_ l a = 0) ∧ (2 ≤ i → gh_ l b = 0) ∧ S = mgS l a b i) 2 (S0 := mgS l a b 0) (ae_ [] (by simp [crwD]) (by simp)) ⟨0, by omega, rfl, by omega, by omega, rfl⟩ ?_
 rintro m _ ⟨i, hi, rfl, h1, h2, rfl⟩
 match i, hi, h1, h2 with
 | 0, _, _, _ =>
  simp -dsimp [crwD]
  repeat(first|apply wG|(apply wR;simp -dsimp)|refine aI ?_)
  refine cT (by simp) ?_
  refine WP.skip ?_
  simp -dsimp
  repeat(first|apply wG|(apply wR;simp -dsimp)|refine aI ?_)
  refine ag_ cr_ hca rfl rfl (And.intro (by simp [crwD]) (And.intro (ai_ [sgD a false]) trivial)) ?_
  simp -dsimp
  repeat(first|apply wG|(apply wR;simp -dsimp)|refine aI ?_)
  by_cases he : gh_ l a = 0
  ·refine cF (by simp [he]) ?_
   refine WP.skip ?_
   simp -dsimp
   repeat(first|apply wG|(apply wR;simp -dsimp)|refine aI ?_)
   refine ah_ (mgS l a b 1) (ae_ [9] (by simp [w1, crwD]) (by simp)) 1 (by omega) ⟨1, by omega, rfl, fun _ => he, by omega, rfl⟩
  ·refine cT (by simp [he]) ?_
   repeat(first|apply wG|(apply wR;simp -dsimp)|refine aI ?_)
   have hr : mrgR l a b = ([], gh_ l a) := by rw [mrgR, if_neg he]
   refine WP.ret (ab_ ?_)
   simp -dsimp [hr, lgR, show sgC [] = [] from rfl]
 | 1, _, h1, _ =>
  simp -dsimp [crwD]
  repeat(first|apply wG|(apply wR;simp -dsimp)|refine aI ?_)
  refine cT (by simp) ?_
  refine WP.skip ?_
  simp -dsimp
  repeat(first|apply wG|(apply wR;simp -dsimp)|refine aI ?_)
  refine ag_ cr_ hcb rfl rfl (And.intro (by simp [crwD]) (And.intro (ai_ [sgD b false]) trivial)) ?_
  simp -dsimp
  repeat(first|apply wG|(apply wR;simp -dsimp)|refine aI ?_)
  by_cases he : gh_ l b = 0
  ·refine cF (by simp [he]) ?_
   refine WP.skip ?_
   simp -dsimp
   repeat(first|apply wG|(apply wR;simp -dsimp)|refine aI ?_)
   refine ah_ (mgS l a b 2) (ae_ [9] (by simp [w2, crwD]) (by simp)) 0 (by omega) ⟨2, by omega, rfl, fun _ => h1 (by omega), fun _ => he, rfl⟩
  ·refine cT (by simp [he]) ?_
   repeat(first|apply wG|(apply wR;simp -dsimp)|refine aI ?_)
   have hr : mrgR l a b = ([], gh_ l b) := by rw [mrgR, if_pos (h1 (by omega)), if_neg he]
   refine WP.ret (ab_ ?_)
   simp -dsimp [hr, lgR, show sgC [] = [] from rfl]
 | 2, _, h1, h2 =>
  have hr : mrgR l a b = newR l (a ++ b) := by rw [mrgR, if_pos (h1 (by omega)), if_pos (h2 (by omega))]
  rw [hr]
  generalize newR l (a ++ b) = R at *
  simp -dsimp [crwD]
  repeat(first|apply wG|(apply wR;simp -dsimp)|refine aI ?_)
  refine cF (by simp) ?_
  refine WP.exit ?_
  simp -dsimp
  repeat(first|apply wG|(apply wR;simp -dsimp)|refine aI ?_)
  refine vcStop.call n0_ (hc2) (rl [(1000, 32), (0, 600)]) rfl rfl (by simp [BoxLeq]) (aj_ (by simp [BoxLeq]) rfl (by first | rfl | (simp [BoxLeq]; done)) (by simp [BoxLeq]) (by simp [BoxLeq])) (fun _ h => h.elim) (fun ⟨_, h⟩ => h.elim) (fun ⟨_, h⟩ => h.elim) (by simp [BoxLeq]) ?_
  simp -dsimp
  repeat(first|apply wG|(apply wR;simp -dsimp)|refine aI ?_)
  refine vcStop.call eR_ (hne2) (rl [(1000, 600)]) rfl rfl (by simp [crwD, BoxLeq]) (aj_ (by simp [crwD, BoxLeq]) rfl (by first | rfl | (simp [crwD, BoxLeq]; done)) (by simp [crwD, BoxLeq]) (by simp [crwD, BoxLeq])) (fun _ h => h.elim) (fun ⟨_, h⟩ => h.elim) (fun ⟨_, h⟩ => h.elim) (by simp [crwD, BoxLeq]) ?_
  simp -dsimp [lgR]
  repeat(first|apply wG|(apply wR;simp -dsimp)|refine aI ?_)
  refine WP.ret (ab_ ?_)
  simp -dsimp [lgR]
end Go.Proofs.YtnljenjcaeophaaGreatDoor
