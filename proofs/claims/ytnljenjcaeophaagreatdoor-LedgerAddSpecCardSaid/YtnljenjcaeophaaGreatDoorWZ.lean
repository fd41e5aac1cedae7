/-
  Joined texts.
-/
import Derived.Test.YtnljenjcaeophaaGreatDoorWFC
import Derived.Test.YtnljenjcaeophaaGreatDoorWEngMa
import Derived.DeepKeys5
import Derived.Test.YtnljenjcaeophaaGreatDoorWW
import Derived.Test.YtnljenjcaeophaaGreatDoorWB
set_option maxRecDepth 10000
set_option maxHeartbeats 4000000
set_option linter.unusedVariables false
set_option linter.unusedSimpArgs false
set_option linter.unusedSectionVars false
namespace Go.Proofs.YtnljenjcaeophaaGreatDoor
open Go.Xe Go.RowKit
def kJ_ (r : Int × Int) : Value := .agg #[.int .i64 r.1, .int .i64 r.2]
theorem oq_ {r s : Int × Int} (h : kJ_ r = kJ_ s) : r = s := by
 simp [kJ_] at h
 exact Prod.ext h.1 h.2
theorem Bc_ : qi_ al_ 3 63 55 = true := by decide
theorem nty : Tryz.prog.types.size = 362 := by kernel_rfl
theorem qd_ : Tryz.prog.keyTypeAt 5 63 = true := by kernel_rfl
theorem fR_ {r : Int × Int} (h1 : isI r.1) (h2 : isI r.2) : ∃ l, keyOf Tryz.prog 63 (kJ_ r) = some l := by
 have h : ∀ i, isI ((fun i => if i = 55 then r.1 else if i = 56 then r.2 else 0 : Nat → Int) i) := fun i => by
  dsimp only
  split
  ·exact h1
  ·split
   ·exact h2
   ·exact uH_
 obtain ⟨n, hn, h3⟩ : ∃ n, n = Tryz.prog.types.size + 1 ∧ 3 ≤ n := ⟨_, rfl, by rw [nty]; decide⟩
 have ok : OkD al_ n 63 [.v (.int .i64 r.1), .v (.int .i64 r.2)] := uA_ 3 n 63 _ h3 (uM_ h 3 63 55 Bc_)
 have hl := c6_ (w := (default : World)) (I := fun _ => False) aa_ wJ_ jf_ n 63 5 _ [.int .i64 r.1, .int .i64 r.2] qd_ (by decide) ok ⟨_, _, rfl, rfl, _, _, rfl, rfl, rfl⟩
 rw [hn] at hl
 have hk : Tryz.prog.keyType 63 = true := by kernel_rfl
 have hf : (kJ_ r).formed Tryz.prog 63 = true := by
  unfold kJ_ Value.formed
  rw [Tryz.underlying63]
  have : Tryz.prog.cellsOf 63 = 2 := by kernel_rfl
  simp [this]
 have hc : (kJ_ r).cells.toList = [.int .i64 r.1, .int .i64 r.2] := rfl
 simp only [keyOf, Tryz.underlying63, hk, hf, Bool.and_self, if_true, hc, hl, Option.map_some]
 exact ⟨_, rfl⟩
theorem laidOut : laidOutB Tryz.prog = true := by kernel_rfl
theorem b9_ : Maps.Keyed Tryz.prog 63 := Maps.Keyed.of_law (deep_law_gate laidOut (by rw [nty]; decide) (Nat.lt_of_lt_of_eq (by decide) nty.symm) (by kernel_rfl) (by rw [Tryz.underlying63]))
def a5_ (l : List (Int × Int)) : List (Value × D) := l.map fun r => (kJ_ r, .v (.bool true))
def py_ (l : List (Int × Int)) : Prop := ∀ r ∈ l, isI r.1 ∧ isI r.2
theorem b8_ {l : List (Int × Int)} (h : py_ l) : jx_ Tryz.prog 63 (a5_ l) := by
 intro p hp
 obtain ⟨r, hr, rfl⟩ := List.mem_map.1 hp
 exact fR_ (h r hr).1 (h r hr).2
def cR_ (l : List (Int × Int)) (r : Int × Int) : List (Int × Int) := if r ∈ l then l else l ++ [r]
theorem jN_ (l : List (Int × Int)) (r : Int × Int) : wA_ (a5_ l) (kJ_ r) (.v (.bool true)) (a5_ (cR_ l r)) := by
 unfold cR_
 split
 ·rename_i h
  obtain ⟨a, b, rfl⟩ := List.append_of_mem h
  exact .inl ⟨a5_ a, .v (.bool true), a5_ b, by simp [a5_], by simp [a5_]⟩
 ·rename_i h
  refine .inr ⟨fun p hp e => h ?_, by simp [a5_]⟩
  obtain ⟨s, hs, rfl⟩ := List.mem_map.1 hp
  rw [← oq_ e]; exact hs
theorem hl_ (l : List (Int × Int)) (r : Int × Int) : ui_ (a5_ l) (kJ_ r) (.v (.bool false)) (.v (.bool (decide (r ∈ l)))) := by
 by_cases h : r ∈ l
 ·obtain ⟨a, b, e⟩ := List.append_of_mem h
  refine .inl ⟨a5_ a, a5_ b, ?_⟩
  rw [decide_eq_true h, e]
  simp [a5_]
 ·refine .inr ⟨fun p hp e => h ?_, by rw [decide_eq_false h]⟩
  obtain ⟨s, hs, rfl⟩ := List.mem_map.1 hp
  rw [← oq_ e]; exact hs
theorem addRef_in {l : List (Int × Int)} {r s : Int × Int} : s ∈ cR_ l r ↔ s ∈ l ∨ s = r := by
 unfold cR_
 split
 ·rename_i h
  exact ⟨.inl, fun h' => h'.elim id fun e => e ▸ h⟩
 ·simp
theorem hN_ {l : List (Int × Int)} {r : Int × Int} (h : py_ l) (h1 : isI r.1) (h2 : isI r.2) : py_ (cR_ l r) := fun s hs => by
 rcases addRef_in.1 hs with h' | rfl
 ·exact h s h'
 ·exact ⟨h1, h2⟩
theorem eu_ (a b : Int) : Leq (.agg [.d (.v (.int .i64 a)), .d (.v (.int .i64 b))]) (.d (.v (kJ_ (a, b)))) := fun w I β v hv => by
 obtain ⟨vs, rfl, x, vs1, rfl, h1, y, vs2, rfl, h2, h3⟩ := hv
 have h3 : vs2 = [] := h3
 subst h3
 rw [DenA_v] at h1 h2
 subst h1; subst h2
 exact DenA_v.2 rfl
theorem hP_ (l : List F) (t : Int) : Fun Tryz.prog 101 [.d (slF l), .d (.v (.int .i64 t))] [] (.fn (.func 160) [] [.ptr 0 0, .ptr 1 0]) [(0, .cells 115 [.d (slF l)]), (1, .cells 3 [.d (.v (.int .i64 t))])] fun _ => False := by
 refine ac_ (pn := ap_) aa_ Tryz.func101 rfl fun β0 => ?_
 simp only [Tryz.f101]
 repeat(first|apply wG|(apply wR;simp -dsimp)|refine aI ?_)
 refine WP.ret (an_ (S' := mkS 6 [(4, .fn (.func 160) [] [.ptr 0 0, .ptr 1 0])] [(0, .cells 115 [.d (slF l)]), (1, .cells 3 [.d (.v (.int .i64 t))])]) (uW_ [] 2 0 3 1 (by decide) (by decide) (by simp) (by simp) (by simp) (by simp)) ?_)
 simp -dsimp
theorem rJ_ (a : List F) (f : F) (b : List F) : ((fsC (a ++ f :: b)).drop (a.length * 57)).take 57 = fcs f 0 57 := by
 rw [rK_ (by simp)]
 simp [fat]
theorem hQ_ (l : List F) (t : Int) (hl : l.length ≤ 14) (hf : ∀ f ∈ l, fOk f) : sO_ Tryz.prog 160 [.ptr 1000 0, .ptr 1001 0] [(1000, .cells 115 [.d (slF l)]), (1001, .cells 3 [.d (.v (.int .i64 t))])] (fun i => [fD (fat (recS t l []) i)]) (fun _ => true) (recS t l []).length := by
 intro lp B hB
 simp only [List.cons_append, List.nil_append]
 refine ac_ (pn := ap_) aa_ Tryz.func160 rfl fun β0 => ?_
 simp only [Tryz.f160]
 repeat(first|apply wG|(apply wR;simp -dsimp)|refine aI ?_)
 refine vcStop.makeMap 8 rfl (by simp) ?_
 simp -dsimp
 repeat(first|apply wG|(apply wR;simp -dsimp)|refine aI ?_)
 refine ak_ (fun m S => ∃ l1 l2 met o, l = l1 ++ l2 ∧ m = l2.length ∧ recS t l [] = o ++ recS t l2 met ∧ py_ met ∧ S = mkS 36 [(0, .d (.v (.func (.yield lp) #[] #[]))), (2, .ptr 1001 0), (4, .row 506), (9, .d (slF l)), (10, .d (.v (.int .i64 l.length))), (11, .d (.v (.int .i64 (l1.length : Nat))))]
   [(1000, .cells 115 [.d (slF l)]), (1001, .cells 3 [.d (.v (.int .i64 t))]), (500, .opq (B o.length)), (506, .mp (a5_ met))]) l.length
  (S0 := mkS 36 [(0, .d (.v (.func (.yield lp) #[] #[]))), (2, .ptr 1001 0), (4, .row 506), (9, .d (slF l)), (10, .d (.v (.int .i64 l.length))), (11, .d (.v (.int .i64 0)))]
   [(1000, .cells 115 [.d (slF l)]), (1001, .cells 3 [.d (.v (.int .i64 t))]), (500, .opq (B 0)), (506, .mp (a5_ []))]) (uW_ [] 1999 500 8 506 (by decide) (by decide) (by simp) (by simp) (by simp) (by simp [a5_])) ⟨[], l, [], [], rfl, rfl, rfl, (fun _ h => by cases h), rfl⟩ ?_
 rintro _ _ ⟨l1, l2, met, o, hl12, rfl, hrec, hmet, rfl⟩
 simp -dsimp
 repeat(first|apply wG|(apply wR;simp -dsimp)|refine aI ?_)
 cases l2 with
 | nil =>
  simp only [List.append_nil] at hl12
  subst hl12
  simp only [recS, List.append_nil] at hrec
  refine cF (by simp) ?_
  refine WP.exit ?_
  simp -dsimp
  refine aF_ (S' := mkS 36 [] [(1000, .cells 115 [.d (slF l)]), (1001, .cells 3 [.d (.v (.int .i64 t))]), (0, .opq (B (recS t l []).length))]) (Wk.go [506] 500 0 (by decide) (by simp) (by simp) (by simp [hrec])) ?_
  simp -dsimp
 | cons f l2 =>
  have hll : l.length = l1.length + (l2.length + 1) := by rw [hl12]; simp
  have e1 : IntKind.i64.wrap ((l1.length : Int) + 1) = (l1.length : Int) + 1 := IntWalk.i64_in _ (by omega)
  have h1 := rJ_ l1 f l2
  rw [← hl12] at h1
  have hfo := hf f (by rw [hl12]; simp)
  refine cT (by simp; omega) ?_
  refine WP.skip ?_
  simp -dsimp
  refine WP.seq (WP.block ?_)
  repeat(first|apply wG|(apply wR;simp -dsimp [h1])|refine aI ?_)
  obtain ⟨lk, hlk⟩ := fR_ (r := ca_ f) (hfo.1 0) (hfo.1 1)
  refine cE_ aa_ rfl rfl b9_ Tryz.zeroValue4 (j := 506) (fun hg => by simp [hg]) (kvs := a5_ met) rfl (key := kJ_ (ca_ f)) (fun hg => by simp [hg]; exact eu_ _ _) (.v (.bool (decide (ca_ f ∈ met)))) hlk (b8_ hmet) (hl_ met (ca_ f)) ?_
  simp -dsimp
  repeat(first|apply wG|(apply wR;simp -dsimp)|refine aI ?_)
  refine WP.cond (b := decide (t < f 2 ∨ ca_ f ∈ met)) (by simp) (fun hb => ?_) (fun hb => ?_)
  ·have hb := of_decide_eq_true hb
   rw [recS, if_pos hb] at hrec
   refine WP.exit ?_
   simp -dsimp
   repeat(first|apply wG|(apply wR;simp -dsimp)|refine aI ?_)
   refine ah_ (mkS 36 [(0, .d (.v (.func (.yield lp) #[] #[]))), (2, .ptr 1001 0), (4, .row 506), (9, .d (slF l)), (10, .d (.v (.int .i64 l.length))), (11, .d (.v (.int .i64 ((l1 ++ [f]).length : Nat))))]
    [(1000, .cells 115 [.d (slF l)]), (1001, .cells 3 [.d (.v (.int .i64 t))]), (500, .opq (B o.length)), (506, .mp (a5_ met))]) (ae_ [6, 7] (by simp [e1]) (by simp)) l2.length (by simp) ⟨l1 ++ [f], l2, met, o, by simp [hl12], rfl, hrec, hmet, rfl⟩
  ·have hb := of_decide_eq_false hb
   rw [recS, if_neg hb] at hrec
   have hnm : ca_ f ∉ met := fun h => hb (.inr h)
   have hadd : cR_ met (ca_ f) = met ++ [ca_ f] := by rw [cR_, if_neg hnm]
   have hx : fat (recS t l []) o.length = f := by rw [hrec]; simp [fat]
   have hy := hB o.length (by rw [hrec]; simp)
   simp only [hx] at hy
   refine WP.skip ?_
   simp -dsimp
   repeat(first|apply wG|(apply wR;simp -dsimp)|refine aI ?_)
   refine cX_ aa_ rfl rfl b9_ (j := 506) rfl (kvs := a5_ met) (a5_ (met ++ [ca_ f])) rfl (key := kJ_ (ca_ f)) (eu_ _ _) (d := .v (.bool true)) (.refl _) hlk (b8_ hmet) (by rw [← hadd]; exact jN_ met (ca_ f)) ?_
   simp -dsimp
   repeat(first|apply wG|(apply wR;simp -dsimp)|refine aI ?_)
   refine vcStop.yield hy 500 501 rfl rfl (by simp [fD]) rfl (by decide) (by simp) ?_
   simp -dsimp
   repeat(first|apply wG|(apply wR;simp -dsimp)|refine aI ?_)
   refine cF (by simp) ?_
   refine WP.skip ?_
   simp -dsimp
   repeat(first|apply wG|(apply wR;simp -dsimp)|refine aI ?_)
   refine ah_ (mkS 36 [(0, .d (.v (.func (.yield lp) #[] #[]))), (2, .ptr 1001 0), (4, .row 506), (9, .d (slF l)), (10, .d (.v (.int .i64 l.length))), (11, .d (.v (.int .i64 ((l1 ++ [f]).length : Nat))))]
    [(1000, .cells 115 [.d (slF l)]), (1001, .cells 3 [.d (.v (.int .i64 t))]), (500, .opq (B (o ++ [f]).length)), (506, .mp (a5_ (met ++ [ca_ f])))]) (Wk.go [6, 7] 501 500 (by decide) (by simp) (by simp [e1]) (by simp)) l2.length (by simp) ⟨l1 ++ [f], l2, met ++ [ca_ f], o ++ [f], by simp [hl12], rfl, by rw [hrec]; simp, by rw [← hadd]; exact hN_ hmet (hfo.1 0) (hfo.1 1), rfl⟩
def rfs (l : List F) : Nat → List (Int × Int)
 | 0 => []
 | i + 1 => cR_ (rfs l i) (ca_ (fat l i))
theorem ut_ (l : List F) (p : Int × Int) : ∀ i, i ≤ l.length → (p ∈ rfs l i ↔ ∃ g ∈ l.take i, ca_ g = p)
 | 0, _ => by simp [rfs]
 | i + 1, h => by
  rw [rfs, hf_ (by omega), addRef_in, ut_ l p i (by omega)]
  constructor
  ·rintro (⟨g, h1, h2⟩ | rfl)
   ·exact ⟨g, List.mem_append.2 (.inl h1), h2⟩
   ·exact ⟨_, by simp, rfl⟩
  ·rintro ⟨g, h1, h2⟩
   rcases List.mem_append.1 h1 with h1 | h1
   ·exact .inl ⟨g, h1, h2⟩
   ·rw [List.mem_singleton] at h1; subst h1; exact .inr h2.symm
theorem vo_ (l : List F) (p : Int × Int) : p ∈ rfs l l.length ↔ ∃ g ∈ l, ca_ g = p := by
 rw [ut_ l p _ (Nat.le_refl _), List.take_length]
theorem vp_ {l : List F} (hr : ∀ f ∈ l, fOk f) : ∀ i, i ≤ l.length → py_ (rfs l i)
 | 0, _ => fun _ h => by cases h
 | i + 1, h => by
  have := hr _ (dn_ (show i < l.length by omega))
  exact hN_ (vp_ hr i (by omega)) (this.1 0) (this.1 1)
theorem qV_ (l : List F) : ∀ i, (rfs l i).length ≤ i
 | 0 => by simp [rfs]
 | i + 1 => by
  have := qV_ l i
  rw [rfs, cR_]
  split
  ·omega
  ·simp; omega
theorem us_ {α : Type} [DecidableEq α] : ∀ (a b : List α), a.Nodup → (∀ x ∈ a, x ∈ b) → a.length ≤ b.length
 | [], _, _, _ => Nat.zero_le _
 | x :: a, b, hn, hs => by
  obtain ⟨p, q, rfl⟩ := List.append_of_mem (hs x (by simp))
  have := us_ a (p ++ q) (List.nodup_cons.1 hn).2 fun y hy => by
   have h := hs y (by simp [hy])
   simp only [List.mem_append, List.mem_cons] at h ⊢
   rcases h with h | rfl | h
   ·exact .inl h
   ·exact absurd hy (List.nodup_cons.1 hn).1
   ·exact .inr h
  simp at this ⊢
  omega
def runL (R : List (Int × Int)) (c : Int) : Nat → Nat → Nat
 | 0, n => n
 | k + 1, n => if (c, (n : Int) + 1) ∈ R then runL R c k (n + 1) else n
def cplL (R : List (Int × Int)) (c : Int) : Nat := runL R c (R.length + 1) 0
theorem oZ_ {R : List (Int × Int)} {c : Int} {n : Nat} (h : ∀ i : Nat, i < n → (c, (i : Int) + 1) ∈ R) : n ≤ R.length := by
 have := us_ ((List.range n).map fun i : Nat => (c, (i : Int) + 1)) R (by
  rw [List.Nodup, List.pairwise_map]
  refine List.nodup_range.imp fun {a b} hab e => hab ?_
  simp at e
  omega) fun x hx => by
  obtain ⟨i, hi, rfl⟩ := List.mem_map.1 hx
  exact h i (List.mem_range.1 hi)
 simpa using this
theorem k9_ {R : List (Int × Int)} {c : Int} : ∀ (k n : Nat), k + n = R.length + 1 → (∀ i : Nat, i < n → (c, (i : Int) + 1) ∈ R) → (∀ i : Nat, i < runL R c k n → (c, (i : Int) + 1) ∈ R) ∧ (c, (runL R c k n : Int) + 1) ∉ R
 | 0, n, h, hi => by have := oZ_ hi; omega
 | k + 1, n, h, hi => by
  rw [runL]
  split
  ·rename_i hm
   refine k9_ k (n + 1) (by omega) fun i hin => ?_
   rcases Nat.lt_or_ge i n with h1 | h1
   ·exact hi i h1
   ·rw [show i = n by omega]; exact hm
  ·rename_i hm
   exact ⟨hi, hm⟩
theorem tZ_ (R : List (Int × Int)) (c : Int) : (∀ i : Nat, i < cplL R c → (c, (i : Int) + 1) ∈ R) ∧ (c, (cplL R c : Int) + 1) ∉ R := k9_ _ 0 (by omega) fun i h => absurd h (Nat.not_lt_zero i)
def zO_ (all : List F) (c : Int) : Nat := cplL (rfs all all.length) c
theorem nC_ (l : List Sg) (b : Bool) (c : Int) (hc : isI c) (hl : l.length ≤ 14) (hv : ∀ p ∈ l, sgOk p) (hal : (valL l).length ≤ 14) (hao : ∀ f ∈ valL l, fOk f) : Fn0 Tryz.prog 56 [lgD l b, .v (.int .i64 c)] (.v (.int .i64 (zO_ (valL l) c))) := by
 refine ac_ (pn := ap_) aa_ Tryz.func56 rfl fun β0 => ?_
 simp only [Tryz.f56]
 repeat(first|apply wG|(apply wR;simp -dsimp)|refine aI ?_)
 refine vcStop.makeMap 8 rfl (by simp) ?_
 simp -dsimp
 repeat(first|apply wG|(apply wR;simp -dsimp)|refine aI ?_)
 refine ag_ gU_ (oe_ l b hl hv) rfl rfl (And.intro (ai_ [sgD l b]) trivial) ?_
 generalize valL l = all at hal hao
 simp -dsimp
 repeat(first|apply wG|(apply wR;simp -dsimp)|refine aI ?_)
 refine ak_ (fun m S => ∃ i, i + m = all.length ∧ S = mkS 32 [(1, .d (.v (.int .i64 c))), (4, .d (.v (.int .i64 0))), (5, .row 506), (10, .d (slF all)), (11, .d (.v (.int .i64 all.length))), (12, .d (.v (.int .i64 (i : Nat))))] [(506, .mp (a5_ (rfs all i)))]) all.length
  (S0 := mkS 32 [(1, .d (.v (.int .i64 c))), (4, .d (.v (.int .i64 0))), (5, .row 506), (10, .d (slF all)), (11, .d (.v (.int .i64 all.length))), (12, .d (.v (.int .i64 0)))] [(506, .mp (a5_ []))]) (Wk.go [] 8 506 (by decide) (by simp) (by simp) (by simp [a5_])) ⟨0, by omega, rfl⟩ ?_
 rintro m _ ⟨i, him, rfl⟩
 simp -dsimp
 repeat(first|apply wG|(apply wR;simp -dsimp)|refine aI ?_)
 by_cases hi : i < all.length
 ·have e1 : IntKind.i64.wrap ((i : Int) + 1) = ((i + 1 : Nat) : Int) := by rw [IntWalk.i64_in _ (by omega)]; omega
  have h1 := rK_ hi
  have hfo := hao _ (dn_ hi)
  have hI := vp_ hao i (by omega)
  have hrs : rfs all (i + 1) = cR_ (rfs all i) (ca_ (fat all i)) := rfl
  generalize fat all i = f at h1 hfo hrs
  obtain ⟨lk, hlk⟩ := fR_ (r := ca_ f) (hfo.1 0) (hfo.1 1)
  refine cT (by simp; omega) ?_
  refine WP.skip ?_
  simp -dsimp
  refine WP.seq (WP.block ?_)
  repeat(first|apply wG|(apply wR;simp -dsimp [h1])|refine aI ?_)
  refine cX_ aa_ rfl rfl b9_ (j := 506) rfl (kvs := a5_ (rfs all i)) (a5_ (rfs all (i + 1))) rfl (key := kJ_ (ca_ f)) (eu_ _ _) (d := .v (.bool true)) (.refl _) hlk (b8_ hI) (by rw [hrs]; exact jN_ _ _) ?_
  simp -dsimp
  repeat(first|apply wG|(apply wR;simp -dsimp)|refine aI ?_)
  refine ah_ (mkS 32 [(1, .d (.v (.int .i64 c))), (4, .d (.v (.int .i64 0))), (5, .row 506), (10, .d (slF all)), (11, .d (.v (.int .i64 all.length))), (12, .d (.v (.int .i64 ((i + 1 : Nat) : Int))))] [(506, .mp (a5_ (rfs all (i + 1))))]) (ae_ [7] (by simp [e1]) (by simp)) (m - 1) (by omega) ⟨i + 1, by omega, rfl⟩
 ·have hie : i = all.length := by omega
  subst hie
  have hI := vp_ hao _ (Nat.le_refl _)
  have hrl := qV_ all all.length
  have hV : zO_ all c = runL (rfs all all.length) c ((rfs all all.length).length + 1) 0 := rfl
  rw [hV]
  generalize rfs all all.length = R at hI hrl
  generalize hT : runL R c (R.length + 1) 0 = T
  refine cF (by simp) ?_
  refine WP.exit ?_
  simp -dsimp
  repeat(first|apply wG|(apply wR;simp -dsimp)|refine aI ?_)
  refine ak_ (fun m S => ∃ n : Nat, m + n = R.length + 1 ∧ (∀ i : Nat, i < n → (c, (i : Int) + 1) ∈ R) ∧ T = runL R c m n ∧ S = mkS 32 [(1, .d (.v (.int .i64 c))), (4, .d (.v (.int .i64 (n : Nat)))), (5, .row 506)] [(506, .mp (a5_ R))]) (R.length + 1)
   (S0 := mkS 32 [(1, .d (.v (.int .i64 c))), (4, .d (.v (.int .i64 0))), (5, .row 506)] [(506, .mp (a5_ R))]) (ae_ [] (by simp) (by simp)) ⟨0, by omega, (fun i h => absurd h (Nat.not_lt_zero i)), hT.symm, rfl⟩ ?_
  rintro k _ ⟨n, hkn, hin, hrun, rfl⟩
  have hnr := oZ_ hin
  have e2 : IntKind.i64.wrap ((n : Int) + 1) = (n : Int) + 1 := IntWalk.i64_in _ (by omega)
  obtain ⟨lk, hlk⟩ := fR_ (r := (c, (n : Int) + 1)) hc (by unfold isI; omega)
  simp -dsimp
  repeat(first|apply wG|(apply wR;simp -dsimp [e2])|refine aI ?_)
  refine jB_ aa_ rfl rfl b9_ Tryz.zeroValue4 (j := 506) rfl (kvs := a5_ R) rfl (key := kJ_ (c, (n : Int) + 1)) (eu_ _ _) (.v (.bool (decide ((c, (n : Int) + 1) ∈ R)))) hlk (b8_ hI) (hl_ R _) ?_
  simp -dsimp
  repeat(first|apply wG|(apply wR;simp -dsimp)|refine aI ?_)
  obtain ⟨k, rfl⟩ : ∃ j, k = j + 1 := ⟨k - 1, by omega⟩
  rw [runL] at hrun
  refine WP.cond (b := decide ((c, (n : Int) + 1) ∈ R)) (by simp) (fun hb => ?_) (fun hb => ?_)
  ·have hb := of_decide_eq_true hb
   rw [if_pos hb] at hrun
   refine WP.skip ?_
   simp -dsimp
   repeat(first|apply wG|(apply wR;simp -dsimp)|refine aI ?_)
   refine ah_ (mkS 32 [(1, .d (.v (.int .i64 c))), (4, .d (.v (.int .i64 ((n + 1 : Nat) : Int)))), (5, .row 506)] [(506, .mp (a5_ R))]) (ae_ [] (by simp [e2]) (by simp)) k (by omega) ⟨n + 1, by omega, fun i hi => ?_, hrun, rfl⟩
   rcases Nat.lt_or_ge i n with h1 | h1
   ·exact hin i h1
   ·rw [show i = n by omega]; exact hb
  ·have hb := of_decide_eq_false hb
   rw [if_neg hb] at hrun
   refine WP.exit ?_
   simp -dsimp
   repeat(first|apply wG|(apply wR;simp -dsimp)|refine aI ?_)
   rw [hrun]
   refine WP.ret (ab_ ?_)
   simp -dsimp
end Go.Proofs.YtnljenjcaeophaaGreatDoor
