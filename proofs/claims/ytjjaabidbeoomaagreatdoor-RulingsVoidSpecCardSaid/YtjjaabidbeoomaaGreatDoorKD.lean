/-
  Joined texts.
-/
import Derived.Test.YtjjaabidbeoomaaGreatDoorKC
set_option linter.unusedVariables false
set_option linter.unusedSimpArgs false
set_option linter.unusedSectionVars false
/-
  Rulings: the void ones.
-/
set_option linter.unusedSimpArgs false
set_option linter.unusedVariables false
namespace Go.Proofs.YtjjaabidbeoomaaGreatDoor
open Go.Xe Go.RowKit

/-- The rulings of files that are not the first of their instance. -/
def exN (c : List F) (n : Int) : List F := (c.filter (isRul n 1)).tail ++ (c.filter (isRul n 2)).tail
def extN (c : List F) (ns : List Int) : List F := ns.flatMap (exN c)
theorem extN_snoc (c : List F) (ns : List Int) (n : Int) : extN c (ns ++ [n]) = extN c ns ++ exN c n := by simp [extN]
noncomputable def voidL (c : List F) : List F := setF ((extN c (casesL c)).map kOf)
theorem exN_len (c : List F) (n : Int) : (exN c n).length ≤ 2 * c.length := by
  have h1 := List.length_filter_le (isRul n 1) c
  have h2 := List.length_filter_le (isRul n 2) c
  simp only [exN, List.length_append, List.length_tail]
  omega
theorem extN_len (c : List F) : ∀ ns : List Int, (extN c ns).length ≤ ns.length * (2 * c.length)
  | [] => by simp [extN]
  | n :: ns => by
    have h1 := exN_len c n
    have h2 := extN_len c ns
    rw [show extN c (n :: ns) = exN c n ++ extN c ns from rfl, List.length_append, List.length_cons, Nat.add_mul, Nat.one_mul]
    omega
theorem exN_in {c : List F} {n : Int} {f : F} (h : f ∈ exN c n) : f ∈ c := by
  rcases List.mem_append.1 h with h | h <;> exact (List.mem_filter.1 (List.mem_of_mem_tail h)).1
theorem extN_in {c : List F} {ns : List Int} {f : F} (h : f ∈ extN c ns) : f ∈ c := by
  obtain ⟨n, _, h⟩ := List.mem_flatMap.1 h
  exact exN_in h
/-- The state at the head of a file's round. -/
def xS (c : List F) (ns : List Int) (i : Nat) : List F → St
  | [] => mkS 50 [(2, .d nilD), (3, .d nilD), (11, .d (.sl 1 (fpL c ns) ns.length false)), (12, .d (.v (.int .i64 ns.length))), (13, .d (.v (.int .i64 (i : Nat))))] []
  | f :: r => mkS 50 [(2, .d nilD), (3, .row 503), (11, .d (.sl 1 (fpL c ns) ns.length false)), (12, .d (.v (.int .i64 ns.length))), (13, .d (.v (.int .i64 (i : Nat))))] [(503, rB (f :: r))]
abbrev slT (r : List F) : D := .sl 57 (fsC r) r.length false
/-- The state at the head of an instance's round. -/
def yS (c : List F) (ns : List Int) (i : Nat) (r1 r2 : List F) (k : Nat) : List F → St
  | [] => mkS 50 [(2, .d nilD), (3, .d nilD), (11, .d (.sl 1 (fpL c ns) ns.length false)), (12, .d (.v (.int .i64 ns.length))), (13, .d (.v (.int .i64 (i : Nat)))), (20, .d (.agg [nilD, slT r1, slT r2])), (21, .d (.v (.int .i64 (k : Nat))))] []
  | f :: r => mkS 50 [(2, .d nilD), (3, .row 503), (11, .d (.sl 1 (fpL c ns) ns.length false)), (12, .d (.v (.int .i64 ns.length))), (13, .d (.v (.int .i64 (i : Nat)))), (20, .d (.agg [nilD, slT r1, slT r2])), (21, .d (.v (.int .i64 (k : Nat))))] [(503, rB (f :: r))]
/-- What is collected of the first k instances. -/
def exK (r1 r2 : List F) : Nat → List F
  | 0 => []
  | 1 => []
  | 2 => r1.tail
  | _ => r1.tail ++ r2.tail
theorem tailD (f : F) (r : List F) : (fsC (f :: r)).drop 57 = fsC r := by
  rw [show fsC (f :: r) = fcs f 0 57 ++ fsC r from rfl, List.drop_append_of_le_length (by simp), List.drop_eq_nil_of_le (by simp), List.nil_append]
theorem tailT (r : List F) : (fsC r).take (r.length * 57) = fsC r := List.take_of_length_le (by rw [fsC_len]; omega)
theorem tail_nil {r : List F} (h : ¬ 1 < r.length) : r.tail = [] := by
  cases r with
  | nil => rfl
  | cons f r =>
    cases r with
    | nil => rfl
    | cons => simp at h
theorem wr2 : IntKind.i64.wrap 2 = 2 := by decide
theorem wr3 : IntKind.i64.wrap 3 = 3 := by decide
/-! ### a file's instances -/
noncomputable def vBody : Code := Tryz.f14.body.getD .skip
noncomputable def vLoop : Code := Cl (Cr (Cr (Cl (Cl (Cr (Cr (Cl (Cl (Cr (Cl (Cr (Cr vBody))))))))))))
set_option maxRecDepth 10000 in
set_option maxHeartbeats 4000000 in
theorem inst_ok {c : List F} {ns : List Int} {i : Nat} {r1 r2 E : List F} (h1 : r1.length ≤ 100) (h2 : r2.length ≤ 100) (hE : E.length ≤ 800) {β0 : Nat → Value} {Q : Exit → St → Prop} (hQ : ∀ S', Wk S' (xS c ns i (E ++ (r1.tail ++ r2.tail))) → Q .normal S') :
    WP Tryz.prog ⟨[], β0, none, false⟩ noPn vLoop (blkQ 2 Q) (yS c ns i r1 r2 0 E) := by
  simp only [vLoop, vBody, Tryz.f14, Cl, Cr, Option.getD]
  refine WP.loopWk (fun m S => ∃ k, k + m = 3 ∧ S = yS c ns i r1 r2 k (E ++ exK r1 r2 k)) 3 (S0 := yS c ns i r1 r2 0 E) (Wk.refl _) ⟨0, rfl, by simp [exK]⟩ ?_
  rintro m _ ⟨k, hkm, rfl⟩
  have hk : (k = 0 ∧ m = 3) ∨ (k = 1 ∧ m = 2) ∨ (k = 2 ∧ m = 1) ∨ (k = 3 ∧ m = 0) := by omega
  rcases hk with ⟨rfl, rfl⟩ | ⟨rfl, rfl⟩ | ⟨rfl, rfl⟩ | ⟨rfl, rfl⟩
  · skip
    have hsn : E ++ exK r1 r2 1 = (E ++ exK r1 r2 0) ++ [] := by simp [exK]
    have hEl : (E ++ exK r1 r2 0).length ≤ 900 := by simp [exK]; omega
    generalize E ++ exK r1 r2 0 = E' at hsn hEl
    cases E' with
    | nil =>
      rw [yS]
      simp -dsimp
      repeat (first | refine wS ?_ | refine wB ?_ | ((first | refine wR ?_ | refine wD ?_); simp -dsimp) | refine aI ?_)
      refine WP.cond (b := true) (by simp) (fun _ => ?_) (fun h => by cases h)
      refine WP.skip ?_
      simp -dsimp
      refine WP.seq (WP.block ?_)
      repeat (first | refine wS ?_ | refine wB ?_ | ((first | refine wR ?_ | refine wD ?_); simp -dsimp) | refine aI ?_)
      refine WP.cond (b := false) (by simp) (fun h => by cases h) (fun _ => ?_)
      refine WP.skip ?_
      simp -dsimp
      repeat (first | refine wS ?_ | refine wB ?_ | ((first | refine wR ?_ | refine wD ?_); simp -dsimp) | refine aI ?_)
      refine loopW.next (yS c ns i r1 r2 1 ([] ++ [])) (Wk.lessE [] (by simp [yS, wr1, wr2, wr3]) (by simp [yS])) 2 (by simp) ⟨1, by simp, by rw [hsn]⟩
    | cons f0 r0 =>
      rw [yS]
      simp -dsimp
      repeat (first | refine wS ?_ | refine wB ?_ | ((first | refine wR ?_ | refine wD ?_); simp -dsimp) | refine aI ?_)
      refine WP.cond (b := true) (by simp) (fun _ => ?_) (fun h => by cases h)
      refine WP.skip ?_
      simp -dsimp
      refine WP.seq (WP.block ?_)
      repeat (first | refine wS ?_ | refine wB ?_ | ((first | refine wR ?_ | refine wD ?_); simp -dsimp) | refine aI ?_)
      refine WP.cond (b := false) (by simp) (fun h => by cases h) (fun _ => ?_)
      refine WP.skip ?_
      simp -dsimp
      repeat (first | refine wS ?_ | refine wB ?_ | ((first | refine wR ?_ | refine wD ?_); simp -dsimp) | refine aI ?_)
      refine loopW.next (yS c ns i r1 r2 1 (f0 :: r0 ++ [])) (Wk.lessE [] (by simp [yS, wr1, wr2, wr3]) (by simp [yS])) 2 (by simp) ⟨1, by simp, by rw [hsn]⟩
  · skip
    have hsn : E ++ exK r1 r2 2 = (E ++ exK r1 r2 1) ++ r1.tail := by simp [exK]
    have hEl : (E ++ exK r1 r2 1).length ≤ 900 := by simp [exK]; omega
    generalize E ++ exK r1 r2 1 = E' at hsn hEl
    cases E' with
    | nil =>
      rw [yS]
      simp -dsimp
      repeat (first | refine wS ?_ | refine wB ?_ | ((first | refine wR ?_ | refine wD ?_); simp -dsimp) | refine aI ?_)
      refine WP.cond (b := true) (by simp) (fun _ => ?_) (fun h => by cases h)
      refine WP.skip ?_
      simp -dsimp
      refine WP.seq (WP.block ?_)
      repeat (first | refine wS ?_ | refine wB ?_ | ((first | refine wR ?_ | refine wD ?_); simp -dsimp) | refine aI ?_)
      refine WP.cond (b := decide (1 < r1.length)) (by simp; omega) (fun hb => ?_) (fun hb => ?_)
      · have hb := of_decide_eq_true hb
        cases r1 with
        | nil => simp at hb
        | cons f r =>
        have hrl : r.length ≤ 100 := by simp at h1; omega
        rw [List.tail_cons] at hsn
        clear hQ
        repeat (first | refine wS ?_ | refine wB ?_ | ((first | refine wR ?_ | refine wD ?_); simp -dsimp [tailD, tailT]) | refine aI ?_)
        refine And.intro ⟨fsC_len r, by simp at hEl; omega⟩ ?_
        repeat (first | refine wS ?_ | refine wB ?_ | ((first | refine wR ?_ | refine wD ?_); simp -dsimp) | refine aI ?_)
        cases r with
        | nil => simp at hb
        | cons g r =>
        refine loopW.next (yS c ns i (f :: g :: r) r2 2 ([] ++ (g :: r))) (Wk.go [] 30 503 (by decide) (by simp [yS]) (by simp [yS, wr1, wr2, wr3]) (by simp [yS, fsC_append])) 1 (by simp) ⟨2, by simp, by rw [hsn]⟩
      · have hb := of_decide_eq_false hb
        rw [tail_nil hb, List.append_nil] at hsn
        refine WP.skip ?_
        simp -dsimp
        repeat (first | refine wS ?_ | refine wB ?_ | ((first | refine wR ?_ | refine wD ?_); simp -dsimp) | refine aI ?_)
        refine loopW.next (yS c ns i r1 r2 2 ([])) (Wk.lessE [] (by simp [yS, wr1, wr2, wr3]) (by simp [yS])) 1 (by simp) ⟨2, by simp, by rw [hsn]⟩
    | cons f0 r0 =>
      rw [yS]
      simp -dsimp
      repeat (first | refine wS ?_ | refine wB ?_ | ((first | refine wR ?_ | refine wD ?_); simp -dsimp) | refine aI ?_)
      refine WP.cond (b := true) (by simp) (fun _ => ?_) (fun h => by cases h)
      refine WP.skip ?_
      simp -dsimp
      refine WP.seq (WP.block ?_)
      repeat (first | refine wS ?_ | refine wB ?_ | ((first | refine wR ?_ | refine wD ?_); simp -dsimp) | refine aI ?_)
      refine WP.cond (b := decide (1 < r1.length)) (by simp; omega) (fun hb => ?_) (fun hb => ?_)
      · have hb := of_decide_eq_true hb
        cases r1 with
        | nil => simp at hb
        | cons f r =>
        have hrl : r.length ≤ 100 := by simp at h1; omega
        rw [List.tail_cons] at hsn
        clear hQ
        repeat (first | refine wS ?_ | refine wB ?_ | ((first | refine wR ?_ | refine wD ?_); simp -dsimp [tailD, tailT]) | refine aI ?_)
        refine And.intro ⟨fsC_len r, by simp at hEl; omega⟩ ?_
        repeat (first | refine wS ?_ | refine wB ?_ | ((first | refine wR ?_ | refine wD ?_); simp -dsimp) | refine aI ?_)
        cases r with
        | nil => simp at hb
        | cons g r =>
        refine loopW.next (yS c ns i (f :: g :: r) r2 2 (f0 :: r0 ++ (g :: r))) (Wk.go [503] 30 503 (by decide) (by simp [yS]) (by simp [yS, wr1, wr2, wr3]) (by simp [yS, fsC_append]; exact ⟨by omega, by rw [← List.map_append, ← fsC_append]; rfl⟩)) 1 (by simp) ⟨2, by simp, by rw [hsn]⟩
      · have hb := of_decide_eq_false hb
        rw [tail_nil hb, List.append_nil] at hsn
        refine WP.skip ?_
        simp -dsimp
        repeat (first | refine wS ?_ | refine wB ?_ | ((first | refine wR ?_ | refine wD ?_); simp -dsimp) | refine aI ?_)
        refine loopW.next (yS c ns i r1 r2 2 (f0 :: r0)) (Wk.lessE [] (by simp [yS, wr1, wr2, wr3]) (by simp [yS])) 1 (by simp) ⟨2, by simp, by rw [hsn]⟩
  · skip
    have hsn : E ++ exK r1 r2 3 = (E ++ exK r1 r2 2) ++ r2.tail := by simp [exK]
    have hEl : (E ++ exK r1 r2 2).length ≤ 900 := by simp [exK]; omega
    generalize E ++ exK r1 r2 2 = E' at hsn hEl
    cases E' with
    | nil =>
      rw [yS]
      simp -dsimp
      repeat (first | refine wS ?_ | refine wB ?_ | ((first | refine wR ?_ | refine wD ?_); simp -dsimp) | refine aI ?_)
      refine WP.cond (b := true) (by simp) (fun _ => ?_) (fun h => by cases h)
      refine WP.skip ?_
      simp -dsimp
      refine WP.seq (WP.block ?_)
      repeat (first | refine wS ?_ | refine wB ?_ | ((first | refine wR ?_ | refine wD ?_); simp -dsimp) | refine aI ?_)
      refine WP.cond (b := decide (1 < r2.length)) (by simp; omega) (fun hb => ?_) (fun hb => ?_)
      · have hb := of_decide_eq_true hb
        cases r2 with
        | nil => simp at hb
        | cons f r =>
        have hrl : r.length ≤ 100 := by simp at h2; omega
        rw [List.tail_cons] at hsn
        clear hQ
        repeat (first | refine wS ?_ | refine wB ?_ | ((first | refine wR ?_ | refine wD ?_); simp -dsimp [tailD, tailT]) | refine aI ?_)
        refine And.intro ⟨fsC_len r, by simp at hEl; omega⟩ ?_
        repeat (first | refine wS ?_ | refine wB ?_ | ((first | refine wR ?_ | refine wD ?_); simp -dsimp) | refine aI ?_)
        cases r with
        | nil => simp at hb
        | cons g r =>
        refine loopW.next (yS c ns i r1 (f :: g :: r) 3 ([] ++ (g :: r))) (Wk.go [] 30 503 (by decide) (by simp [yS]) (by simp [yS, wr1, wr2, wr3]) (by simp [yS, fsC_append])) 0 (by simp) ⟨3, by simp, by rw [hsn]⟩
      · have hb := of_decide_eq_false hb
        rw [tail_nil hb, List.append_nil] at hsn
        refine WP.skip ?_
        simp -dsimp
        repeat (first | refine wS ?_ | refine wB ?_ | ((first | refine wR ?_ | refine wD ?_); simp -dsimp) | refine aI ?_)
        refine loopW.next (yS c ns i r1 r2 3 ([])) (Wk.lessE [] (by simp [yS, wr1, wr2, wr3]) (by simp [yS])) 0 (by simp) ⟨3, by simp, by rw [hsn]⟩
    | cons f0 r0 =>
      rw [yS]
      simp -dsimp
      repeat (first | refine wS ?_ | refine wB ?_ | ((first | refine wR ?_ | refine wD ?_); simp -dsimp) | refine aI ?_)
      refine WP.cond (b := true) (by simp) (fun _ => ?_) (fun h => by cases h)
      refine WP.skip ?_
      simp -dsimp
      refine WP.seq (WP.block ?_)
      repeat (first | refine wS ?_ | refine wB ?_ | ((first | refine wR ?_ | refine wD ?_); simp -dsimp) | refine aI ?_)
      refine WP.cond (b := decide (1 < r2.length)) (by simp; omega) (fun hb => ?_) (fun hb => ?_)
      · have hb := of_decide_eq_true hb
        cases r2 with
        | nil => simp at hb
        | cons f r =>
        have hrl : r.length ≤ 100 := by simp at h2; omega
        rw [List.tail_cons] at hsn
        clear hQ
        repeat (first | refine wS ?_ | refine wB ?_ | ((first | refine wR ?_ | refine wD ?_); simp -dsimp [tailD, tailT]) | refine aI ?_)
        refine And.intro ⟨fsC_len r, by simp at hEl; omega⟩ ?_
        repeat (first | refine wS ?_ | refine wB ?_ | ((first | refine wR ?_ | refine wD ?_); simp -dsimp) | refine aI ?_)
        cases r with
        | nil => simp at hb
        | cons g r =>
        refine loopW.next (yS c ns i r1 (f :: g :: r) 3 (f0 :: r0 ++ (g :: r))) (Wk.go [503] 30 503 (by decide) (by simp [yS]) (by simp [yS, wr1, wr2, wr3]) (by simp [yS, fsC_append]; exact ⟨by omega, by rw [← List.map_append, ← fsC_append]; rfl⟩)) 0 (by simp) ⟨3, by simp, by rw [hsn]⟩
      · have hb := of_decide_eq_false hb
        rw [tail_nil hb, List.append_nil] at hsn
        refine WP.skip ?_
        simp -dsimp
        repeat (first | refine wS ?_ | refine wB ?_ | ((first | refine wR ?_ | refine wD ?_); simp -dsimp) | refine aI ?_)
        refine loopW.next (yS c ns i r1 r2 3 (f0 :: r0)) (Wk.lessE [] (by simp [yS, wr1, wr2, wr3]) (by simp [yS])) 0 (by simp) ⟨3, by simp, by rw [hsn]⟩
  · have hsn : E ++ exK r1 r2 3 = E ++ (r1.tail ++ r2.tail) := rfl
    rw [hsn]
    generalize E ++ (r1.tail ++ r2.tail) = E' at hQ
    cases E' with
    | nil =>
      rw [yS]
      simp -dsimp
      repeat (first | refine wS ?_ | refine wB ?_ | ((first | refine wR ?_ | refine wD ?_); simp -dsimp) | refine aI ?_)
      refine WP.cond (b := false) (by simp) (fun h => by cases h) (fun _ => ?_)
      refine WP.exit ?_
      exact hQ _ (Wk.lessE [] (by simp [xS]) (by simp [xS]))
    | cons f0 r0 =>
      rw [yS]
      simp -dsimp
      repeat (first | refine wS ?_ | refine wB ?_ | ((first | refine wR ?_ | refine wD ?_); simp -dsimp) | refine aI ?_)
      refine WP.cond (b := false) (by simp) (fun h => by cases h) (fun _ => ?_)
      refine WP.exit ?_
      exact hQ _ (Wk.lessE [] (by simp [xS]) (by simp [xS]))
end Go.Proofs.YtjjaabidbeoomaaGreatDoor

/-
  Rulings: the void ones, as references.
-/
set_option linter.unusedSimpArgs false
set_option linter.unusedVariables false
namespace Go.Proofs.YtjjaabidbeoomaaGreatDoor
open Go.Xe Go.RowKit
theorem canF_vOk {l : List F} (hv : ∀ f ∈ l, fOk f) : ∀ f ∈ canF l, vOk f := fun f hf => ⟨hv f (((canF_ok hv).mem f).1 hf).1, (((canF_ok hv).mem f).1 hf).2⟩
/-! ### the references of a row of facts -/
noncomputable def vLoop2 : Code := Cl (Cr (Cl (Cr (Cr (Cr vBody)))))
noncomputable def vEnd : Code := Cr (Cr (Cr (Cr vBody)))
def zS (V : List F) (i : Nat) : St :=
  mkS 50 [(2, .row 503), (34, .d (slT V)), (35, .d (.v (.int .i64 V.length))), (36, .d (.v (.int .i64 (i : Nat))))] [(503, .row 60 2 i ((prt 0 2 (V.take i)).map .d))]
theorem fcs02 (f : F) : fcs f 0 2 = [.v (.int .i64 (f 0)), .v (.int .i64 (f 1))] := rfl
set_option maxRecDepth 10000 in
set_option maxHeartbeats 4000000 in
theorem refs_ok {V : List F} (hl : V.length ≤ 800) {β0 : Nat → Value} {Q : Exit → St → Prop} (hQ : ∀ S', Wk S' (mkS 50 [(2, .d (.sl 2 (prt 0 2 V) V.length false))] []) → Q .ret S') :
    WP Tryz.prog ⟨[], β0, none, false⟩ noPn vLoop2 (blkQ 4 (seqQ Tryz.prog ⟨[], β0, none, false⟩ noPn vEnd Q)) (zS V 0) := by
  simp only [vLoop2, vEnd, vBody, Tryz.f14, Cl, Cr, Option.getD]
  refine WP.loopWk (fun m S => ∃ i, i + m = V.length ∧ S = zS V i) V.length (Wk.refl _) ⟨0, by omega, rfl⟩ ?_
  rintro m _ ⟨i, him, rfl⟩
  rw [zS]
  simp -dsimp
  repeat (first | refine wS ?_ | refine wB ?_ | ((first | refine wR ?_ | refine wD ?_); simp -dsimp) | refine aI ?_)
  by_cases hi : i < V.length
  · have h1 := fsC_at hi
    have htk := take_fat hi
    have e1 : IntKind.i64.wrap ((i : Int) + 1) = ((i + 1 : Nat) : Int) := by rw [IntWalk.i64_in _ (by omega)]; omega
    generalize fat V i = f at h1 htk
    refine WP.cond (b := true) (by simp; omega) (fun _ => ?_) (fun h => by cases h)
    refine WP.skip ?_
    simp -dsimp
    refine WP.seq (WP.block ?_)
    repeat (first | refine wS ?_ | refine wB ?_ | ((first | refine wR ?_ | refine wD ?_); simp -dsimp [h1]) | refine aI ?_)
    refine loopW.next (zS V (i + 1)) (Wk.go [9, 46, 503] 47 503 (by decide) (by simp [zS]) (by simp [zS, e1]) (by simp [zS, htk, prt, fcs02])) (m - 1) (by omega) ⟨i + 1, by omega, rfl⟩
  · have hic : i = V.length := by omega
    subst hic
    refine WP.cond (b := false) (by simp) (fun h => by cases h) (fun _ => ?_)
    refine WP.exit ?_
    simp -dsimp
    repeat (first | refine wS ?_ | refine wB ?_ | ((first | refine wR ?_ | refine wD ?_); simp -dsimp) | refine aI ?_)
    refine WP.ret (hQ _ (Wk.trans (Wk.lessE [] (S' := mkS 50 [(2, .row 503)] [(503, .row 60 2 V.length ((prt 0 2 V).map .d))]) (by simp) (by simp)) (Wk.trans (Wk.freeze (k := 503) (T := 60) (sz := 2) (n := V.length) (ds := prt 0 2 V) (by simp)) (Wk.lessE [] (by simp) (by simp)))))
set_option maxRecDepth 10000 in
set_option maxHeartbeats 4000000 in
theorem void_ok (l : List F) (hl : l.length ≤ 20) (hv : ∀ f ∈ l, fOk f) : Fn0 Tryz.prog 14 [slF l] (.sl 2 (prt 0 2 (voidL (canF l))) (voidL (canF l)).length false) := by
  have hfi := files_ok l (by omega) hv
  have hcl := Nat.le_trans (canF_len hv) hl
  have hcsl := casesL_len' (canF l)
  have hvo := canF_vOk hv
  have hxl := extN_len (canF l) (casesL (canF l))
  rw [filesD] at hfi
  have hx1000 : (extN (canF l) (casesL (canF l))).length ≤ 800 := by
    have := Nat.mul_le_mul (Nat.le_trans hcsl hcl) (Nat.mul_le_mul_left 2 hcl)
    omega
  rw [voidL]
  generalize canF l = c at hfi hcl hcsl hvo hx1000
  generalize casesL c = ns at hfi hcsl hx1000
  refine Fun.of_wp (pn := noPn) Tryz.tab Tryz.func14 rfl fun β0 => ?_
  simp only [Tryz.f14]
  repeat (first | refine wS ?_ | refine wB ?_ | ((first | refine wR ?_ | refine wD ?_); simp -dsimp) | refine aI ?_)
  refine vcStop.call0 Tryz.body24 hfi rfl rfl (by simp) ?_
  simp -dsimp
  repeat (first | refine wS ?_ | refine wB ?_ | ((first | refine wR ?_ | refine wD ?_); simp -dsimp) | refine aI ?_)
  refine WP.loopWk (fun m S => ∃ i, i + m = ns.length ∧ S = xS c ns i (extN c (ns.take i))) ns.length (S0 := xS c ns 0 []) (Wk.lessE [] (by simp [xS]) (by simp [xS])) ⟨0, by omega, by simp [extN]⟩ ?_
  rintro m _ ⟨i, him, rfl⟩
  by_cases hi : i < ns.length
  · have h1 := fpL_at c hi
    have h2 := fpL_atA c hi
    have h3 := fpL_atL c hi
    have htk : ns.take (i + 1) = ns.take i ++ [ns[i]] := by rw [List.take_succ_eq_append_getElem hi]
    generalize ns[i] = n at h1 h2 h3 htk
    have e1 : IntKind.i64.wrap ((i : Int) + 1) = ((i + 1 : Nat) : Int) := by rw [IntWalk.i64_in _ (by omega)]; omega
    have hsn := extN_snoc c (ns.take i) n
    rw [← htk, exN] at hsn
    have hfd : fpD c n = flD n (c.filter (isRul n 1)) (c.filter (isRul n 2)) (c.filter (isRep n)) (c.any (isApp n)) := rfl
    rw [hfd] at h1 h2 h3
    have hr1 : (c.filter (isRul n 1)).length ≤ 100 := Nat.le_trans (List.length_filter_le _ _) (by omega)
    have hr2 : (c.filter (isRul n 2)).length ≤ 100 := Nat.le_trans (List.length_filter_le _ _) (by omega)
    have hEl : (extN c (ns.take i)).length ≤ 800 := by
      have h4 := extN_len c (ns.take i)
      rw [List.length_take] at h4
      have h5 := Nat.mul_le_mul (show min i ns.length ≤ 20 by omega) (Nat.mul_le_mul_left 2 hcl)
      omega
    generalize c.filter (isRul n 1) = r1 at h1 h2 h3 hsn hr1
    generalize c.filter (isRul n 2) = r2 at h1 h2 h3 hsn hr2
    generalize c.filter (isRep n) = rp at h1 h2 h3
    generalize c.any (isApp n) = ap at h1 h2 h3
    generalize hE : extN c (ns.take i) = E at hsn hEl
    cases E with
    | nil =>
      rw [xS]
      simp -dsimp
      repeat (first | refine wS ?_ | refine wB ?_ | ((first | refine wR ?_ | refine wD ?_); simp -dsimp) | refine aI ?_)
      refine WP.cond (b := true) (by simp; omega) (fun _ => ?_) (fun h => by cases h)
      refine WP.skip ?_
      simp -dsimp
      refine WP.seq (WP.block ?_)
      repeat (first | refine wS ?_ | refine wB ?_ | ((first | refine wR ?_ | refine wD ?_); simp -dsimp [h1, h2, h3]) | refine aI ?_)
      refine WP.weak (Wk.lessE [] (S' := yS c ns i r1 r2 0 []) (by simp [yS]) (by simp [yS])) ?_
      refine inst_ok hr1 hr2 (by simp) fun S' hw => ?_
      refine WP.weak hw ?_
      rw [List.nil_append] at hsn ⊢
      rw [← hsn]
      generalize hE2 : extN c (ns.take (i + 1)) = E2
      cases E2 with
      | nil =>
        rw [xS]
        simp -dsimp
        repeat (first | refine wS ?_ | refine wB ?_ | ((first | refine wR ?_ | refine wD ?_); simp -dsimp) | refine aI ?_)
        refine loopW.next (xS c ns (i + 1) []) (Wk.lessE [] (by simp [xS, e1]) (by simp [xS])) (m - 1) (by omega) ⟨i + 1, by omega, by rw [hE2]⟩
      | cons f2 r2 =>
        rw [xS]
        simp -dsimp
        repeat (first | refine wS ?_ | refine wB ?_ | ((first | refine wR ?_ | refine wD ?_); simp -dsimp) | refine aI ?_)
        refine loopW.next (xS c ns (i + 1) (f2 :: r2)) (Wk.lessE [] (by simp [xS, e1]) (by simp [xS])) (m - 1) (by omega) ⟨i + 1, by omega, by rw [hE2]⟩
    | cons f0 r0 =>
      rw [xS]
      simp -dsimp
      repeat (first | refine wS ?_ | refine wB ?_ | ((first | refine wR ?_ | refine wD ?_); simp -dsimp) | refine aI ?_)
      refine WP.cond (b := true) (by simp; omega) (fun _ => ?_) (fun h => by cases h)
      refine WP.skip ?_
      simp -dsimp
      refine WP.seq (WP.block ?_)
      repeat (first | refine wS ?_ | refine wB ?_ | ((first | refine wR ?_ | refine wD ?_); simp -dsimp [h1, h2, h3]) | refine aI ?_)
      refine WP.weak (Wk.lessE [] (S' := yS c ns i r1 r2 0 (f0 :: r0)) (by simp [yS]) (by simp [yS])) ?_
      refine inst_ok hr1 hr2 hEl fun S' hw => ?_
      refine WP.weak hw ?_
      rw [← hsn]
      generalize hE2 : extN c (ns.take (i + 1)) = E2
      cases E2 with
      | nil =>
        rw [xS]
        simp -dsimp
        repeat (first | refine wS ?_ | refine wB ?_ | ((first | refine wR ?_ | refine wD ?_); simp -dsimp) | refine aI ?_)
        refine loopW.next (xS c ns (i + 1) []) (Wk.lessE [] (by simp [xS, e1]) (by simp [xS])) (m - 1) (by omega) ⟨i + 1, by omega, by rw [hE2]⟩
      | cons f2 r2 =>
        rw [xS]
        simp -dsimp
        repeat (first | refine wS ?_ | refine wB ?_ | ((first | refine wR ?_ | refine wD ?_); simp -dsimp) | refine aI ?_)
        refine loopW.next (xS c ns (i + 1) (f2 :: r2)) (Wk.lessE [] (by simp [xS, e1]) (by simp [xS])) (m - 1) (by omega) ⟨i + 1, by omega, by rw [hE2]⟩
  · have hic : i = ns.length := by omega
    subst hic
    rw [List.take_length]
    have hxv : ∀ f ∈ extN c ns, vOk f := fun f hf => hvo f (extN_in hf)
    have hxo : ∀ f ∈ extN c ns, fOk f := fun f hf => (hxv f hf).1
    obtain ⟨_, hin, hsl⟩ := setF_canon hxv
    cases hE : extN c ns with
    | nil =>
      have hs0 : setF (List.map kOf ([] : List F)) = [] := setF_nil
      rw [xS]
      simp -dsimp
      repeat (first | refine wS ?_ | refine wB ?_ | ((first | refine wR ?_ | refine wD ?_); simp -dsimp) | refine aI ?_)
      refine WP.cond (b := false) (by simp) (fun h => by cases h) (fun _ => ?_)
      refine WP.exit ?_
      simp -dsimp
      repeat (first | refine wS ?_ | refine wB ?_ | ((first | refine wR ?_ | refine wD ?_); simp -dsimp) | refine aI ?_)
      refine vcStop.call0 Tryz.body28 sorted_nil rfl rfl (by simp) ?_
      simp -dsimp
      repeat (first | refine wS ?_ | refine wB ?_ | ((first | refine wR ?_ | refine wD ?_); simp -dsimp) | refine aI ?_)
      refine WP.weak (Wk.trans (Wk.lessE [] (S' := mkS 50 [(2, .d nilD), (34, .d nilD), (35, .d (.v (.int .i64 0))), (36, .d (.v (.int .i64 0)))] []) (by simp) (by simp)) (Wk.trans (Wk.nilSlot 34 602 62 57 (by simp) (by simp)) (Wk.trans (Wk.freeze (k := 602) (T := 62) (sz := 57) (n := 0) (ds := []) (by simp)) (Wk.trans (Wk.nilSlot 2 503 60 2 (by simp) (by simp)) (Wk.lessE [] (S' := zS [] 0) (by simp [zS, fsC0, slT]) (by simp [zS, prt])))))) ?_
      refine refs_ok (V := []) (by simp) fun S' hw => ?_
      rw [hs0]
      exact finQ.retWE hw (by simp)
    | cons f0 r0 =>
      rw [hE] at hx1000 hxo hsl
      have hset := sorted_ok ((f0 :: r0).map kOf) (by simp) (by rw [List.length_map]; omega)
      rw [kOf_val hxo] at hset
      generalize setF ((f0 :: r0).map kOf) = V at hset hsl
      have hVl : V.length ≤ 800 := Nat.le_trans hsl hx1000
      rw [xS]
      simp -dsimp
      repeat (first | refine wS ?_ | refine wB ?_ | ((first | refine wR ?_ | refine wD ?_); simp -dsimp) | refine aI ?_)
      refine WP.cond (b := false) (by simp) (fun h => by cases h) (fun _ => ?_)
      refine WP.exit ?_
      simp -dsimp
      repeat (first | refine wS ?_ | refine wB ?_ | ((first | refine wR ?_ | refine wD ?_); simp -dsimp) | refine aI ?_)
      refine vcStop.call Tryz.body28 (hset) (rl [(1000, 503), (0, 601)]) rfl rfl (by simp [BoxLeq]) (CallOk.of (by simp [BoxLeq]) rfl (by first | rfl | (simp [BoxLeq]; done)) (by simp [BoxLeq]) (by simp [BoxLeq])) (fun _ h => h.elim) (fun ⟨_, h⟩ => h.elim) (fun ⟨_, h⟩ => h.elim) (by simp [BoxLeq]) ?_
      simp -dsimp
      repeat (first | refine wS ?_ | refine wB ?_ | ((first | refine wR ?_ | refine wD ?_); simp -dsimp) | refine aI ?_)
      refine WP.weak (Wk.trans (Wk.lessE [503] (S' := mkS 50 [(2, .d nilD), (34, .row 601), (35, .d (.v (.int .i64 V.length))), (36, .d (.v (.int .i64 0)))] [(601, rB V)]) (by simp) (by simp)) (Wk.trans (Wk.freeze (k := 601) (T := 62) (sz := 57) (n := V.length) (ds := fsC V) (by simp)) (Wk.trans (Wk.nilSlot 2 503 60 2 (by simp) (by simp)) (Wk.lessE [] (S' := zS V 0) (by simp [zS, slT]) (by simp [zS, prt]))))) ?_
      refine refs_ok hVl fun S' hw => ?_
      exact finQ.retWE hw (by simp)
end Go.Proofs.YtjjaabidbeoomaaGreatDoor
