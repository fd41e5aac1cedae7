import Derived.Test.YtnbanfpelgcmoaaDc
import Derived.Test.YtnbanfpelgcmoaaEngS
set_option linter.unusedSimpArgs false
set_option linter.unusedVariables false
namespace Go.Proofs.Ytnbanfpelgcmoaa
open Go.Xe Go.RowKit

/-- So many values, one after the other. -/
def pMany (p : List UInt8 → Option (V × List UInt8)) : Nat → List UInt8 → Option (List V × List UInt8)
  | 0, r => some ([], r)
  | n + 1, r => match p r with
    | none => none
    | some (v, r') => match pMany p n r' with
      | none => none
      | some (l, r'') => some (v :: l, r'')
/-- A value is read; lists may be nested b deep. -/
def pVal : Nat → List UInt8 → Option (V × List UInt8)
  | _, [] => none
  | 0, c :: r => if c.toNat = 1 then (pNum 0 0 r).map fun x => (.mk 1 (zag x.1) ⟨#[]⟩ [], x.2) else if c.toNat = 2 then (pLen r).map fun x => (.mk 2 0 ⟨(x.2.take x.1).toArray⟩ [], x.2.drop x.1) else none
  | b + 1, c :: r => if c.toNat = 1 then (pNum 0 0 r).map fun x => (.mk 1 (zag x.1) ⟨#[]⟩ [], x.2) else if c.toNat = 2 then (pLen r).map fun x => (.mk 2 0 ⟨(x.2.take x.1).toArray⟩ [], x.2.drop x.1)
      else if c.toNat = 3 then (pLen r).bind fun x => (pMany (pVal b) x.1 x.2).map fun y => (.mk 3 0 ⟨#[]⟩ y.1, y.2) else none
theorem pVal_1 (b : Nat) {c : UInt8} (r : List UInt8) (h : c.toNat = 1) : pVal b (c :: r) = (pNum 0 0 r).map fun x => (.mk 1 (zag x.1) ⟨#[]⟩ [], x.2) := by cases b <;> simp [pVal, h]
theorem pVal_2 (b : Nat) {c : UInt8} (r : List UInt8) (h : c.toNat = 2) : pVal b (c :: r) = (pLen r).map fun x => (.mk 2 0 ⟨(x.2.take x.1).toArray⟩ [], x.2.drop x.1) := by cases b <;> simp [pVal, h]
theorem pVal_30 {c : UInt8} (r : List UInt8) (h : c.toNat = 3) : pVal 0 (c :: r) = none := by simp [pVal, h]
theorem pVal_3 (b : Nat) {c : UInt8} (r : List UInt8) (h : c.toNat = 3) : pVal (b + 1) (c :: r) = (pLen r).bind fun x => (pMany (pVal b) x.1 x.2).map fun y => (.mk 3 0 ⟨#[]⟩ y.1, y.2) := by simp [pVal, h]
theorem pVal_x (b : Nat) {c : UInt8} (r : List UInt8) (h1 : c.toNat ≠ 1) (h2 : c.toNat ≠ 2) (h3 : c.toNat ≠ 3) : pVal b (c :: r) = none := by cases b <;> simp [pVal, h1, h2, h3]

theorem pLen_le {bs : List UInt8} {n : Nat} {r : List UInt8} (h : pLen bs = some (n, r)) : n ≤ r.length ∧ r.length < bs.length := by
  rw [pLen] at h
  split at h
  · rename_i hp
    split at h
    · rename_i hle
      cases h
      exact ⟨hle, pNum_len _ _ _ hp⟩
    · cases h
  · cases h
theorem pMany_le {p : List UInt8 → Option (V × List UInt8)} (hp : ∀ r v r', p r = some (v, r') → r'.length < r.length) : ∀ (n : Nat) (r : List UInt8) {l : List V} {r' : List UInt8}, pMany p n r = some (l, r') → r'.length + n ≤ r.length ∧ l.length = n
  | 0, r, l, r', h => by rw [pMany] at h; cases h; exact ⟨Nat.le_refl _, rfl⟩
  | n + 1, r, l, r', h => by
    rw [pMany] at h
    split at h
    · cases h
    · rename_i v r1 h1
      split at h
      · cases h
      · rename_i l2 r2 h2
        cases h
        have := hp _ _ _ h1
        have := pMany_le hp n r1 h2
        exact ⟨by omega, by simp [this.2]⟩
theorem pVal_le : ∀ (b : Nat) (bs : List UInt8) (v : V) (r : List UInt8), pVal b bs = some (v, r) → r.length < bs.length
  | b, [], v, r, h => by cases b <;> (rw [pVal] at h; cases h)
  | b, c :: s, v, r, h => by
    by_cases h1 : c.toNat = 1
    · rw [pVal_1 b s h1] at h
      cases hx : pNum 0 0 s with
      | none => rw [hx] at h; cases h
      | some x => rw [hx] at h; cases h; have := pNum_len _ _ _ hx; simp; omega
    by_cases h2 : c.toNat = 2
    · rw [pVal_2 b s h2] at h
      cases hx : pLen s with
      | none => rw [hx] at h; cases h
      | some x => rw [hx] at h; cases h; have := pLen_le hx; simp; omega
    by_cases h3 : c.toNat = 3
    · cases b with
      | zero => rw [pVal_30 s h3] at h; cases h
      | succ b =>
        rw [pVal_3 b s h3] at h
        cases hx : pLen s with
        | none => rw [hx] at h; cases h
        | some x =>
          rw [hx, Option.bind_some] at h
          cases hy : pMany (pVal b) x.1 x.2 with
          | none => rw [hy] at h; cases h
          | some y =>
            rw [hy] at h
            cases h
            have := pLen_le hx
            have := (pMany_le (pVal_le b) _ _ hy).1
            simp; omega
    · rw [pVal_x b s h1 h2 h3] at h; cases h

theorem pNum_u : ∀ (r : List UInt8) (i u : Nat) {x : Nat} {r' : List UInt8}, pNum i u r = some (x, r') → i ≤ 9 → u < 128 ^ i → isU x
  | [], _, _, _, _, h, _, _ => by rw [pNum] at h; cases h
  | c :: r, i, u, x, r', h, hi, hu => by
    rw [pNum] at h
    split at h
    · rename_i hc
      obtain ⟨_, hbd⟩ := num_step hi hu hc.2
      split at h
      · cases h; exact hbd
      · have h1 : c.toNat % 128 * 128 ^ i ≤ 127 * 128 ^ i := Nat.mul_le_mul_right _ (by omega)
        exact pNum_u r _ _ h (by omega) (by rw [Nat.pow_succ]; omega)
    · cases h

@[simp] theorem bys_unB (l : List UInt8) : List.map (unB ∘ AV.d) (bys l) = l := by
  induction l with
  | nil => rfl
  | cons c l ih => simp only [bys, List.map_cons] at ih ⊢; rw [ih]; simp [unB, unBD_byteD]
@[simp] theorem all_bys (l : List UInt8) : (∀ a ∈ bys l, a = byteD (unB (.d a))) ↔ True := by
  refine ⟨fun _ => trivial, fun _ a ha => ?_⟩
  obtain ⟨c, _, rfl⟩ := List.mem_map.1 ha
  rw [unB_byteD]

/-- What the reader hands back, and what it leaves. -/
def rv : Option (V × List UInt8) → D
  | some x => x.1.d
  | none => (V.mk 0 0 ⟨#[]⟩ []).d
def ro : Option (V × List UInt8) → Bxs
  | some x => [(1000, rdB x.2)]
  | none => [(1000, rdB []), (0, botB)]
def rk (o : Option (V × List UInt8)) (ch : List PanicEntry) : Prop := o = none ∧ pc ch

theorem f32_ok_of {b : Nat} {bs : List UInt8} {d : Int} (h : Fun Try.prog 32 [.ptr 1000 0, .d (.v (.int .i64 d))] [(1000, rdB bs)] (.d (rv (pVal b bs))) (ro (pVal b bs)) (rk (pVal b bs))) {v : V} {r : List UInt8} (hp : pVal b bs = some (v, r)) :
    Fun Try.prog 32 [.ptr 1000 0, .d (.v (.int .i64 d))] [(1000, rdB bs)] (.d v.d) [(1000, rdB r)] fun _ => False := by
  rw [hp] at h
  intro w I β vs hm hd
  refine Calls.mono (h w I β vs hm hd) fun e w' he => ?_
  cases e with
  | returned v => exact he
  | panicked ch => exact absurd he.1.1 (by simp)
  | outgrown => exact he
theorem f32_no_of {b : Nat} {bs : List UInt8} {d : Int} (h : Fun Try.prog 32 [.ptr 1000 0, .d (.v (.int .i64 d))] [(1000, rdB bs)] (.d (rv (pVal b bs))) (ro (pVal b bs)) (rk (pVal b bs))) (hp : pVal b bs = none) :
    Fun Try.prog 32 [.ptr 1000 0, .d (.v (.int .i64 d))] [(1000, rdB bs)] (.d (V.mk 0 0 ⟨#[]⟩ []).d) [(1000, rdB []), (0, botB)] pc := by
  rw [hp] at h
  intro w I β vs hm hd
  refine Calls.mono (h w I β vs hm hd) fun e w' he => ?_
  cases e with
  | returned v => exact he
  | panicked ch => exact ⟨he.1.2, he.2⟩
  | outgrown => exact he

/-- The state at the head of the reader's loop over a list. -/
def s32 (d : Int) (n i : Nat) (l : List V) (r : List UInt8) : St :=
  mkS 50 [(0, .ptr 1000 0), (1, .d (.v (.int .i64 d))), (4, .ptr 4 0), (36, .d (.v (.int .i64 n))), (37, .d (.v (.int .i64 i)))]
    [(1000, rdB r), (4, .cells 24 [.d (.v (.int .i64 3)), .d (.v (.int .i64 0)), .d (.v (.string ⟨#[]⟩)), .row 500]), (500, .row 24 4 l.length ((V.cellsL l).map .d))]

/-- What is proved of the reader of values. -/
def f32_C (b : Nat) : Prop := b ≤ 16 → ∀ (bs : List UInt8) (d : Int), d = 16 - b → bs.length ≤ 1000000000000 →
    Fun Try.prog 32 [.ptr 1000 0, .d (.v (.int .i64 d))] [(1000, rdB bs)] (.d (rv (pVal b bs))) (ro (pVal b bs)) (rk (pVal b bs))

set_option maxRecDepth 10000 in
set_option maxHeartbeats 4000000 in
theorem f32_of (b : Nat) (ih : ∀ b', b = b' + 1 → f32_C b') : f32_C b := by
    intro hb16 bs d hd hbs
    generalize ho : pVal b bs = o
    refine Fun.of_wp (pn := ⟨rk o, [], []⟩) Try.tab Try.func32 rfl fun β0 => ?_
    simp only [Try.f32]
    cases bs with
    | nil =>
      have hn : o = none := by rw [← ho]; cases b <;> rfl
      repeat (first | refine WP.seq ?_ | refine WP.block ?_ | (refine WP.region Try.tab ?_; simp -dsimp) | (refine WP.draw Try.tab Try.mixed ?_; simp -dsimp) | refine And.intro (by first | rfl | omega | decide | (simp; done) | (simp; omega) | (intros; simp_all; done)) ?_)
      refine vcStop.call Try.body44 (f44_no [] 1 (by simp)) (rl [(0, 600)]) rfl rfl (by simp [BoxLeq]) (CallOk.of (by simp [BoxLeq]) rfl (by first | rfl | (simp [BoxLeq]; done)) (by simp [BoxLeq]) (by simp [BoxLeq])) (fun _ h => by first | exact h | exact ⟨by assumption, h⟩) (fun _ _ h => by cases h) (fun _ _ _ => rfl) (by simp [BoxLeq]) ?_
      simp -dsimp
      repeat refine And.intro (by first | rfl | omega | decide | (simp; done) | (simp; omega) | (intros; simp_all; done)) ?_
      refine WP.absurdB 600 (by simp)
    | cons c r =>
      have hw : IntKind.i64.wrap (c.toNat : Int) = (c.toNat : Int) := IntWalk.i64_in _ (by have := c.toNat_lt; omega)
      have hr1 : r.length ≤ 1000000000000 := by simp at hbs; omega
      repeat (first | refine WP.seq ?_ | refine WP.block ?_ | (refine WP.region Try.tab ?_; simp -dsimp) | (refine WP.draw Try.tab Try.mixed ?_; simp -dsimp) | refine And.intro (by first | rfl | omega | decide | (simp; done) | (simp; omega) | (intros; simp_all; done)) ?_)
      refine vcStop.call Try.body44 (f44_ok (c :: r) 1 (by simp)) (rl []) rfl rfl (by simp [BoxLeq]) (CallOk.of (by simp [BoxLeq]) rfl (by first | rfl | (simp [BoxLeq]; done)) (by simp [BoxLeq]) (by simp [BoxLeq])) (fun _ h => h.elim) (fun ⟨_, h⟩ => h.elim) (fun ⟨_, h⟩ => h.elim) (by simp [BoxLeq]) ?_
      simp -dsimp
      repeat (first | refine WP.seq ?_ | refine WP.block ?_ | (refine WP.region Try.tab ?_; simp -dsimp [hw]) | (refine WP.draw Try.tab Try.mixed ?_; simp -dsimp [hw]) | refine And.intro (by first | rfl | omega | decide | (simp; done) | (simp; omega) | (intros; simp_all; done)) ?_)
      refine WP.cond (b := decide (c.toNat = 1)) (by simp [show ((c.toNat : Int) = 1) ↔ c.toNat = 1 by omega]) (fun hb => ?_) (fun hb => ?_)
      · have hb := of_decide_eq_true hb
        rw [pVal_1 _ _ hb] at ho
        cases hp : pNum 0 0 r with
        | none =>
          have hn : o = none := by rw [← ho, hp]; rfl
          repeat (first | refine WP.seq ?_ | refine WP.block ?_ | (refine WP.region Try.tab ?_; simp -dsimp) | (refine WP.draw Try.tab Try.mixed ?_; simp -dsimp) | refine And.intro (by first | rfl | omega | decide | (simp; done) | (simp; omega) | (intros; simp_all; done)) ?_)
          refine vcStop.call Try.body46 (f46_no r hp) (rl [(0, 600)]) rfl rfl (by simp [BoxLeq]) (CallOk.of (by simp [BoxLeq]) rfl (by first | rfl | (simp [BoxLeq]; done)) (by simp [BoxLeq]) (by simp [BoxLeq])) (fun _ h => by first | exact h | exact ⟨by assumption, h⟩) (fun _ _ h => by cases h) (fun _ _ _ => rfl) (by simp [BoxLeq]) ?_
          simp -dsimp
          refine vcStop.call0 Try.body45 (f45_ok (u := 0) (by unfold isU; omega)) rfl rfl (by simp) ?_
          simp -dsimp
          repeat refine And.intro (by first | rfl | omega | decide | (simp; done) | (simp; omega) | (intros; simp_all; done)) ?_
          refine WP.absurdB 600 (by simp)
        | some x =>
          obtain ⟨u, r'⟩ := x
          have hu := pNum_u _ _ _ hp (by omega) (by simp)
          have hn : o = some (.mk 1 (zag u) ⟨#[]⟩ [], r') := by rw [← ho, hp]; rfl
          repeat (first | refine WP.seq ?_ | refine WP.block ?_ | (refine WP.region Try.tab ?_; simp -dsimp) | (refine WP.draw Try.tab Try.mixed ?_; simp -dsimp) | refine And.intro (by first | rfl | omega | decide | (simp; done) | (simp; omega) | (intros; simp_all; done)) ?_)
          refine vcStop.call Try.body46 (f46_ok r hp) (rl []) rfl rfl (by simp [BoxLeq]) (CallOk.of (by simp [BoxLeq]) rfl (by first | rfl | (simp [BoxLeq]; done)) (by simp [BoxLeq]) (by simp [BoxLeq])) (fun _ h => h.elim) (fun ⟨_, h⟩ => h.elim) (fun ⟨_, h⟩ => h.elim) (by simp [BoxLeq]) ?_
          simp -dsimp
          refine vcStop.call0 Try.body45 (f45_ok hu) rfl rfl (by simp) ?_
          simp -dsimp
          repeat (first | refine WP.seq ?_ | refine WP.block ?_ | (refine WP.region Try.tab ?_; simp -dsimp) | (refine WP.draw Try.tab Try.mixed ?_; simp -dsimp) | refine And.intro (by first | rfl | omega | decide | (simp; done) | (simp; omega) | (intros; simp_all; done)) ?_)
          refine WP.ret (finQ.retE ?_)
          simp -dsimp [hn, hb, rv, ro, V.d, V.cells, V.cellsL]
      have hb1 : ¬ c.toNat = 1 := of_decide_eq_false hb
      repeat (first | refine WP.seq ?_ | refine WP.block ?_ | (refine WP.region Try.tab ?_; simp -dsimp) | (refine WP.draw Try.tab Try.mixed ?_; simp -dsimp) | refine And.intro (by first | rfl | omega | decide | (simp; done) | (simp; omega) | (intros; simp_all; done)) ?_)
      refine WP.cond (b := decide (c.toNat = 2)) (by simp [show ((c.toNat : Int) = 2) ↔ c.toNat = 2 by omega]) (fun hb => ?_) (fun hb => ?_)
      · have hb := of_decide_eq_true hb
        rw [pVal_2 _ _ hb] at ho
        cases hp : pLen r with
        | none =>
          have hn : o = none := by rw [← ho, hp]; rfl
          repeat (first | refine WP.seq ?_ | refine WP.block ?_ | (refine WP.region Try.tab ?_; simp -dsimp) | (refine WP.draw Try.tab Try.mixed ?_; simp -dsimp) | refine And.intro (by first | rfl | omega | decide | (simp; done) | (simp; omega) | (intros; simp_all; done)) ?_)
          refine vcStop.call Try.body47 (f47_no r hr1 hp) (rl [(0, 600)]) rfl rfl (by simp [BoxLeq]) (CallOk.of (by simp [BoxLeq]) rfl (by first | rfl | (simp [BoxLeq]; done)) (by simp [BoxLeq]) (by simp [BoxLeq])) (fun _ h => by first | exact h | exact ⟨by assumption, h⟩) (fun _ _ h => by cases h) (fun _ _ _ => rfl) (by simp [BoxLeq]) ?_
          simp -dsimp
          refine vcStop.call Try.body44 (f44_ok [] 0 (by simp)) (rl []) rfl rfl (by simp [BoxLeq]) (CallOk.of (by simp [BoxLeq]) rfl (by first | rfl | (simp [BoxLeq]; done)) (by simp [BoxLeq]) (by simp [BoxLeq])) (fun _ h => h.elim) (fun ⟨_, h⟩ => h.elim) (fun ⟨_, h⟩ => h.elim) (by simp [BoxLeq]) ?_
          simp -dsimp
          repeat refine And.intro (by first | rfl | omega | decide | (simp; done) | (simp; omega) | (intros; simp_all; done)) ?_
          refine WP.absurdB 600 (by simp)
        | some x =>
          obtain ⟨n, r'⟩ := x
          have hle := pLen_le hp
          have hn : o = some (.mk 2 0 ⟨(r'.take n).toArray⟩ [], r'.drop n) := by rw [← ho, hp]; rfl
          repeat (first | refine WP.seq ?_ | refine WP.block ?_ | (refine WP.region Try.tab ?_; simp -dsimp) | (refine WP.draw Try.tab Try.mixed ?_; simp -dsimp) | refine And.intro (by first | rfl | omega | decide | (simp; done) | (simp; omega) | (intros; simp_all; done)) ?_)
          refine vcStop.call Try.body47 (f47_ok r hr1 hp) (rl []) rfl rfl (by simp [BoxLeq]) (CallOk.of (by simp [BoxLeq]) rfl (by first | rfl | (simp [BoxLeq]; done)) (by simp [BoxLeq]) (by simp [BoxLeq])) (fun _ h => h.elim) (fun ⟨_, h⟩ => h.elim) (fun ⟨_, h⟩ => h.elim) (by simp [BoxLeq]) ?_
          simp -dsimp
          refine vcStop.call Try.body44 (f44_ok r' n hle.1) (rl []) rfl rfl (by simp [BoxLeq]) (CallOk.of (by simp [BoxLeq]) rfl (by first | rfl | (simp [BoxLeq]; done)) (by simp [BoxLeq]) (by simp [BoxLeq])) (fun _ h => h.elim) (fun ⟨_, h⟩ => h.elim) (fun ⟨_, h⟩ => h.elim) (by simp [BoxLeq]) ?_
          simp -dsimp
          repeat (first | refine WP.seq ?_ | refine WP.block ?_ | (refine WP.region Try.tab ?_; simp -dsimp) | (refine WP.draw Try.tab Try.mixed ?_; simp -dsimp) | refine And.intro (by first | rfl | omega | decide | (simp; done) | (simp; omega) | (intros; simp_all; done)) ?_)
          refine WP.ret (finQ.retE ?_)
          simp -dsimp [hn, hb, rv, ro, V.d, V.cells, V.cellsL]
      have hb2 : ¬ c.toNat = 2 := of_decide_eq_false hb
      repeat (first | refine WP.seq ?_ | refine WP.block ?_ | (refine WP.region Try.tab ?_; simp -dsimp) | (refine WP.draw Try.tab Try.mixed ?_; simp -dsimp) | refine And.intro (by first | rfl | omega | decide | (simp; done) | (simp; omega) | (intros; simp_all; done)) ?_)
      refine WP.cond (b := decide (c.toNat = 3)) (by simp [show ((c.toNat : Int) = 3) ↔ c.toNat = 3 by omega]) (fun hb => ?_) (fun hb => ?_)
      · have hb := of_decide_eq_true hb
        cases b with
        | zero =>
          have hn : o = none := by rw [← ho, pVal_30 _ hb]
          have hd1 : ¬ d < 16 := by omega
          repeat (first | refine WP.seq ?_ | refine WP.block ?_ | (refine WP.region Try.tab ?_; simp -dsimp) | (refine WP.draw Try.tab Try.mixed ?_; simp -dsimp) | refine And.intro (by first | rfl | omega | decide | (simp; done) | (simp; omega) | (intros; simp_all; done)) ?_)
          refine vcStop.call Try.body33 (f33_no) (rl [(0, 600)]) rfl rfl (by simp [hd1, BoxLeq]) (CallOk.of (by simp [hd1, BoxLeq]) rfl (by first | rfl | (simp [hd1, BoxLeq]; done)) (by simp [hd1, BoxLeq]) (by simp [hd1, BoxLeq])) (fun _ h => by first | exact h | exact ⟨by assumption, h⟩) (fun _ _ h => by cases h) (fun _ _ _ => rfl) (by simp [hd1, BoxLeq]) ?_
          simp -dsimp
          repeat refine And.intro (by first | rfl | omega | decide | (simp; done) | (simp; omega) | (intros; simp_all; done)) ?_
          refine WP.absurdB 600 (by simp)
        | succ b =>
          rw [pVal_3 _ _ hb] at ho
          have hd1 : d < 16 := by omega
          have hd2 : IntKind.i64.wrap (d + 1) = d + 1 := IntWalk.i64_in _ (by omega)
          repeat (first | refine WP.seq ?_ | refine WP.block ?_ | (refine WP.region Try.tab ?_; simp -dsimp) | (refine WP.draw Try.tab Try.mixed ?_; simp -dsimp) | refine And.intro (by first | rfl | omega | decide | (simp; done) | (simp; omega) | (intros; simp_all; done)) ?_)
          refine vcStop.call Try.body33 (f33_ok) (rl []) rfl rfl (by simp [hd1, BoxLeq]) (CallOk.of (by simp [hd1, BoxLeq]) rfl (by first | rfl | (simp [hd1, BoxLeq]; done)) (by simp [hd1, BoxLeq]) (by simp [hd1, BoxLeq])) (fun _ h => h.elim) (fun ⟨_, h⟩ => h.elim) (fun ⟨_, h⟩ => h.elim) (by simp [hd1, BoxLeq]) ?_
          simp -dsimp
          repeat (first | refine WP.seq ?_ | refine WP.block ?_ | (refine WP.region Try.tab ?_; simp -dsimp) | (refine WP.draw Try.tab Try.mixed ?_; simp -dsimp) | refine And.intro (by first | rfl | omega | decide | (simp; done) | (simp; omega) | (intros; simp_all; done)) ?_)
          cases hp : pLen r with
          | none =>
            have hn : o = none := by rw [← ho, hp]; rfl
            refine vcStop.call Try.body47 (f47_no r hr1 hp) (rl [(0, 600)]) rfl rfl (by simp [BoxLeq]) (CallOk.of (by simp [BoxLeq]) rfl (by first | rfl | (simp [BoxLeq]; done)) (by simp [BoxLeq]) (by simp [BoxLeq])) (fun _ h => by first | exact h | exact ⟨by assumption, h⟩) (fun _ _ h => by cases h) (fun _ _ _ => rfl) (by simp [BoxLeq]) ?_
            simp -dsimp
            repeat refine And.intro (by first | rfl | omega | decide | (simp; done) | (simp; omega) | (intros; simp_all; done)) ?_
            refine WP.absurdB 600 (by simp)
          | some x =>
            obtain ⟨n, r'⟩ := x
            have hle := pLen_le hp
            rw [hp, Option.bind_some] at ho
            refine vcStop.call Try.body47 (f47_ok r hr1 hp) (rl []) rfl rfl (by simp [BoxLeq]) (CallOk.of (by simp [BoxLeq]) rfl (by first | rfl | (simp [BoxLeq]; done)) (by simp [BoxLeq]) (by simp [BoxLeq])) (fun _ h => h.elim) (fun ⟨_, h⟩ => h.elim) (fun ⟨_, h⟩ => h.elim) (by simp [BoxLeq]) ?_
            simp -dsimp
            repeat (first | refine WP.seq ?_ | refine WP.block ?_ | (refine WP.region Try.tab ?_; simp -dsimp) | (refine WP.draw Try.tab Try.mixed ?_; simp -dsimp) | refine And.intro (by first | rfl | omega | decide | (simp; done) | (simp; omega) | (intros; simp_all; done)) ?_)
            refine WP.loopWk (fun m S => ∃ l r, l.length + m = n ∧ r.length ≤ 1000000000000 ∧ (pMany (pVal b) m r).map (fun y => (V.mk 3 0 ⟨#[]⟩ (l ++ y.1), y.2)) = o ∧ S = s32 d n l.length l r) n (S0 := s32 d n 0 [] r')
              ((Wk.nilCell 4 3 500 24 4 (by simp; exact ⟨rfl, rfl⟩) rfl (by simp)).trans (Wk.lessE [] (by simp [s32]) (by simp [s32, hb, V.cellsL]))) ⟨[], r', by simp, by omega, by simpa using ho, rfl⟩ ?_
            rintro m _ ⟨l, r1, hl, hr2, ho1, rfl⟩
            simp -dsimp [s32]
            repeat (first | refine WP.seq ?_ | refine WP.block ?_ | (refine WP.region Try.tab ?_; simp -dsimp) | (refine WP.draw Try.tab Try.mixed ?_; simp -dsimp) | refine And.intro (by first | rfl | omega | decide | (simp; done) | (simp; omega) | (intros; simp_all; done)) ?_)
            cases m with
            | zero =>
              rw [pMany] at ho1
              simp only [Option.map_some, List.append_nil] at ho1
              refine WP.cond (b := false) (by simp; omega) (fun h => by cases h) (fun _ => ?_)
              refine WP.exit ?_
              simp -dsimp
              repeat (first | refine WP.seq ?_ | refine WP.block ?_ | (refine WP.region Try.tab ?_; simp -dsimp) | (refine WP.draw Try.tab Try.mixed ?_; simp -dsimp) | refine And.intro (by first | rfl | omega | decide | (simp; done) | (simp; omega) | (intros; simp_all; done)) ?_)
              refine WP.ret (finQ.retWE (Wk.freeze (k := 500) (T := 24) (sz := 4) (ds := V.cellsL l) (by simp; rfl)) ?_)
              simp [← ho1, rv, ro, V.d, V.cells]
            | succ m =>
              rw [pMany] at ho1
              refine WP.cond (b := true) (by simp; omega) (fun _ => ?_) (fun h => by cases h)
              refine WP.skip ?_
              simp -dsimp
              have e1 : IntKind.i64.wrap ((l.length : Int) + 1) = (l.length : Int) + 1 := IntWalk.i64_in _ (by omega)
              refine WP.seq (WP.block ?_)
              refine WP.draw Try.tab Try.mixed ?_
              simp -dsimp [hd2]
              have h32 := ih b rfl (by omega) r1 (d + 1) (by omega) hr2
              cases hv : pVal b r1 with
              | none =>
                have hn : o = none := by rw [← ho1, hv]; rfl
                refine vcStop.call Try.body32 (f32_no_of h32 hv) (rl [(0, 600)]) rfl rfl (by simp [BoxLeq]) (CallOk.of (by simp [BoxLeq]) rfl (by first | rfl | (simp [BoxLeq]; done)) (by simp [BoxLeq]) (by simp [BoxLeq])) (fun _ h => by first | exact h | exact ⟨by assumption, h⟩) (fun _ _ h => by cases h) (fun _ _ _ => rfl) (by simp [BoxLeq]) ?_
                simp -dsimp [V.d, V.cells, V.cellsL]
                repeat refine And.intro (by first | rfl | omega | decide | (simp; done) | (simp; omega) | (intros; simp_all; done)) ?_
                refine WP.absurdB 600 (by simp)
              | some x =>
                obtain ⟨⟨k2, n2, s2, l2⟩, r2⟩ := x
                have hle2 := pVal_le b _ _ _ hv
                rw [hv] at ho1
                simp only at ho1
                refine vcStop.call Try.body32 (f32_ok_of h32 hv) (rl []) rfl rfl (by simp [BoxLeq]) (CallOk.of (by simp [BoxLeq]) rfl (by first | rfl | (simp [BoxLeq]; done)) (by simp [BoxLeq]) (by simp [BoxLeq])) (fun _ h => h.elim) (fun ⟨_, h⟩ => h.elim) (fun ⟨_, h⟩ => h.elim) (by simp [BoxLeq]) ?_
                simp -dsimp [V.d, V.cells]
                repeat (first | refine WP.seq ?_ | refine WP.block ?_ | (refine WP.region Try.tab ?_; simp -dsimp) | (refine WP.draw Try.tab Try.mixed ?_; simp -dsimp) | refine And.intro (by first | rfl | omega | decide | (simp; done) | (simp; omega) | (intros; simp_all; done)) ?_)
                refine loopW.next (s32 d n (l ++ [V.mk k2 n2 s2 l2]).length (l ++ [V.mk k2 n2 s2 l2]) r2) (Wk.go [45] 46 500 (by decide) (by simp [s32]) (by simp [s32, e1]) (by simp [s32, hb, V.cellsL_append, V.cellsL, V.cells])) m (by omega)
                  ⟨l ++ [V.mk k2 n2 s2 l2], r2, by simp; omega, by omega, ?_, rfl⟩
                rw [← ho1]
                cases pMany (pVal b) m r2 with
                | none => rfl
                | some y => simp
      · have hb3 : ¬ c.toNat = 3 := of_decide_eq_false hb
        have hn : o = none := by rw [← ho, pVal_x _ _ hb1 hb2 hb3]
        repeat (first | refine WP.seq ?_ | refine WP.block ?_ | (refine WP.region Try.tab ?_; simp -dsimp) | (refine WP.draw Try.tab Try.mixed ?_; simp -dsimp) | refine And.intro (by first | rfl | omega | decide | (simp; done) | (simp; omega) | (intros; simp_all; done)) ?_)
        refine vcStop.call Try.body33 (f33_no) (rl [(0, 600)]) rfl rfl (by simp [BoxLeq]) (CallOk.of (by simp [BoxLeq]) rfl (by first | rfl | (simp [BoxLeq]; done)) (by simp [BoxLeq]) (by simp [BoxLeq])) (fun _ h => by first | exact h | exact ⟨by assumption, h⟩) (fun _ _ h => by cases h) (fun _ _ _ => rfl) (by simp [BoxLeq]) ?_
        simp -dsimp
        repeat refine And.intro (by first | rfl | omega | decide | (simp; done) | (simp; omega) | (intros; simp_all; done)) ?_
        refine WP.absurdB 600 (by simp)
theorem f32_N : ∀ b, f32_C b
  | 0 => f32_of 0 fun b' h => by omega
  | b + 1 => f32_of (b + 1) fun b' h => (Nat.succ.inj h) ▸ f32_N b
end Go.Proofs.Ytnbanfpelgcmoaa
