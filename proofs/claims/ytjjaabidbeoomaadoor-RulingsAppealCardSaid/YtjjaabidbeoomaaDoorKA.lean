/-
  Joined texts.
-/
import Derived.Test.YtjjaabidbeoomaaDoorKKp
import Derived.Test.YtjjaabidbeoomaaDoorKTab
import Derived.Test.YtjjaabidbeoomaaDoorKF
import Derived.Test.YtjjaabidbeoomaaDoorKQb
set_option linter.unusedVariables false
set_option linter.unusedSimpArgs false
set_option linter.unusedSectionVars false
/-
  Rulings, in plain lists.
-/
set_option linter.unusedSimpArgs false
set_option linter.unusedVariables false
namespace Go.Proofs.YtjjaabidbeoomaaDoor
open Go.Xe Go.RowKit

/-! ### lists in canonical order -/
theorem cmp_irr (a : F) : ¬ cmpF a a < 0 := fun h => by have := cmp_fact.anti a a; omega
theorem cmp_asy {a b : F} (h : cmpF a b < 0) : ¬ cmpF b a < 0 := fun h' => by have := cmp_fact.anti a b; omega
abbrev Asc (l : List F) : Prop := l.Pairwise fun a b => cmpF a b < 0
theorem asc_eq : ∀ {A B : List F}, Asc A → Asc B → (∀ x, x ∈ A ↔ x ∈ B) → A = B
  | [], [], _, _, _ => rfl
  | [], b :: B, _, _, h => absurd ((h b).2 (by simp)) (by simp)
  | a :: A, [], _, _, h => absurd ((h a).1 (by simp)) (by simp)
  | a :: A, b :: B, ha, hb, h => by
    obtain ⟨ha1, ha2⟩ := List.pairwise_cons.1 ha
    obtain ⟨hb1, hb2⟩ := List.pairwise_cons.1 hb
    have e : a = b := by
      rcases List.mem_cons.1 ((h a).1 (by simp)) with e | h1
      · exact e
      · rcases List.mem_cons.1 ((h b).2 (by simp)) with e | h2
        · exact e.symm
        · exact absurd (hb1 a h1) (cmp_asy (ha1 b h2))
    subst e
    rw [asc_eq ha2 hb2 fun x => ?_]
    constructor
    · intro hx
      rcases List.mem_cons.1 ((h x).1 (by simp [hx])) with e | h1
      · subst e; exact absurd (ha1 x hx) (cmp_irr _)
      · exact h1
    · intro hx
      rcases List.mem_cons.1 ((h x).2 (by simp [hx])) with e | h1
      · subst e; exact absurd (hb1 x hx) (cmp_irr _)
      · exact h1
/-- The valid facts of a list, in order, each once. -/
structure Canon (l c : List F) : Prop where
  asc : Asc c
  mem : ∀ f, f ∈ c ↔ f ∈ l ∧ (numF f).2 = true
theorem Canon.unique {l c c' : List F} (h : Canon l c) (h' : Canon l c') : c = c' := asc_eq h.asc h'.asc fun x => (h.mem x).trans (h'.mem x).symm
theorem Canon.same {l l' c : List F} (h : Canon l c) (hs : ∀ f, (numF f).2 = true → (f ∈ l ↔ f ∈ l')) : Canon l' c :=
  ⟨h.asc, fun f => by rw [h.mem f]; exact ⟨fun ⟨h1, h2⟩ => ⟨(hs f h2).1 h1, h2⟩, fun ⟨h1, h2⟩ => ⟨(hs f h2).2 h1, h2⟩⟩⟩
theorem asc_nodup {c : List F} (h : Asc c) : c.Nodup := h.imp fun {a b} hl e => by subst e; exact cmp_irr _ hl
theorem asc_filter {c : List F} (h : Asc c) (p : F → Bool) : Asc (c.filter p) := h.sublist List.filter_sublist

/-! ### what is known of a case -/
def isRul (n i : Int) (f : F) : Bool := decide (f 3 = 10) && (decide (f 47 = n) && decide (f 48 = i))
def isRep (n : Int) (f : F) : Bool := decide (f 3 = 8) && decide (f 39 = n)
def isApp (n : Int) (f : F) : Bool := decide (f 3 = 11) && (decide (f 54 = 1) && decide (f 53 = n))
/-- The case of which a fact says something. -/
def caseF (f : F) : Option Int := if f 3 = 10 then some (f 47) else if f 3 = 8 then some (f 39) else if f 3 = 11 ∧ f 54 = 1 then some (f 53) else none
structure Fl where
  n : Int
  r : Int → List F
  rep : List F
  app : Bool
def fileOf (c : List F) (n : Int) : Fl := ⟨n, fun i => c.filter (isRul n i), c.filter (isRep n), c.any (isApp n)⟩
/-- The cases, as they turn up. -/
def stepN (o : Option Int) (a : List Int) : List Int := match o with
  | some n => if n ∈ a then a else a ++ [n]
  | none => a
def numsL : List F → List Int → List Int
  | [], a => a
  | f :: c, a => numsL c (stepN (caseF f) a)
def susB (x : Fl) : Bool := x.app && (decide (0 < (x.r 1).length) && decide ((x.r 2).length = 0))
def forceO (x : Fl) : Option F := if susB x = true then none else match (x.r 2).head? with
  | some f => some f
  | none => (x.r 1).head?
theorem numsL_snoc (f : F) : ∀ (c : List F) (a : List Int), numsL (c ++ [f]) a = stepN (caseF f) (numsL c a)
  | [], a => rfl
  | g :: c, a => numsL_snoc f c _
theorem stepN_in (o : Option Int) (a : List Int) (n : Int) : n ∈ stepN o a ↔ n ∈ a ∨ o = some n := by
  cases o with
  | none => simp [stepN]
  | some m =>
    simp only [stepN]
    split
    · rename_i h
      simp only [Option.some.injEq]
      constructor
      · exact .inl
      · rintro (h' | rfl)
        · exact h'
        · exact h
    · simp [eq_comm]
theorem numsL_in : ∀ (c : List F) (a : List Int) (n : Int), n ∈ numsL c a ↔ n ∈ a ∨ ∃ f ∈ c, caseF f = some n
  | [], a, n => by simp [numsL]
  | f :: c, a, n => by rw [numsL, numsL_in c _ n, stepN_in]; simp [or_assoc]
theorem numsL_nodup : ∀ (c : List F) (a : List Int), a.Nodup → (numsL c a).Nodup
  | [], _, h => h
  | f :: c, a, h => by
    refine numsL_nodup c _ ?_
    cases caseF f with
    | none => exact h
    | some m =>
      simp only [stepN]
      split
      · exact h
      · rename_i hm
        exact List.nodup_append.2 ⟨h, by simp, fun x hx y hy e => by rw [List.mem_singleton] at hy; subst hy; subst e; exact hm hx⟩

/-! ### the cases in order -/
abbrev AscI (l : List Int) : Prop := l.Pairwise fun a b => a < b
theorem ascI_eq : ∀ {A B : List Int}, AscI A → AscI B → (∀ x, x ∈ A ↔ x ∈ B) → A = B
  | [], [], _, _, _ => rfl
  | [], b :: B, _, _, h => absurd ((h b).2 (by simp)) (by simp)
  | a :: A, [], _, _, h => absurd ((h a).1 (by simp)) (by simp)
  | a :: A, b :: B, ha, hb, h => by
    obtain ⟨ha1, ha2⟩ := List.pairwise_cons.1 ha
    obtain ⟨hb1, hb2⟩ := List.pairwise_cons.1 hb
    have e : a = b := by
      rcases List.mem_cons.1 ((h a).1 (by simp)) with e | h1
      · exact e
      · rcases List.mem_cons.1 ((h b).2 (by simp)) with e | h2
        · exact e.symm
        · have := hb1 a h1; have := ha1 b h2; omega
    subst e
    rw [ascI_eq ha2 hb2 fun x => ?_]
    constructor
    · intro hx
      rcases List.mem_cons.1 ((h x).1 (by simp [hx])) with e | h1
      · subst e; have := ha1 x hx; omega
      · exact h1
    · intro hx
      rcases List.mem_cons.1 ((h x).2 (by simp [hx])) with e | h1
      · subst e; have := hb1 x hx; omega
      · exact h1
/-- The cases of which something is known, in order. -/
structure Cases (c : List F) (ns : List Int) : Prop where
  asc : AscI ns
  mem : ∀ n, n ∈ ns ↔ ∃ f ∈ c, caseF f = some n
theorem Cases.unique {c : List F} {a b : List Int} (h : Cases c a) (h' : Cases c b) : a = b := ascI_eq h.asc h'.asc fun x => (h.mem x).trans (h'.mem x).symm
/-- Insertion sort, for the definition alone. -/
def insI (n : Int) : List Int → List Int
  | [] => [n]
  | m :: l => if n < m then n :: m :: l else if n = m then m :: l else m :: insI n l
theorem insI_in (n : Int) : ∀ (l : List Int) (x : Int), x ∈ insI n l ↔ x = n ∨ x ∈ l
  | [], x => by simp [insI]
  | m :: l, x => by
    rw [insI]
    split
    · simp
    · split
      · rename_i h; subst h; simp
      · simp only [List.mem_cons, insI_in n l x]
        constructor
        · rintro (h | h | h)
          · exact .inr (.inl h)
          · exact .inl h
          · exact .inr (.inr h)
        · rintro (h | h | h)
          · exact .inr (.inl h)
          · exact .inl h
          · exact .inr (.inr h)
theorem insI_asc (n : Int) : ∀ {l : List Int}, AscI l → AscI (insI n l)
  | [], _ => by simp [insI]
  | m :: l, h => by
    obtain ⟨h1, h2⟩ := List.pairwise_cons.1 h
    rw [insI]
    split
    · rename_i hn
      refine List.pairwise_cons.2 ⟨fun x hx => ?_, h⟩
      rcases List.mem_cons.1 hx with rfl | hx
      · exact hn
      · have := h1 x hx; omega
    · split
      · exact h
      · rename_i hn hne
        refine List.pairwise_cons.2 ⟨fun x hx => ?_, insI_asc n h2⟩
        rcases (insI_in n l x).1 hx with rfl | hx
        · omega
        · exact h1 x hx
def casesL (c : List F) : List Int := (numsL c []).foldr insI []
theorem casesL_ok (c : List F) : Cases c (casesL c) := by
  have key : ∀ l : List Int, AscI (l.foldr insI []) ∧ ∀ n, n ∈ l.foldr insI [] ↔ n ∈ l := by
    intro l
    induction l with
    | nil => exact ⟨List.Pairwise.nil, fun n => Iff.rfl⟩
    | cons x l ih => exact ⟨insI_asc x ih.1, fun n => by rw [List.foldr_cons, insI_in, ih.2]; simp⟩
  refine ⟨(key _).1, fun n => ?_⟩
  rw [casesL, (key _).2, numsL_in]
  simp
def allO (c : List F) : List F := (casesL c).filterMap fun n => forceO (fileOf c n)
def repO (c : List F) : List F := (casesL c).filterMap fun n => (fileOf c n).rep.head?
/-- Rulings that are not the first of their instance. -/
def voidO (c : List F) : List F := c.filter fun f => decide (f 3 = 10) && c.any fun g => isRul (f 47) (f 48) g && decide (cmpF g f < 0)
end Go.Proofs.YtjjaabidbeoomaaDoor

/-
  The laying of the library's sort at facts and at files.
-/
set_option linter.unusedSimpArgs false
set_option linter.unusedVariables false
namespace Go.Proofs.YtjjaabidbeoomaaDoor
open Go.Xe Go.RowKit

def factSortR : Go.Shelf.Ren := ⟨fun n => match n with
  | 6 => 37
  | 14 => 54
  | 15 => 55
  | 20 => 59
  | 21 => 60
  | 22 => 61
  | 23 => 62
  | 24 => 63
  | 25 => 64
  | 26 => 65
  | 27 => 66
  | 28 => 67
  | 29 => 68
  | 46 => 83
  | 47 => 84
  | 48 => 85
  | 49 => 86
  | 50 => 87
  | 57 => 91
  | n => n, fun n => match n with
  | 0 => 0
  | 3 => 3
  | 4 => 4
  | 5 => 5
  | 9 => 9
  | 22 => 22
  | 24 => 49
  | 25 => 64
  | 39 => 131
  | 45 => 140
  | 46 => 141
  | 50 => 145
  | 53 => 148
  | 55 => 150
  | 66 => 161
  | 70 => 93
  | 76 => 169
  | 77 => 170
  | n => n, fun n => n⟩
set_option maxRecDepth 100000 in
theorem factSort_lay : Go.Proofs.SlLaysF0.n6 Tryd.prog factSortR where
  mixed := Tryd.mixed
  f6 := ⟨(Tryd.f37).name, by kernel_rfl, by kernel_rfl⟩
  f14 := ⟨(Tryd.f54).name, by kernel_rfl, by kernel_rfl⟩
  f15 := by kernel_rfl
  f20 := ⟨(Tryd.f59).name, by kernel_rfl, by kernel_rfl⟩
  f21 := ⟨(Tryd.f60).name, by kernel_rfl, by kernel_rfl⟩
  f22 := ⟨(Tryd.f61).name, by kernel_rfl, by kernel_rfl⟩
  f23 := ⟨(Tryd.f62).name, by kernel_rfl, by kernel_rfl⟩
  f24 := ⟨(Tryd.f63).name, by kernel_rfl, by kernel_rfl⟩
  f25 := ⟨(Tryd.f64).name, by kernel_rfl, by kernel_rfl⟩
  f26 := ⟨(Tryd.f65).name, by kernel_rfl, by kernel_rfl⟩
  f27 := ⟨(Tryd.f66).name, by kernel_rfl, by kernel_rfl⟩
  f28 := by kernel_rfl
  f29 := by kernel_rfl
  f46 := ⟨(Tryd.f83).name, by kernel_rfl, by kernel_rfl⟩
  f47 := by kernel_rfl
  f48 := by kernel_rfl
  f49 := ⟨(Tryd.f86).name, by kernel_rfl, by kernel_rfl⟩
  f50 := ⟨(Tryd.f87).name, by kernel_rfl, by kernel_rfl⟩
  f57 := ⟨(Tryd.f91).name, by kernel_rfl, by kernel_rfl⟩
  t0 := Tryd.underlying0
  a0 := Tryd.isAgg0
  z0 := Tryd.sizeOf0
  v0 := Tryd.zeroValue0
  t3 := Tryd.underlying3
  a3 := Tryd.isAgg3
  z3 := Tryd.sizeOf3
  v3 := Tryd.zeroValue3
  t4 := Tryd.underlying4
  a4 := Tryd.isAgg4
  z4 := Tryd.sizeOf4
  v4 := Tryd.zeroValue4
  t5 := Tryd.underlying5
  a5 := Tryd.isAgg5
  z5 := Tryd.sizeOf5
  v5 := Tryd.zeroValue5
  t9 := Tryd.underlying9
  a9 := Tryd.isAgg9
  z9 := Tryd.sizeOf9
  v9 := Tryd.zeroValue9
  t22 := Tryd.underlying22
  a22 := Tryd.isAgg22
  z22 := Tryd.sizeOf22
  v22 := Tryd.zeroValue22
  t25 := Tryd.underlying64
  a25 := Tryd.isAgg64
  z25 := Tryd.sizeOf64
  v25 := Tryd.zeroValue64
  t39 := Tryd.underlying131
  a39 := Tryd.isAgg131
  z39 := Tryd.sizeOf131
  v39 := Tryd.zeroValue131
  t45 := Tryd.underlying140
  a45 := Tryd.isAgg140
  z45 := Tryd.sizeOf140
  v45 := Tryd.zeroValue140
  t46 := Tryd.underlying141
  a46 := Tryd.isAgg141
  z46 := Tryd.sizeOf141
  v46 := Tryd.zeroValue141
  t50 := Tryd.underlying145
  a50 := Tryd.isAgg145
  z50 := Tryd.sizeOf145
  v50 := Tryd.zeroValue145
  t53 := Tryd.underlying148
  a53 := Tryd.isAgg148
  z53 := Tryd.sizeOf148
  v53 := Tryd.zeroValue148
  t55 := Tryd.underlying150
  a55 := Tryd.isAgg150
  z55 := Tryd.sizeOf150
  v55 := Tryd.zeroValue150
  t66 := Tryd.underlying161
  a66 := Tryd.isAgg161
  z66 := Tryd.sizeOf161
  v66 := Tryd.zeroValue161
  t70 := Tryd.underlying93
  a70 := Tryd.isAgg93
  z70 := Tryd.sizeOf93
  v70 := Tryd.zeroValue93
  t76 := Tryd.underlying169
  a76 := Tryd.isAgg169
  z76 := Tryd.sizeOf169
  v76 := Tryd.zeroValue169
  t77 := Tryd.underlying170
  a77 := Tryd.isAgg170
  z77 := Tryd.sizeOf170
  v77 := Tryd.zeroValue170

def fileSortR : Go.Shelf.Ren := ⟨fun n => match n with
  | 6 => 51
  | 14 => 58
  | 15 => 55
  | 20 => 75
  | 21 => 76
  | 22 => 77
  | 23 => 78
  | 24 => 79
  | 25 => 80
  | 26 => 81
  | 27 => 82
  | 28 => 67
  | 29 => 68
  | 46 => 88
  | 47 => 84
  | 48 => 85
  | 49 => 89
  | 50 => 90
  | 57 => 92
  | n => n, fun n => match n with
  | 0 => 0
  | 3 => 3
  | 4 => 4
  | 5 => 5
  | 9 => 9
  | 22 => 72
  | 24 => 74
  | 25 => 103
  | 39 => 131
  | 45 => 140
  | 46 => 141
  | 50 => 145
  | 53 => 148
  | 55 => 150
  | 66 => 161
  | 70 => 93
  | 76 => 169
  | 77 => 170
  | n => n, fun n => n⟩
set_option maxRecDepth 100000 in
theorem fileSort_lay : Go.Proofs.SlLaysF0.n6 Tryd.prog fileSortR where
  mixed := Tryd.mixed
  f6 := ⟨(Tryd.f51).name, by kernel_rfl, by kernel_rfl⟩
  f14 := ⟨(Tryd.f58).name, by kernel_rfl, by kernel_rfl⟩
  f15 := by kernel_rfl
  f20 := ⟨(Tryd.f75).name, by kernel_rfl, by kernel_rfl⟩
  f21 := ⟨(Tryd.f76).name, by kernel_rfl, by kernel_rfl⟩
  f22 := ⟨(Tryd.f77).name, by kernel_rfl, by kernel_rfl⟩
  f23 := ⟨(Tryd.f78).name, by kernel_rfl, by kernel_rfl⟩
  f24 := ⟨(Tryd.f79).name, by kernel_rfl, by kernel_rfl⟩
  f25 := ⟨(Tryd.f80).name, by kernel_rfl, by kernel_rfl⟩
  f26 := ⟨(Tryd.f81).name, by kernel_rfl, by kernel_rfl⟩
  f27 := ⟨(Tryd.f82).name, by kernel_rfl, by kernel_rfl⟩
  f28 := by kernel_rfl
  f29 := by kernel_rfl
  f46 := ⟨(Tryd.f88).name, by kernel_rfl, by kernel_rfl⟩
  f47 := by kernel_rfl
  f48 := by kernel_rfl
  f49 := ⟨(Tryd.f89).name, by kernel_rfl, by kernel_rfl⟩
  f50 := ⟨(Tryd.f90).name, by kernel_rfl, by kernel_rfl⟩
  f57 := ⟨(Tryd.f92).name, by kernel_rfl, by kernel_rfl⟩
  t0 := Tryd.underlying0
  a0 := Tryd.isAgg0
  z0 := Tryd.sizeOf0
  v0 := Tryd.zeroValue0
  t3 := Tryd.underlying3
  a3 := Tryd.isAgg3
  z3 := Tryd.sizeOf3
  v3 := Tryd.zeroValue3
  t4 := Tryd.underlying4
  a4 := Tryd.isAgg4
  z4 := Tryd.sizeOf4
  v4 := Tryd.zeroValue4
  t5 := Tryd.underlying5
  a5 := Tryd.isAgg5
  z5 := Tryd.sizeOf5
  v5 := Tryd.zeroValue5
  t9 := Tryd.underlying9
  a9 := Tryd.isAgg9
  z9 := Tryd.sizeOf9
  v9 := Tryd.zeroValue9
  t22 := Tryd.underlying72
  a22 := Tryd.isAgg72
  z22 := Tryd.sizeOf72
  v22 := Tryd.zeroValue72
  t25 := Tryd.underlying103
  a25 := Tryd.isAgg103
  z25 := Tryd.sizeOf103
  v25 := Tryd.zeroValue103
  t39 := Tryd.underlying131
  a39 := Tryd.isAgg131
  z39 := Tryd.sizeOf131
  v39 := Tryd.zeroValue131
  t45 := Tryd.underlying140
  a45 := Tryd.isAgg140
  z45 := Tryd.sizeOf140
  v45 := Tryd.zeroValue140
  t46 := Tryd.underlying141
  a46 := Tryd.isAgg141
  z46 := Tryd.sizeOf141
  v46 := Tryd.zeroValue141
  t50 := Tryd.underlying145
  a50 := Tryd.isAgg145
  z50 := Tryd.sizeOf145
  v50 := Tryd.zeroValue145
  t53 := Tryd.underlying148
  a53 := Tryd.isAgg148
  z53 := Tryd.sizeOf148
  v53 := Tryd.zeroValue148
  t55 := Tryd.underlying150
  a55 := Tryd.isAgg150
  z55 := Tryd.sizeOf150
  v55 := Tryd.zeroValue150
  t66 := Tryd.underlying161
  a66 := Tryd.isAgg161
  z66 := Tryd.sizeOf161
  v66 := Tryd.zeroValue161
  t70 := Tryd.underlying93
  a70 := Tryd.isAgg93
  z70 := Tryd.sizeOf93
  v70 := Tryd.zeroValue93
  t76 := Tryd.underlying169
  a76 := Tryd.isAgg169
  z76 := Tryd.sizeOf169
  v76 := Tryd.zeroValue169
  t77 := Tryd.underlying170
  a77 := Tryd.isAgg170
  z77 := Tryd.sizeOf170
  v77 := Tryd.zeroValue170

def fileSortIR : Go.Shelf.Ren := ⟨fun n => match n with
  | 6 => 51
  | 14 => 58
  | 15 => 55
  | 20 => 75
  | 21 => 76
  | 22 => 77
  | 23 => 78
  | 24 => 79
  | 25 => 80
  | 26 => 81
  | 27 => 82
  | 28 => 67
  | 29 => 68
  | 46 => 88
  | 47 => 84
  | 48 => 85
  | 49 => 89
  | 50 => 90
  | 57 => 92
  | n => n, fun n => match n with
  | 0 => 0
  | 3 => 3
  | 4 => 4
  | 5 => 5
  | 9 => 9
  | 22 => 72
  | 24 => 74
  | 25 => 103
  | 39 => 131
  | 45 => 140
  | 46 => 141
  | 50 => 145
  | 53 => 148
  | 55 => 150
  | 66 => 161
  | 70 => 93
  | 76 => 169
  | 77 => 170
  | n => n, fun n => n⟩
set_option maxRecDepth 100000 in
theorem fileSortI_lay : Go.Proofs.SlLaysF.n6 Tryd.prog fileSortIR where
  mixed := Tryd.mixed
  f6 := ⟨(Tryd.f51).name, by kernel_rfl, by kernel_rfl⟩
  f14 := ⟨(Tryd.f58).name, by kernel_rfl, by kernel_rfl⟩
  f15 := by kernel_rfl
  f20 := ⟨(Tryd.f75).name, by kernel_rfl, by kernel_rfl⟩
  f21 := ⟨(Tryd.f76).name, by kernel_rfl, by kernel_rfl⟩
  f22 := ⟨(Tryd.f77).name, by kernel_rfl, by kernel_rfl⟩
  f23 := ⟨(Tryd.f78).name, by kernel_rfl, by kernel_rfl⟩
  f24 := ⟨(Tryd.f79).name, by kernel_rfl, by kernel_rfl⟩
  f25 := ⟨(Tryd.f80).name, by kernel_rfl, by kernel_rfl⟩
  f26 := ⟨(Tryd.f81).name, by kernel_rfl, by kernel_rfl⟩
  f27 := ⟨(Tryd.f82).name, by kernel_rfl, by kernel_rfl⟩
  f28 := by kernel_rfl
  f29 := by kernel_rfl
  f46 := ⟨(Tryd.f88).name, by kernel_rfl, by kernel_rfl⟩
  f47 := by kernel_rfl
  f48 := by kernel_rfl
  f49 := ⟨(Tryd.f89).name, by kernel_rfl, by kernel_rfl⟩
  f50 := ⟨(Tryd.f90).name, by kernel_rfl, by kernel_rfl⟩
  f57 := ⟨(Tryd.f92).name, by kernel_rfl, by kernel_rfl⟩
  t0 := Tryd.underlying0
  a0 := Tryd.isAgg0
  z0 := Tryd.sizeOf0
  v0 := Tryd.zeroValue0
  t3 := Tryd.underlying3
  a3 := Tryd.isAgg3
  z3 := Tryd.sizeOf3
  v3 := Tryd.zeroValue3
  t4 := Tryd.underlying4
  a4 := Tryd.isAgg4
  z4 := Tryd.sizeOf4
  v4 := Tryd.zeroValue4
  t5 := Tryd.underlying5
  a5 := Tryd.isAgg5
  z5 := Tryd.sizeOf5
  v5 := Tryd.zeroValue5
  t9 := Tryd.underlying9
  a9 := Tryd.isAgg9
  z9 := Tryd.sizeOf9
  v9 := Tryd.zeroValue9
  t22 := Tryd.underlying72
  a22 := Tryd.isAgg72
  z22 := Tryd.sizeOf72
  v22 := Tryd.zeroValue72
  a24 := Tryd.isAgg74
  z24 := Tryd.sizeOf74
  t25 := Tryd.underlying103
  a25 := Tryd.isAgg103
  z25 := Tryd.sizeOf103
  v25 := Tryd.zeroValue103
  t39 := Tryd.underlying131
  a39 := Tryd.isAgg131
  z39 := Tryd.sizeOf131
  v39 := Tryd.zeroValue131
  t45 := Tryd.underlying140
  a45 := Tryd.isAgg140
  z45 := Tryd.sizeOf140
  v45 := Tryd.zeroValue140
  t46 := Tryd.underlying141
  a46 := Tryd.isAgg141
  z46 := Tryd.sizeOf141
  v46 := Tryd.zeroValue141
  t50 := Tryd.underlying145
  a50 := Tryd.isAgg145
  z50 := Tryd.sizeOf145
  v50 := Tryd.zeroValue145
  t53 := Tryd.underlying148
  a53 := Tryd.isAgg148
  z53 := Tryd.sizeOf148
  v53 := Tryd.zeroValue148
  t55 := Tryd.underlying150
  a55 := Tryd.isAgg150
  z55 := Tryd.sizeOf150
  v55 := Tryd.zeroValue150
  t66 := Tryd.underlying161
  a66 := Tryd.isAgg161
  z66 := Tryd.sizeOf161
  v66 := Tryd.zeroValue161
  t70 := Tryd.underlying93
  a70 := Tryd.isAgg93
  z70 := Tryd.sizeOf93
  v70 := Tryd.zeroValue93
  t76 := Tryd.underlying169
  a76 := Tryd.isAgg169
  z76 := Tryd.sizeOf169
  v76 := Tryd.zeroValue169
  t77 := Tryd.underlying170
  a77 := Tryd.isAgg170
  z77 := Tryd.sizeOf170
  v77 := Tryd.zeroValue170

end Go.Proofs.YtjjaabidbeoomaaDoor

/-
  Rulings: facts in order, each once.
-/
set_option linter.unusedSimpArgs false
set_option linter.unusedVariables false
namespace Go.Proofs.YtjjaabidbeoomaaDoor
open Go.Xe Go.RowKit

def srtK (l : List Fk) : List Fk := srtL cmpK l
theorem srtK_len (l : List Fk) : (srtK l).length = l.length := srtL_len _ swo_cmp l
theorem sortFunc_ok (l : List Fk) (hl : l.length ≤ 1000000) : Fun Tryd.prog 37 [.row 1000, .d cmpD] [(1000, .row 49 57 l.length ((fsC (l.map (·.1))).map .d))] (.d .any) [(1000, .row 49 57 l.length ((fsC ((srtK l).map (·.1))).map .d))] fun _ => False := by
  have h := Fun.sortFunc (ρ := factSortR) factSort_lay 57 Tryd.isAgg49 Tryd.sizeOf49 fvs (fun x => by simp [fvs]) (fun x v hv => by
    rw [fvs, List.mem_map] at hv
    obtain ⟨i, _, rfl⟩ := hv
    unfold fval
    split <;> rfl) cmpK swo_cmp (g := 17) (run_enterFn Tryd.body17) (fun x y => by
    have h := factsCompare_ok x.1 y.1 x.2 y.2
    unfold fD at h
    rw [← fvs_fcs x, ← fvs_fcs y] at h
    exact h) l (by omega)
  rw [rowV_fsC, rowV_fsC] at h
  exact h
/-- A list's facts in order, each once. -/
def setF (l : List Fk) : List F := cmpt ((srtK l).map (·.1))
open Classical in
noncomputable def kOf (f : F) : Fk := if h : fOk f then ⟨f, h⟩ else default
theorem kOf_val : ∀ {l : List F}, (∀ f ∈ l, fOk f) → (l.map kOf).map (·.1) = l
  | [], _ => rfl
  | f :: l, h => by
    rw [List.map_cons, List.map_cons, kOf_val fun g hg => h g (by simp [hg])]
    congr 1
    rw [kOf, dif_pos (h f (by simp))]
theorem setF_nil : setF [] = [] := by
  have : srtK [] = [] := List.eq_nil_of_length_eq_zero (by rw [srtK_len]; rfl)
  rw [setF, this]
  rfl
/-- The valid facts of a list, in canonical order, each once. -/
noncomputable def canF (l : List F) : List F := setF ((l.filter fun f => (numF f).2).map kOf)
theorem setF_canon {l : List F} (hv : ∀ f ∈ l, vOk f) : Asc (setF (l.map kOf)) ∧ (∀ f, f ∈ setF (l.map kOf) ↔ f ∈ l) ∧ (setF (l.map kOf)).length ≤ l.length := by
  have hk := kOf_val fun f hf => (hv f hf).1
  obtain ⟨hp, hs⟩ := srtL_ok swo_cmp (l.map kOf)
  have hL : ((srtK (l.map kOf)).map (·.1)).Perm l := by
    have := hp.map (·.1)
    rw [hk] at this
    exact this
  have hs2 : ((srtK (l.map kOf)).map (·.1)).Pairwise fun a b => cmpF a b ≤ 0 := by
    rw [List.pairwise_map]
    refine hs.imp fun {a b} h => ?_
    rw [ltK, decide_eq_false_iff_not] at h
    have := cmp_fact.anti a.1 b.1
    omega
  have hvL : ∀ f ∈ (srtK (l.map kOf)).map (·.1), vOk f := fun f hf => hv f (hL.mem_iff.1 hf)
  refine ⟨cmpt_asc hvL hs2, fun f => (cmpt_mem hvL hs2 f).trans hL.mem_iff, ?_⟩
  have h1 : (setF (l.map kOf)).length ≤ ((srtK (l.map kOf)).map (·.1)).length := cN_len _ _
  rw [hL.length_eq] at h1
  exact h1
theorem canF_ok {l : List F} (hv : ∀ f ∈ l, fOk f) : Canon l (canF l) := by
  obtain ⟨h1, h2, _⟩ := setF_canon (l := l.filter fun f => (numF f).2) fun f hf => by
    obtain ⟨h1, h2⟩ := List.mem_filter.1 hf
    exact ⟨hv f h1, h2⟩
  exact ⟨h1, fun f => by rw [canF, h2, List.mem_filter]⟩
theorem canF_len {l : List F} (hv : ∀ f ∈ l, fOk f) : (canF l).length ≤ l.length := by
  obtain ⟨_, _, h3⟩ := setF_canon (l := l.filter fun f => (numF f).2) fun f hf => by
    obtain ⟨h1, h2⟩ := List.mem_filter.1 hf
    exact ⟨hv f h1, h2⟩
  exact Nat.le_trans h3 (List.length_filter_le _ _)
theorem sortFunc_nil : Fun Tryd.prog 37 [.d nilD, .d cmpD] [] (.d .any) [] fun _ => False := by
  have h := sortFunc_ok [] (by simp)
  have := srtK_len []
  have e : srtK [] = [] := List.eq_nil_of_length_eq_zero this
  rw [e] at h
  exact (Fun.nilRow (T := 49) (sz := 57) (h.res (.refl _) trivial) rfl rfl rfl rfl)
theorem sorted_nil : Fn0 Tryd.prog 23 [nilD, cmpD] nilD := by
  refine Fun.of_wp (pn := noPn) Tryd.tab Tryd.func23 rfl fun β0 => ?_
  simp only [Tryd.f23]
  repeat (first | refine WP.seq ?_ | refine WP.block ?_ | (refine WP.region Tryd.tab ?_; simp -dsimp) | (refine WP.draw Tryd.tab Tryd.mixed ?_; simp -dsimp) | refine And.intro (by first | rfl | omega | decide | (simp; done) | (simp; omega) | (intro _ h; exact fcs_side h; done) | (intros; simp_all; done) | (intros; simp_all; omega)) ?_)
  refine vcStop.call0 Tryd.body36 clone_nil rfl rfl (by simp) ?_
  simp -dsimp
  repeat (first | refine WP.seq ?_ | refine WP.block ?_ | (refine WP.region Tryd.tab ?_; simp -dsimp) | (refine WP.draw Tryd.tab Tryd.mixed ?_; simp -dsimp) | refine And.intro (by first | rfl | omega | decide | (simp; done) | (simp; omega) | (intro _ h; exact fcs_side h; done) | (intros; simp_all; done) | (intros; simp_all; omega)) ?_)
  refine vcStop.call Tryd.body37 (sortFunc_nil) (rl []) rfl rfl (by simp [BoxLeq]) (CallOk.of (by simp [BoxLeq]) rfl (by first | rfl | (simp [BoxLeq]; done)) (by simp [BoxLeq]) (by simp [BoxLeq])) (fun _ h => h.elim) (fun ⟨_, h⟩ => h.elim) (fun ⟨_, h⟩ => h.elim) (by simp [BoxLeq]) ?_
  simp -dsimp
  repeat (first | refine WP.seq ?_ | refine WP.block ?_ | (refine WP.region Tryd.tab ?_; simp -dsimp) | (refine WP.draw Tryd.tab Tryd.mixed ?_; simp -dsimp) | refine And.intro (by first | rfl | omega | decide | (simp; done) | (simp; omega) | (intro _ h; exact fcs_side h; done) | (intros; simp_all; done) | (intros; simp_all; omega)) ?_)
  refine vcStop.call Tryd.body38 (compact_nil) (rl [(1001, 3)]) rfl rfl (by simp [BoxLeq]) (CallOk.of (by simp [BoxLeq]) rfl (by first | rfl | (simp [BoxLeq]; done)) (by simp [BoxLeq]) (by simp [BoxLeq])) (fun _ h => h.elim) (fun ⟨_, h⟩ => h.elim) (fun ⟨_, h⟩ => h.elim) (by simp [BoxLeq]) ?_
  simp -dsimp
  repeat (first | refine WP.seq ?_ | refine WP.block ?_ | (refine WP.region Tryd.tab ?_; simp -dsimp) | (refine WP.draw Tryd.tab Tryd.mixed ?_; simp -dsimp) | refine And.intro (by first | rfl | omega | decide | (simp; done) | (simp; omega) | (intro _ h; exact fcs_side h; done) | (intros; simp_all; done) | (intros; simp_all; omega)) ?_)
  refine WP.ret (finQ.retE ?_)
  simp -dsimp
theorem sorted_ok (l : List Fk) (h0 : 0 < l.length) (hl : l.length ≤ 1000) : Fun Tryd.prog 23 [.row 1000, .d cmpD] [(1000, rB (l.map (·.1)))] (.row 0) [(1000, rB (l.map (·.1))), (0, rB (setF l))] fun _ => False := by
  have hk := srtK_len l
  refine Fun.of_wp (pn := noPn) Tryd.tab Tryd.func23 rfl fun β0 => ?_
  simp only [Tryd.f23]
  repeat (first | refine WP.seq ?_ | refine WP.block ?_ | (refine WP.region Tryd.tab ?_; simp -dsimp) | (refine WP.draw Tryd.tab Tryd.mixed ?_; simp -dsimp) | refine And.intro (by first | rfl | omega | decide | (simp; done) | (simp; omega) | (intro _ h; exact fcs_side h; done) | (intros; simp_all; done) | (intros; simp_all; omega)) ?_)
  refine vcStop.call Tryd.body36 (clone_row (l.map (·.1)) (by simpa using h0) (by simpa using hl)) (rl [(0, 600)]) rfl rfl (by simp [BoxLeq]) (CallOk.of (by simp [BoxLeq]) rfl (by first | rfl | (simp [BoxLeq]; done)) (by simp [BoxLeq]) (by simp [BoxLeq])) (fun _ h => h.elim) (fun ⟨_, h⟩ => h.elim) (fun ⟨_, h⟩ => h.elim) (by simp [BoxLeq]) ?_
  simp -dsimp
  repeat (first | refine WP.seq ?_ | refine WP.block ?_ | (refine WP.region Tryd.tab ?_; simp -dsimp) | (refine WP.draw Tryd.tab Tryd.mixed ?_; simp -dsimp) | refine And.intro (by first | rfl | omega | decide | (simp; done) | (simp; omega) | (intro _ h; exact fcs_side h; done) | (intros; simp_all; done) | (intros; simp_all; omega)) ?_)
  refine vcStop.call Tryd.body37 (sortFunc_ok l (by omega)) (rl [(1000, 600)]) rfl rfl (by simp [BoxLeq]) (CallOk.of (by simp [BoxLeq]) rfl (by first | rfl | (simp [BoxLeq]; done)) (by simp [BoxLeq]) (by simp [BoxLeq])) (fun _ h => h.elim) (fun ⟨_, h⟩ => h.elim) (fun ⟨_, h⟩ => h.elim) (by simp [BoxLeq]) ?_
  simp -dsimp
  repeat (first | refine WP.seq ?_ | refine WP.block ?_ | (refine WP.region Tryd.tab ?_; simp -dsimp) | (refine WP.draw Tryd.tab Tryd.mixed ?_; simp -dsimp) | refine And.intro (by first | rfl | omega | decide | (simp; done) | (simp; omega) | (intro _ h; exact fcs_side h; done) | (intros; simp_all; done) | (intros; simp_all; omega)) ?_)
  refine vcStop.call Tryd.body38 (compact_ok ((srtK l).map (·.1)) (by simp; omega) (fun f hf => by obtain ⟨x, _, rfl⟩ := List.mem_map.1 hf; exact x.2)) (rl [(1000, 600), (1001, 3), (0, 700)]) rfl rfl (by simp [hk, BoxLeq]) (CallOk.of (by simp [hk, BoxLeq]) rfl (by first | rfl | (simp [hk, BoxLeq]; done)) (by simp [hk, BoxLeq]) (by simp [hk, BoxLeq])) (fun _ h => h.elim) (fun ⟨_, h⟩ => h.elim) (fun ⟨_, h⟩ => h.elim) (by simp [hk, BoxLeq]) ?_
  simp -dsimp
  repeat (first | refine WP.seq ?_ | refine WP.block ?_ | (refine WP.region Tryd.tab ?_; simp -dsimp) | (refine WP.draw Tryd.tab Tryd.mixed ?_; simp -dsimp) | refine And.intro (by first | rfl | omega | decide | (simp; done) | (simp; omega) | (intro _ h; exact fcs_side h; done) | (intros; simp_all; done) | (intros; simp_all; omega)) ?_)
  refine WP.ret (finQ.retWE (S' := mkS 13 [(4, .row 0)] [(1000, rB (l.map (·.1))), (0, rB (setF l))]) (Wk.go [] 700 0 (by decide) (by simp) (by simp) (by simp [setF])) ?_)
  simp -dsimp
end Go.Proofs.YtjjaabidbeoomaaDoor
