/-
  Joined texts.
-/
import Derived.Test.YtjjaabidbeoomaaGreatDoorKKp
import Derived.Test.YtjjaabidbeoomaaGreatDoorKTab
import Derived.Test.YtjjaabidbeoomaaGreatDoorKF
import Derived.Test.YtjjaabidbeoomaaGreatDoorKQb
set_option linter.unusedVariables false
set_option linter.unusedSimpArgs false
set_option linter.unusedSectionVars false
/-
  Rulings, in plain lists.
-/
set_option linter.unusedSimpArgs false
set_option linter.unusedVariables false
namespace Go.Proofs.YtjjaabidbeoomaaGreatDoor
open Go.Xe Go.RowKit

/-! ### lists in canonical order -/
theorem cmp_irr (a : F) : ¬ cmpF a a < 0 := fun h => by have := cmp_fact.anti a a; omega
theorem cmp_asy {a b : F} (h : cmpF a b < 0) : ¬ cmpF b a < 0 := fun h' => by have := cmp_fact.anti a b; omega
abbrev Asc (l : List F) : Prop := l.Pairwise fun a b => cmpF a b < 0
theorem asc_eq : ∀ {A B : List F}, Asc A → Asc B → (∀ x, x ∈ A ↔ x ∈ B) → A = B
  | [], [], _, _, _ => rfl
  | [], b :: B, _, _, h => absurd ((h b).2 (by simp)) (by simp)
  | a :: A, [], _, _, h => absurd ((h a).1 (by simp)) (by simp)
  | a :: A, b :: B, ha, hb, h => by
    obtain ⟨ha1, ha2⟩ := List.pairwise_cons.1 ha
    obtain ⟨hb1, hb2⟩ := List.pairwise_cons.1 hb
    have e : a = b := by
      rcases List.mem_cons.1 ((h a).1 (by simp)) with e | h1
      · exact e
      · rcases List.mem_cons.1 ((h b).2 (by simp)) with e | h2
        · exact e.symm
        · exact absurd (hb1 a h1) (cmp_asy (ha1 b h2))
    subst e
    rw [asc_eq ha2 hb2 fun x => ?_]
    constructor
    · intro hx
      rcases List.mem_cons.1 ((h x).1 (by simp [hx])) with e | h1
      · subst e; exact absurd (ha1 x hx) (cmp_irr _)
      · exact h1
    · intro hx
      rcases List.mem_cons.1 ((h x).2 (by simp [hx])) with e | h1
      · subst e; exact absurd (hb1 x hx) (cmp_irr _)
      · exact h1
/-- The valid facts of a list, in order, each once. -/
structure Canon (l c : List F) : Prop where
  asc : Asc c
  mem : ∀ f, f ∈ c ↔ f ∈ l ∧ (numF f).2 = true
theorem Canon.unique {l c c' : List F} (h : Canon l c) (h' : Canon l c') : c = c' := asc_eq h.asc h'.asc fun x => (h.mem x).trans (h'.mem x).symm
theorem Canon.same {l l' c : List F} (h : Canon l c) (hs : ∀ f, (numF f).2 = true → (f ∈ l ↔ f ∈ l')) : Canon l' c :=
  ⟨h.asc, fun f => by rw [h.mem f]; exact ⟨fun ⟨h1, h2⟩ => ⟨(hs f h2).1 h1, h2⟩, fun ⟨h1, h2⟩ => ⟨(hs f h2).2 h1, h2⟩⟩⟩
theorem asc_filter {c : List F} (h : Asc c) (p : F → Bool) : Asc (c.filter p) := h.sublist List.filter_sublist

/-! ### what is known of a case -/
def isRul (n i : Int) (f : F) : Bool := decide (f 3 = 10) && (decide (f 47 = n) && decide (f 48 = i))
def isRep (n : Int) (f : F) : Bool := decide (f 3 = 8) && decide (f 39 = n)
def isApp (n : Int) (f : F) : Bool := decide (f 3 = 11) && (decide (f 54 = 1) && decide (f 53 = n))
/-- The case of which a fact says something. -/
def caseF (f : F) : Option Int := if f 3 = 10 then some (f 47) else if f 3 = 8 then some (f 39) else if f 3 = 11 ∧ f 54 = 1 then some (f 53) else none
structure Fl where
  n : Int
  r : Int → List F
  rep : List F
  app : Bool
def fileOf (c : List F) (n : Int) : Fl := ⟨n, fun i => c.filter (isRul n i), c.filter (isRep n), c.any (isApp n)⟩
/-- The cases, as they turn up. -/
def stepN (o : Option Int) (a : List Int) : List Int := match o with
  | some n => if n ∈ a then a else a ++ [n]
  | none => a
def numsL : List F → List Int → List Int
  | [], a => a
  | f :: c, a => numsL c (stepN (caseF f) a)
def susB (x : Fl) : Bool := x.app && (decide (0 < (x.r 1).length) && decide ((x.r 2).length = 0))
def forceO (x : Fl) : Option F := if susB x = true then none else match (x.r 2).head? with
  | some f => some f
  | none => (x.r 1).head?
theorem numsL_snoc (f : F) : ∀ (c : List F) (a : List Int), numsL (c ++ [f]) a = stepN (caseF f) (numsL c a)
  | [], a => rfl
  | g :: c, a => numsL_snoc f c _
theorem stepN_in (o : Option Int) (a : List Int) (n : Int) : n ∈ stepN o a ↔ n ∈ a ∨ o = some n := by
  cases o with
  | none => simp [stepN]
  | some m =>
    simp only [stepN]
    split
    · rename_i h
      simp only [Option.some.injEq]
      constructor
      · exact .inl
      · rintro (h' | rfl)
        · exact h'
        · exact h
    · simp [eq_comm]
theorem numsL_in : ∀ (c : List F) (a : List Int) (n : Int), n ∈ numsL c a ↔ n ∈ a ∨ ∃ f ∈ c, caseF f = some n
  | [], a, n => by simp [numsL]
  | f :: c, a, n => by rw [numsL, numsL_in c _ n, stepN_in]; simp [or_assoc]
theorem numsL_nodup : ∀ (c : List F) (a : List Int), a.Nodup → (numsL c a).Nodup
  | [], _, h => h
  | f :: c, a, h => by
    refine numsL_nodup c _ ?_
    cases caseF f with
    | none => exact h
    | some m =>
      simp only [stepN]
      split
      · exact h
      · rename_i hm
        exact List.nodup_append.2 ⟨h, by simp, fun x hx y hy e => by rw [List.mem_singleton] at hy; subst hy; subst e; exact hm hx⟩

/-! ### the cases in order -/
abbrev AscI (l : List Int) : Prop := l.Pairwise fun a b => a < b
theorem ascI_eq : ∀ {A B : List Int}, AscI A → AscI B → (∀ x, x ∈ A ↔ x ∈ B) → A = B
  | [], [], _, _, _ => rfl
  | [], b :: B, _, _, h => absurd ((h b).2 (by simp)) (by simp)
  | a :: A, [], _, _, h => absurd ((h a).1 (by simp)) (by simp)
  | a :: A, b :: B, ha, hb, h => by
    obtain ⟨ha1, ha2⟩ := List.pairwise_cons.1 ha
    obtain ⟨hb1, hb2⟩ := List.pairwise_cons.1 hb
    have e : a = b := by
      rcases List.mem_cons.1 ((h a).1 (by simp)) with e | h1
      · exact e
      · rcases List.mem_cons.1 ((h b).2 (by simp)) with e | h2
        · exact e.symm
        · have := hb1 a h1; have := ha1 b h2; omega
    subst e
    rw [ascI_eq ha2 hb2 fun x => ?_]
    constructor
    · intro hx
      rcases List.mem_cons.1 ((h x).1 (by simp [hx])) with e | h1
      · subst e; have := ha1 x hx; omega
      · exact h1
    · intro hx
      rcases List.mem_cons.1 ((h x).2 (by simp [hx])) with e | h1
      · subst e; have := hb1 x hx; omega
      · exact h1
/-- The cases of which something is known, in order. -/
structure Cases (c : List F) (ns : List Int) : Prop where
  asc : AscI ns
  mem : ∀ n, n ∈ ns ↔ ∃ f ∈ c, caseF f = some n
theorem Cases.unique {c : List F} {a b : List Int} (h : Cases c a) (h' : Cases c b) : a = b := ascI_eq h.asc h'.asc fun x => (h.mem x).trans (h'.mem x).symm
/-- Insertion sort, for the definition alone. -/
def insI (n : Int) : List Int → List Int
  | [] => [n]
  | m :: l => if n < m then n :: m :: l else if n = m then m :: l else m :: insI n l
theorem insI_in (n : Int) : ∀ (l : List Int) (x : Int), x ∈ insI n l ↔ x = n ∨ x ∈ l
  | [], x => by simp [insI]
  | m :: l, x => by
    rw [insI]
    split
    · simp
    · split
      · rename_i h; subst h; simp
      · simp only [List.mem_cons, insI_in n l x]
        constructor
        · rintro (h | h | h)
          · exact .inr (.inl h)
          · exact .inl h
          · exact .inr (.inr h)
        · rintro (h | h | h)
          · exact .inr (.inl h)
          · exact .inl h
          · exact .inr (.inr h)
theorem insI_asc (n : Int) : ∀ {l : List Int}, AscI l → AscI (insI n l)
  | [], _ => by simp [insI]
  | m :: l, h => by
    obtain ⟨h1, h2⟩ := List.pairwise_cons.1 h
    rw [insI]
    split
    · rename_i hn
      refine List.pairwise_cons.2 ⟨fun x hx => ?_, h⟩
      rcases List.mem_cons.1 hx with rfl | hx
      · exact hn
      · have := h1 x hx; omega
    · split
      · exact h
      · rename_i hn hne
        refine List.pairwise_cons.2 ⟨fun x hx => ?_, insI_asc n h2⟩
        rcases (insI_in n l x).1 hx with rfl | hx
        · omega
        · exact h1 x hx
def casesL (c : List F) : List Int := (numsL c []).foldr insI []
theorem casesL_ok (c : List F) : Cases c (casesL c) := by
  have key : ∀ l : List Int, AscI (l.foldr insI []) ∧ ∀ n, n ∈ l.foldr insI [] ↔ n ∈ l := by
    intro l
    induction l with
    | nil => exact ⟨List.Pairwise.nil, fun n => Iff.rfl⟩
    | cons x l ih => exact ⟨insI_asc x ih.1, fun n => by rw [List.foldr_cons, insI_in, ih.2]; simp⟩
  refine ⟨(key _).1, fun n => ?_⟩
  rw [casesL, (key _).2, numsL_in]
  simp
def allO (c : List F) : List F := (casesL c).filterMap fun n => forceO (fileOf c n)
def repO (c : List F) : List F := (casesL c).filterMap fun n => (fileOf c n).rep.head?
end Go.Proofs.YtjjaabidbeoomaaGreatDoor

/-
  The laying of the library's sort at facts and at files.
-/
set_option linter.unusedSimpArgs false
set_option linter.unusedVariables false
namespace Go.Proofs.YtjjaabidbeoomaaGreatDoor
open Go.Xe Go.RowKit

def factSortR : Go.Shelf.Ren := ⟨fun n => match n with
  | 6 => 41
  | 14 => 59
  | 15 => 60
  | 20 => 80
  | 21 => 81
  | 22 => 82
  | 23 => 83
  | 24 => 84
  | 25 => 85
  | 26 => 86
  | 27 => 87
  | 28 => 88
  | 29 => 89
  | 46 => 108
  | 47 => 109
  | 48 => 110
  | 49 => 111
  | 50 => 112
  | 57 => 126
  | n => n, fun n => match n with
  | 0 => 0
  | 3 => 3
  | 4 => 4
  | 5 => 5
  | 9 => 9
  | 22 => 22
  | 24 => 62
  | 25 => 77
  | 39 => 108
  | 45 => 133
  | 46 => 134
  | 50 => 138
  | 53 => 141
  | 55 => 143
  | 66 => 167
  | 70 => 124
  | 76 => 182
  | 77 => 183
  | n => n, fun n => n⟩
set_option maxRecDepth 100000 in
theorem factSort_lay : Go.Proofs.SlLaysF0.n6 Tryz.prog factSortR where
  mixed := Tryz.mixed
  f6 := ⟨(Tryz.f41).name, by kernel_rfl, by kernel_rfl⟩
  f14 := ⟨(Tryz.f59).name, by kernel_rfl, by kernel_rfl⟩
  f15 := by kernel_rfl
  f20 := ⟨(Tryz.f80).name, by kernel_rfl, by kernel_rfl⟩
  f21 := ⟨(Tryz.f81).name, by kernel_rfl, by kernel_rfl⟩
  f22 := ⟨(Tryz.f82).name, by kernel_rfl, by kernel_rfl⟩
  f23 := ⟨(Tryz.f83).name, by kernel_rfl, by kernel_rfl⟩
  f24 := ⟨(Tryz.f84).name, by kernel_rfl, by kernel_rfl⟩
  f25 := ⟨(Tryz.f85).name, by kernel_rfl, by kernel_rfl⟩
  f26 := ⟨(Tryz.f86).name, by kernel_rfl, by kernel_rfl⟩
  f27 := ⟨(Tryz.f87).name, by kernel_rfl, by kernel_rfl⟩
  f28 := by kernel_rfl
  f29 := by kernel_rfl
  f46 := ⟨(Tryz.f108).name, by kernel_rfl, by kernel_rfl⟩
  f47 := by kernel_rfl
  f48 := by kernel_rfl
  f49 := ⟨(Tryz.f111).name, by kernel_rfl, by kernel_rfl⟩
  f50 := ⟨(Tryz.f112).name, by kernel_rfl, by kernel_rfl⟩
  f57 := ⟨(Tryz.f126).name, by kernel_rfl, by kernel_rfl⟩
  t0 := Tryz.underlying0
  a0 := Tryz.isAgg0
  z0 := Tryz.sizeOf0
  v0 := Tryz.zeroValue0
  t3 := Tryz.underlying3
  a3 := Tryz.isAgg3
  z3 := Tryz.sizeOf3
  v3 := Tryz.zeroValue3
  t4 := Tryz.underlying4
  a4 := Tryz.isAgg4
  z4 := Tryz.sizeOf4
  v4 := Tryz.zeroValue4
  t5 := Tryz.underlying5
  a5 := Tryz.isAgg5
  z5 := Tryz.sizeOf5
  v5 := Tryz.zeroValue5
  t9 := Tryz.underlying9
  a9 := Tryz.isAgg9
  z9 := Tryz.sizeOf9
  v9 := Tryz.zeroValue9
  t22 := Tryz.underlying22
  a22 := Tryz.isAgg22
  z22 := Tryz.sizeOf22
  v22 := Tryz.zeroValue22
  t25 := Tryz.underlying77
  a25 := Tryz.isAgg77
  z25 := Tryz.sizeOf77
  v25 := Tryz.zeroValue77
  t39 := Tryz.underlying108
  a39 := Tryz.isAgg108
  z39 := Tryz.sizeOf108
  v39 := Tryz.zeroValue108
  t45 := Tryz.underlying133
  a45 := Tryz.isAgg133
  z45 := Tryz.sizeOf133
  v45 := Tryz.zeroValue133
  t46 := Tryz.underlying134
  a46 := Tryz.isAgg134
  z46 := Tryz.sizeOf134
  v46 := Tryz.zeroValue134
  t50 := Tryz.underlying138
  a50 := Tryz.isAgg138
  z50 := Tryz.sizeOf138
  v50 := Tryz.zeroValue138
  t53 := Tryz.underlying141
  a53 := Tryz.isAgg141
  z53 := Tryz.sizeOf141
  v53 := Tryz.zeroValue141
  t55 := Tryz.underlying143
  a55 := Tryz.isAgg143
  z55 := Tryz.sizeOf143
  v55 := Tryz.zeroValue143
  t66 := Tryz.underlying167
  a66 := Tryz.isAgg167
  z66 := Tryz.sizeOf167
  v66 := Tryz.zeroValue167
  t70 := Tryz.underlying124
  a70 := Tryz.isAgg124
  z70 := Tryz.sizeOf124
  v70 := Tryz.zeroValue124
  t76 := Tryz.underlying182
  a76 := Tryz.isAgg182
  z76 := Tryz.sizeOf182
  v76 := Tryz.zeroValue182
  t77 := Tryz.underlying183
  a77 := Tryz.isAgg183
  z77 := Tryz.sizeOf183
  v77 := Tryz.zeroValue183

def fileSortR : Go.Shelf.Ren := ⟨fun n => match n with
  | 6 => 55
  | 14 => 79
  | 15 => 60
  | 20 => 100
  | 21 => 101
  | 22 => 102
  | 23 => 103
  | 24 => 104
  | 25 => 105
  | 26 => 106
  | 27 => 107
  | 28 => 88
  | 29 => 89
  | 46 => 123
  | 47 => 109
  | 48 => 110
  | 49 => 124
  | 50 => 125
  | 57 => 127
  | n => n, fun n => match n with
  | 0 => 0
  | 3 => 3
  | 4 => 4
  | 5 => 5
  | 9 => 9
  | 22 => 69
  | 24 => 64
  | 25 => 87
  | 39 => 108
  | 45 => 133
  | 46 => 134
  | 50 => 138
  | 53 => 141
  | 55 => 143
  | 66 => 167
  | 70 => 124
  | 76 => 182
  | 77 => 183
  | n => n, fun n => n⟩
set_option maxRecDepth 100000 in
theorem fileSort_lay : Go.Proofs.SlLaysF0.n6 Tryz.prog fileSortR where
  mixed := Tryz.mixed
  f6 := ⟨(Tryz.f55).name, by kernel_rfl, by kernel_rfl⟩
  f14 := ⟨(Tryz.f79).name, by kernel_rfl, by kernel_rfl⟩
  f15 := by kernel_rfl
  f20 := ⟨(Tryz.f100).name, by kernel_rfl, by kernel_rfl⟩
  f21 := ⟨(Tryz.f101).name, by kernel_rfl, by kernel_rfl⟩
  f22 := ⟨(Tryz.f102).name, by kernel_rfl, by kernel_rfl⟩
  f23 := ⟨(Tryz.f103).name, by kernel_rfl, by kernel_rfl⟩
  f24 := ⟨(Tryz.f104).name, by kernel_rfl, by kernel_rfl⟩
  f25 := ⟨(Tryz.f105).name, by kernel_rfl, by kernel_rfl⟩
  f26 := ⟨(Tryz.f106).name, by kernel_rfl, by kernel_rfl⟩
  f27 := ⟨(Tryz.f107).name, by kernel_rfl, by kernel_rfl⟩
  f28 := by kernel_rfl
  f29 := by kernel_rfl
  f46 := ⟨(Tryz.f123).name, by kernel_rfl, by kernel_rfl⟩
  f47 := by kernel_rfl
  f48 := by kernel_rfl
  f49 := ⟨(Tryz.f124).name, by kernel_rfl, by kernel_rfl⟩
  f50 := ⟨(Tryz.f125).name, by kernel_rfl, by kernel_rfl⟩
  f57 := ⟨(Tryz.f127).name, by kernel_rfl, by kernel_rfl⟩
  t0 := Tryz.underlying0
  a0 := Tryz.isAgg0
  z0 := Tryz.sizeOf0
  v0 := Tryz.zeroValue0
  t3 := Tryz.underlying3
  a3 := Tryz.isAgg3
  z3 := Tryz.sizeOf3
  v3 := Tryz.zeroValue3
  t4 := Tryz.underlying4
  a4 := Tryz.isAgg4
  z4 := Tryz.sizeOf4
  v4 := Tryz.zeroValue4
  t5 := Tryz.underlying5
  a5 := Tryz.isAgg5
  z5 := Tryz.sizeOf5
  v5 := Tryz.zeroValue5
  t9 := Tryz.underlying9
  a9 := Tryz.isAgg9
  z9 := Tryz.sizeOf9
  v9 := Tryz.zeroValue9
  t22 := Tryz.underlying69
  a22 := Tryz.isAgg69
  z22 := Tryz.sizeOf69
  v22 := Tryz.zeroValue69
  t25 := Tryz.underlying87
  a25 := Tryz.isAgg87
  z25 := Tryz.sizeOf87
  v25 := Tryz.zeroValue87
  t39 := Tryz.underlying108
  a39 := Tryz.isAgg108
  z39 := Tryz.sizeOf108
  v39 := Tryz.zeroValue108
  t45 := Tryz.underlying133
  a45 := Tryz.isAgg133
  z45 := Tryz.sizeOf133
  v45 := Tryz.zeroValue133
  t46 := Tryz.underlying134
  a46 := Tryz.isAgg134
  z46 := Tryz.sizeOf134
  v46 := Tryz.zeroValue134
  t50 := Tryz.underlying138
  a50 := Tryz.isAgg138
  z50 := Tryz.sizeOf138
  v50 := Tryz.zeroValue138
  t53 := Tryz.underlying141
  a53 := Tryz.isAgg141
  z53 := Tryz.sizeOf141
  v53 := Tryz.zeroValue141
  t55 := Tryz.underlying143
  a55 := Tryz.isAgg143
  z55 := Tryz.sizeOf143
  v55 := Tryz.zeroValue143
  t66 := Tryz.underlying167
  a66 := Tryz.isAgg167
  z66 := Tryz.sizeOf167
  v66 := Tryz.zeroValue167
  t70 := Tryz.underlying124
  a70 := Tryz.isAgg124
  z70 := Tryz.sizeOf124
  v70 := Tryz.zeroValue124
  t76 := Tryz.underlying182
  a76 := Tryz.isAgg182
  z76 := Tryz.sizeOf182
  v76 := Tryz.zeroValue182
  t77 := Tryz.underlying183
  a77 := Tryz.isAgg183
  z77 := Tryz.sizeOf183
  v77 := Tryz.zeroValue183

def fileSortIR : Go.Shelf.Ren := ⟨fun n => match n with
  | 6 => 55
  | 14 => 79
  | 15 => 60
  | 20 => 100
  | 21 => 101
  | 22 => 102
  | 23 => 103
  | 24 => 104
  | 25 => 105
  | 26 => 106
  | 27 => 107
  | 28 => 88
  | 29 => 89
  | 46 => 123
  | 47 => 109
  | 48 => 110
  | 49 => 124
  | 50 => 125
  | 57 => 127
  | n => n, fun n => match n with
  | 0 => 0
  | 3 => 3
  | 4 => 4
  | 5 => 5
  | 9 => 9
  | 22 => 69
  | 24 => 64
  | 25 => 87
  | 39 => 108
  | 45 => 133
  | 46 => 134
  | 50 => 138
  | 53 => 141
  | 55 => 143
  | 66 => 167
  | 70 => 124
  | 76 => 182
  | 77 => 183
  | n => n, fun n => n⟩
set_option maxRecDepth 100000 in
theorem fileSortI_lay : Go.Proofs.SlLaysF.n6 Tryz.prog fileSortIR where
  mixed := Tryz.mixed
  f6 := ⟨(Tryz.f55).name, by kernel_rfl, by kernel_rfl⟩
  f14 := ⟨(Tryz.f79).name, by kernel_rfl, by kernel_rfl⟩
  f15 := by kernel_rfl
  f20 := ⟨(Tryz.f100).name, by kernel_rfl, by kernel_rfl⟩
  f21 := ⟨(Tryz.f101).name, by kernel_rfl, by kernel_rfl⟩
  f22 := ⟨(Tryz.f102).name, by kernel_rfl, by kernel_rfl⟩
  f23 := ⟨(Tryz.f103).name, by kernel_rfl, by kernel_rfl⟩
  f24 := ⟨(Tryz.f104).name, by kernel_rfl, by kernel_rfl⟩
  f25 := ⟨(Tryz.f105).name, by kernel_rfl, by kernel_rfl⟩
  f26 := ⟨(Tryz.f106).name, by kernel_rfl, by kernel_rfl⟩
  f27 := ⟨(Tryz.f107).name, by kernel_rfl, by kernel_rfl⟩
  f28 := by kernel_rfl
  f29 := by kernel_rfl
  f46 := ⟨(Tryz.f123).name, by kernel_rfl, by kernel_rfl⟩
  f47 := by kernel_rfl
  f48 := by kernel_rfl
  f49 := ⟨(Tryz.f124).name, by kernel_rfl, by kernel_rfl⟩
  f50 := ⟨(Tryz.f125).name, by kernel_rfl, by kernel_rfl⟩
  f57 := ⟨(Tryz.f127).name, by kernel_rfl, by kernel_rfl⟩
  t0 := Tryz.underlying0
  a0 := Tryz.isAgg0
  z0 := Tryz.sizeOf0
  v0 := Tryz.zeroValue0
  t3 := Tryz.underlying3
  a3 := Tryz.isAgg3
  z3 := Tryz.sizeOf3
  v3 := Tryz.zeroValue3
  t4 := Tryz.underlying4
  a4 := Tryz.isAgg4
  z4 := Tryz.sizeOf4
  v4 := Tryz.zeroValue4
  t5 := Tryz.underlying5
  a5 := Tryz.isAgg5
  z5 := Tryz.sizeOf5
  v5 := Tryz.zeroValue5
  t9 := Tryz.underlying9
  a9 := Tryz.isAgg9
  z9 := Tryz.sizeOf9
  v9 := Tryz.zeroValue9
  t22 := Tryz.underlying69
  a22 := Tryz.isAgg69
  z22 := Tryz.sizeOf69
  v22 := Tryz.zeroValue69
  a24 := Tryz.isAgg64
  z24 := Tryz.sizeOf64
  t25 := Tryz.underlying87
  a25 := Tryz.isAgg87
  z25 := Tryz.sizeOf87
  v25 := Tryz.zeroValue87
  t39 := Tryz.underlying108
  a39 := Tryz.isAgg108
  z39 := Tryz.sizeOf108
  v39 := Tryz.zeroValue108
  t45 := Tryz.underlying133
  a45 := Tryz.isAgg133
  z45 := Tryz.sizeOf133
  v45 := Tryz.zeroValue133
  t46 := Tryz.underlying134
  a46 := Tryz.isAgg134
  z46 := Tryz.sizeOf134
  v46 := Tryz.zeroValue134
  t50 := Tryz.underlying138
  a50 := Tryz.isAgg138
  z50 := Tryz.sizeOf138
  v50 := Tryz.zeroValue138
  t53 := Tryz.underlying141
  a53 := Tryz.isAgg141
  z53 := Tryz.sizeOf141
  v53 := Tryz.zeroValue141
  t55 := Tryz.underlying143
  a55 := Tryz.isAgg143
  z55 := Tryz.sizeOf143
  v55 := Tryz.zeroValue143
  t66 := Tryz.underlying167
  a66 := Tryz.isAgg167
  z66 := Tryz.sizeOf167
  v66 := Tryz.zeroValue167
  t70 := Tryz.underlying124
  a70 := Tryz.isAgg124
  z70 := Tryz.sizeOf124
  v70 := Tryz.zeroValue124
  t76 := Tryz.underlying182
  a76 := Tryz.isAgg182
  z76 := Tryz.sizeOf182
  v76 := Tryz.zeroValue182
  t77 := Tryz.underlying183
  a77 := Tryz.isAgg183
  z77 := Tryz.sizeOf183
  v77 := Tryz.zeroValue183

end Go.Proofs.YtjjaabidbeoomaaGreatDoor

/-
  Rulings: facts in order, each once.
-/
set_option linter.unusedSimpArgs false
set_option linter.unusedVariables false
namespace Go.Proofs.YtjjaabidbeoomaaGreatDoor
open Go.Xe Go.RowKit

def srtK (l : List Fk) : List Fk := srtL cmpK l
theorem srtK_len (l : List Fk) : (srtK l).length = l.length := srtL_len _ swo_cmp l
theorem sortFunc_ok (l : List Fk) (hl : l.length ≤ 1000000) : Fun Tryz.prog 41 [.row 1000, .d cmpD] [(1000, .row 62 57 l.length ((fsC (l.map (·.1))).map .d))] (.d .any) [(1000, .row 62 57 l.length ((fsC ((srtK l).map (·.1))).map .d))] fun _ => False := by
  have h := Fun.sortFunc (ρ := factSortR) factSort_lay 57 Tryz.isAgg62 Tryz.sizeOf62 fvs (fun x => by simp [fvs]) (fun x v hv => by
    rw [fvs, List.mem_map] at hv
    obtain ⟨i, _, rfl⟩ := hv
    unfold fval
    split <;> rfl) cmpK swo_cmp (g := 29) (run_enterFn Tryz.body29) (fun x y => by
    have h := factsCompare_ok x.1 y.1 x.2 y.2
    unfold fD at h
    rw [← fvs_fcs x, ← fvs_fcs y] at h
    exact h) l (by omega)
  rw [rowV_fsC, rowV_fsC] at h
  exact h
/-- A list's facts in order, each once. -/
def setF (l : List Fk) : List F := cmpt ((srtK l).map (·.1))
open Classical in
noncomputable def kOf (f : F) : Fk := if h : fOk f then ⟨f, h⟩ else default
theorem kOf_val : ∀ {l : List F}, (∀ f ∈ l, fOk f) → (l.map kOf).map (·.1) = l
  | [], _ => rfl
  | f :: l, h => by
    rw [List.map_cons, List.map_cons, kOf_val fun g hg => h g (by simp [hg])]
    congr 1
    rw [kOf, dif_pos (h f (by simp))]
theorem setF_nil : setF [] = [] := by
  have : srtK [] = [] := List.eq_nil_of_length_eq_zero (by rw [srtK_len]; rfl)
  rw [setF, this]
  rfl
/-- The valid facts of a list, in canonical order, each once. -/
noncomputable def canF (l : List F) : List F := setF ((l.filter fun f => (numF f).2).map kOf)
theorem setF_canon {l : List F} (hv : ∀ f ∈ l, vOk f) : Asc (setF (l.map kOf)) ∧ (∀ f, f ∈ setF (l.map kOf) ↔ f ∈ l) ∧ (setF (l.map kOf)).length ≤ l.length := by
  have hk := kOf_val fun f hf => (hv f hf).1
  obtain ⟨hp, hs⟩ := srtL_ok swo_cmp (l.map kOf)
  have hL : ((srtK (l.map kOf)).map (·.1)).Perm l := by
    have := hp.map (·.1)
    rw [hk] at this
    exact this
  have hs2 : ((srtK (l.map kOf)).map (·.1)).Pairwise fun a b => cmpF a b ≤ 0 := by
    rw [List.pairwise_map]
    refine hs.imp fun {a b} h => ?_
    rw [ltK, decide_eq_false_iff_not] at h
    have := cmp_fact.anti a.1 b.1
    omega
  have hvL : ∀ f ∈ (srtK (l.map kOf)).map (·.1), vOk f := fun f hf => hv f (hL.mem_iff.1 hf)
  refine ⟨cmpt_asc hvL hs2, fun f => (cmpt_mem hvL hs2 f).trans hL.mem_iff, ?_⟩
  have h1 : (setF (l.map kOf)).length ≤ ((srtK (l.map kOf)).map (·.1)).length := cN_len _ _
  rw [hL.length_eq] at h1
  exact h1
theorem canF_ok {l : List F} (hv : ∀ f ∈ l, fOk f) : Canon l (canF l) := by
  obtain ⟨h1, h2, _⟩ := setF_canon (l := l.filter fun f => (numF f).2) fun f hf => by
    obtain ⟨h1, h2⟩ := List.mem_filter.1 hf
    exact ⟨hv f h1, h2⟩
  exact ⟨h1, fun f => by rw [canF, h2, List.mem_filter]⟩
theorem canF_len {l : List F} (hv : ∀ f ∈ l, fOk f) : (canF l).length ≤ l.length := by
  obtain ⟨_, _, h3⟩ := setF_canon (l := l.filter fun f => (numF f).2) fun f hf => by
    obtain ⟨h1, h2⟩ := List.mem_filter.1 hf
    exact ⟨hv f h1, h2⟩
  exact Nat.le_trans h3 (List.length_filter_le _ _)
theorem sortFunc_nil : Fun Tryz.prog 41 [.d nilD, .d cmpD] [] (.d .any) [] fun _ => False := by
  have h := sortFunc_ok [] (by simp)
  have := srtK_len []
  have e : srtK [] = [] := List.eq_nil_of_length_eq_zero this
  rw [e] at h
  exact (Fun.nilRow (T := 62) (sz := 57) (h.res (.refl _) trivial) rfl rfl rfl rfl)
theorem sorted_nil : Fn0 Tryz.prog 28 [nilD, cmpD] nilD := by
  refine Fun.of_wp (pn := noPn) Tryz.tab Tryz.func28 rfl fun β0 => ?_
  simp only [Tryz.f28]
  repeat (first | refine wS ?_ | refine wB ?_ | ((first | refine wR ?_ | refine wD ?_); simp -dsimp) | refine aI ?_)
  refine vcStop.call0 Tryz.body40 clone_nil rfl rfl (by simp) ?_
  simp -dsimp
  repeat (first | refine wS ?_ | refine wB ?_ | ((first | refine wR ?_ | refine wD ?_); simp -dsimp) | refine aI ?_)
  refine vcStop.call Tryz.body41 (sortFunc_nil) (rl []) rfl rfl (by simp [BoxLeq]) (CallOk.of (by simp [BoxLeq]) rfl (by first | rfl | (simp [BoxLeq]; done)) (by simp [BoxLeq]) (by simp [BoxLeq])) (fun _ h => h.elim) (fun ⟨_, h⟩ => h.elim) (fun ⟨_, h⟩ => h.elim) (by simp [BoxLeq]) ?_
  simp -dsimp
  repeat (first | refine wS ?_ | refine wB ?_ | ((first | refine wR ?_ | refine wD ?_); simp -dsimp) | refine aI ?_)
  refine vcStop.call Tryz.body42 (compact_nil) (rl [(1001, 3)]) rfl rfl (by simp [BoxLeq]) (CallOk.of (by simp [BoxLeq]) rfl (by first | rfl | (simp [BoxLeq]; done)) (by simp [BoxLeq]) (by simp [BoxLeq])) (fun _ h => h.elim) (fun ⟨_, h⟩ => h.elim) (fun ⟨_, h⟩ => h.elim) (by simp [BoxLeq]) ?_
  simp -dsimp
  repeat (first | refine wS ?_ | refine wB ?_ | ((first | refine wR ?_ | refine wD ?_); simp -dsimp) | refine aI ?_)
  refine WP.ret (finQ.retE ?_)
  simp -dsimp
theorem sorted_ok (l : List Fk) (h0 : 0 < l.length) (hl : l.length ≤ 1000) : Fun Tryz.prog 28 [.row 1000, .d cmpD] [(1000, rB (l.map (·.1)))] (.row 0) [(1000, rB (l.map (·.1))), (0, rB (setF l))] fun _ => False := by
  have hk := srtK_len l
  refine Fun.of_wp (pn := noPn) Tryz.tab Tryz.func28 rfl fun β0 => ?_
  simp only [Tryz.f28]
  repeat (first | refine wS ?_ | refine wB ?_ | ((first | refine wR ?_ | refine wD ?_); simp -dsimp) | refine aI ?_)
  refine vcStop.call Tryz.body40 (clone_row (l.map (·.1)) (by simpa using h0) (by simpa using hl)) (rl [(0, 600)]) rfl rfl (by simp [BoxLeq]) (CallOk.of (by simp [BoxLeq]) rfl (by first | rfl | (simp [BoxLeq]; done)) (by simp [BoxLeq]) (by simp [BoxLeq])) (fun _ h => h.elim) (fun ⟨_, h⟩ => h.elim) (fun ⟨_, h⟩ => h.elim) (by simp [BoxLeq]) ?_
  simp -dsimp
  repeat (first | refine wS ?_ | refine wB ?_ | ((first | refine wR ?_ | refine wD ?_); simp -dsimp) | refine aI ?_)
  refine vcStop.call Tryz.body41 (sortFunc_ok l (by omega)) (rl [(1000, 600)]) rfl rfl (by simp [BoxLeq]) (CallOk.of (by simp [BoxLeq]) rfl (by first | rfl | (simp [BoxLeq]; done)) (by simp [BoxLeq]) (by simp [BoxLeq])) (fun _ h => h.elim) (fun ⟨_, h⟩ => h.elim) (fun ⟨_, h⟩ => h.elim) (by simp [BoxLeq]) ?_
  simp -dsimp
  repeat (first | refine wS ?_ | refine wB ?_ | ((first | refine wR ?_ | refine wD ?_); simp -dsimp) | refine aI ?_)
  refine vcStop.call Tryz.body42 (compact_ok ((srtK l).map (·.1)) (by simp; omega) (fun f hf => by obtain ⟨x, _, rfl⟩ := List.mem_map.1 hf; exact x.2)) (rl [(1000, 600), (1001, 3), (0, 700)]) rfl rfl (by simp [hk, BoxLeq]) (CallOk.of (by simp [hk, BoxLeq]) rfl (by first | rfl | (simp [hk, BoxLeq]; done)) (by simp [hk, BoxLeq]) (by simp [hk, BoxLeq])) (fun _ h => h.elim) (fun ⟨_, h⟩ => h.elim) (fun ⟨_, h⟩ => h.elim) (by simp [hk, BoxLeq]) ?_
  simp -dsimp
  repeat (first | refine wS ?_ | refine wB ?_ | ((first | refine wR ?_ | refine wD ?_); simp -dsimp) | refine aI ?_)
  refine WP.ret (finQ.retWE (S' := mkS 13 [(4, .row 0)] [(1000, rB (l.map (·.1))), (0, rB (setF l))]) (Wk.go [] 700 0 (by decide) (by simp) (by simp) (by simp [setF])) ?_)
  simp -dsimp
end Go.Proofs.YtjjaabidbeoomaaGreatDoor
