/-
  Joined texts.
-/
import Derived.Test.YtnljenjcaeophaaGreatDoorKV
set_option maxRecDepth 10000
set_option linter.unusedVariables false
set_option linter.unusedSimpArgs false
set_option linter.unusedSectionVars false
namespace Go.Proofs.YtnljenjcaeophaaGreatDoor
open Go.Xe Go.RowKit
def refSortR : Go.Shelf.Ren := ⟨fun n => match n with
 | 6 => 157
 | 14 => 203
 | 15 => 194
 | 20 => 249
 | 21 => 250
 | 22 => 251
 | 23 => 252
 | 24 => 253
 | 25 => 254
 | 26 => 255
 | 27 => 256
 | 28 => 231
 | 29 => 232
 | 46 => 274
 | 47 => 267
 | 48 => 268
 | 49 => 275
 | 50 => 276
 | 57 => 284
 | n => n, fun n => match n with
 | 0 => 0
 | 3 => 3
 | 4 => 4
 | 5 => 5
 | 9 => 9
 | 22 => 32
 | 24 => 63
 | 25 => 113
 | 39 => 174
 | 45 => 287
 | 46 => 288
 | 50 => 125
 | 53 => 277
 | 55 => 279
 | 66 => 327
 | 70 => 228
 | 76 => 341
 | 77 => 342
 | n => n, fun n => n⟩
set_option maxRecDepth 100000 in
theorem refSort_lay : Go.Proofs.SlLaysF0.n6 Tryz.prog refSortR where
 mixed := Tryz.mixed
 f6 := ⟨(Tryz.f157).name, by kernel_rfl, by kernel_rfl⟩
 f14 := ⟨(Tryz.f203).name, by kernel_rfl, by kernel_rfl⟩
 f15 := by kernel_rfl
 f20 := ⟨(Tryz.f249).name, by kernel_rfl, by kernel_rfl⟩
 f21 := ⟨(Tryz.f250).name, by kernel_rfl, by kernel_rfl⟩
 f22 := ⟨(Tryz.f251).name, by kernel_rfl, by kernel_rfl⟩
 f23 := ⟨(Tryz.f252).name, by kernel_rfl, by kernel_rfl⟩
 f24 := ⟨(Tryz.f253).name, by kernel_rfl, by kernel_rfl⟩
 f25 := ⟨(Tryz.f254).name, by kernel_rfl, by kernel_rfl⟩
 f26 := ⟨(Tryz.f255).name, by kernel_rfl, by kernel_rfl⟩
 f27 := ⟨(Tryz.f256).name, by kernel_rfl, by kernel_rfl⟩
 f28 := by kernel_rfl
 f29 := by kernel_rfl
 f46 := ⟨(Tryz.f274).name, by kernel_rfl, by kernel_rfl⟩
 f47 := by kernel_rfl
 f48 := by kernel_rfl
 f49 := ⟨(Tryz.f275).name, by kernel_rfl, by kernel_rfl⟩
 f50 := ⟨(Tryz.f276).name, by kernel_rfl, by kernel_rfl⟩
 f57 := ⟨(Tryz.f284).name, by kernel_rfl, by kernel_rfl⟩
 t0 := Tryz.underlying0
 a0 := Tryz.isAgg0
 z0 := Tryz.sizeOf0
 v0 := Tryz.zeroValue0
 t3 := Tryz.underlying3
 a3 := Tryz.isAgg3
 z3 := Tryz.sizeOf3
 v3 := Tryz.zeroValue3
 t4 := Tryz.underlying4
 a4 := Tryz.isAgg4
 z4 := Tryz.sizeOf4
 v4 := Tryz.zeroValue4
 t5 := Tryz.underlying5
 a5 := Tryz.isAgg5
 z5 := Tryz.sizeOf5
 v5 := Tryz.zeroValue5
 t9 := Tryz.underlying9
 a9 := Tryz.isAgg9
 z9 := Tryz.sizeOf9
 v9 := Tryz.zeroValue9
 t22 := Tryz.underlying32
 a22 := Tryz.isAgg32
 z22 := Tryz.sizeOf32
 v22 := Tryz.zeroValue32
 t25 := Tryz.underlying113
 a25 := Tryz.isAgg113
 z25 := Tryz.sizeOf113
 v25 := Tryz.zeroValue113
 t39 := Tryz.underlying174
 a39 := Tryz.isAgg174
 z39 := Tryz.sizeOf174
 v39 := Tryz.zeroValue174
 t45 := Tryz.underlying287
 a45 := Tryz.isAgg287
 z45 := Tryz.sizeOf287
 v45 := Tryz.zeroValue287
 t46 := Tryz.underlying288
 a46 := Tryz.isAgg288
 z46 := Tryz.sizeOf288
 v46 := Tryz.zeroValue288
 t50 := Tryz.underlying125
 a50 := Tryz.isAgg125
 z50 := Tryz.sizeOf125
 v50 := Tryz.zeroValue125
 t53 := Tryz.underlying277
 a53 := Tryz.isAgg277
 z53 := Tryz.sizeOf277
 v53 := Tryz.zeroValue277
 t55 := Tryz.underlying279
 a55 := Tryz.isAgg279
 z55 := Tryz.sizeOf279
 v55 := Tryz.zeroValue279
 t66 := Tryz.underlying327
 a66 := Tryz.isAgg327
 z66 := Tryz.sizeOf327
 v66 := Tryz.zeroValue327
 t70 := Tryz.underlying228
 a70 := Tryz.isAgg228
 z70 := Tryz.sizeOf228
 v70 := Tryz.zeroValue228
 t76 := Tryz.underlying341
 a76 := Tryz.isAgg341
 z76 := Tryz.sizeOf341
 v76 := Tryz.zeroValue341
 t77 := Tryz.underlying342
 a77 := Tryz.isAgg342
 z77 := Tryz.sizeOf342
 v77 := Tryz.zeroValue342
theorem cmpR_neg (a b : R2) : cmpR a b < 0 ↔ ltR a b := by
 unfold cmpR orL orL orL cmpI ltR
 constructor
 ·intro h
  split at h <;> (try split at h) <;> (try split at h) <;> (try split at h) <;> (try split at h) <;> (try split at h) <;> omega
 ·intro h
  split <;> (try split) <;> (try split) <;> (try split) <;> (try split) <;> (try split) <;> omega
theorem ltcR (a b : R2) : Go.Proofs.ltOf cmpR a b = decide (ltR a b) := by
 have : Go.Proofs.ltOf cmpR a b = decide (cmpR a b < 0) := rfl
 rw [this]
 exact decide_eq_decide.2 (cmpR_neg a b)
theorem swo_R : Go.Sort.SWO (Go.Proofs.ltOf cmpR) := by
 constructor
 ·intro x
  rw [ltcR, decide_eq_false_iff_not]
  exact ltR_irr x
 ·intro x y z h1 h2
  rw [ltcR, decide_eq_true_eq] at *
  exact ltR_trans h1 h2
 ·intro x y z h1 h2
  rw [ltcR, decide_eq_false_iff_not] at *
  unfold ltR at *
  omega
def rfV (r : R2) : List Value := [.int .i64 r.1, .int .i64 r.2]
theorem rowV_rfC (o : List R2) : rowV rfV o = (rfC o).map .d := by
 induction o with
 | nil => rfl
 | cons r o ih =>
  rw [show rfC (r :: o) = [.v (.int .i64 r.1), .v (.int .i64 r.2)] ++ rfC o from rfl, List.map_append, ← ih]
  simp [rowV, rfV]
theorem sortRef_ok (l : List R2) (hl : l.length ≤ 1000000) : Fun Tryz.prog 157 [.row 1000, .d (.v (.func (.func 51) #[] #[]))] [(1000, rfB l)] (.d .any) [(1000, rfB (srtL cmpR l))] fun _ => False := by
 have h := Fun.sortFunc (ρ := refSortR) refSort_lay 2 Tryz.isAgg63 Tryz.sizeOf63 rfV (fun x => rfl) (fun x v hv => by
  simp only [rfV, List.mem_cons, List.not_mem_nil, or_false] at hv
  rcases hv with rfl | rfl <;> rfl) cmpR swo_R (g := 51) (run_enterFn Tryz.body51) (fun x y => compareRefs_ok x y) l (by omega)
 rw [rowV_rfC, rowV_rfC] at h
 have hl2 := srtL_len _ swo_R l
 simp only [rfB, hl2]
 exact h
theorem srt_perm {M o : List R2} (hnd : M.Nodup) (h : o.Perm M) : srtL cmpR o = sortR M := by
 obtain ⟨hp, hs⟩ := srtL_ok swo_R o
 have hpm : (srtL cmpR o).Perm M := hp.trans h
 have hnd2 : (srtL cmpR o).Nodup := hpm.nodup_iff.2 hnd
 refine sortR_of ?_ fun x => hpm.mem_iff
 have h2 : (srtL cmpR o).Pairwise fun a b => ¬ ltR b a := hs.imp fun {a b} h => by
  rw [ltcR, decide_eq_false_iff_not] at h
  exact h
 exact (h2.and hnd2).imp fun {a b} h => by
  rcases ltR_tri a b with h' | h' | h'
  ·exact h'
  ·exact absurd h' h.2
  ·exact absurd h' h.1
abbrev cmpRD : D := .v (.func (.func 51) #[] #[])
theorem sortedFuncR_ok (M : List R2) (hnd : M.Nodup) (hl : M.length ≤ 1000) : Fun Tryz.prog 98 [.fn (.func 158) [] [.ptr 1000 0], .d cmpRD] [(1000, .cells 110 [.row 1001]), (1001, .mp (refsM M))] (.row 0) [(1000, .cells 110 [.row 1001]), (1001, .mp (refsM M)), (0, rfB (sortR M))] fun _ => False := by
 refine FunX.one (α := {o : List R2 // o.Perm M}) (res := fun _ => .row 0) (bo := fun _ => [(1000, .cells 110 [.row 1001]), (1001, .mp (refsM M)), (0, rfB (sortR M))]) ?_ (fun _ => rfl) (fun _ => rfl)
 refine FunX.of_wp Tryz.tab Tryz.func98 rfl fun β0 => ?_
 simp only [Tryz.f98]
 refine WP.seq ?_
 refine WP.region Tryz.tab ?_
 simp -dsimp
 repeat refine aI ?_
 refine WP.seq ?_
 refine WP.cut1 Tryz.tab rfl ?_
 simp -dsimp
 refine vcX.callX Tryz.body156 (collectR_ok M hnd hl) (rl [(1000, 1000), (1001, 1001), (0, 600)]) rfl rfl (by simp) (CallOk.of (by simp [BoxLeq]) rfl (by first | rfl | (simp; done)) (by simp) (by simp)) (fun x => CallOk.of (by simp [BoxLeq]) rfl (by first | rfl | (simp; done)) (by simp) (by simp)) (fun x => by simp) (fun x => ?_)
 obtain ⟨o, ho⟩ := x
 have hol := ho.length_eq
 have hso := sortRef_ok o (by omega)
 rw [srt_perm hnd ho] at hso
 refine ⟨_, Wk.refl _, ?_⟩
 simp -dsimp
 repeat(first|apply wG|(apply wR;simp -dsimp)|refine aI ?_)
 refine vcStop.call Tryz.body157 (hso) (rl [(1000, 600)]) rfl rfl (by simp [BoxLeq]) (CallOk.of (by simp [BoxLeq]) rfl (by first | rfl | (simp [BoxLeq]; done)) (by simp [BoxLeq]) (by simp [BoxLeq])) (fun _ h => h.elim) (fun ⟨_, h⟩ => h.elim) (fun ⟨_, h⟩ => h.elim) (by simp [BoxLeq]) ?_
 simp -dsimp
 repeat(first|apply wG|(apply wR;simp -dsimp)|refine aI ?_)
 refine WP.ret (finX.ret ⟨o, ho⟩ (finQ.retWE (S' := mkS 12 [(4, .row 0)] [(1000, .cells 110 [.row 1001]), (1001, .mp (refsM M)), (0, rfB (sortR M))]) (Wk.go [] 600 0 (by decide) (by simp) (by simp) (by simp)) ?_))
 simp -dsimp
theorem esortedR_ok (M : List R2) (hnd : M.Nodup) (hl : M.length ≤ 1000) : Fun Tryz.prog 50 [.row 1000, .d cmpRD] [(1000, .mp (refsM M))] (.row 0) [(1000, .mp (refsM M)), (0, rfB (sortR M))] fun _ => False := by
 refine Fun.of_wp (pn := noPn) Tryz.tab Tryz.func50 rfl fun β0 => ?_
 simp only [Tryz.f50]
 repeat(first|apply wG|(apply wR;simp -dsimp)|refine aI ?_)
 refine vcStop.call Tryz.body99 (keysR_ok (refsM M)) (rl [(1000, 1000), (0, 600)]) rfl rfl (by simp [BoxLeq]) (CallOk.of (by simp [BoxLeq]) rfl (by first | rfl | (simp [BoxLeq]; done)) (by simp [BoxLeq]) (by simp [BoxLeq])) (fun _ h => h.elim) (fun ⟨_, h⟩ => h.elim) (fun ⟨_, h⟩ => h.elim) (by simp [BoxLeq]) ?_
 simp -dsimp
 repeat(first|apply wG|(apply wR;simp -dsimp)|refine aI ?_)
 refine vcStop.call Tryz.body98 (sortedFuncR_ok M hnd hl) (rl [(1000, 600), (1001, 1000), (0, 601)]) rfl rfl (by simp [BoxLeq]) (CallOk.of (by simp [BoxLeq]) rfl (by first | rfl | (simp [BoxLeq]; done)) (by simp [BoxLeq]) (by simp [BoxLeq])) (fun _ h => h.elim) (fun ⟨_, h⟩ => h.elim) (fun ⟨_, h⟩ => h.elim) (by simp [BoxLeq]) ?_
 simp -dsimp
 repeat(first|apply wG|(apply wR;simp -dsimp)|refine aI ?_)
 refine WP.ret (finQ.retWE (S' := mkS 9 [(4, .row 0)] [(1000, .mp (refsM M)), (0, rfB (sortR M))]) (Wk.go [600] 601 0 (by decide) (by simp) (by simp) (by simp)) ?_)
 simp -dsimp
def facVs (f : F) : List Value := (List.range' 0 57).map (fval f)
def facV (f : F) : Value := .agg (facVs f).toArray
theorem facVs_fcs (f : F) : (facVs f).map D.v = fcs f 0 57 := by
 rw [facVs, fcs, List.map_map]
 refine List.map_congr_left fun i _ => ?_
 show D.v (fval f i) = fcell f i
 unfold fval fcell
 split <;> rfl
theorem facV_inj {f g : F} (hf : fOk f) (hg : fOk g) (h : facV f = facV g) : f = g := by
 have h1 : facVs f = facVs g := by
  have := congrArg (fun v => match v with | Value.agg a => a.toList | _ => []) h
  simpa [facV] using this
 funext i
 by_cases hi : i < 57
 ·have h2 := congrArg (fun l => l[i]?) h1
  simp only [facVs, List.getElem?_map, List.getElem?_range' hi] at h2
  simp only [Nat.zero_add, Nat.one_mul, Option.map_some, Option.some.injEq, fval] at h2
  split at h2
  ·rename_i e
   subst e
   simp only [Value.bool.injEq] at h2
   have := decide_eq_decide.1 h2
   rcases hf.2.1 with a | a <;> rcases hg.2.1 with b | b <;> simp_all
  ·simpa using h2
 ·rw [hf.2.2 i (by omega), hg.2.2 i (by omega)]
theorem fac_dens (f : F) : ∀ {w : World} {I : Nat → Prop}, Dens w I (fcs f 0 57) (facVs f) := by
 intro w I
 rw [← facVs_fcs]
 generalize facVs f = l
 induction l with
 | nil => rfl
 | cons x l ih => exact ⟨x, l, rfl, rfl, ih⟩
theorem fac_key {f : F} (hf : fOk f) : ∃ l, keyOf Tryz.prog 65 (facV f) = some l := by
 obtain ⟨n, hn, h3⟩ : ∃ n, n = Tryz.prog.types.size + 1 ∧ 3 ≤ n := ⟨_, rfl, by rw [nty]; decide⟩
 have ok : OkD Tryz.τ n 65 (fcs f 0 57) := okD_up 3 n 65 _ h3 (okF hf.1)
 have hl := keyLits_okD (w := (default : World)) (I := fun _ => False) Tryz.tab gokF noarrF n 65 5 _ (facVs f) Tryz.key47 (by decide) ok (fac_dens f)
 rw [hn] at hl
 have hk : Tryz.prog.keyType 65 = true := by kernel_rfl
 have hfm : (facV f).formed Tryz.prog 65 = true := by
  unfold facV Value.formed
  rw [Tryz.underlying65]
  have : Tryz.prog.cellsOf 65 = 57 := by kernel_rfl
  simp [this, facVs]
 have hc : (facV f).cells.toList = facVs f := by simp [facV, Value.cells]
 simp only [keyOf, Tryz.underlying65, hk, hfm, Bool.and_self, if_true, hc, hl, Option.map_some]
 exact ⟨_, rfl⟩
theorem fac_keyed : Maps.Keyed Tryz.prog 65 := Maps.Keyed.of_law (deep_law_gate laidOut (by rw [nty]; decide) (Nat.lt_of_lt_of_eq (by decide) nty.symm) (by kernel_rfl) (by rw [Tryz.underlying65]))
def facsM (l : List F) : List (Value × D) := l.map fun f => (facV f, .v (.bool true))
theorem facs_keys {l : List F} (h : ∀ f ∈ l, fOk f) : KeysOk Tryz.prog 65 (facsM l) := by
 intro p hp
 obtain ⟨f, hf, rfl⟩ := List.mem_map.1 hp
 exact fac_key (h f hf)
def addF (l : List F) (f : F) : List F := if hasF l f = true then l else l ++ [f]
theorem facs_put {l : List F} (hl : ∀ g ∈ l, fOk g) {f : F} (hf : fOk f) : PutOk (facsM l) (facV f) (.v (.bool true)) (facsM (addF l f)) := by
 unfold addF
 by_cases h : hasF l f = true
 ·rw [if_pos h]
  obtain ⟨a, b, rfl⟩ := List.append_of_mem ((hasF_iff hl hf).1 h)
  exact .inl ⟨facsM a, .v (.bool true), facsM b, by simp [facsM], by simp [facsM]⟩
 ·rw [if_neg h]
  refine .inr ⟨fun p hp e => h ?_, by simp [facsM]⟩
  obtain ⟨s, hs, rfl⟩ := List.mem_map.1 hp
  rw [← facV_inj (hl s hs) hf e]
  exact (hasF_iff hl (hl s hs)).2 hs
theorem facs_get {l : List F} (hl : ∀ g ∈ l, fOk g) {f : F} (hf : fOk f) : GetOk (facsM l) (facV f) (.v (.bool false)) (.v (.bool (hasF l f))) := by
 cases h : hasF l f with
 | true =>
  obtain ⟨a, b, e⟩ := List.append_of_mem ((hasF_iff hl hf).1 h)
  exact .inl ⟨facsM a, facsM b, by rw [e]; simp [facsM]⟩
 | false =>
  refine .inr ⟨fun p hp e => ?_, rfl⟩
  obtain ⟨s, hs, rfl⟩ := List.mem_map.1 hp
  rw [← facV_inj (hl s hs) hf e, (hasF_iff hl (hl s hs)).2 hs] at h
  cases h
theorem addF_in {l : List F} (hl : ∀ g ∈ l, fOk g) {f g : F} (hf : fOk f) : g ∈ addF l f ↔ g ∈ l ∨ g = f := by
 unfold addF
 split
 ·rename_i h
  have := (hasF_iff hl hf).1 h
  exact ⟨.inl, fun h' => h'.elim id fun e => e ▸ this⟩
 ·simp
theorem fac_leq (f : F) : Leq (.agg ((fcs f 0 57).map .d)) (.d (.v (facV f))) := fun w I β v hv => by
 obtain ⟨vs, rfl, h⟩ := hv
 have h := DenAs.to_dens h
 rw [← facVs_fcs] at h
 have key : ∀ (l vs : List Value), Dens w I (l.map D.v) vs → vs = l := by
  intro l
  induction l with
  | nil => intro vs h; exact h
  | cons x l ih =>
   intro vs h
   obtain ⟨y, ys, rfl, h1, h2⟩ := h
   rw [Den] at h1
   rw [h1, ih ys h2]
 rw [key _ _ h]
 exact DenA_v.2 rfl
def adF (B : List F) : Nat → List F
 | 0 => []
 | i + 1 => addF (adF B i) (fat B i)
theorem adF_in {B : List F} (hB : ∀ f ∈ B, fOk f) : ∀ i, i ≤ B.length → (∀ f ∈ adF B i, fOk f) ∧ ∀ f, f ∈ adF B i ↔ f ∈ B.take i
 | 0, _ => ⟨fun _ h => (by cases h), fun f => (by simp [adF])⟩
 | i + 1, h => by
  obtain ⟨h1, h2⟩ := adF_in hB i (by omega)
  have hf := hB _ (fat_in (show i < B.length by omega))
  rw [adF, take_fat (by omega)]
  refine ⟨fun f hf' => ?_, fun f => ?_⟩
  ·rcases (addF_in h1 hf).1 hf' with h' | rfl
   ·exact h1 f h'
   ·exact hf
  ·rw [addF_in h1 hf, h2, List.mem_append, List.mem_singleton]
def alN (A H : List F) : Nat → List R2
 | 0 => []
 | i + 1 => if hasF H (fat A i) = true then alN A H i else addRef (alN A H i) (refF (fat A i))
theorem addRef_nodup {l : List R2} {r : R2} (h : l.Nodup) : (addRef l r).Nodup := by
 unfold addRef
 split
 ·exact h
 ·rename_i hn
  exact List.nodup_append.2 ⟨h, by simp, fun a ha b hb e => by rw [List.mem_singleton] at hb; subst hb; subst e; exact hn ha⟩
theorem alN_ok {A H : List F} (hA : ∀ f ∈ A, fOk f) : ∀ i, i ≤ A.length → (alN A H i).Nodup ∧ refsI (alN A H i) ∧ (alN A H i).length ≤ i ∧ ∀ r, r ∈ alN A H i ↔ ∃ f ∈ A.take i, hasF H f = false ∧ refF f = r
 | 0, _ => ⟨List.nodup_nil, fun _ h => (by cases h), by simp [alN], fun r => by simp [alN]⟩
 | i + 1, h => by
  obtain ⟨h1, h2, h3, h4⟩ := alN_ok (H := H) hA i (by omega)
  have hf := hA _ (fat_in (show i < A.length by omega))
  rw [alN, take_fat (show i < A.length by omega)]
  generalize fat A i = f at hf
  cases hh : hasF H f with
  | true =>
   rw [if_pos rfl]
   refine ⟨h1, h2, by omega, fun r => ?_⟩
   rw [h4]
   constructor
   ·rintro ⟨g, k1, k2, k3⟩; exact ⟨g, List.mem_append.2 (.inl k1), k2, k3⟩
   ·rintro ⟨g, k1, k2, k3⟩
    rcases List.mem_append.1 k1 with k1 | k1
    ·exact ⟨g, k1, k2, k3⟩
    ·rw [List.mem_singleton] at k1; subst k1; rw [hh] at k2; cases k2
  | false =>
   rw [if_neg (by simp)]
   refine ⟨addRef_nodup h1, refsI_add h2 (hf.1 0) (hf.1 1), ?_, fun r => ?_⟩
   ·unfold addRef; split
    ·omega
    ·rw [List.length_append]; simp; omega
   ·rw [addRef_in, h4]
    constructor
    ·rintro (⟨g, k1, k2, k3⟩ | rfl)
     ·exact ⟨g, List.mem_append.2 (.inl k1), k2, k3⟩
     ·exact ⟨f, by simp, hh, rfl⟩
    ·rintro ⟨g, k1, k2, k3⟩
     rcases List.mem_append.1 k1 with k1 | k1
     ·exact .inl ⟨g, k1, k2, k3⟩
     ·rw [List.mem_singleton] at k1; subst k1; exact .inr k3.symm
abbrev slR (l : List R2) : D := .sl 2 (rfC l) l.length false
theorem alt_of {A B : List F} (hA : ∀ f ∈ A, fOk f) (hB : ∀ f ∈ B, fOk f) : sortR (alN A (adF B B.length) A.length) = altL A B := by
 obtain ⟨b1, b2⟩ := adF_in hB _ (Nat.le_refl _)
 obtain ⟨_, _, _, a4⟩ := alN_ok (H := adF B B.length) hA _ (Nat.le_refl _)
 refine pwR_eq (sortR_asc _) (sortR_asc _) fun r => ?_
 rw [sortR_in, a4, altL_iff hA hB, List.take_length]
 constructor
 ·rintro ⟨f, k1, k2, k3⟩
  refine ⟨f, k1, fun h => ?_, k3⟩
  rw [(hasF_iff b1 (hA f k1)).2 ((b2 f).2 (by rw [List.take_length]; exact h))] at k2; cases k2
 ·rintro ⟨f, k1, k2, k3⟩
  refine ⟨f, k1, bool_no' fun h => k2 ?_, k3⟩
  have := (b2 f).1 ((hasF_iff b1 (hA f k1)).1 h)
  rwa [List.take_length] at this
where
 bool_no' {b : Bool} (h : b = true → False) : b = false := by cases b <;> simp_all
def bA1 (B : List F) (i : Nat) : Bxs := [(1100, .cells 107 [.row 1101]), (1101, .mp (facsM (adF B i)))]
theorem bA1_singles (B : List F) (i : Nat) : singles (bA1 B i) := by
 intro k b h
 simp only [bA1, getB] at h
 (repeat' split at h) <;> cases h <;> rfl
def bA2 (A H : List F) (i : Nat) : Bxs := [(1100, .cells 107 [.row 1101]), (1101, .mp (facsM H)), (1102, .cells 110 [.row 1103]), (1103, .mp (refsM (alN A H i)))]
theorem bA2_singles (A H : List F) (i : Nat) : singles (bA2 A H i) := by
 intro k b h
 simp only [bA2, getB] at h
 (repeat' split at h) <;> cases h <;> rfl
set_option maxHeartbeats 4000000 in
theorem altered_ok (a b : List Sg) (ba bb : Bool) (hla : a.length ≤ 30) (hlb : b.length ≤ 30) (ha : ∀ p ∈ a, sgOk p) (hb : ∀ p ∈ b, sgOk p) : Fn0 Tryz.prog 15 [lgD a ba, lgD b bb] (slR (altL (vF a) (vF b))) := by
 have hA := vF_fOk fun p hp => (ha p hp).1
 have hB := vF_fOk fun p hp => (hb p hp).1
 have hal := Nat.le_trans (vF_len a) hla
 have ita := evalid_it a ba hla ha
 have itb := evalid_it b bb hlb hb
 rw [← alt_of hA hB]
 generalize vF a = A at hA hal ita
 generalize vF b = B at hB itb
 refine Fun.of_wpR Tryz.tab Tryz.func15 rfl fun β0 => ?_
 simp only [Tryz.f15]
 repeat(first|apply wG|(apply wR;simp -dsimp)|refine aI ?_)
 refine vcStop.makeMap 9 rfl (by simp) ?_
 simp -dsimp
 repeat(first|apply wG|(apply wR;simp -dsimp)|refine aI ?_)
 refine vcStop.call Tryz.body48 (evalid_ok b bb) (rl [(0, 600)]) rfl rfl (by simp [BoxLeq]) (CallOk.of (by simp [BoxLeq]) rfl (by first | rfl | (simp [BoxLeq]; done)) (by simp [BoxLeq]) (by simp [BoxLeq])) (fun _ h => h.elim) (fun ⟨_, h⟩ => h.elim) (fun ⟨_, h⟩ => h.elim) (by simp [BoxLeq]) ?_
 simp -dsimp
 repeat(first|apply wG|(apply wR;simp -dsimp)|refine aI ?_)
 refine WP.rangeFuncE Tryz.body97 itb (jump := fun _ => none) (bA1 B) (mkS 28 [(5, .ptr 1100 0)] []).sl 990 (rl [(1000, 600), (1100, 5), (1101, 9), (990, 602)]) rfl rfl rfl (by simp) (by simp) (by simp) (fun i _ => bA1_singles _ i)
  (by simp [bA1]) (by simp) (by simp [bA1]) (by simp) (by decide) (by simp [bA1]) (fun _ _ => rfl) (fun _ _ => rfl) ?_ (fun G => CallOk.of (by simp [bA1, adF, facsM]) (by simp [bA1]) (by simp [bA1]) (by simp [bA1]) (by simp [bA1])) (fun G => by simp [bA1]) ?_
 ·intro i hi lp β1
  have hfo := hB _ (fat_in hi)
  have hI := (adF_in hB i (by omega)).1
  have hvs : adF B (i + 1) = addF (adF B i) (fat B i) := rfl
  obtain ⟨lk, hlk⟩ := fac_key hfo
  generalize fat B i = f at hfo hvs hlk
  simp -dsimp [bA1, fD]
  generalize adF B i = V at hI hvs ⊢
  repeat(first|apply wG|(apply wR;simp -dsimp)|refine aI ?_)
  refine vcStop.mapPut Tryz.tab rfl rfl fac_keyed (j := 1101) rfl (kvs := facsM V) (facsM (addF V f)) rfl (key := facV f) (fac_leq f) (d := .v (.bool true)) (.refl _) hlk (facs_keys hI) (facs_put hI hfo) ?_
  simp -dsimp
  repeat(first|apply wG|(apply wR;simp -dsimp)|refine aI ?_)
  exact ⟨mkS 28 [] (bA1 B (i + 1)), Wk.lessE [6] (by simp) (by simp [bA1, hvs]), subB_ok (by simp [bA1])⟩
 ·intro G
  have hH := (adF_in hB _ (Nat.le_refl _)).1
  rw [pendOf_none, endQ_none]
  simp -dsimp [bA1]
  generalize adF B B.length = H at hH
  repeat(first|apply wG|(apply wR;simp -dsimp)|refine aI ?_)
  refine vcStop.makeMap 15 rfl (by simp) ?_
  simp -dsimp
  repeat(first|apply wG|(apply wR;simp -dsimp)|refine aI ?_)
  refine vcStop.call Tryz.body48 (evalid_ok a ba) (rl [(0, 603)]) rfl rfl (by simp [BoxLeq]) (CallOk.of (by simp [BoxLeq]) rfl (by first | rfl | (simp [BoxLeq]; done)) (by simp [BoxLeq]) (by simp [BoxLeq])) (fun _ h => h.elim) (fun ⟨_, h⟩ => h.elim) (fun ⟨_, h⟩ => h.elim) (by simp [BoxLeq]) ?_
  simp -dsimp
  repeat(first|apply wG|(apply wR;simp -dsimp)|refine aI ?_)
  refine WP.rangeFuncE Tryz.body97 ita (jump := fun _ => none) (bA2 A H) (mkS 28 [(5, .ptr 1100 0), (7, .ptr 1102 0)] []).sl 990 (rl [(1000, 603), (1100, 5), (1101, 9), (1102, 7), (1103, 15), (990, 605)]) rfl rfl rfl (by simp) (by simp) (by simp) (fun i _ => bA2_singles _ _ i)
   (by simp [bA2]) (by simp) (by simp [bA2]) (by simp) (by decide) (by simp [bA2]) (fun _ _ => rfl) (fun _ _ => rfl) ?_ (fun G => CallOk.of (by simp [bA2, alN, refsM]) (by simp [bA2]) (by simp [bA2]) (by simp [bA2]) (by simp [bA2])) (fun G => by simp [bA2]) ?_
  ·intro i hi lp β1
   have hfo := hA _ (fat_in hi)
   obtain ⟨hn1, hI, _, _⟩ := alN_ok (H := H) hA i (by omega)
   have hvs : alN A H (i + 1) = if hasF H (fat A i) = true then alN A H i else addRef (alN A H i) (refF (fat A i)) := rfl
   obtain ⟨lk, hlk⟩ := fac_key hfo
   obtain ⟨lr, hlr⟩ := ref_key (r := refF (fat A i)) (hfo.1 0) (hfo.1 1)
   generalize fat A i = f at hfo hvs hlk hlr
   simp -dsimp [bA2, fD]
   generalize alN A H i = V at hI hvs ⊢
   repeat(first|apply wG|(apply wR;simp -dsimp)|refine aI ?_)
   refine vcStop.mapGet Tryz.tab rfl rfl fac_keyed Tryz.zeroValue4 (j := 1101) rfl (kvs := facsM H) rfl (key := facV f) (fac_leq f) (.v (.bool (hasF H f))) hlk (facs_keys hH) (facs_get hH hfo) ?_
   simp -dsimp
   repeat(first|apply wG|(apply wR;simp -dsimp)|refine aI ?_)
   refine WP.cond (b := !hasF H f) (by simp) (fun hb => ?_) (fun hb => ?_)
   ·have hb : hasF H f = false := by simpa using hb
    rw [if_neg (by simp [hb])] at hvs
    have hro := refOf_ok f
    repeat(first|apply wG|(apply wR;simp -dsimp)|refine aI ?_)
    refine vcStop.call0 Tryz.body49 hro rfl rfl (by simp [fD]) ?_
    simp -dsimp
    repeat(first|apply wG|(apply wR;simp -dsimp)|refine aI ?_)
    refine vcStop.mapPut Tryz.tab rfl rfl ref_keyed (j := 1103) rfl (kvs := refsM V) (refsM (addRef V (refF f))) rfl (key := refV (refF f)) (ref_leqD _ _) (d := .v (.bool true)) (.refl _) hlr (refs_keys hI) (refs_put V _) ?_
    simp -dsimp
    repeat(first|apply wG|(apply wR;simp -dsimp)|refine aI ?_)
    exact ⟨mkS 28 [] (bA2 A H (i + 1)), Wk.lessE [8] (by simp) (by simp [bA2, hvs]), subB_ok (by simp [bA2])⟩
   ·have hb : hasF H f = true := by simpa using hb
    rw [if_pos hb] at hvs
    refine WP.skip ?_
    simp -dsimp
    repeat(first|apply wG|(apply wR;simp -dsimp)|refine aI ?_)
    exact ⟨mkS 28 [] (bA2 A H (i + 1)), Wk.lessE [8] (by simp) (by simp [bA2, hvs]), subB_ok (by simp [bA2])⟩
  ·intro G2
   obtain ⟨hn1, _, hl1, _⟩ := alN_ok (H := H) hA _ (Nat.le_refl _)
   rw [pendOf_none, endQ_none]
   simp -dsimp [bA2]
   generalize alN A H A.length = M at hn1 hl1
   repeat(first|apply wG|(apply wR;simp -dsimp)|refine aI ?_)
   refine vcStop.call Tryz.body50 (esortedR_ok M hn1 (by omega)) (rl [(1000, 15), (0, 700)]) rfl rfl (by simp [BoxLeq]) (CallOk.of (by simp [BoxLeq]) rfl (by first | rfl | (simp [BoxLeq]; done)) (by simp [BoxLeq]) (by simp [BoxLeq])) (fun _ h => h.elim) (fun ⟨_, h⟩ => h.elim) (fun ⟨_, h⟩ => h.elim) (by simp [BoxLeq]) ?_
   simp -dsimp
   repeat(first|apply wG|(apply wR;simp -dsimp)|refine aI ?_)
   generalize sortR M = Z
   refine WP.ret (finQR.retW2 ((Wk.lessE [] (S' := mkS 28 [(4, .row 700)] [(602, .obj G (.deferred (some []))), (700, rfB Z), (605, .obj G2 (.deferred (some [])))] [G2, G]) (by simp) (by simp)).trans (Wk.freeze (k := 700) (T := 63) (sz := 2) (n := Z.length) (ds := rfC Z) (by simp))) ?_ G2 605 G 602 (by decide) rfl rfl rfl rfl rfl)
   simp -dsimp
end Go.Proofs.YtnljenjcaeophaaGreatDoor
