/-
  Joined texts.
-/
import Derived.Test.YtnljenjcaeophaaGreatDoorSL
import Derived.Test.YtnljenjcaeophaaGreatDoorSE
set_option maxRecDepth 10000
set_option maxHeartbeats 4000000
set_option linter.unusedVariables false
set_option linter.unusedSimpArgs false
set_option linter.unusedSectionVars false
namespace Go.Proofs.YtnljenjcaeophaaGreatDoor
open Go.Xe Go.RowKit
def plaSortR : Go.Shelf.Ren := ⟨fun n => match n with
 | 6 => 140
 | 14 => 193
 | 15 => 194
 | 20 => 223
 | 21 => 224
 | 22 => 225
 | 23 => 226
 | 24 => 227
 | 25 => 228
 | 26 => 229
 | 27 => 230
 | 28 => 231
 | 29 => 232
 | 46 => 266
 | 47 => 267
 | 48 => 268
 | 49 => 269
 | 50 => 270
 | 57 => 282
 | n => n, fun n => match n with
 | 0 => 0
 | 3 => 3
 | 4 => 4
 | 5 => 5
 | 9 => 9
 | 22 => 201
 | 24 => 154
 | 25 => 203
 | 39 => 174
 | 45 => 287
 | 46 => 288
 | 50 => 125
 | 53 => 277
 | 55 => 279
 | 66 => 327
 | 70 => 228
 | 76 => 341
 | 77 => 342
 | n => n, fun n => n⟩
set_option maxRecDepth 100000 in
theorem plaSort_lay : Go.Proofs.SlLaysF0.n6 Tryz.prog plaSortR where
 mixed := Tryz.mixed
 f6 := ⟨(Tryz.f140).name, by kernel_rfl, by kernel_rfl⟩
 f14 := ⟨(Tryz.f193).name, by kernel_rfl, by kernel_rfl⟩
 f15 := by kernel_rfl
 f20 := ⟨(Tryz.f223).name, by kernel_rfl, by kernel_rfl⟩
 f21 := ⟨(Tryz.f224).name, by kernel_rfl, by kernel_rfl⟩
 f22 := ⟨(Tryz.f225).name, by kernel_rfl, by kernel_rfl⟩
 f23 := ⟨(Tryz.f226).name, by kernel_rfl, by kernel_rfl⟩
 f24 := ⟨(Tryz.f227).name, by kernel_rfl, by kernel_rfl⟩
 f25 := ⟨(Tryz.f228).name, by kernel_rfl, by kernel_rfl⟩
 f26 := ⟨(Tryz.f229).name, by kernel_rfl, by kernel_rfl⟩
 f27 := ⟨(Tryz.f230).name, by kernel_rfl, by kernel_rfl⟩
 f28 := by kernel_rfl
 f29 := by kernel_rfl
 f46 := ⟨(Tryz.f266).name, by kernel_rfl, by kernel_rfl⟩
 f47 := by kernel_rfl
 f48 := by kernel_rfl
 f49 := ⟨(Tryz.f269).name, by kernel_rfl, by kernel_rfl⟩
 f50 := ⟨(Tryz.f270).name, by kernel_rfl, by kernel_rfl⟩
 f57 := ⟨(Tryz.f282).name, by kernel_rfl, by kernel_rfl⟩
 t0 := Tryz.underlying0
 a0 := Tryz.isAgg0
 z0 := Tryz.sizeOf0
 v0 := Tryz.zeroValue0
 t3 := Tryz.underlying3
 a3 := Tryz.isAgg3
 z3 := Tryz.sizeOf3
 v3 := Tryz.zeroValue3
 t4 := Tryz.underlying4
 a4 := Tryz.isAgg4
 z4 := Tryz.sizeOf4
 v4 := Tryz.zeroValue4
 t5 := Tryz.underlying5
 a5 := Tryz.isAgg5
 z5 := Tryz.sizeOf5
 v5 := Tryz.zeroValue5
 t9 := Tryz.underlying9
 a9 := Tryz.isAgg9
 z9 := Tryz.sizeOf9
 v9 := Tryz.zeroValue9
 t22 := Tryz.underlying201
 a22 := Tryz.isAgg201
 z22 := Tryz.sizeOf201
 v22 := Tryz.zeroValue201
 t25 := Tryz.underlying203
 a25 := Tryz.isAgg203
 z25 := Tryz.sizeOf203
 v25 := Tryz.zeroValue203
 t39 := Tryz.underlying174
 a39 := Tryz.isAgg174
 z39 := Tryz.sizeOf174
 v39 := Tryz.zeroValue174
 t45 := Tryz.underlying287
 a45 := Tryz.isAgg287
 z45 := Tryz.sizeOf287
 v45 := Tryz.zeroValue287
 t46 := Tryz.underlying288
 a46 := Tryz.isAgg288
 z46 := Tryz.sizeOf288
 v46 := Tryz.zeroValue288
 t50 := Tryz.underlying125
 a50 := Tryz.isAgg125
 z50 := Tryz.sizeOf125
 v50 := Tryz.zeroValue125
 t53 := Tryz.underlying277
 a53 := Tryz.isAgg277
 z53 := Tryz.sizeOf277
 v53 := Tryz.zeroValue277
 t55 := Tryz.underlying279
 a55 := Tryz.isAgg279
 z55 := Tryz.sizeOf279
 v55 := Tryz.zeroValue279
 t66 := Tryz.underlying327
 a66 := Tryz.isAgg327
 z66 := Tryz.sizeOf327
 v66 := Tryz.zeroValue327
 t70 := Tryz.underlying228
 a70 := Tryz.isAgg228
 z70 := Tryz.sizeOf228
 v70 := Tryz.zeroValue228
 t76 := Tryz.underlying341
 a76 := Tryz.isAgg341
 z76 := Tryz.sizeOf341
 v76 := Tryz.zeroValue341
 t77 := Tryz.underlying342
 a77 := Tryz.isAgg342
 z77 := Tryz.sizeOf342
 v77 := Tryz.zeroValue342
theorem comparePla_ok (a b : R2) : Fn0 Tryz.prog 141 [rfD a, rfD b] (.v (.int .i64 (cmpR a b))) := by
 have h1 := compare_ok a.1 b.1
 have h2 := compare_ok a.2 b.2
 have h3 := or_ok [cmpI a.1 b.1, cmpI a.2 b.2] (by simp)
 refine Fun.of_wp (pn := noPn) Tryz.tab Tryz.func141 rfl fun β0 => ?_
 simp only [Tryz.f141]
 repeat(first|apply wG|(apply wR;simp -dsimp)|refine aI ?_)
 refine vcStop.call0 Tryz.body85 h1 rfl rfl (by simp) ?_
 simp -dsimp
 repeat(first|apply wG|(apply wR;simp -dsimp)|refine aI ?_)
 refine vcStop.call0 Tryz.body85 h2 rfl rfl (by simp) ?_
 simp -dsimp
 repeat(first|apply wG|(apply wR;simp -dsimp)|refine aI ?_)
 refine vcStop.call Tryz.body84 (or_row2 (cmpI a.1 b.1) (cmpI a.2 b.2)) (rl [(1000, 15)]) rfl rfl (by simp [BoxLeq]) (CallOk.of (by simp [BoxLeq]) rfl (by first | rfl | (simp [BoxLeq]; done)) (by simp [BoxLeq]) (by simp [BoxLeq])) (fun _ h => h.elim) (fun ⟨_, h⟩ => h.elim) (fun ⟨_, h⟩ => h.elim) (by simp [BoxLeq]) ?_
 simp -dsimp
 repeat(first|apply wG|(apply wR;simp -dsimp)|refine aI ?_)
 refine WP.ret (finQ.retE ?_)
 simp -dsimp [cmpR]
abbrev pfB (o : List R2) : Box := .row 154 2 o.length ((rfC o).map .d)
theorem sortPla_ok (l : List R2) (hl : l.length ≤ 1000000) : Fun Tryz.prog 140 [.row 1000, .d (.v (.func (.func 141) #[] #[]))] [(1000, pfB l)] (.d .any) [(1000, pfB (srtL cmpR l))] fun _ => False := by
 have h := Fun.sortFunc (ρ := plaSortR) plaSort_lay 2 Tryz.isAgg154 Tryz.sizeOf154 rfV (fun x => rfl) (fun x v hv => by
  simp only [rfV, List.mem_cons, List.not_mem_nil, or_false] at hv
  rcases hv with rfl | rfl <;> rfl) cmpR swo_R (g := 141) (run_enterFn Tryz.body141) (fun x y => comparePla_ok x y) l (by omega)
 rw [rowV_rfC, rowV_rfC] at h
 have hl2 := srtL_len _ swo_R l
 simp only [pfB, hl2]
 exact h
theorem two_some {x : List Sg} (h : 1 < x.length) : ∃ a b y, x = a :: b :: y ∧ two x = some (a, b) := by
 cases x with
 | nil => simp at h
 | cons a x =>
  cases x with
  | nil => simp at h
  | cons b y => exact ⟨a, b, y, rfl, rfl⟩
theorem two_none {x : List Sg} (h : ¬ 1 < x.length) : two x = none := by
 cases x with
 | nil => rfl
 | cons a x =>
  cases x with
  | nil => rfl
  | cons b y => simp at h
def big (l : List Sg) (r : R2) : Bool := decide (1 < (shlf r l).length)
theorem filterMap_big (l : List Sg) : ∀ q : List R2, (q.filter (big l)).filterMap (fun r => two (shlf r l)) = q.filterMap fun r => two (shlf r l)
 | [] => rfl
 | r :: q => by
  rw [List.filter_cons]
  by_cases h : 1 < (shlf r l).length
  ·rw [if_pos (by simp [big, h]), List.filterMap_cons, List.filterMap_cons, filterMap_big l q]
  ·rw [if_neg (by simp [big, h]), filterMap_big l q, List.filterMap_cons, two_none h]
def bigL (l : List Sg) : List R2 := (plcN l).filter (big l)
theorem bigL_nodup (l : List Sg) : (bigL l).Nodup := (plcN_nodup l).filter _
theorem frkL_big (l : List Sg) : frkL l = (sortR (bigL l)).filterMap fun r => two (shlf r l) := by
 rw [frkL, ← filterMap_big]
 congr 1
 refine pwR_eq ((sortR_asc _).filter _) (sortR_asc _) fun r => ?_
 rw [List.mem_filter, sortR_in, sortR_in, bigL, List.mem_filter, plcN_in, plsL, List.mem_map]
 simp only [List.mem_filter]
 constructor
 ·rintro ⟨⟨s, ⟨h1, h2⟩, h3⟩, h4⟩; exact ⟨⟨s, h1, h2, h3⟩, h4⟩
 ·rintro ⟨⟨s, h1, h2, h3⟩, h4⟩; exact ⟨⟨s, ⟨h1, h2⟩, h3⟩, h4⟩
def frkD (q : Sg × Sg) : D := .agg (sgc q.1 ++ sgc q.2)
def frkAt (w : List (Sg × Sg)) (i : Nat) : Sg × Sg := w.getD i ((f0, []), (f0, []))
theorem frk_mid (l : List Sg) (z1 z2 : List R2) (r : R2) {a b : Sg} (hz : sortR (bigL l) = z1 ++ r :: z2) (h2 : two (shlf r l) = some (a, b)) (hb : ∀ q ∈ z1, 1 < (shlf q l).length) :
  frkAt (frkL l) z1.length = (a, b) ∧ z1.length < (frkL l).length := by
 have hl : (z1.filterMap fun r => two (shlf r l)).length = z1.length := by
  clear hz
  induction z1 with
  | nil => rfl
  | cons q z1 ih =>
   obtain ⟨c, d, y, _, h3⟩ := two_some (hb q (by simp))
   rw [List.filterMap_cons, h3]
   simp only [List.length_cons]
   rw [ih fun q hq => hb q (by simp [hq])]
 have e : frkL l = (z1.filterMap fun r => two (shlf r l)) ++ (a, b) :: z2.filterMap fun r => two (shlf r l) := by
  rw [frkL_big, hz, List.filterMap_append, List.filterMap_cons, h2]
 rw [e, ← hl]
 exact ⟨by simp [frkAt], by simp⟩
theorem frk_len (l : List Sg) : (frkL l).length = (sortR (bigL l)).length := by
 rw [frkL_big]
 have : ∀ z : List R2, (∀ q ∈ z, 1 < (shlf q l).length) → (z.filterMap fun r => two (shlf r l)).length = z.length := by
  intro z
  induction z with
  | nil => intro _; rfl
  | cons q z ih =>
   intro hb
   obtain ⟨c, d, y, _, h3⟩ := two_some (hb q (by simp))
   rw [List.filterMap_cons, h3]
   simp only [List.length_cons]
   rw [ih fun q hq => hb q (by simp [hq])]
 refine this _ fun q hq => ?_
 rw [sortR_in] at hq
 have := (List.mem_filter.1 hq).2
 simpa [big] using this
theorem addRef_len (l : List R2) (r : R2) : (addRef l r).length ≤ l.length + 1 := by
 unfold addRef; split
 ·omega
 ·simp
theorem plcN_len (l : List Sg) : (plcN l).length ≤ l.length := by
 have key : ∀ (q a : List R2), (q.foldl addRef a).length ≤ a.length + q.length := by
  intro q
  induction q with
  | nil => intro a; simp
  | cons r q ih =>
   intro a
   have h1 := ih (addRef a r)
   have h2 := addRef_len a r
   rw [List.foldl_cons, List.length_cons]; omega
 have h1 := key (plsL l) []
 have h2 : (plsL l).length ≤ l.length := by rw [plsL, List.length_map]; exact List.length_filter_le _ _
 simp only [List.length_nil] at h1
 rw [plcN]; omega
theorem bigL_len (l : List Sg) : (bigL l).length ≤ l.length := Nat.le_trans (List.length_filter_le _ _) (plcN_len l)
theorem rfC_mid (z1 z2 : List R2) (r : R2) : List.take 2 (List.drop (z1.length * 2) ((rfC (z1 ++ r :: z2)).map AV.d)) = [.d (.v (.int .i64 r.1)), .d (.v (.int .i64 r.2))] := by
 have e : rfC (z1 ++ r :: z2) = rfC z1 ++ ([.v (.int .i64 r.1), .v (.int .i64 r.2)] ++ rfC z2) := by rw [rfC_append]; rfl
 rw [e, List.map_append, List.drop_left' (by simp)]
 simp
theorem shM_get {l : List Sg} {r : R2} (hr : r ∈ plcN l) : GetOk (shM l) (refV r) (.v (.slice none 0 0)) (.sl 61 (sgC (shlf r l)) (shlf r l).length false) := by
 obtain ⟨a, b, e⟩ := List.append_of_mem hr
 exact .inl ⟨a.map (shE l), b.map (shE l), by rw [shM, e]; simp [shE]⟩
theorem setL_two {A B cs : List AV} (ha : A.length = 61) (hb : B.length = 61) (hc : cs.length = 122) : setL (setL cs 0 A) 61 B = A ++ B := by
 rw [setL_eq _ _ _ (by rw [setL_length]; omega), setL_eq _ _ _ (by omega)]
 simp only [List.take_zero, List.nil_append, Nat.zero_add]
 rw [List.take_left' ha, List.drop_eq_nil_of_le (by rw [List.length_append, List.length_drop]; omega), List.append_nil]
abbrev fkS1 (lp : Nat) (l : List Sg) (g : Nat) (L : List Ent3) (clock : Nat) (seen : Array Nat) (q : Value → World → (Nat → Prop) → Prop) (o : List R2) : St :=
 mkS 45 [(0, .d (.v (.func (.yield lp) #[] #[]))), (1, .ptr 1000 0), (3, .row 510), (9, .ptr 600 0)] [(1000, .cells 141 [.row 1001]), (1001, MapAt g L clock), (600, ItAt g clock seen), (500, .opq q), (510, pfB o)]
abbrev fkS2 (lp : Nat) (l : List Sg) (q : Value → World → (Nat → Prop) → Prop) (Z : List R2) (i : Nat) : St :=
 mkS 45 [(0, .d (.v (.func (.yield lp) #[] #[]))), (1, .ptr 1000 0), (24, .row 510), (25, .d (.v (.int .i64 Z.length))), (26, .d (.v (.int .i64 i)))] [(1000, .cells 141 [.row 1001]), (1001, .mp (shM l)), (500, .opq q), (510, pfB Z)]
theorem forks_it (l : List Sg) (hl : ∀ p ∈ l, sgOk p) (hn : l.length ≤ 900) : IterOk Tryz.prog 139 [.ptr 1000 0] [(1000, .cells 141 [.row 1001]), (1001, .mp (shM l))] (fun i => [frkD (frkAt (frkL l) i)]) (fun _ => true) (frkL l).length := by
 intro lp B hB
 have hfo : ∀ p ∈ l, fOk p.1 := fun p hp => (hl p hp).1
 have hks := shM_keys hfo
 have hbl := bigL_len l
 simp only [List.cons_append, List.nil_append]
 refine Fun.of_wp (pn := noPn) Tryz.tab Tryz.func139 rfl fun β0 => ?_
 simp only [Tryz.f139]
 refine WP.openMap 1001 rfl fun g L clock hL hok => ?_
 have hLk : ∀ e ∈ L, e.key = refV (keyO e.key) ∧ keyO e.key ∈ plcN l ∧ e.d = .sl 61 (sgC (shlf (keyO e.key) l)) (shlf (keyO e.key) l).length false := fun e he => by
  have h0 : (e.key, e.d) ∈ shM l := by rw [← hL]; exact List.mem_map.2 ⟨e, he, rfl⟩
  obtain ⟨r, hr, hx⟩ := shM_at h0
  have h2 := congrArg Prod.fst hx
  have h3 := congrArg Prod.snd hx
  simp only [shE] at h2 h3
  rw [h2, keyO_V]
  exact ⟨rfl, hr, h3⟩
 have hLn : L.map (fun e => keyO e.key) = plcN l := by
  have := congrArg (List.map fun q : Value × D => keyO q.1) hL
  rw [List.map_map, shM, List.map_map] at this
  have h2 : ((plcN l).map ((fun q : Value × D => keyO q.1) ∘ shE l)) = plcN l := by
   have : ((fun q : Value × D => keyO q.1) ∘ shE l) = id := by funext r; rfl
   rw [this, List.map_id]
  rw [h2] at this
  exact this
 have hl0 : left3 L #[] = L := List.filter_eq_self.2 (by simp)
 simp -dsimp
 repeat(first|apply wG|(apply wR;simp -dsimp)|refine aI ?_)
 refine vcStop.range Tryz.tab rfl rfl 600 rfl rfl (by simp [MapAt]) ?_
 simp -dsimp
 repeat(first|apply wG|(apply wR;simp -dsimp)|refine aI ?_)
 refine WP.loopWk (fun m S => ∃ seen o, m = (left3 L seen).length ∧ (o ++ ((left3 L seen).map fun e => keyO e.key).filter (big l)).Perm (bigL l) ∧ S = fkS1 lp l g L clock seen (B 0) o) L.length (S0 := fkS1 lp l g L clock #[] (B 0) [])
  ((Wk.go [] (S' := mkS 45 [(0, .d (.v (.func (.yield lp) #[] #[]))), (1, .ptr 1000 0), (3, .d nilD), (9, .ptr 600 0)] [(1000, .cells 141 [.row 1001]), (1001, MapAt g L clock), (600, ItAt g clock #[]), (500, .opq (B 0))]) 1999 500 (by decide) (by simp [MapAt, ItAt]) (by simp) (by simp [MapAt, ItAt])).trans ((Wk.nilSlot 3 510 154 2 (by simp) (by simp [MapAt, ItAt])).trans (Wk.lessE [] (by simp) (by simp [rfC, MapAt, ItAt])))) ⟨#[], [], by rw [hl0], by rw [hl0, hLn]; exact List.Perm.refl _, rfl⟩ ?_
 rintro m _ ⟨seen, o, hm, hper, rfl⟩
 by_cases hne : left3 L seen = []
 ·rw [hne] at hper
  have hoM : o.Perm (bigL l) := by simpa using hper
  simp -dsimp
  repeat(first|apply wG|(apply wR;simp -dsimp)|refine aI ?_)
  refine vcStop.nextOver rfl rfl (j := 1001) rfl rfl hok hne ?_
  simp -dsimp
  repeat(first|apply wG|(apply wR;simp -dsimp)|refine aI ?_)
  refine cF (by simp) ?_
  refine WP.exit ?_
  simp -dsimp
  refine WP.weak (Wk.closeMap 1001 rfl hok) ?_
  rw [hL]
  have hso := sortPla_ok o (by have := hoM.length_eq; omega)
  rw [srt_perm (bigL_nodup l) hoM] at hso
  have hZ1 : ∀ r ∈ sortR (bigL l), 1 < (shlf r l).length ∧ r ∈ plcN l := fun r hr => by
   rw [sortR_in] at hr
   obtain ⟨h1, h2⟩ := List.mem_filter.1 hr
   exact ⟨by simpa [big] using h2, h1⟩
  have hZl : (sortR (bigL l)).length ≤ 900 := by
   have := sortR_len (bigL l) []
   simp only [List.length_nil] at this
   have e : sortR (bigL l) = (bigL l).foldl (fun a r => insR r a) [] := rfl
   rw [e]; omega
  have hmid := frk_mid l
  have hfl := frk_len l
  generalize sortR (bigL l) = Z at hso hZ1 hZl hmid hfl
  simp -dsimp
  repeat(first|apply wG|(apply wR;simp -dsimp)|refine aI ?_)
  refine vcStop.call Tryz.body140 (hso) (rl [(1000, 510)]) rfl rfl (by simp [BoxLeq]) (CallOk.of (by simp [BoxLeq]) rfl (by first | rfl | (simp [BoxLeq]; done)) (by simp [BoxLeq]) (by simp [BoxLeq])) (fun _ h => h.elim) (fun ⟨_, h⟩ => h.elim) (fun ⟨_, h⟩ => h.elim) (by simp [BoxLeq]) ?_
  simp -dsimp
  repeat(first|apply wG|(apply wR;simp -dsimp)|refine aI ?_)
  refine WP.loopWk (fun m S => ∃ z1 z2, Z = z1 ++ z2 ∧ m = z2.length ∧ S = fkS2 lp l (B z1.length) Z z1.length) Z.length (S0 := fkS2 lp l (B 0) Z 0) (Wk.lessE [600] (by simp) (by simp)) ⟨[], Z, rfl, rfl, rfl⟩ ?_
  rintro _ _ ⟨z1, z2, hz, rfl, rfl⟩
  simp -dsimp
  repeat(first|apply wG|(apply wR;simp -dsimp)|refine aI ?_)
  cases z2 with
  | nil =>
   simp only [List.append_nil] at hz
   subst hz
   refine cF (by simp) ?_
   refine WP.exit ?_
   simp -dsimp
   refine finQ.normalWE (S' := mkS 45 [] [(1000, .cells 141 [.row 1001]), (1001, .mp (shM l)), (0, .opq (B (frkL l).length))]) (Wk.go [510] 500 0 (by decide) (by simp) (by simp) (by simp [hfl])) ?_
   simp -dsimp
  | cons r z2 =>
   have hzl : Z.length = z1.length + (z2.length + 1) := by rw [hz]; simp
   have hra := rfC_mid z1 z2 r
   rw [← hz] at hra
   refine cT (by simp; omega) ?_
   refine WP.skip ?_
   simp -dsimp
   repeat(first|apply wG|(apply wR;simp -dsimp [hra])|refine aI ?_)
   obtain ⟨hbig, hrp⟩ := hZ1 r (by rw [hz]; simp)
   obtain ⟨a, b, y, hx, htw⟩ := two_some hbig
   have hxk : ∀ p ∈ shlf r l, sgOk p := fun p hp => hl p (fstO_in (((shlf_ok r l hfo).2 p).1 hp).1)
   have hget := shM_get hrp
   obtain ⟨hfa, hfl2⟩ := hmid z1 z2 r hz htw fun q hq => (hZ1 q (by rw [hz]; simp [hq])).1
   have hlen : z1.length < (frkL l).length := hfl2
   have hy := hB z1.length hlen
   simp only [hfa] at hy
   obtain ⟨t, ht, ht1, ht2⟩ := plcN_in.1 hrp
   obtain ⟨lk, hlk⟩ := pla_key (r := r) (by rw [← ht2]; exact (hfo t ht).1 0) (by rw [← ht2]; exact (hfo t ht).1 1)
   rw [hx] at hget hxk
   have hat0 := sgc_at (x := a :: b :: y) (i := 0) (by simp) hxk
   have hat1 := sgc_at (x := a :: b :: y) (i := 1) (by simp) hxk
   have hka := hxk a (by simp)
   have hkb := hxk b (by simp)
   have la := sgc_len (hxk a (by simp))
   have lb := sgc_len (hxk b (by simp))
   have ta := sgc_t (hxk a (by simp))
   have tb := sgc_t (hxk b (by simp))
   have lc := sgC_len hxk
   have hz0 : 0 < (a :: b :: y).length := by simp
   have hz1 : 1 < (a :: b :: y).length := by simp
   simp only [List.getElem_cons_zero, List.getElem_cons_succ, Nat.zero_mul, Nat.one_mul, List.drop_zero] at hat0 hat1
   generalize hX : a :: b :: y = X at hget hxk hat0 hat1 lc hz0 hz1
   generalize sgC X = W at hget hat0 hat1 lc
   generalize X.length = N at hget lc hz0 hz1
   refine vcStop.mapGet Tryz.tab rfl rfl pla_keyed Tryz.zeroValue23 (j := 1001) rfl (kvs := shM l) rfl (key := refV r) (ref_leq _ _) (.sl 61 W N false) hlk hks hget ?_
   simp -dsimp [hat0, la, ta]
   repeat(first|apply wG|(apply wR;simp -dsimp [hat0, la, ta])|refine aI ?_)
   refine vcStop.mapGet Tryz.tab rfl rfl pla_keyed Tryz.zeroValue23 (j := 1001) rfl (kvs := shM l) rfl (key := refV r) (ref_leq _ _) (.sl 61 W N false) hlk hks hget ?_
   simp -dsimp [hat1, la, ta, lb, tb]
   repeat(first|apply wG|(apply wR;simp -dsimp [hat1, la, ta, lb, tb])|refine aI ?_)
   refine And.intro ⟨sgc_oneD hka, by rw [setL_length]; simp, sgc_oneD hkb⟩ ?_
   rw [setL_two (by rw [List.length_map, la]) (by rw [List.length_map, lb]) (by simp)]
   rw [← List.map_append]
   have e1 : IntKind.i64.wrap ((z1.length : Int) + 1) = (z1.length : Int) + 1 := IntWalk.i64_in _ (by omega)
   refine vcStop.yieldL hy 500 501 rfl rfl (And.intro (Leq.aggD _) trivial) rfl (by decide) (by simp [hasL_d]) ?_
   simp -dsimp
   repeat(first|apply wG|(apply wR;simp -dsimp)|refine aI ?_)
   refine cF (by simp) ?_
   refine WP.skip ?_
   simp -dsimp
   repeat(first|apply wG|(apply wR;simp -dsimp)|refine aI ?_)
   refine loopW.next (fkS2 lp l (B (z1 ++ [r]).length) Z (z1 ++ [r]).length) (Wk.go [7] 501 500 (by decide) (by simp) (by simp [e1]) (by simp)) z2.length (by simp) ⟨z1 ++ [r], z2, by simp [hz], rfl, rfl⟩
 ·simp -dsimp
  repeat(first|apply wG|(apply wR;simp -dsimp)|refine aI ?_)
  refine vcStop.nextMore rfl rfl (j := 1001) rfl rfl hok hne ?_
  simp -dsimp
  repeat(first|apply wG|(apply wR;simp -dsimp)|refine aI ?_)
  refine cT (by simp) ?_
  refine WP.skip ?_
  simp -dsimp
  refine WP.took 600 rfl fun e he => ?_
  have hel : e ∈ L := (List.mem_filter.1 he).1
  have hpu := left3_push hok.2.1 he
  obtain ⟨hek, hem, hed⟩ := hLk e hel
  generalize hr : keyO e.key = r at hek hem hed
  have hkA : Leq (.d (.v e.key)) (.agg [.d (.v (.int .i64 r.1)), .d (.v (.int .i64 r.2))]) := by rw [hek]; exact refV_leq r
  have hper2 : (o ++ (r :: (left3 L (seen.push e.born)).map fun e => keyO e.key).filter (big l)).Perm (bigL l) := by
   refine List.Perm.trans ?_ hper
   rw [← hr]
   exact ((hpu.map fun e : Ent3 => keyO e.key).filter (big l)).append_left o
  have hol : o.length ≤ 900 := by
   have := hper2.length_eq
   rw [List.length_append] at this
   omega
  simp -dsimp
  repeat(first|apply wG|(apply wR;simp -dsimp)|refine aI ?_)
  refine vcStop.entryK rfl rfl (j := 1001) rfl rfl hok hel hkA ?_
  rw [hed]
  clear hLk hL hLn hek hr hkA hed
  simp -dsimp
  refine And.intro (by simp [MapAt, ItAt]) ?_
  repeat(first|apply wG|(apply wR;simp -dsimp)|refine aI ?_)
  by_cases hbg : 1 < (shlf r l).length
  ·rw [List.filter_cons, if_pos (by simp [big, hbg])] at hper2
   refine cT (by simp; omega) ?_
   repeat(first|apply wG|(apply wR;simp -dsimp)|refine aI ?_)
   refine And.intro (by simp [MapAt, ItAt]) ?_
   repeat(first|apply wG|(apply wR;simp -dsimp)|refine aI ?_)
   refine And.intro (by simp [MapAt, ItAt] <;> omega) ?_
   repeat(first|apply wG|(apply wR;simp -dsimp)|refine aI ?_)
   refine loopW.next (fkS1 lp l g L clock (seen.push e.born) (B 0) (o ++ [r])) (Wk.go [4] 21 510 (by decide) (by simp [MapAt, ItAt]) (by simp) (by simp [rfC, MapAt, ItAt])) (left3 L (seen.push e.born)).length (by rw [hm, ← hpu.length_eq]; exact Nat.lt_succ_self _) ⟨_, _, rfl, ?_, rfl⟩
   rw [List.append_assoc]
   exact hper2
  ·rw [List.filter_cons, if_neg (by simp [big, hbg])] at hper2
   refine cF (by simp; omega) ?_
   refine WP.skip ?_
   simp -dsimp
   refine loopW.next (fkS1 lp l g L clock (seen.push e.born) (B 0) o) (Wk.lessE [4] (by simp) (by simp [MapAt, ItAt])) (left3 L (seen.push e.born)).length (by rw [hm, ← hpu.length_eq]; exact Nat.lt_succ_self _) ⟨_, _, rfl, hper2, rfl⟩
theorem shM_inv {l : List Sg} {s : Sg} (h : vS2 s = false) : shM (l ++ [s]) = shM l := by
 have e1 : plcN (l ++ [s]) = plcN l := by
  rw [plcN, plsL, List.filter_append]
  simp [h]
  rfl
 rw [shM, e1, shM]
 refine List.map_congr_left fun r _ => ?_
 rw [shE, shE, shlf_snoc, putS, if_neg fun k => by rw [h] at k; cases k.1]
def fkc (q : Sg × Sg) : List D := sgc q.1 ++ sgc q.2
def fkC (w : List (Sg × Sg)) : List D := w.flatMap fkc
theorem fkc_len {q : Sg × Sg} (h1 : sgOk q.1) (h2 : sgOk q.2) : (fkc q).length = 122 := by rw [fkc, List.length_append, sgc_len h1, sgc_len h2]
theorem fkc_one {q : Sg × Sg} (h1 : sgOk q.1) (h2 : sgOk q.2) : ∀ d ∈ fkc q, oneD d = true := fun d hd => by
 rcases List.mem_append.1 hd with h | h
 ·exact sgc_oneD h1 d h
 ·exact sgc_oneD h2 d h
theorem frkD_eq (q : Sg × Sg) : frkD q = .agg (fkc q) := rfl
theorem frk_in {l : List Sg} (hl : ∀ p ∈ l, sgOk p) {q : Sg × Sg} (hq : q ∈ frkL l) : sgOk q.1 ∧ sgOk q.2 := by
 obtain ⟨r, _, h⟩ := List.mem_filterMap.1 hq
 obtain ⟨h1, h2, _⟩ := two_ok (fun s hs => (hl s hs).1) h
 exact ⟨hl _ (fstO_in h1), hl _ (fstO_in h2)⟩
theorem fkC_snoc (w : List (Sg × Sg)) {i : Nat} (hi : i < w.length) : fkC (w.take (i + 1)) = fkC (w.take i) ++ fkc (frkAt w i) := by
 have e : w.take (i + 1) = w.take i ++ [frkAt w i] := by
  rw [List.take_add_one, List.getElem?_eq_getElem hi]
  simp [frkAt, hi]
 rw [e, fkC, List.flatMap_append]
 simp [fkC]
theorem shfor_ok (kvs : List (Value × D)) : Fun Tryz.prog 83 [.row 1000] [(1000, .mp kvs)] (.fn (.func 139) [] [.ptr 0 0]) [(1000, .mp kvs), (0, .cells 141 [.row 1000])] fun _ => False := by
 refine Fun.of_wp (pn := noPn) Tryz.tab Tryz.func83 rfl fun β0 => ?_
 simp only [Tryz.f83]
 repeat(first|apply wG|(apply wR;simp -dsimp)|refine aI ?_)
 refine WP.ret (finQ.retWE (S' := mkS 4 [(2, .fn (.func 139) [] [.ptr 0 0])] [(1000, .mp kvs), (0, .cells 141 [.row 1000])]) (Wk.go [] 1 0 (by decide) (by simp) (by simp) (by simp)) ?_)
 simp -dsimp
def bF (w : List (Sg × Sg)) : Nat → Bxs
 | 0 => [(1100, .cells 87 [.d nilD])]
 | i + 1 => [(1100, .cells 87 [.row 505]), (505, .row 90 122 (i + 1) ((fkC (w.take (i + 1))).map .d))]
theorem bF_singles (w : List (Sg × Sg)) (i : Nat) : singles (bF w i) := by
 intro k b h
 cases i <;> simp only [bF, getB] at h <;> (repeat' split at h) <;> cases h <;> rfl
abbrev slK (w : List (Sg × Sg)) : D := .sl 122 (fkC w) w.length false
theorem bF_tags (w : List (Sg × Sg)) (m : Nat) : ∀ p ∈ bF w m, ∀ t ∈ AV.tagsL p.2.cs, isIn (bF w m) t = true := by
 cases m with
 | zero =>
  intro p hp t ht
  simp only [bF, List.mem_singleton] at hp
  subst hp
  simp [Box.cs, AV.tagsL, AV.tags] at ht
 | succ m =>
  intro p hp t ht
  simp only [bF, List.mem_cons, List.not_mem_nil, or_false] at hp
  rcases hp with rfl | rfl
  ·simp [Box.cs, AV.tagsL, AV.tags] at ht
   subst ht
   simp [bF, isIn, getB]
  ·simp [Box.cs, tagsL_d] at ht
abbrev foS (l : List Sg) (b : Bool) (l1 : List Sg) : St := mkS 33 [(2, .ptr 2 0), (3, .row 8), (4, .fn (.func 82) [.row 8] []), (11, .d (sgD l b)), (12, .d (.v (.int .i64 l.length))), (13, .d (.v (.int .i64 l1.length)))] [(2, .cells 87 [.d nilD]), (8, .mp (shM l1))]
theorem forks_ok (l : List Sg) (b : Bool) (hl : ∀ p ∈ l, sgOk p) (hn : l.length ≤ 900) : Fn0 Tryz.prog 37 [sgD l b] (slK (frkL l)) := by
 have itf := forks_it l hl hn
 have hfo : ∀ p ∈ l, fOk p.1 := fun p hp => (hl p hp).1
 refine Fun.of_wpR Tryz.tab Tryz.func37 rfl fun β0 => ?_
 simp only [Tryz.f37]
 repeat(first|apply wG|(apply wR;simp -dsimp)|refine aI ?_)
 refine vcStop.makeMap 8 rfl (by simp) ?_
 simp -dsimp
 repeat(first|apply wG|(apply wR;simp -dsimp)|refine aI ?_)
 refine WP.loopWk (fun m S => ∃ l1 l2, l = l1 ++ l2 ∧ m = l2.length ∧ S = foS l b l1) l.length (S0 := foS l b []) (Wk.lessE [] (by simp) (by simp [shM, plcN, plsL])) ⟨[], l, rfl, rfl, rfl⟩ ?_
 rintro _ _ ⟨l1, l2, hl12, rfl, rfl⟩
 simp -dsimp
 repeat(first|apply wG|(apply wR;simp -dsimp)|refine aI ?_)
 cases l2 with
 | nil =>
  simp only [List.append_nil] at hl12
  subst hl12
  refine cF (by simp) ?_
  refine WP.exit ?_
  simp -dsimp
  repeat(first|apply wG|(apply wR;simp -dsimp)|refine aI ?_)
  refine vcStop.call Tryz.body83 (shfor_ok (shM l)) (rl [(1000, 8), (0, 600)]) rfl rfl (by simp [BoxLeq]) (CallOk.of (by simp [BoxLeq]) rfl (by first | rfl | (simp [BoxLeq]; done)) (by simp [BoxLeq]) (by simp [BoxLeq])) (fun _ h => h.elim) (fun ⟨_, h⟩ => h.elim) (fun ⟨_, h⟩ => h.elim) (by simp [BoxLeq]) ?_
  simp -dsimp
  repeat(first|apply wG|(apply wR;simp -dsimp)|refine aI ?_)
  have hq : ∀ i, i < (frkL l).length → sgOk (frkAt (frkL l) i).1 ∧ sgOk (frkAt (frkL l) i).2 := fun i hi => by
   refine frk_in hl ?_
   have : frkAt (frkL l) i = (frkL l)[i] := by simp [frkAt, hi]
   rw [this]
   exact List.getElem_mem hi
  have hwl : (frkL l).length ≤ 900 := by
   have h1 := sortR_len (bigL l) []
   have h2 := bigL_len l
   have e : sortR (bigL l) = (bigL l).foldl (fun a r => insR r a) [] := rfl
   rw [frk_len, e]
   simp only [List.length_nil] at h1
   omega
  generalize frkL l = w at itf hq hwl
  refine WP.rangeFuncE Tryz.body139 itf (jump := fun _ => none) (bF w) (mkS 33 [(2, .ptr 1100 0)] []).sl 990 (rl [(1000, 600), (1001, 8), (1100, 2), (505, 510), (990, 602)]) rfl rfl rfl (by simp) (by simp) (by simp) (fun i _ => bF_singles _ i)
   (by cases w.length <;> simp [bF]) (by simp) (bF_tags w _) (by simp) (by decide) (by cases w.length <;> simp [bF]) (fun _ _ => rfl) (fun _ _ => rfl) ?_ (fun G => CallOk.of (by simp [bF, fkC]) (by cases w.length <;> simp [bF]) (by cases w.length <;> simp [bF]) (by cases w.length <;> simp [bF]) (by cases w.length <;> simp [bF])) (fun G => by cases w.length <;> simp [bF]) ?_
  ·intro i hi lp β1
   obtain ⟨hqa, hqb⟩ := hq i hi
   have hsn := fkC_snoc w hi
   have fl := fkc_len hqa hqb
   have fo := fkc_one hqa hqb
   have ft : List.take 122 ((fkc (frkAt w i)).map AV.d) = (fkc (frkAt w i)).map .d := List.take_of_length_le (by rw [List.length_map, fl]; omega)
   simp only [frkD_eq]
   cases i with
   | zero =>
    simp -dsimp [bF]
    generalize fkc (frkAt w 0) = f at hsn fl fo ft ⊢
    rw [show fkC (w.take 0) = [] from rfl, List.nil_append, Nat.zero_add] at hsn
    repeat(first|apply wG|(apply wR;simp -dsimp [fl, ft])|refine aI ?_)
    exact ⟨mkS 33 [] (bF w 1), Wk.go [7, 30] 31 505 (by decide) (by simp) (by simp) (by simp [bF, hsn]), subB_ok (by simp [bF])⟩
   | succ i =>
    simp -dsimp [bF]
    generalize fkC (w.take (i + 1)) = W at hsn ⊢
    generalize fkc (frkAt w (i + 1)) = f at hsn fl fo ft ⊢
    repeat(first|apply wG|(apply wR;simp -dsimp [fl, ft])|refine aI ?_)
    exact ⟨mkS 33 [] (bF w (i + 1 + 1)), Wk.go [7, 30] 31 505 (by decide) (by simp) (by simp) (by simp [bF, hsn]), subB_ok (by simp [bF])⟩
  ·intro G
   rw [pendOf_none, endQ_none]
   cases hw : w.length with
   | zero =>
    have hw0 : w = [] := List.eq_nil_of_length_eq_zero hw
    subst hw0
    simp -dsimp [bF]
    repeat(first|apply wG|(apply wR;simp -dsimp)|refine aI ?_)
    refine WP.ret (finQR.retM ?_ G 602 rfl rfl rfl)
    simp -dsimp [fkC]
    exact Leq.nil 122
   | succ n =>
    simp -dsimp [bF]
    rw [← hw, List.take_length]
    repeat(first|apply wG|(apply wR;simp -dsimp)|refine aI ?_)
    refine WP.ret (finQR.retW ((Wk.lessE [] (S' := mkS 33 [(2, .ptr 2 0)] [(2, .cells 87 [.row 510]), (602, .obj G (.deferred (some []))), (510, .row 90 122 w.length ((fkC w).map .d))] [G]) (by simp) (by simp)).trans (Wk.freeze (k := 510) (T := 90) (sz := 122) (n := w.length) (ds := fkC w) (by simp))) ?_ G 602 rfl rfl rfl)
    simp -dsimp
 | cons p l2 =>
  have hll : l.length = l1.length + (l2.length + 1) := by rw [hl12]; simp
  have hlt : l1.length < l.length := by omega
  have hp := hl p (by rw [hl12]; simp)
  have hat := sgc_at hlt hl
  have hpe : l[l1.length] = p := by simp [hl12]
  rw [hpe] at hat
  have l2' := sgc_len hp
  have tp := sgc_t hp
  have lc := sgC_len hl
  have hc := check_ok p.1 hp.1
  have e1 : IntKind.i64.wrap ((l1.length : Int) + 1) = (l1.length : Int) + 1 := IntWalk.i64_in _ (by omega)
  refine cT (by simp; omega) ?_
  refine WP.skip ?_
  simp -dsimp
  repeat(first|apply wG|(apply wR;simp -dsimp [hat, l2', tp])|refine aI ?_)
  refine And.intro (sgc_oneD hp) ?_
  have h57 := sgc_57 p
  repeat(first|apply wG|(apply wR;simp -dsimp [h57, l2'])|refine aI ?_)
  refine vcStop.call0 Tryz.body69 hc rfl rfl (by simp [fD]) ?_
  simp -dsimp
  repeat(first|apply wG|(apply wR;simp -dsimp)|refine aI ?_)
  have hl1 : ∀ q ∈ l1, sgOk q := fun q hq => hl q (by rw [hl12]; simp [hq])
  cases hv : vS2 p with
  | true =>
   have hv' : (numF p.1).2 = true := hv
   refine cT (by simp [hv']) ?_
   have hts := sgc_tm hp
   repeat(first|apply wG|(apply wR;simp -dsimp [hts, l2'])|refine aI ?_)
   refine vcStop.call Tryz.body82 (shput_ok l1 p hl1 hp hv (by omega)) (rl [(1000, 8)]) rfl rfl (by simp [sgV, BoxLeq]) (CallOk.of (by simp [sgV, BoxLeq]) rfl (by first | rfl | (simp [sgV, BoxLeq]; done)) (by simp [sgV, BoxLeq]) (by simp [sgV, BoxLeq])) (fun _ h => h.elim) (fun ⟨_, h⟩ => h.elim) (fun ⟨_, h⟩ => h.elim) (by simp [sgV, BoxLeq]) ?_
   simp -dsimp
   repeat(first|apply wG|(apply wR;simp -dsimp)|refine aI ?_)
   refine loopW.next (foS l b (l1 ++ [p])) (Wk.lessE [6] (by simp [e1]) (by simp)) l2.length (by simp) ⟨l1 ++ [p], l2, by simp [hl12], rfl, rfl⟩
  | false =>
   have hv' : (numF p.1).2 = false := hv
   refine cF (by simp [hv']) ?_
   refine WP.skip ?_
   simp -dsimp
   repeat(first|apply wG|(apply wR;simp -dsimp)|refine aI ?_)
   refine loopW.next (foS l b (l1 ++ [p])) (Wk.lessE [6] (by simp [e1]) (by simp [shM_inv hv])) l2.length (by simp) ⟨l1 ++ [p], l2, by simp [hl12], rfl, rfl⟩
end Go.Proofs.YtnljenjcaeophaaGreatDoor
