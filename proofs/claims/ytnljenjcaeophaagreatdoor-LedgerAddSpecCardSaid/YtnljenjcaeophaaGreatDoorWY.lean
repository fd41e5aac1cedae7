/-
  Joined texts.
-/
import Derived.Test.YtnljenjcaeophaaGreatDoorW8
import Derived.Shelf.SlSortCmp.InsertionK
import Derived.Shelf.SlSortCmp.NoneTotal
import Derived.Test.YtnljenjcaeophaaGreatDoorWB
import Derived.Test.YtnljenjcaeophaaGreatDoorWZI
set_option linter.unusedVariables false
set_option linter.unusedSimpArgs false
set_option linter.unusedSectionVars false
namespace Go.Xe
open Go.RowKit Go.Sort Go.Shelf
variable [Glob]
section
variable {α : Type} [Inhabited α]
def rz_ (cf : α → α → Int) (l : List α) : List α := (Sort.insertionSort (Go.Proofs.ltOf cf) l.toArray 0 l.length).toList
theorem fm_ (lt : α → α → Bool) (a : Nat) : ∀ (j : Nat) (d : Array α), (insInner lt a j d).size = d.size
 | 0, d => by simp [insInner]
 | j + 1, d => by
  rw [insInner]
  split
  ·rw [fm_ lt a j, swp_size]
  ·rfl
theorem fl_ (lt : α → α → Bool) (a b : Nat) : ∀ (n i : Nat) (d : Array α), b - i = n → (insOuter lt a b i d).size = d.size
 | 0, i, d, h => by rw [insOuter, if_neg (by omega)]
 | n + 1, i, d, h => by rw [insOuter, if_pos (by omega), fl_ lt a b n (i + 1) _ (by omega), fm_]
theorem oE_ (cf : α → α → Int) (l : List α) : (rz_ cf l).length = l.length := by
 unfold rz_ Sort.insertionSort
 rw [Array.length_toList, fl_ _ _ _ _ _ _ rfl]
 simp
theorem vZ_ {cf : α → α → Int} (hO : SWO (Go.Proofs.ltOf cf)) (l : List α) : (rz_ cf l).Perm l ∧ (rz_ cf l).Pairwise fun a b => Go.Proofs.ltOf cf b a = false := by
 obtain ⟨⟨h1, _, h2⟩, h3⟩ := insertionSort_holds (lt := Go.Proofs.ltOf cf) hO l.toArray 0 l.length (Nat.zero_le _) (by simp)
 unfold rz_
 generalize Sort.insertionSort (Go.Proofs.ltOf cf) l.toArray 0 l.length = d at *
 constructor
 ·have e1 : (d.extract 0 l.length) = d := by rw [show l.length = d.size by simpa using h1.symm]; simp
  have e2 : (l.toArray.extract 0 l.length) = l.toArray := by simp
  rw [e1, e2] at h2
  simpa using h2
 ·rw [List.pairwise_iff_getElem]
  intro i j hi hj hij
  have hj' : j < d.size := by simpa using hj
  have hi' : i < d.size := by omega
  have hdl : d.size = l.length := by simpa using h1
  have := h3 i j (Nat.zero_le _) hij (by omega)
  rw [getElem!_pos d j hj', getElem!_pos d i hi'] at this
  simpa using this
theorem iY_ {P : Program} {ρ : Ren} (L : Go.Proofs.SlLaysF0.n20 P ρ) (k : Nat) (aE : ∀ w, (isAgg (ρ.t 24)).run P w = .ok true w) (zE : ∀ w, (Go.sizeOf (ρ.t 24)).run P w = .ok k w) (enc : α → List Value) (hk : ∀ x, (enc x).length = k)
  (h1 : ∀ x, ∀ v ∈ enc x, v.oneCell' = true) (cf : α → α → Int) {g : FuncId} (eg : ∀ args w, (callFunc g args).run P w = .ok (.enter g args) w)
  (hcf : ∀ x y, Fn0 P g [.agg ((enc x).map .v), .agg ((enc y).map .v)] (.v (.int .i64 (cf x y)))) (l : List α) (hl : l.length < 4611686018427387904) :
  Fun P (ρ.f 20) [.row 1000, .d (.v (.int .i64 0)), .d (.v (.int .i64 l.length)), .d (.v (.func (.func g) #[] #[]))] [(1000, .row (ρ.t 24) k l.length (w8_ enc l))] (.d .any) [(1000, .row (ρ.t 24) k l.length (w8_ enc (rz_ cf l)))] fun _ => False := by
 intro w I β vs hm hd
 obtain ⟨v, vs', rfl, hv, z0, vs1, rfl, hz0, zn, vs2, rfl, hzn, fv, vs'', rfl, hfv, hnil⟩ := hd
 rw [DenA_v] at hfv hz0 hzn
 subst hfv
 subst hz0
 subst hzn
 rw [DenA] at hv
 obtain ⟨rfl, _⟩ := hv
 have hnil : vs'' = [] := hnil
 subst hnil
 obtain ⟨xs, how, hdx, hox⟩ := hm.bxs 1000 _ rfl
 have hxs := hs_.1 hdx
 subst hxs
 have hsl := oE_ cf l
 rcases how.2 with ⟨hn, hn0⟩ | ⟨b, cap, cur, hβ, _, hb, hnc, hcm, hcs, htk⟩
 ·have hl0 : l = [] := List.eq_nil_of_length_eq_zero hn0
  subst hl0
  have hs0 : rz_ cf ([] : List α) = [] := List.eq_nil_of_length_eq_zero (by rw [hsl]; rfl)
  rw [hs0, hn]
  refine Calls.mono (Go.Proofs.AnyF.insertionSortCmpFunc_none L none 0 _ w) fun e w' ⟨he, hw⟩ => ?_
  subst he
  subst hw
  exact ⟨I, β, hm, trivial, fun _ _ => rfl⟩
 ·have hlt : b < w.heap.size := by
   rcases Nat.lt_or_ge b w.heap.size with h | h
   ·exact h
   ·rw [Array.getElem?_eq_none h] at hb; cases hb
  have hblk : blk (β 1000) = some b := by rw [hβ]; rfl
  have hnI : ¬ I b := (hm.sep 1000 _ b rfl (.inl hblk)).1
  have hH : HoldsK enc k w b 0 l.toArray := by
   intro j hj
   have hj' : j < l.length * k := by simpa using hj
   have hcap : l.length * k ≤ cur.size := by rw [hcs]; exact Nat.mul_le_mul_right _ hnc
   have e1 : cur[j]? = some ((flatK enc k l.toArray)[j]!) := by
    have := congrArg (fun q => q[j]?) htk
    simp only [List.getElem?_take, hj', if_true, Array.getElem?_toList] at this
    rw [this, ← show l.toArray.toList = l from rfl, ← jp_ enc k hk, Array.getElem?_toList, Array.getElem?_eq_getElem (by simpa using hj), getElem!_pos]
   constructor
   ·simp [World.cell?, hb, Nat.zero_add, e1, id]
   ·simp [World.frozen?, hb]
  rw [hβ]
  refine Calls.mono (Go.Proofs.AnyQ.insertionSortCmpFunc L k aE zE enc hk h1 cf g #[] b 0 cap 0 l.length l.toArray w eg (p7_ enc k cf hcf hm.gl hm.im hnI _) hH hlt (Nat.zero_le _) (by simp) (by simpa using hl)) fun e w' ⟨he, n, os, hw⟩ => ?_
  subst he
  generalize hd' : Sort.insertionSort (Go.Proofs.ltOf cf) l.toArray 0 l.length = d' at hw
  have hsd : rz_ cf l = d'.toList := by rw [rz_, hd']
  have hsz' : d'.size = l.length := by rw [← hsl, hsd]; simp
  subst hw
  have hown := qE_ enc k hk w b n d' os hb (by rw [hsz']; exact hnc) hcm hcs
  have hkp : Kept w I (Go.Proofs.sortWorldK enc k w b 0 n d' os) I := ⟨fun _ h => h, fun m hm' => fL_ enc k w b n d' os m (hm.im m hm') (fun e => hnI (e ▸ hm'))⟩
  refine ⟨I, β, ⟨fun j c hj => ?_, fun j c m hj hm' => ?_, fun i j c c' m hi hj => ?_, fun m hm' => Nat.lt_of_lt_of_le (hm.im m hm') (fK_ enc k w b n d' os), hm.inew, hm.kept.trans hkp, fun m hm' hF => ?_, fK_ enc k w b n d' os, rfl, rfl, rfl, ?_, hm.gl⟩, trivial, fun _ _ => rfl⟩
  ·have hj1 : j = 1000 ∧ c = .row (ρ.t 24) k l.length (w8_ enc (rz_ cf l)) := by
    simp only [getB] at hj
    split at hj
    ·rename_i e; cases hj; exact ⟨by simpa using e.symm, rfl⟩
    ·cases hj
   obtain ⟨rfl, rfl⟩ := hj1
   rw [hβ, hsd, ← hsz']
   refine ⟨_, hown, hs_.2 rfl, fun u hu => ?_⟩
   rw [List.mem_flatMap] at hu
   obtain ⟨x, _, hx⟩ := hu
   exact h1 x u hx
  ·have hj1 : j = 1000 := by
    simp only [getB] at hj
    split at hj
    ·rename_i e; simpa using e.symm
    ·cases hj
   subst hj1
   exact hm.sep 1000 _ m rfl hm'
  ·have hi1 : i = 1000 := by
    simp only [getB] at hi
    split at hi
    ·rename_i e; simpa using e.symm
    ·cases hi
   have hj1 : j = 1000 := by
    simp only [getB] at hj
    split at hj
    ·rename_i e; simpa using e.symm
    ·cases hj
   intro _ _
   rw [hi1, hj1]
  ·refine fL_ enc k w b n d' os m hm' fun e => hF ?_
   subst e
   exact ⟨1000, _, rfl, .inl hblk⟩
  ·show w.drawn ≤ w.drawn + n
   exact Nat.le_add_right _ _
end
end Go.Xe
namespace Go.Proofs.YtnljenjcaeophaaGreatDoor
open Go.Xe Go.RowKit
def lL_ : Go.Shelf.Ren := ⟨fun n => match n with
 | 20 => 277
 | n => n, fun n => match n with
 | 0 => 0
 | 3 => 3
 | 4 => 4
 | 22 => 115
 | 24 => 65
 | 25 => 92
 | n => n, fun n => n⟩
set_option maxRecDepth 100000 in
theorem lK_ : Go.Proofs.SlLaysF0.n20 Tryz.prog lL_ where
 mixed := ga_
 f20 := ⟨(Tryz.f277).name, by kernel_rfl, by kernel_rfl⟩
 t0 := Tryz.underlying0
 a0 := Tryz.isAgg0
 z0 := Tryz.sizeOf0
 v0 := Tryz.zeroValue0
 t3 := Tryz.underlying3
 a3 := Tryz.isAgg3
 z3 := Tryz.sizeOf3
 v3 := Tryz.zeroValue3
 t4 := Tryz.underlying4
 a4 := Tryz.isAgg4
 z4 := Tryz.sizeOf4
 v4 := Tryz.zeroValue4
 t22 := Tryz.underlying115
 a22 := Tryz.isAgg115
 z22 := Tryz.sizeOf115
 v22 := Tryz.zeroValue115
 t25 := Tryz.underlying92
 a25 := Tryz.isAgg92
 z25 := Tryz.sizeOf92
 v25 := Tryz.zeroValue92
abbrev Fk := {f : Nat → Int // fOk f}
theorem BT_ : fOk f0 := ⟨fun _ => uH_, .inl rfl, fun _ _ => rfl⟩
instance : Inhabited Fk := ⟨⟨f0, BT_⟩⟩
def zE_ (f : Nat → Int) (i : Nat) : Value := if i = 54 then .bool (decide (f 54 = 1)) else .int .i64 (f i)
def fvs (x : Fk) : List Value := (List.range' 0 57).map (zE_ x.1)
theorem nx_ (x : Fk) : (fvs x).map D.v = fcs x.1 0 57 := by
 rw [fvs, fcs, List.map_map]
 refine List.map_congr_left fun i _ => ?_
 show D.v (zE_ x.1 i) = fcell x.1 i
 unfold zE_ fcell
 split <;> rfl
theorem jK_ : ∀ l : List Fk, w8_ fvs l = (fsC (l.map (·.1))).map .d
 | [] => rfl
 | x :: l => by
  have h := jK_ l
  unfold w8_ at *
  rw [List.flatMap_cons, List.map_append, h, List.map_cons, c8_, List.map_append, ← nx_, List.map_map]
  rfl
def zP_ (x y : Fk) : Int := aE_ x.1 y.1
theorem ltK (x y : Fk) : Go.Proofs.ltOf zP_ x y = decide (aE_ x.1 y.1 < 0) := rfl
theorem vc_ : Go.Sort.SWO (Go.Proofs.ltOf zP_) := by
 have h := cmp_fact
 constructor
 ·intro x
  have := h.anti x.1 x.1
  rw [ltK, decide_eq_false_iff_not]
  omega
 ·intro x y z h1 h2
  rw [ltK, decide_eq_true_eq] at *
  have a := h.trans x.1 y.1 z.1 (by omega) (by omega)
  by_cases e : aE_ x.1 z.1 = 0
  ·have b := h.same x.1 z.1 y.1 e
   have c := h.anti z.1 y.1
   omega
  ·omega
 ·intro x y z h1 h2
  rw [ltK, decide_eq_false_iff_not] at *
  have a := h.anti x.1 y.1
  have b := h.anti y.1 z.1
  have c := h.trans z.1 y.1 x.1 (by omega) (by omega)
  have d := h.anti x.1 z.1
  omega
def er_ (l : List Fk) : List Fk := rz_ zP_ l
theorem rv_ (l : List Fk) (hl : l.length ≤ 1000000) : Fun Tryz.prog 277 [.row 1000, .d (.v (.int .i64 0)), .d (.v (.int .i64 l.length)), .d (.v (.func (.func 39) #[] #[]))] [(1000, .row 65 57 l.length ((fsC (l.map (·.1))).map .d))] (.d .any) [(1000, .row 65 57 l.length ((fsC ((er_ l).map (·.1))).map .d))] fun _ => False := by
 have h := iY_ (ρ := lL_) lK_ 57 Tryz.isAgg65 Tryz.sizeOf65 fvs (fun x => by simp [fvs]) (fun x v hv => by
  rw [fvs, List.mem_map] at hv
  obtain ⟨i, _, rfl⟩ := hv
  unfold zE_
  split <;> rfl) zP_ (g := 39) (hJ_ eO_) (fun x y => by
  have h := cj_ x.1 y.1 x.2 y.2
  unfold fD at h
  rw [← nx_ x, ← nx_ y] at h
  exact h) l (by omega)
 rw [jK_, jK_] at h
 exact h
abbrev kK_ : D := .v (.func (.func 39) #[] #[])
@[simp] theorem BP_ (f : F) : Leq (.agg ((fcs f 0 57).map .d)) (.d (fD f)) ↔ True := ⟨fun _ => trivial, fun _ => ai_ _⟩
theorem oS_ (f g : F) (hf : fOk f) (hg : fOk g) : Fun Tryz.prog 207 [.d (fD f), .d (fD g), .ptr 1000 0] [(1000, .cells 92 [.d kK_])] (.d (.v (.bool (decide (aE_ f g = 0))))) [(1000, .cells 92 [.d kK_])] fun _ => False := by
 refine ac_ (pn := ap_) aa_ Tryz.func207 rfl fun β0 => ?_
 simp only [Tryz.f207]
 simp only [fD]
 repeat(first|apply wG|(apply wR;simp -dsimp)|refine aI ?_)
 refine ad_ eO_ (cj_ f g hf hg) rfl rfl (by simp [fD]) ?_
 simp -dsimp
 repeat(first|apply wG|(apply wR;simp -dsimp)|refine aI ?_)
 refine WP.ret (ab_ ?_)
 simp -dsimp
@[simp] theorem Bb_ (k : Nat) (l : List F) : am_ k ((fsC l).map .d) = false := by
 induction fsC l with
 | nil => rfl
 | cons c cs ih => rw [List.map_cons, am_, ih]; rfl
theorem sf_ (l : List F) (h0 : 0 < l.length) (hl : l.length ≤ 14) : Fun Tryz.prog 204 [.row 1000] [(1000, .row 65 57 l.length ((fsC l).map .d))] (.row 0) [(1000, .row 65 57 l.length ((fsC l).map .d)), (0, .row 65 57 l.length ((fsC l).map .d))] fun _ => False := by
 refine ac_ (pn := ap_) aa_ Tryz.func204 rfl fun β0 => ?_
 simp only [Tryz.f204]
 repeat(first|apply wG|(apply wR;simp -dsimp)|refine aI ?_)
 refine hy_ aa_ rfl rfl rfl rfl rfl h0 ?_
 simp -dsimp
 repeat(first|apply wG|(apply wR;simp -dsimp)|refine aI ?_)
 refine cF (by simp) ?_
 refine WP.skip ?_
 simp -dsimp
 repeat(first|apply wG|(apply wR;simp -dsimp)|refine aI ?_)
 refine And.intro ⟨fsC_len l, by omega⟩ ?_
 refine WP.ret (an_ (S' := mkS 8 [(2, .row 0)] [(1000, .row 65 57 l.length ((fsC l).map .d)), (0, .row 65 57 l.length ((fsC l).map .d))]) (Wk.go [] 7 0 (by decide) (by simp) (by simp) (by simp)) ?_)
 simp -dsimp
theorem sg_ : Fn0 Tryz.prog 204 [.v (.slice none 0 0)] (.v (.slice none 0 0)) := by
 refine ac_ (pn := ap_) aa_ Tryz.func204 rfl fun β0 => ?_
 simp only [Tryz.f204]
 repeat(first|apply wG|(apply wR;simp -dsimp)|refine aI ?_)
 refine b4_ aa_ rfl rfl rfl rfl ?_
 simp -dsimp
 repeat(first|apply wG|(apply wR;simp -dsimp)|refine aI ?_)
 refine cT (by simp) ?_
 repeat(first|apply wG|(apply wR;simp -dsimp)|refine aI ?_)
 refine WP.ret (ab_ ?_)
 simp -dsimp
theorem qz_ (l : List Fk) (hl : l.length ≤ 14) : Fun Tryz.prog 257 [.row 1000, .d (.v (.int .i64 l.length)), .d kK_] [(1000, .row 65 57 l.length ((fsC (l.map (·.1))).map .d))] (.tup []) [(1000, .row 65 57 l.length ((fsC ((er_ l).map (·.1))).map .d))] fun _ => False := by
 refine ac_ (pn := ap_) aa_ Tryz.func257 rfl fun β0 => ?_
 simp only [Tryz.f257]
 repeat(first|apply wG|(apply wR;simp -dsimp)|refine aI ?_)
 refine ak_ (fun m S => S = mkS 63 [(0, .row 1000), (1, .d (.v (.int .i64 l.length))), (2, .d kK_), (6, .d (.v (.int .i64 20))), (7, .d (.v (.int .i64 0))), (8, .d (.v (.int .i64 20)))] [(1000, .row 65 57 l.length ((fsC (l.map (·.1))).map .d))]) 1
  (S0 := mkS 63 [(0, .row 1000), (1, .d (.v (.int .i64 l.length))), (2, .d kK_), (6, .d (.v (.int .i64 20))), (7, .d (.v (.int .i64 0))), (8, .d (.v (.int .i64 20)))] [(1000, .row 65 57 l.length ((fsC (l.map (·.1))).map .d))]) (ae_ [] (by simp) (by simp)) rfl ?_
 rintro _ _ rfl
 simp -dsimp
 repeat(first|apply wG|(apply wR;simp -dsimp)|refine aI ?_)
 refine cF (by simp; omega) ?_
 refine WP.exit ?_
 simp -dsimp
 repeat(first|apply wG|(apply wR;simp -dsimp)|refine aI ?_)
 refine vcStop.call gm_ (rv_ l (by omega)) (rl []) rfl rfl (by simp [BoxLeq]) (aj_ (by simp [BoxLeq]) rfl (by first | rfl | (simp [BoxLeq]; done)) (by simp [BoxLeq]) (by simp [BoxLeq])) (fun _ h => h.elim) (fun ⟨_, h⟩ => h.elim) (fun ⟨_, h⟩ => h.elim) (by simp [BoxLeq]) ?_
 simp -dsimp
 repeat(first|apply wG|(apply wR;simp -dsimp)|refine aI ?_)
 refine ak_ (fun m S => S = mkS 63 [(0, .row 1000), (1, .d (.v (.int .i64 l.length))), (2, .d kK_), (6, .d (.v (.int .i64 20)))] [(1000, .row 65 57 l.length ((fsC ((er_ l).map (·.1))).map .d))]) 1
  (S0 := mkS 63 [(0, .row 1000), (1, .d (.v (.int .i64 l.length))), (2, .d kK_), (6, .d (.v (.int .i64 20)))] [(1000, .row 65 57 l.length ((fsC ((er_ l).map (·.1))).map .d))]) (ae_ [] (by simp) (by simp)) rfl ?_
 rintro _ _ rfl
 simp -dsimp
 repeat(first|apply wG|(apply wR;simp -dsimp)|refine aI ?_)
 refine cF (by simp; omega) ?_
 refine WP.exit ?_
 simp -dsimp
 refine aF_ (S' := mkS 63 [] [(1000, .row 65 57 l.length ((fsC ((er_ l).map (·.1))).map .d))]) (ae_ [] (by simp) (by simp)) ?_
 simp -dsimp
theorem jF_ (l : List Fk) (hl : l.length ≤ 14) : Fun Tryz.prog 205 [.row 1000, .d kK_] [(1000, .row 65 57 l.length ((fsC (l.map (·.1))).map .d))] (.tup []) [(1000, .row 65 57 l.length ((fsC ((er_ l).map (·.1))).map .d))] fun _ => False := by
 refine ac_ (pn := ap_) aa_ Tryz.func205 rfl fun β0 => ?_
 simp only [Tryz.f205]
 repeat(first|apply wG|(apply wR;simp -dsimp)|refine aI ?_)
 refine vcStop.call gp_ (qz_ l hl) (rl []) rfl rfl (by simp [BoxLeq]) (aj_ (by simp [BoxLeq]) rfl (by first | rfl | (simp [BoxLeq]; done)) (by simp [BoxLeq]) (by simp [BoxLeq])) (fun _ h => h.elim) (fun ⟨_, h⟩ => h.elim) (fun ⟨_, h⟩ => h.elim) (by simp [BoxLeq]) ?_
 simp -dsimp
 refine aF_ (S' := mkS 9 [] [(1000, .row 65 57 l.length ((fsC ((er_ l).map (·.1))).map .d))]) (ae_ [] (by simp) (by simp)) ?_
 simp -dsimp
end Go.Proofs.YtnljenjcaeophaaGreatDoor
