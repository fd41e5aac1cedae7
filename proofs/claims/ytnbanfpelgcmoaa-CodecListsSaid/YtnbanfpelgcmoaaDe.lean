import Derived.Test.YtnbanfpelgcmoaaDd
import Derived.Test.YtnbanfpelgcmoaaEngT
set_option linter.unusedSimpArgs false
set_option linter.unusedVariables false
namespace Go.Proofs.Ytnbanfpelgcmoaa
open Go.Xe Go.RowKit

theorem Try.und20 : Try.prog.underlying 20 = some (.interface (Try.prog.methodsAt 20)) := by kernel_rfl

theorem f31_ret (v1 v2 : Value) (w : World) : CallsD Try.prog 31 #[v1, v2] .returning w fun e u' w' => (∃ v, e = .returned v) ∧ u' = .returning ∧ w' = w := by
  refine callsD_of_wpS Try.func31 rfl fun c₀ cs hu => ?_
  simp only [Try.f31]
  apply wpS_seq
  apply wpS_region
  simp [wpOpsS, go_sem, recoverD, hu, Exit.thenS]
  apply wpS_seq
  apply wpS_region
  simp [wpOpsS, go_sem, Exit.thenS, Try.und20]
  refine wpS_cond (t := false) (by simp [Act.eval, Array.replicate]) ?_
  simp only [Bool.false_eq_true, if_false]
  refine wpS_of_wp (wp_skip ?_)
  cases c₀
  simp_all [bodyPostS, results]

def pe (b : Bool) : PanicEntry := { v := .iface 28 (.int .i64 20), recovered := b }
def box31 : Bxs := [(1000, .cells 24 [.d (.v (.int .i64 0)), .d (.v (.int .i64 0)), .d (.v (.string ⟨#[]⟩)), .d (.v (.slice none 0 0))]), (1001, .cells 28 [.d (.v (.int .i64 20))])]
theorem f31_pan {w0 : World} {I0 F I : Nat → Prop} {β : Nat → Value} {w : World} {cs2 cs3 : List AV} (h2 : cs2.length = 4) (h3 : cs3.length = 1) (hm : Mem w0 I0 F [(1000, .cells 24 cs2), (1001, .cells 28 cs3)] I β w) (b2 b3 : Nat)
    (hp2 : β 1000 = .pointer (some ⟨b2, 0, none⟩)) (hp3 : β 1001 = .pointer (some ⟨b3, 0, none⟩)) :
    CallsD Try.prog 31 #[β 1000, β 1001] (.panicking [pe false]) w fun e u' w' => (∃ v, e = .returned v) ∧ u' = .panicking [pe true] ∧ ∃ I' β', Mem w0 I0 F box31 I' β' w' ∧ β' 1000 = β 1000 ∧ β' 1001 = β 1001 := by
  refine callsD_of_wpS Try.func31 rfl fun c₀ cs hu => ?_
  simp only [Try.f31]
  apply wpS_seq
  apply wpS_region
  simp [wpOpsS, go_sem, recoverD, hu, Exit.thenS, pe]
  apply wpS_seq
  apply wpS_region
  simp [wpOpsS, go_sem, Exit.thenS, Try.und20]
  refine wpS_cond (t := true) (by simp [Act.eval, Array.replicate]) ?_
  simp only [if_true]
  obtain ⟨c0, c1, c2, c3, rfl⟩ : ∃ c0 c1 c2 c3, cs2 = [c0, c1, c2, c3] := by
    match cs2, h2 with
    | [c0, c1, c2, c3], _ => exact ⟨c0, c1, c2, c3, rfl⟩
  obtain ⟨c4, rfl⟩ : ∃ c4, cs3 = [c4] := by
    match cs3, h3 with
    | [c4], _ => exact ⟨c4, rfl⟩
  refine wpS_of_wp (wp_mono (WP.draw Try.tab Try.mixed (ds := ⟨[], β⟩) (pn := noPn) (Q := fun e S => e = .normal ∧ subB S.bx box31)
    (S := mkS 9 [(0, .ptr 1000 0), (1, .ptr 1001 0), (2, .d (.v (.iface 28 (.int .i64 20))))] [(1000, .cells 24 [c0, c1, c2, c3]), (1001, .cells 28 [c4])]) ?_ w0 I0 F I β _ w ?_) ?_)
  · simp -dsimp [box31]
    repeat refine And.intro (by first | rfl | omega | decide | (simp; done) | (simp; omega) | (intros; simp_all; done)) ?_
    exact rfl
  · refine ⟨hm, ?_, rfl, fun _ _ => rfl⟩
    simp [DenAs_cc, DenAs_nn, Array.replicate, DenA_anyT, DenA_v, hp2, hp3, DenA, Den]
  · rintro e a' w' hh
    cases e with
    | normal =>
      obtain ⟨S, I', β', ⟨_, hb⟩, hr⟩ := hh
      refine ⟨hr.dn, _, rfl, .tuple #[], by simp [results], ⟨_, rfl⟩, rfl, I', β', hr.mem.sub (subB_ok hb), hr.fx _ (Nat.le_refl _), hr.fx _ (by omega)⟩
    | panic ch => exact hh.1.elim
    | outgrown => exact hh.elim
    | ret => obtain ⟨S, I', β', ⟨h, _⟩, _⟩ := hh; cases h
    | exit id => obtain ⟨S, I', β', ⟨h, _⟩, _⟩ := hh; cases h
    | goto l => obtain ⟨S, I', β', ⟨h, _⟩, _⟩ := hh; cases h

@[simp] def c24 (c0 c1 c2 c3 : D) : Box := .cells 24 [.d c0, .d c1, .d c2, .d c3]
/-- What Decode says. -/
def pDec (bs : List UInt8) : V × Int :=
  match pVal 16 bs with
  | some (v, []) => (v, 0)
  | _ => (.mk 0 0 ⟨#[]⟩ [], 20)
def decD (bs : List UInt8) : D := .tup [(pDec bs).1.d, .v (.int .i64 (pDec bs).2)]
def df (p2 p3 : Value) : Deferred := { target := .fn (.func 31) #[p2, p3], args := #[] }
def s18b (bs : List UInt8) : St := mkS 20 [(0, .d (slB bs)), (2, .ptr 1000 0), (3, .ptr 1001 0)] [(1000, .cells 24 [.d (.v (.int .i64 0)), .d (.v (.int .i64 0)), .d (.v (.string ⟨#[]⟩)), .d (.v (.slice none 0 0))]), (1001, .cells 28 [.d (.v (.int .i64 0))])]
def s18c (bs : List UInt8) : St := mkS 20 [(2, .ptr 1000 0), (3, .ptr 1001 0), (4, .ptr 8 0)] [(1000, .cells 24 [.d (.v (.int .i64 0)), .d (.v (.int .i64 0)), .d (.v (.string ⟨#[]⟩)), .d (.v (.slice none 0 0))]), (1001, .cells 28 [.d (.v (.int .i64 0))]), (8, rdB bs)]
def s18d (k n : Int) (s : ByteArray) (l : List V) (r : List UInt8) : St := mkS 20 [(2, .ptr 1000 0), (3, .ptr 1001 0), (4, .ptr 8 0)] [(1000, c24 (.v (.int .i64 k)) (.v (.int .i64 n)) (.v (.string s)) (slV l)), (1001, .cells 28 [.d (.v (.int .i64 0))]), (8, rdB r)]
def s18a (bs : List UInt8) : St := mkS 20 [(0, .d (slB bs)), (2, .ptr 2 0), (3, .ptr 3 0)] [(2, .cells 24 [.d (.v (.int .i64 0)), .d (.v (.int .i64 0)), .d (.v (.string ⟨#[]⟩)), .d (.v (.slice none 0 0))]), (3, .cells 28 [.d (.v (.int .i64 0))])]

theorem f18_pan {w : World} {I : Nat → Prop} {β β0 : Nat → Value} {I2 : Nat → Prop} {β2 : Nat → Value} {a2 : Act} {w2 : World} {c0 c1 c2 c3 c4 : D} {r : List UInt8}
    (hr : Rel ⟨[df (β0 1000) (β0 1001)], β0⟩ w I (Fp [] β) (mkS 20 [(2, .ptr 1000 0), (3, .ptr 1001 0), (4, .ptr 8 0)] [(1000, c24 c0 c1 c2 c3), (1001, .cells 28 [.d c4]), (8, rdB r)]) I2 β2 a2 w2) {c : Code}
    (hW : ∀ ds γ, WP Try.prog ⟨ds, γ⟩ ⟨pc, [], [(2, .d (.v (β0 1000))), (3, .d (.v (β0 1001)))]⟩ c (fun e S => e = .normal ∧ getB S.bx 600 = some botB) (mkS 20 [(2, .d (.v (β0 1000))), (3, .d (.v (β0 1001))), (4, .ptr 8 0)] [(8, rdB r)]))
    {R : Ending → World → Prop} (hR : ∀ w' I' v, Mem w I (Fp [] β) [] I' β w' → Den w' I' (.tup [(V.mk 0 0 ⟨#[]⟩ []).d, .v (.int .i64 20)]) v → R (.returned v) w') (K : Act → World → Prop) : c.wp Try.prog (Exit.then K (bodyPostD Try.prog Try.f18 R)) a2 w2 := by
  obtain ⟨b2, vs2, hb2, _⟩ := hr.mem.bxs 1000 (c24 c0 c1 c2 c3) rfl
  obtain ⟨b3, vs3, hb3, _⟩ := hr.mem.bxs 1001 (.cells 28 [.d c4]) rfl
  have e2 : ∃ y, a2.tmps.toList[2]? = some y ∧ y = β0 1000 := by
    obtain ⟨y, hy, hd⟩ := hr.sl.get (i := 2) (x := .ptr 1000 0) rfl
    rw [DenA] at hd
    obtain ⟨b, h1, h2⟩ := hd
    exact ⟨y, hy, (h2.trans h1.symm).trans (hr.fx 1000 (by omega))⟩
  have e3 : ∃ y, a2.tmps.toList[3]? = some y ∧ y = β0 1001 := by
    obtain ⟨y, hy, hd⟩ := hr.sl.get (i := 3) (x := .ptr 1001 0) rfl
    rw [DenA] at hd
    obtain ⟨b, h1, h2⟩ := hd
    exact ⟨y, hy, (h2.trans h1.symm).trans (hr.fx 1001 (by omega))⟩
  rw [hr.fx 1000 (by omega)] at hb2
  rw [hr.fx 1001 (by omega)] at hb3
  change β0 1000 = _ at hb2
  change β0 1001 = _ at hb3
  obtain ⟨y2, e2, rfl⟩ := e2
  obtain ⟨y3, e3, rfl⟩ := e3
  have hcb : ∀ k b, getB [(8, rdB r)] k = some b → getB [(1000, c24 c0 c1 c2 c3), (1001, .cells 28 [.d c4]), (8, rdB r)] k = some b := fun k b h => by
    simp only [getB] at h ⊢
    split at h
    · rename_i e; subst e; cases h; rfl
    · cases h
  have hm := hr.mem.start hcb
  have hsl := DenAs.set (x := .d (.v (β0 1001))) (y := β0 1001) (w := w2) (I := I2) (β := β2) (DenA_v.2 rfl) (DenAs.set (x := .d (.v (β0 1000))) (y := β0 1000) (w := w2) (I := I2) (β := β2) (DenA_v.2 rfl) hr.sl 2) 3
  rw [set_self e2, set_self e3] at hsl
  have hr' : Rel ⟨[df (β0 1000) (β0 1001)], β2⟩ w2 I2 (Fp [(8, rdB r)] β2) (mkS 20 [(2, .d (.v (β0 1000))), (3, .d (.v (β0 1001))), (4, .ptr 8 0)] [(8, rdB r)]) I2 β2 a2 w2 := ⟨hm, hsl, hr.dn, fun _ _ => rfl⟩
  refine wp_mono (hW _ β2 w2 I2 _ I2 β2 a2 w2 hr') ?_
  rintro e a3 w3 hh
  cases e with
  | normal =>
    obtain ⟨S, I3, β3, ⟨_, hb⟩, hr3⟩ := hh
    obtain ⟨b, vs, _, _, hd, _⟩ := hr3.mem.bxs 600 _ hb
    obtain ⟨v, vs', _, h1, _⟩ := hd
    rw [DenA] at h1
    exact (bot_no h1).elim
  | panic ch =>
    obtain ⟨hok, bx, I3, β3, hp⟩ := hh
    have hm3 : Mem w I (Fp [] β) [(1000, c24 c0 c1 c2 c3), (1001, .cells 28 [.d c4])] I3 β2 w3 := by
      refine hr.mem.keep (cb := [(8, rdB r)]) (β' := β2) hcb ?_ fun k b h => ?_
      · exact (hp.mem.sub (bx' := []) (by simp [getB])).relabel id (by simp [getB]) (by simp [getB])
      · simp only [getB] at h ⊢
        split at h
        · rename_i e; subst e; exact ⟨h, rfl⟩
        · split at h
          · rename_i e; subst e; exact ⟨h, rfl⟩
          · cases h
    have h31 := f31_pan (cs2 := [.d c0, .d c1, .d c2, .d c3]) (cs3 := [.d c4]) rfl rfl hm3 b2 b3 ((hr.fx 1000 (by omega)).trans hb2) ((hr.fx 1001 (by omega)).trans hb3)
    rw [hr.fx 1000 (by omega), hr.fx 1001 (by omega)] at h31
    have hz2 := hp.zs (2, .d (.v (β0 1000))) (by simp)
    have hz3 := hp.zs (3, .d (.v (β0 1001))) (by simp)
    rw [DenA_v] at hz2 hz3
    show Leaves _ _ a3.tmps R a3.defers (.panicking ch) w3
    rw [hp.dn, hok]
    show Leaves _ _ a3.tmps R [{ target := .fn (.func 31) #[β0 1000, β0 1001], args := #[] }] (.panicking [pe false]) w3
    refine leaves_cons (f := 31) (args := #[β0 1000, β0 1001]) (fun h => by cases h) (by simp [go_sem]) (CallsD.mono h31 ?_)
    rintro e u' w4 ⟨⟨v, rfl⟩, rfl, I4, β5, hm5, h6, h7⟩
    have hS : Rel ⟨[], β5⟩ w I (Fp [] β) ⟨[.d .any, .d .any, .ptr 1000 0, .ptr 1001 0], box31⟩ I4 β5 { tmps := #[undef, undef, β0 1000, β0 1001], defers := [] } w4 := by
      refine ⟨hm5, ?_, rfl, fun _ _ => rfl⟩
      simp [DenAs_cc, DenAs_nn, DenA_anyT, DenA, h6, h7, hb2, hb3, Den]
    obtain ⟨us, hus, hdu⟩ := resA_ok Try.tab hS [.cell 2 24, .cell 3 28] (side := (0 + 4 ≤ 4 ∧ (true = false → 4 = 1)) ∧ (0 + 1 ≤ 1 ∧ (false = false → 1 = 1)) ∧ True) (l := [.agg [.d (.v (.int .i64 0)), .d (.v (.int .i64 0)), .d (.v (.string ⟨#[]⟩)), .d (.v (.slice none 0 0))], .d (.v (.int .i64 20))]) rfl (by simp)
    have hm6 : Mem w I (Fp [] β) [] I4 β w4 := (hm5.sub (bx' := []) (by simp [getB])).relabel id (by simp [getB]) (by simp [getB])
    refine ⟨oneV us, results_eq _ _ _ _ _ ?_, hR w4 I4 _ hm6 ?_⟩
    · have he : ∀ (t : Tmp) (ty : TypeId), (t = 2 ∨ t = 3) → resV a3.tmps (.cell t ty) = resV #[undef, undef, β0 1000, β0 1001] (.cell t ty) := fun t ty ht => by
        rcases ht with rfl | rfl
        · simp only [resV]; rw [show a3.tmps.getD 2 undef = β0 1000 from hz2]; rfl
        · simp only [resV]; rw [show a3.tmps.getD 3 undef = β0 1001 from hz3]; rfl
      have : (Try.f18).results.toList.mapM (resV a3.tmps) = [ResultVar.cell 2 24, ResultVar.cell 3 28].mapM (resV #[undef, undef, β0 1000, β0 1001]) := by
        show [ResultVar.cell 2 24, ResultVar.cell 3 28].mapM (resV a3.tmps) = _
        simp only [List.mapM_cons, List.mapM_nil, he 2 24 (.inl rfl), he 3 28 (.inr rfl)]
      rw [this]; exact hus
    · have := hdu.one
      have hl : Leq (oneOr [AV.agg [.d (.v (.int .i64 0)), .d (.v (.int .i64 0)), .d (.v (.string ⟨#[]⟩)), .d (.v (.slice none 0 0))], .d (.v (.int .i64 20))]) (.d (.tup [(V.mk 0 0 ⟨#[]⟩ []).d, .v (.int .i64 20)])) := by
        simp [V.d, V.cells, V.cellsL]
      exact hl _ _ _ _ this
  | outgrown => exact hh.elim
  | ret => obtain ⟨S, I', β', ⟨h, _⟩, _⟩ := hh; cases h
  | exit id => obtain ⟨S, I', β', ⟨h, _⟩, _⟩ := hh; cases h
  | goto l => obtain ⟨S, I', β', ⟨h, _⟩, _⟩ := hh; cases h

set_option maxRecDepth 10000 in
theorem f18_ok (bs : List UInt8) (hbs : bs.length ≤ 1000000000000) : Fn0 Try.prog 18 [slB bs] (decD bs) := by
  intro w I β vs hm hd
  suffices h : ∀ R : Ending → World → Prop, (∀ w' I' v, Mem w I (Fp [] β) [] I' β w' → Den w' I' (decD bs) v → R (.returned v) w') → Calls Try.prog 18 vs.toArray w R from
    h _ fun w' I' v hm' hv => ⟨I', β, hm', by rw [DenA]; exact hv, fun _ _ => rfl⟩
  intro R hR
  refine calls_of_wp_defers Try.func18 rfl ?_
  have hr0 := Rel.enter hm hd 20
  simp only [Try.f18]
  refine wp_seq (wp_mono (WP.region Try.tab (ds := ⟨[], β⟩) (pn := noPn) (Q := fun e S => e = .normal ∧ LeqL S.sl (s18a bs).sl ∧ subB S.bx (s18a bs).bx) ?_ w I _ I β _ w hr0) ?_)
  · simp -dsimp [s18a]
  · rintro e a1 w1 hh
    cases e with
    | normal =>
      obtain ⟨S, I1, β1, ⟨_, h1, h2⟩, hr⟩ := hh
      obtain ⟨I1, β1, hr1⟩ := Wk.less h1 (subB_ok h2) _ _ _ _ _ _ _ _ hr
      clear hr
      have e2 := hr1.ev (.tmp 2)
      have e3 := hr1.ev (.tmp 3)
      obtain ⟨b2, hb2, e2⟩ : ∃ b2, β1 2 = .pointer (some ⟨b2, 0, none⟩) ∧ a1.eval (.tmp 2) = β1 2 := by
        simp only [s18a, St.ev, St.at] at e2
        obtain ⟨b, h1, h2⟩ := e2
        exact ⟨b, h1, h2.trans h1.symm⟩
      obtain ⟨b3, hb3, e3⟩ : ∃ b3, β1 3 = .pointer (some ⟨b3, 0, none⟩) ∧ a1.eval (.tmp 3) = β1 3 := by
        simp only [s18a, St.ev, St.at] at e3
        obtain ⟨b, h1, h2⟩ := e3
        exact ⟨b, h1, h2.trans h1.symm⟩
      have hsz : a1.tmps.size = 20 := by
        have := hr1.sl.length
        simpa [s18a] using this.symm
      refine wp_seq (wp_defer (t := 5) (g := 31) (caps := #[.tmp 2, .tmp 3]) rfl rfl rfl rfl rfl rfl (by omega) ?_)
      obtain ⟨β0, hβ0⟩ : ∃ β0 : Nat → Value, β0 = upd (upd β 1000 (β1 2)) 1001 (β1 3) := ⟨_, rfl⟩
      have hr2 : Rel ⟨[df (β0 1000) (β0 1001)], β0⟩ w I (Fp [] β) (s18b bs) I1 (upd (upd β1 1000 (β1 2)) 1001 (β1 3)) { a1.put (some 5) (.func (.func 31) #[] (#[Operand.tmp 2, .tmp 3].map a1.eval)) with defers := { target := .fn (.func 31) (#[Operand.tmp 2, .tmp 3].map a1.eval), args := #[] } :: a1.defers } w1 := by
        have hd : ∀ l : List D, ∀ t, AV.hasL t (l.map .d) = false := fun l t => hasL_d l
        refine ⟨hr1.mem.relabel (fun k => if k = 1000 then 2 else 3) (fun k b h => ?_) fun k j b c h1 h2 he => ?_, ?_, ?_, fun k hk => ?_⟩
        · simp only [s18b, mkS, getB] at h
          split at h
          · rename_i e; subst e; cases h; exact ⟨rfl, by simp [upd], fun t ht => by simp [Box.cs, AV.hasL, AV.has] at ht⟩
          · split at h
            · rename_i e; subst e; cases h; exact ⟨rfl, by simp [upd], fun t ht => by simp [Box.cs, AV.hasL, AV.has] at ht⟩
            · cases h
        · have l : ∀ k b, getB (s18b bs).bx k = some b → k = 1000 ∨ k = 1001 := fun k b h => by
            simp only [s18b, mkS, getB] at h
            split at h
            · rename_i e; exact .inl e.symm
            · split at h
              · rename_i e; exact .inr e.symm
              · cases h
          rcases l k b h1 with rfl | rfl <;> rcases l j c h2 with rfl | rfl <;> simp at he ⊢
        · have h := (hr1.put (some 5) (x := .d .any) (y := .func (.func 31) #[] (#[Operand.tmp 2, .tmp 3].map a1.eval)) (DenA_any _ _ _ _)).sl
          have h1 := DenAs.mono (β' := upd (upd β1 1000 (β1 2)) 1001 (β1 3)) (.refl w1 I1) _ _ (fun k hk => by
            have : k = 2 ∨ k = 3 := by
              simp [St.put, s18a, AV.hasL, AV.has] at hk
              rcases hk with rfl | rfl <;> simp
            rcases this with rfl | rfl <;> simp [upd]) h
          have h2 := DenAs.set (x := .ptr 1001 0) (y := β1 3) (w := w1) (I := I1) (β := upd (upd β1 1000 (β1 2)) 1001 (β1 3)) (by rw [DenA]; exact ⟨b3, by simp [upd, hb3], hb3⟩)
            (DenAs.set (x := .ptr 1000 0) (y := β1 2) (w := w1) (I := I1) (β := upd (upd β1 1000 (β1 2)) 1001 (β1 3)) (by rw [DenA]; exact ⟨b2, by simp [upd, hb2], hb2⟩) h1 2) 3
          have g : ∀ (t : Nat) (y : Value), t < 20 → t ≠ 5 → a1.eval (.tmp t) = y → (a1.put (some 5) (.func (.func 31) #[] (#[Operand.tmp 2, .tmp 3].map a1.eval))).tmps.toList[t]? = some y := fun t y h20 h5 hy => by
            have h6 : a1.tmps[t]? = some y := by
              rw [Array.getElem?_eq_getElem (by omega)]
              rw [← hy]
              simp [Act.eval, Array.getD, show t < a1.tmps.size by omega]
            simp [Act.put, Ne.symm h5]
            simpa using h6
          rw [set_self (g 2 _ (by omega) (by omega) e2), set_self (g 3 _ (by omega) (by omega) e3)] at h2
          exact h2
        · rw [hr1.dn]
          simp [df, e2, e3, hβ0, upd]
        · simp only [hβ0, upd]
          split
          · rfl
          · split
            · rfl
            · exact hr1.fx k hk
      generalize ({ a1.put (some 5) (.func (.func 31) #[] (#[Operand.tmp 2, .tmp 3].map a1.eval)) with defers := { target := .fn (.func 31) (#[Operand.tmp 2, .tmp 3].map a1.eval), args := #[] } :: a1.defers } : Act) = a2 at hr2 ⊢
      show Code.wp _ _ _ a2 w1
      clear hr1 e2 e3 hsz hr0 h1 h2
      refine wp_seq (wp_mono (WP.region Try.tab (ds := ⟨[df (β0 1000) (β0 1001)], β0⟩) (pn := noPn) (Q := fun e S => e = .normal ∧ LeqL S.sl (s18c bs).sl ∧ subB S.bx (s18c bs).bx) ?_ w I _ I1 _ a2 w1 hr2) ?_)
      · simp -dsimp [s18b, s18c]
        repeat refine And.intro (by first | rfl | omega | decide | (simp; done) | (simp; omega) | (intros; simp_all; done)) ?_
      rintro e a3 w3 hh
      cases e with
      | normal =>
        obtain ⟨S, I3, β3, ⟨_, h1, h2⟩, hr⟩ := hh
        obtain ⟨I3, β3, hr3⟩ := Wk.less h1 (subB_ok h2) _ _ _ _ _ _ _ _ hr
        clear hr h1 h2 hr2
        cases hp : pVal 16 bs with
        | none =>
          refine wp_seq (f18_pan (c0 := .v (.int .i64 0)) (c1 := .v (.int .i64 0)) (c2 := .v (.string ⟨#[]⟩)) (c3 := .v (.slice none 0 0)) (c4 := .v (.int .i64 0)) (r := bs) hr3 (fun ds γ => ?_) (fun w' I' v hm' hv => ?_) _)
          · refine WP.region Try.tab ?_
            simp -dsimp
            refine vcStop.call Try.body32 (f32_no_of (f32_N 16 (by omega) bs 0 (by omega) hbs) hp) (rl [(1000, 8), (0, 600)]) rfl rfl (by simp) (CallOk.of (by simp) rfl (by first | rfl | simp) (by simp) (by simp)) (fun _ h => h) (fun _ => by simp) (fun _ _ _ => rfl) (by simp) ?_
            simp -dsimp
            refine vcStop.absurd 600 (by simp) ?_
            simp -dsimp
          · refine hR w' I' v hm' ?_
            rw [decD, pDec, hp]
            exact hv
        | some x =>
          obtain ⟨v, r⟩ := x
          have h32 := f32_ok_of (f32_N 16 (by omega) bs 0 (by omega) hbs) hp
          obtain ⟨k, n, s, l⟩ := v
          refine wp_seq (wp_mono (WP.region Try.tab (ds := ⟨[df (β0 1000) (β0 1001)], β0⟩) (pn := noPn) (Q := fun e S => e = .normal ∧ LeqL S.sl (s18d k n s l r).sl ∧ subB S.bx (s18d k n s l r).bx) ?_ w I _ I3 _ a3 w3 hr3) ?_)
          · simp -dsimp [s18c, s18d]
            refine vcStop.call Try.body32 (h32) (rl [(1000, 8)]) rfl rfl (by simp [BoxLeq]) (CallOk.of (by simp [BoxLeq]) rfl (by first | rfl | (simp [BoxLeq]; done)) (by simp [BoxLeq]) (by simp [BoxLeq])) (fun _ h => h.elim) (fun ⟨_, h⟩ => h.elim) (fun ⟨_, h⟩ => h.elim) (by simp [BoxLeq]) ?_
            simp -dsimp [V.d, V.cells, s18d]
            repeat refine And.intro (by first | rfl | omega | decide | (simp; done) | (simp; omega) | (intros; simp_all; done)) ?_
          rintro e a4 w4 hh
          cases e with
          | normal =>
            obtain ⟨S, I4, β4, ⟨_, h1, h2⟩, hr⟩ := hh
            obtain ⟨I4, β4, hr4⟩ := Wk.less h1 (subB_ok h2) _ _ _ _ _ _ _ _ hr
            clear hr h1 h2 hr3
            cases r with
            | nil =>
              have hdec : decD bs = .tup [(V.mk k n s l).d, .v (.int .i64 0)] := by rw [decD, pDec, hp]
              refine wp_mono ((?_ : WP Try.prog ⟨[df (β0 1000) (β0 1001)], β0⟩ noPn _ (finQ Try.τ (Try.f18).results.toList (.d (decD bs)) []) (s18d k n s l [])) w I _ I4 _ a4 w4 hr4) ?_
              · rw [hdec]
                simp only [s18d]
                repeat (first | refine WP.seq ?_ | refine WP.block ?_ | (refine WP.region Try.tab ?_; simp -dsimp) | (refine WP.draw Try.tab Try.mixed ?_; simp -dsimp) | refine And.intro (by first | rfl | omega | decide | (simp; done) | (simp; omega) | (intros; simp_all; done)) ?_)
                refine vcStop.call Try.body33 (f33_ok) (rl []) rfl rfl (by simp [BoxLeq]) (CallOk.of (by simp [BoxLeq]) rfl (by first | rfl | (simp [BoxLeq]; done)) (by simp [BoxLeq]) (by simp [BoxLeq])) (fun _ h => h.elim) (fun ⟨_, h⟩ => h.elim) (fun ⟨_, h⟩ => h.elim) (by simp [BoxLeq]) ?_
                simp -dsimp
                repeat (first | refine WP.seq ?_ | refine WP.block ?_ | (refine WP.region Try.tab ?_; simp -dsimp) | (refine WP.draw Try.tab Try.mixed ?_; simp -dsimp) | refine And.intro (by first | rfl | omega | decide | (simp; done) | (simp; omega) | (intros; simp_all; done)) ?_)
                refine WP.ret (finQ.retE ?_)
                simp -dsimp [V.d, V.cells]
              have fin : ∀ a' w', (∃ S I' β', (∃ S', Wk S S' ∧ finS Try.τ (Try.f18).results.toList (.d (decD bs)) [] S') ∧ Rel ⟨[df (β0 1000) (β0 1001)], β0⟩ w I (Fp [] β) S I' β' a' w') →
                  Leaves Try.prog Try.f18 a'.tmps R a'.defers .returning w' := by
                rintro a' w' ⟨S, I1, β1, ⟨S', hw, side, l, hl, hs, hle, hbo⟩, hr1⟩
                obtain ⟨I', β', hr⟩ := hw _ _ _ _ _ _ _ _ hr1
                obtain ⟨us, hus, hdu⟩ := resA_ok Try.tab hr _ hl hs
                rw [hr.dn]
                refine leaves_cons (f := 31) (args := #[β0 1000, β0 1001]) (fun h => by cases h) (by simp [go_sem]) ((f31_ret _ _ w').mono ?_)
                rintro e u' w4 ⟨⟨v, rfl⟩, rfl, rfl⟩
                have hm6 : Mem w I (Fp [] β) [] I' β w4 := (hr.mem.sub (bx' := []) (by simp [getB])).relabel id (by simp [getB]) (by simp [getB])
                have h7 := hle _ _ _ _ hdu.one
                rw [DenA] at h7
                exact ⟨_, results_eq _ a'.tmps _ _ us hus, hR _ I' _ hm6 h7⟩
              rintro e a5 w5 hh
              cases e with
              | normal => exact fin _ _ hh
              | ret => exact fin _ _ hh
              | panic ch => exact hh.1.elim
              | outgrown => exact hh.elim
              | exit id => obtain ⟨S, I', β', h, _⟩ := hh; exact h.elim
              | goto l => obtain ⟨S, I', β', h, _⟩ := hh; exact h.elim
            | cons c r =>
              refine wp_seq (f18_pan (c0 := .v (.int .i64 k)) (c1 := .v (.int .i64 n)) (c2 := .v (.string s)) (c3 := slV l) (c4 := .v (.int .i64 0)) (r := c :: r) hr4 (fun ds γ => ?_) (fun w' I' v hm' hv => ?_) _)
              · refine WP.region Try.tab ?_
                simp -dsimp
                repeat refine And.intro (by first | rfl | omega | decide | (simp; done) | (simp; omega) | (intros; simp_all; done)) ?_
                refine vcStop.call Try.body33 f33_no (rl [(0, 600)]) rfl rfl (by simp [show ¬ ((r.length : Int) + 1 = 0) by omega]) (CallOk.of (by simp) rfl (by first | rfl | simp) (by simp) (by simp)) (fun _ h => h) (fun _ => by simp) (fun _ _ h => by cases h) (by simp) ?_
                simp -dsimp
              · refine hR w' I' v hm' ?_
                rw [decD, pDec, hp]
                exact hv
          | panic ch => exact hh.1.elim
          | outgrown => exact hh.elim
          | ret => obtain ⟨S, I', β', ⟨h, _⟩, _⟩ := hh; cases h
          | exit id => obtain ⟨S, I', β', ⟨h, _⟩, _⟩ := hh; cases h
          | goto l => obtain ⟨S, I', β', ⟨h, _⟩, _⟩ := hh; cases h
      | panic ch => exact hh.1.elim
      | outgrown => exact hh.elim
      | ret => obtain ⟨S, I', β', ⟨h, _⟩, _⟩ := hh; cases h
      | exit id => obtain ⟨S, I', β', ⟨h, _⟩, _⟩ := hh; cases h
      | goto l => obtain ⟨S, I', β', ⟨h, _⟩, _⟩ := hh; cases h
    | panic ch => exact hh.1.elim
    | outgrown => exact hh.elim
    | ret => obtain ⟨S, I', β', ⟨h, _⟩, _⟩ := hh; cases h
    | exit id => obtain ⟨S, I', β', ⟨h, _⟩, _⟩ := hh; cases h
    | goto l => obtain ⟨S, I', β', ⟨h, _⟩, _⟩ := hh; cases h
end Go.Proofs.Ytnbanfpelgcmoaa
