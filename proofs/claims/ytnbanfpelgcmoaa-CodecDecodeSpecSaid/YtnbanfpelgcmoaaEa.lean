import Derived.Test.YtnbanfpelgcmoaaDi
set_option linter.unusedSimpArgs false
set_option linter.unusedVariables false
namespace Go.Proofs.Ytnbanfpelgcmoaa
open Go.Xe Go.RowKit

theorem f22_row (l : List V) : Fun Try.prog 22 [.row 1000] [(1000, .row 24 4 l.length ((V.cellsL l).map .d))] (.agg [.d (.v (.int .i64 3)), .d (.v (.int .i64 0)), .d (.v (.string ⟨#[]⟩)), .row 1000]) [(1000, .row 24 4 l.length ((V.cellsL l).map .d))] fun _ => False := by
  refine Fun.of_wp (pn := noPn) Try.tab Try.func22 rfl fun β0 => ?_
  simp only [Try.f22]
  repeat (first | refine WP.seq ?_ | refine WP.block ?_ | (refine WP.region Try.tab ?_; simp -dsimp) | (refine WP.draw Try.tab Try.mixed ?_; simp -dsimp) | refine And.intro (by first | rfl | omega | decide | (simp; done) | (simp; omega) | (intros; simp_all; done)) ?_)
  refine WP.ret (finQ.retE ?_)
  simp -dsimp

theorem f22_nil : Fn0 Try.prog 22 [.v (.slice none 0 0)] (V.mk 3 0 ⟨#[]⟩ []).d := by
  refine Fun.of_wp (pn := noPn) Try.tab Try.func22 rfl fun β0 => ?_
  simp only [Try.f22]
  repeat (first | refine WP.seq ?_ | refine WP.block ?_ | (refine WP.region Try.tab ?_; simp -dsimp) | (refine WP.draw Try.tab Try.mixed ?_; simp -dsimp) | refine And.intro (by first | rfl | omega | decide | (simp; done) | (simp; omega) | (intros; simp_all; done)) ?_)
  refine WP.ret (finQ.retE ?_)
  simp -dsimp [V.d, V.cells, V.cellsL]

def vs1 : V := .mk 1 (-3) ⟨#[]⟩ []
def vs2 : V := .mk 3 0 ⟨#[]⟩ [.mk 1 100 ⟨#[]⟩ [], .mk 2 0 ⟨#[97, 98]⟩ []]
theorem vs1_enc : vs1.encB = [1, 5] := by simp [vs1, V.encB, V.chk, V.ok, V.dep, V.enc, digs, zig]
theorem vs2_enc : vs2.encB = [3, 2, 1, 200, 1, 2, 2, 97, 98] := by simp [vs2, V.encB, V.chk, V.ok, V.okL, V.dep, V.depL, V.enc, V.encL, digs, zig, show (⟨#[97, 98]⟩ : ByteArray).size = 2 from rfl]
theorem vs1_chk : vs1.chk = 0 := by simp [vs1, V.chk, V.ok, V.dep]
theorem vs2_chk : vs2.chk = 0 := by simp [vs2, V.chk, V.ok, V.okL, V.dep, V.depL]
theorem enc_of_chk {v : V} (h : v.chk = 0) : v.encB = v.enc := by rw [V.encB, if_pos h]
theorem dec_enc {v : V} (h : v.chk = 0) (hr : v.rng = true) (hl : v.enc.length ≤ 1000000000) : decD v.enc = .tup [v.d, .v (.int .i64 0)] := by
  have hok := V.chk_ok h
  have hd : v.dep ≤ 16 := by
    rw [V.chk, if_pos hok] at h
    split at h
    · cases h
    · omega
  have := V.read v 16 [] hok hr hd (by omega)
  rw [List.append_nil] at this
  rw [decD, pDec, this]
theorem vs1_rng : vs1.rng = true := by simp [vs1, V.rng, V.rngL, show (⟨#[]⟩ : ByteArray).size = 0 from rfl]
theorem vs2_rng : vs2.rng = true := by simp [vs2, V.rng, V.rngL, show (⟨#[]⟩ : ByteArray).size = 0 from rfl, show (⟨#[97, 98]⟩ : ByteArray).size = 2 from rfl]
theorem dec_no {bs : List UInt8} (h : pVal 16 bs = none ∨ ∃ v c r, pVal 16 bs = some (v, c :: r)) : decD bs = .tup [(V.mk 0 0 ⟨#[]⟩ []).d, .v (.int .i64 20)] := by
  rw [decD, pDec]
  rcases h with h | ⟨v, c, r, h⟩ <;> rw [h]
theorem no1 : decD [] = .tup [(V.mk 0 0 ⟨#[]⟩ []).d, .v (.int .i64 20)] := dec_no (.inl (by simp [pVal]))
theorem no2 : decD [1, 128, 0] = .tup [(V.mk 0 0 ⟨#[]⟩ []).d, .v (.int .i64 20)] := dec_no (.inl (by simp [pVal, pNum]))
theorem no3 : decD [1, 5, 0] = .tup [(V.mk 0 0 ⟨#[]⟩ []).d, .v (.int .i64 20)] := dec_no (.inr (by simp [pVal, pNum]))
theorem no4 : decD [2, 3, 97] = .tup [(V.mk 0 0 ⟨#[]⟩ []).d, .v (.int .i64 20)] := dec_no (.inl (by simp [pVal, pNum, pLen]))

set_option maxRecDepth 10000 in
set_option maxHeartbeats 4000000 in
theorem f10_ok : Fn0 Try.prog 10 [] (.v (.bool true)) := by
  have h12a := f12_ok vs1 (by simp [vs1, V.dep]) vs1_rng (by rw [← enc_of_chk vs1_chk, vs1_enc]; simp)
  have h12b := f12_ok vs2 (by simp [vs2, V.dep, V.depL]) vs2_rng (by rw [← enc_of_chk vs2_chk, vs2_enc]; simp)
  have h14 := f14_ok vs2 (by simp [vs2, V.dep, V.depL]) vs2_rng (by rw [← enc_of_chk vs2_chk, vs2_enc]; simp)
  have h18 := f18_ok vs2.enc (by rw [← enc_of_chk vs2_chk, vs2_enc]; simp)
  rw [dec_enc vs2_chk vs2_rng (by rw [← enc_of_chk vs2_chk, vs2_enc]; simp), ← enc_of_chk vs2_chk] at h18
  rw [vs1_enc, vs1_chk] at h12a
  rw [vs2_enc, vs2_chk] at h12b h14
  rw [vs2_enc] at h18
  refine Fun.of_wp (pn := noPn) Try.tab Try.func10 rfl fun β0 => ?_
  simp only [Try.f10]
  repeat (first | refine WP.seq ?_ | refine WP.block ?_ | (refine WP.region Try.tab ?_; simp -dsimp) | (refine WP.draw Try.tab Try.mixed ?_; simp -dsimp) | refine And.intro (by first | rfl | omega | decide | (simp; done) | (simp; omega) | (intros; simp_all; done)) ?_)
  refine vcStop.call0 Try.body23 (f23_ok (-3)) rfl rfl (by simp) ?_
  simp -dsimp [V.d, V.cells]
  refine vcStop.call0 Try.body12 h12a rfl rfl (by simp [vs1, V.d, V.cells]) ?_
  simp -dsimp
  repeat (first | refine WP.seq ?_ | refine WP.block ?_ | (refine WP.region Try.tab ?_; simp -dsimp) | (refine WP.draw Try.tab Try.mixed ?_; simp -dsimp) | refine And.intro (by first | rfl | omega | decide | (simp; done) | (simp; omega) | (intros; simp_all; done)) ?_)
  refine vcStop.call0 Try.body23 (f23_ok 100) rfl rfl (by simp) ?_
  simp -dsimp [V.d, V.cells]
  refine vcStop.call0 Try.body24 (f24_ok ⟨#[97, 98]⟩) rfl rfl (by simp) ?_
  simp -dsimp [V.d, V.cells, V.cellsL]
  repeat refine And.intro (by first | rfl | omega | decide | (simp; done) | (simp; omega) | (intros; simp_all; done)) ?_
  refine vcStop.call Try.body22 (f22_row [.mk 1 100 ⟨#[]⟩ [], .mk 2 0 ⟨#[97, 98]⟩ []]) (rl [(1000, 21)]) rfl rfl (by simp [V.cellsL, V.cells, BoxLeq]) (CallOk.of (by simp [V.cellsL, V.cells, BoxLeq]) rfl (by first | rfl | (simp [V.cellsL, V.cells, BoxLeq]; done)) (by simp [V.cellsL, V.cells, BoxLeq]) (by simp [V.cellsL, V.cells, BoxLeq])) (fun _ h => h.elim) (fun ⟨_, h⟩ => h.elim) (fun ⟨_, h⟩ => h.elim) (by simp [V.cellsL, V.cells, BoxLeq]) ?_
  simp -dsimp [V.cellsL, V.cells]
  repeat refine And.intro (by first | rfl | omega | decide | (simp; done) | (simp; omega) | (intros; simp_all; done)) ?_
  refine WP.weak (Wk.freeze (k := 21) (T := 24) (sz := 4) (n := 2) (ds := V.cellsL [.mk 1 100 ⟨#[]⟩ [], .mk 2 0 ⟨#[97, 98]⟩ []]) (by simp [V.cellsL, V.cells])) ?_
  simp -dsimp [V.cellsL, V.cells]
  repeat (first | refine WP.seq ?_ | refine WP.block ?_ | (refine WP.region Try.tab ?_; simp -dsimp) | (refine WP.draw Try.tab Try.mixed ?_; simp -dsimp) | refine And.intro (by first | rfl | omega | decide | (simp; done) | (simp; omega) | (intros; simp_all; done)) ?_)
  refine vcStop.call0 Try.body12 h12b rfl rfl (by simp [vs2, V.d, V.cells, V.cellsL]) ?_
  simp -dsimp
  repeat (first | refine WP.seq ?_ | refine WP.block ?_ | (refine WP.region Try.tab ?_; simp -dsimp) | (refine WP.draw Try.tab Try.mixed ?_; simp -dsimp) | refine And.intro (by first | rfl | omega | decide | (simp; done) | (simp; omega) | (intros; simp_all; done)) ?_)
  refine vcStop.call0 Try.body18 h18 rfl rfl (by simp) ?_
  simp -dsimp [vs2, V.d, V.cells, V.cellsL]
  repeat (first | refine WP.seq ?_ | refine WP.block ?_ | (refine WP.region Try.tab ?_; simp -dsimp) | (refine WP.draw Try.tab Try.mixed ?_; simp -dsimp) | refine And.intro (by first | rfl | omega | decide | (simp; done) | (simp; omega) | (intros; simp_all; done)) ?_)
  refine vcStop.call0 Try.body14 h14 rfl rfl (by simp [vs2, V.d, V.cells, V.cellsL]) ?_
  simp -dsimp
  repeat (first | refine WP.seq ?_ | refine WP.block ?_ | (refine WP.region Try.tab ?_; simp -dsimp [byteD, unB, unBD, unBV]) | (refine WP.draw Try.tab Try.mixed ?_; simp -dsimp [byteD, unB, unBD, unBV]) | refine And.intro (by first | rfl | omega | decide | (simp; done) | (simp; omega) | (intros; simp_all; done)) ?_)
  have hsame : V.same vs2 vs2 = true := (V.same_iff _ _).2 rfl
  have hsame2 : V.same (.mk 2 0 ⟨#[]⟩ []) (.mk 3 0 ⟨#[]⟩ []) = false := by simp [V.same]
  have h21 := f21_ok vs2 vs2
  have h21' := f21_ok (.mk 2 0 ⟨#[]⟩ []) (.mk 3 0 ⟨#[]⟩ [])
  rw [hsame] at h21
  rw [hsame2] at h21'
  refine vcStopG.call0 Try.body21 (fun _ => h21) rfl (fun _ => rfl) (fun _ => by simp [vs2, V.d, V.cells, V.cellsL]) ?_
  simp -dsimp
  refine vcStopG.call0 Try.body24 (fun _ => f24_ok ⟨#[]⟩) rfl (fun _ => rfl) (fun _ => by simp) ?_
  simp -dsimp
  refine vcStopG.call0 Try.body22 (fun _ => f22_nil) rfl (fun _ => rfl) (fun _ => by simp) ?_
  simp -dsimp
  refine vcStopG.call0 Try.body21 (fun _ => h21') rfl (fun _ => rfl) (fun _ => by simp [V.d, V.cells, V.cellsL]) ?_
  simp -dsimp
  repeat (first | refine WP.seq ?_ | refine WP.block ?_ | (refine WP.region Try.tab ?_; simp -dsimp) | (refine WP.draw Try.tab Try.mixed ?_; simp -dsimp) | refine And.intro (by first | rfl | omega | decide | (simp; done) | (simp; omega) | (intros; simp_all; done)) ?_)
  refine WP.cond (b := false) (by simp) (fun h => by cases h) (fun _ => ?_)
  refine WP.skip ?_
  simp -dsimp
  repeat (first | refine WP.seq ?_ | refine WP.block ?_ | (refine WP.region Try.tab ?_; simp -dsimp) | (refine WP.draw Try.tab Try.mixed ?_; simp -dsimp) | refine And.intro (by first | rfl | omega | decide | (simp; done) | (simp; omega) | (intros; simp_all; done)) ?_)
  refine WP.loopWk (fun m S => ∃ i : Nat, i + m = 4 ∧ S = mkS 95 [(77, .row 77), (78, .d (.v (.int .i64 4))), (79, .d (.v (.int .i64 i)))] [(77, .row 9 1 4 [.d (.v (.string ⟨#[]⟩)), .d (.v (.string ⟨#[1, 128, 0]⟩)), .d (.v (.string ⟨#[1, 5, 0]⟩)), .d (.v (.string ⟨#[2, 3, 97]⟩))])]) 4
    (S0 := mkS 95 [(77, .row 77), (78, .d (.v (.int .i64 4))), (79, .d (.v (.int .i64 0)))] [(77, .row 9 1 4 [.d (.v (.string ⟨#[]⟩)), .d (.v (.string ⟨#[1, 128, 0]⟩)), .d (.v (.string ⟨#[1, 5, 0]⟩)), .d (.v (.string ⟨#[2, 3, 97]⟩))])]) (Wk.lessE [] (by simp) (by simp)) ⟨0, rfl, rfl⟩ ?_
  rintro m _ ⟨i, hi, rfl⟩
  have hi' : i = 0 ∨ i = 1 ∨ i = 2 ∨ i = 3 ∨ i = 4 := by omega
  rcases hi' with rfl | rfl | rfl | rfl | rfl
  · have h18 := f18_ok [] (by simp)
    rw [no1] at h18
    simp -dsimp
    repeat (first | refine WP.seq ?_ | refine WP.block ?_ | (refine WP.region Try.tab ?_; simp -dsimp) | (refine WP.draw Try.tab Try.mixed ?_; simp -dsimp) | refine And.intro (by first | rfl | omega | decide | (simp; done) | (simp; omega) | (intros; simp_all; done)) ?_)
    refine WP.cond (b := true) (by simp) (fun _ => ?_) (fun h => by cases h)
    refine WP.skip ?_
    simp -dsimp
    refine WP.seq (WP.block ?_)
    repeat (first | refine WP.seq ?_ | refine WP.block ?_ | (refine WP.region Try.tab ?_; simp -dsimp) | (refine WP.draw Try.tab Try.mixed ?_; simp -dsimp) | refine And.intro (by first | rfl | omega | decide | (simp; done) | (simp; omega) | (intros; simp_all; done)) ?_)
    refine vcStop.call0 Try.body18 h18 rfl rfl (by simp [byteD]; try rfl) ?_
    simp -dsimp [V.d, V.cells, V.cellsL]
    repeat (first | refine WP.seq ?_ | refine WP.block ?_ | (refine WP.region Try.tab ?_; simp -dsimp) | (refine WP.draw Try.tab Try.mixed ?_; simp -dsimp) | refine And.intro (by first | rfl | omega | decide | (simp; done) | (simp; omega) | (intros; simp_all; done)) ?_)
    refine WP.cond (b := false) (by simp) (fun h => by cases h) (fun _ => ?_)
    refine WP.skip ?_
    simp -dsimp
    repeat (first | refine WP.seq ?_ | refine WP.block ?_ | (refine WP.region Try.tab ?_; simp -dsimp) | (refine WP.draw Try.tab Try.mixed ?_; simp -dsimp) | refine And.intro (by first | rfl | omega | decide | (simp; done) | (simp; omega) | (intros; simp_all; done)) ?_)
    exact loopW.next (mkS 95 [(77, .row 77), (78, .d (.v (.int .i64 4))), (79, .d (.v (.int .i64 (1 : Nat))))] [(77, .row 9 1 4 [.d (.v (.string ⟨#[]⟩)), .d (.v (.string ⟨#[1, 128, 0]⟩)), .d (.v (.string ⟨#[1, 5, 0]⟩)), .d (.v (.string ⟨#[2, 3, 97]⟩))])]) (Wk.lessE [] (by simp [show IntKind.i64.wrap 1 = 1 from rfl]) (by simp)) 3 (by omega) ⟨1, by omega, rfl⟩
  · have h18 := f18_ok [1, 128, 0] (by simp)
    rw [no2] at h18
    simp -dsimp
    repeat (first | refine WP.seq ?_ | refine WP.block ?_ | (refine WP.region Try.tab ?_; simp -dsimp) | (refine WP.draw Try.tab Try.mixed ?_; simp -dsimp) | refine And.intro (by first | rfl | omega | decide | (simp; done) | (simp; omega) | (intros; simp_all; done)) ?_)
    refine WP.cond (b := true) (by simp) (fun _ => ?_) (fun h => by cases h)
    refine WP.skip ?_
    simp -dsimp
    refine WP.seq (WP.block ?_)
    repeat (first | refine WP.seq ?_ | refine WP.block ?_ | (refine WP.region Try.tab ?_; simp -dsimp) | (refine WP.draw Try.tab Try.mixed ?_; simp -dsimp) | refine And.intro (by first | rfl | omega | decide | (simp; done) | (simp; omega) | (intros; simp_all; done)) ?_)
    refine vcStop.call0 Try.body18 h18 rfl rfl (by simp [byteD]; try rfl) ?_
    simp -dsimp [V.d, V.cells, V.cellsL]
    repeat (first | refine WP.seq ?_ | refine WP.block ?_ | (refine WP.region Try.tab ?_; simp -dsimp) | (refine WP.draw Try.tab Try.mixed ?_; simp -dsimp) | refine And.intro (by first | rfl | omega | decide | (simp; done) | (simp; omega) | (intros; simp_all; done)) ?_)
    refine WP.cond (b := false) (by simp) (fun h => by cases h) (fun _ => ?_)
    refine WP.skip ?_
    simp -dsimp
    repeat (first | refine WP.seq ?_ | refine WP.block ?_ | (refine WP.region Try.tab ?_; simp -dsimp) | (refine WP.draw Try.tab Try.mixed ?_; simp -dsimp) | refine And.intro (by first | rfl | omega | decide | (simp; done) | (simp; omega) | (intros; simp_all; done)) ?_)
    exact loopW.next (mkS 95 [(77, .row 77), (78, .d (.v (.int .i64 4))), (79, .d (.v (.int .i64 (2 : Nat))))] [(77, .row 9 1 4 [.d (.v (.string ⟨#[]⟩)), .d (.v (.string ⟨#[1, 128, 0]⟩)), .d (.v (.string ⟨#[1, 5, 0]⟩)), .d (.v (.string ⟨#[2, 3, 97]⟩))])]) (Wk.lessE [] (by simp [show IntKind.i64.wrap 2 = 2 from rfl]) (by simp)) 2 (by omega) ⟨2, by omega, rfl⟩
  · have h18 := f18_ok [1, 5, 0] (by simp)
    rw [no3] at h18
    simp -dsimp
    repeat (first | refine WP.seq ?_ | refine WP.block ?_ | (refine WP.region Try.tab ?_; simp -dsimp) | (refine WP.draw Try.tab Try.mixed ?_; simp -dsimp) | refine And.intro (by first | rfl | omega | decide | (simp; done) | (simp; omega) | (intros; simp_all; done)) ?_)
    refine WP.cond (b := true) (by simp) (fun _ => ?_) (fun h => by cases h)
    refine WP.skip ?_
    simp -dsimp
    refine WP.seq (WP.block ?_)
    repeat (first | refine WP.seq ?_ | refine WP.block ?_ | (refine WP.region Try.tab ?_; simp -dsimp) | (refine WP.draw Try.tab Try.mixed ?_; simp -dsimp) | refine And.intro (by first | rfl | omega | decide | (simp; done) | (simp; omega) | (intros; simp_all; done)) ?_)
    refine vcStop.call0 Try.body18 h18 rfl rfl (by simp [byteD]; try rfl) ?_
    simp -dsimp [V.d, V.cells, V.cellsL]
    repeat (first | refine WP.seq ?_ | refine WP.block ?_ | (refine WP.region Try.tab ?_; simp -dsimp) | (refine WP.draw Try.tab Try.mixed ?_; simp -dsimp) | refine And.intro (by first | rfl | omega | decide | (simp; done) | (simp; omega) | (intros; simp_all; done)) ?_)
    refine WP.cond (b := false) (by simp) (fun h => by cases h) (fun _ => ?_)
    refine WP.skip ?_
    simp -dsimp
    repeat (first | refine WP.seq ?_ | refine WP.block ?_ | (refine WP.region Try.tab ?_; simp -dsimp) | (refine WP.draw Try.tab Try.mixed ?_; simp -dsimp) | refine And.intro (by first | rfl | omega | decide | (simp; done) | (simp; omega) | (intros; simp_all; done)) ?_)
    exact loopW.next (mkS 95 [(77, .row 77), (78, .d (.v (.int .i64 4))), (79, .d (.v (.int .i64 (3 : Nat))))] [(77, .row 9 1 4 [.d (.v (.string ⟨#[]⟩)), .d (.v (.string ⟨#[1, 128, 0]⟩)), .d (.v (.string ⟨#[1, 5, 0]⟩)), .d (.v (.string ⟨#[2, 3, 97]⟩))])]) (Wk.lessE [] (by simp [show IntKind.i64.wrap 3 = 3 from rfl]) (by simp)) 1 (by omega) ⟨3, by omega, rfl⟩
  · have h18 := f18_ok [2, 3, 97] (by simp)
    rw [no4] at h18
    simp -dsimp
    repeat (first | refine WP.seq ?_ | refine WP.block ?_ | (refine WP.region Try.tab ?_; simp -dsimp) | (refine WP.draw Try.tab Try.mixed ?_; simp -dsimp) | refine And.intro (by first | rfl | omega | decide | (simp; done) | (simp; omega) | (intros; simp_all; done)) ?_)
    refine WP.cond (b := true) (by simp) (fun _ => ?_) (fun h => by cases h)
    refine WP.skip ?_
    simp -dsimp
    refine WP.seq (WP.block ?_)
    repeat (first | refine WP.seq ?_ | refine WP.block ?_ | (refine WP.region Try.tab ?_; simp -dsimp) | (refine WP.draw Try.tab Try.mixed ?_; simp -dsimp) | refine And.intro (by first | rfl | omega | decide | (simp; done) | (simp; omega) | (intros; simp_all; done)) ?_)
    refine vcStop.call0 Try.body18 h18 rfl rfl (by simp [byteD]; try rfl) ?_
    simp -dsimp [V.d, V.cells, V.cellsL]
    repeat (first | refine WP.seq ?_ | refine WP.block ?_ | (refine WP.region Try.tab ?_; simp -dsimp) | (refine WP.draw Try.tab Try.mixed ?_; simp -dsimp) | refine And.intro (by first | rfl | omega | decide | (simp; done) | (simp; omega) | (intros; simp_all; done)) ?_)
    refine WP.cond (b := false) (by simp) (fun h => by cases h) (fun _ => ?_)
    refine WP.skip ?_
    simp -dsimp
    repeat (first | refine WP.seq ?_ | refine WP.block ?_ | (refine WP.region Try.tab ?_; simp -dsimp) | (refine WP.draw Try.tab Try.mixed ?_; simp -dsimp) | refine And.intro (by first | rfl | omega | decide | (simp; done) | (simp; omega) | (intros; simp_all; done)) ?_)
    exact loopW.next (mkS 95 [(77, .row 77), (78, .d (.v (.int .i64 4))), (79, .d (.v (.int .i64 (4 : Nat))))] [(77, .row 9 1 4 [.d (.v (.string ⟨#[]⟩)), .d (.v (.string ⟨#[1, 128, 0]⟩)), .d (.v (.string ⟨#[1, 5, 0]⟩)), .d (.v (.string ⟨#[2, 3, 97]⟩))])]) (Wk.lessE [] (by simp [show IntKind.i64.wrap 4 = 4 from rfl]) (by simp)) 0 (by omega) ⟨4, by omega, rfl⟩
  · simp -dsimp
    repeat (first | refine WP.seq ?_ | refine WP.block ?_ | (refine WP.region Try.tab ?_; simp -dsimp) | (refine WP.draw Try.tab Try.mixed ?_; simp -dsimp) | refine And.intro (by first | rfl | omega | decide | (simp; done) | (simp; omega) | (intros; simp_all; done)) ?_)
    refine WP.cond (b := false) (by simp) (fun h => by cases h) (fun _ => ?_)
    refine WP.exit ?_
    simp -dsimp
    repeat (first | refine WP.seq ?_ | refine WP.block ?_ | (refine WP.region Try.tab ?_; simp -dsimp) | (refine WP.draw Try.tab Try.mixed ?_; simp -dsimp) | refine And.intro (by first | rfl | omega | decide | (simp; done) | (simp; omega) | (intros; simp_all; done)) ?_)
    have h16 := f16_ok (.mk 0 0 ⟨#[]⟩ []) (by simp [V.dep])
    refine vcStop.call0L Try.body16 h16 rfl rfl (by simp [V.d, V.cells, V.cellsL]) ?_
    simp -dsimp [V.chk, V.ok]
    repeat (first | refine WP.seq ?_ | refine WP.block ?_ | (refine WP.region Try.tab ?_; simp -dsimp) | (refine WP.draw Try.tab Try.mixed ?_; simp -dsimp) | refine And.intro (by first | rfl | omega | decide | (simp; done) | (simp; omega) | (intros; simp_all; done)) ?_)
    refine WP.ret (finQ.retE ?_)
    simp -dsimp
end Go.Proofs.Ytnbanfpelgcmoaa
