import Derived.Test.YtnbanfpelgcmoaaLc
set_option linter.unusedSimpArgs false
set_option linter.unusedVariables false
namespace Go.Proofs.Ytnbanfpelgcmoaa
open Go.Xe Go.RowKit

theorem digs_mono : ∀ (N u w : Nat), u ≤ N → u ≤ w → (digs u).length ≤ (digs w).length := by
  intro N
  induction N with
  | zero =>
    intro u w h _
    have : u = 0 := by omega
    subst this
    have := digs_pos w
    rw [digs, if_pos (by omega)]
    simp; omega
  | succ N ih =>
    intro u w h hw
    have := digs_pos w
    by_cases h1 : u < 128
    · rw [digs.eq_1 u, if_pos h1]
      simp; omega
    · have := ih (u / 128) (w / 128) (by omega) (by omega)
      rw [digs.eq_1 u, if_neg h1, digs.eq_1 w, if_neg (by omega)]
      simp; omega
theorem digs_ten {u : Nat} (h : isU u) : (digs u).length ≤ 10 := by
  have h1 := digs_mono u u 18446744073709551615 (Nat.le_refl _) (by unfold isU at h; omega)
  have h2 : (digs 18446744073709551615).length = 10 := by simp [digs]
  omega

/-- A number as a value. -/
theorem int_enc {n : Int} (h : isI n) : V.chk (.mk 1 n ⟨#[]⟩ []) = 0 ∧ V.encB (.mk 1 n ⟨#[]⟩ []) = 1 :: digs (zig n) ∧ V.rng (.mk 1 n ⟨#[]⟩ []) = true := by
  have h1 : V.chk (.mk 1 n ⟨#[]⟩ []) = 0 := by simp [V.chk, V.ok, V.dep]
  refine ⟨h1, by rw [enc_of_chk h1, V.enc, if_pos rfl], ?_⟩
  unfold isI at h
  simp [V.rng, V.rngL, show (⟨#[]⟩ : ByteArray).size = 0 from rfl]
  omega

set_option maxRecDepth 10000 in
set_option maxHeartbeats 4000000 in
theorem f9_ok (a b : Int) (ha : isI a) (hb : isI b) : Fn0 Try.prog 9 [.v (.int .i64 a), .v (.int .i64 b)] (.v (.bool true)) := by
  obtain ⟨a1, a2, a3⟩ := int_enc ha
  obtain ⟨b1, b2, b3⟩ := int_enc hb
  have a4 := digs_ten (zig_lt ha)
  have b4 := digs_ten (zig_lt hb)
  have a5 := digs_pos (zig a)
  have b5 := digs_pos (zig b)
  have a6 : (V.enc (.mk 1 a ⟨#[]⟩ [])) = 1 :: digs (zig a) := by rw [← enc_of_chk a1, a2]
  have b6 : (V.enc (.mk 1 b ⟨#[]⟩ [])) = 1 :: digs (zig b) := by rw [← enc_of_chk b1, b2]
  have mono1 : 0 ≤ a → a ≤ b → (digs (zig a)).length ≤ (digs (zig b)).length := fun h h' => digs_mono _ _ _ (Nat.le_refl _) (by unfold zig; split <;> split <;> omega)
  have mono2 : a < 0 → b ≤ a → (digs (zig a)).length ≤ (digs (zig b)).length := fun h h' => digs_mono _ _ _ (Nat.le_refl _) (by unfold zig; split <;> split <;> omega)
  have h14a := f14_ok (.mk 1 a ⟨#[]⟩ []) (by simp [V.dep]) a3 (by rw [a6]; simp; omega)
  have h14b := f14_ok (.mk 1 b ⟨#[]⟩ []) (by simp [V.dep]) b3 (by rw [b6]; simp; omega)
  have h12 := f12_ok (.mk 1 a ⟨#[]⟩ []) (by simp [V.dep]) a3 (by rw [a6]; simp; omega)
  have h18 := f18_ok (V.enc (.mk 1 a ⟨#[]⟩ [])) (by rw [a6]; simp; omega)
  rw [dec_enc a1 a3 (by rw [a6]; simp; omega), a6] at h18
  rw [a1, a2] at h14a h12
  rw [b1, b2] at h14b
  generalize digs (zig a) = da at *
  generalize digs (zig b) = db at *
  refine Fun.of_wp (pn := noPn) Try.tab Try.func9 rfl fun β0 => ?_
  simp only [Try.f9]
  repeat (first | refine WP.seq ?_ | refine WP.block ?_ | (refine WP.region Try.tab ?_; simp -dsimp) | (refine WP.draw Try.tab Try.mixed ?_; simp -dsimp) | refine And.intro (by first | rfl | omega | decide | (simp; done) | (simp; omega) | (intros; simp_all; done)) ?_)
  refine vcStop.call0 Try.body10 f10_ok rfl rfl rfl ?_
  simp -dsimp
  repeat (first | refine WP.seq ?_ | refine WP.block ?_ | (refine WP.region Try.tab ?_; simp -dsimp) | (refine WP.draw Try.tab Try.mixed ?_; simp -dsimp) | refine And.intro (by first | rfl | omega | decide | (simp; done) | (simp; omega) | (intros; simp_all; done)) ?_)
  refine WP.cond (b := false) (by simp) (fun h => by cases h) (fun _ => ?_)
  refine WP.skip ?_
  simp -dsimp
  repeat (first | refine WP.seq ?_ | refine WP.block ?_ | (refine WP.region Try.tab ?_; simp -dsimp) | (refine WP.draw Try.tab Try.mixed ?_; simp -dsimp) | refine And.intro (by first | rfl | omega | decide | (simp; done) | (simp; omega) | (intros; simp_all; done)) ?_)
  refine vcStop.call0 Try.body23 (f23_ok a) rfl rfl (by simp) ?_
  simp -dsimp [V.d, V.cells, V.cellsL]
  refine vcStop.call0 Try.body14 h14a rfl rfl (by simp [V.d, V.cells, V.cellsL]) ?_
  simp -dsimp
  repeat (first | refine WP.seq ?_ | refine WP.block ?_ | (refine WP.region Try.tab ?_; simp -dsimp) | (refine WP.draw Try.tab Try.mixed ?_; simp -dsimp) | refine And.intro (by first | rfl | omega | decide | (simp; done) | (simp; omega) | (intros; simp_all; done)) ?_)
  refine vcStop.call0 Try.body23 (f23_ok b) rfl rfl (by simp) ?_
  simp -dsimp [V.d, V.cells, V.cellsL]
  refine vcStop.call0 Try.body14 h14b rfl rfl (by simp [V.d, V.cells, V.cellsL]) ?_
  simp -dsimp
  repeat (first | refine WP.seq ?_ | refine WP.block ?_ | (refine WP.region Try.tab ?_; simp -dsimp) | (refine WP.draw Try.tab Try.mixed ?_; simp -dsimp) | refine And.intro (by first | rfl | omega | decide | (simp; done) | (simp; omega) | (intros; simp_all; done)) ?_)
  refine WP.cond (b := false) (by simp; omega) (fun h => by cases h) (fun _ => ?_)
  refine WP.skip ?_
  simp -dsimp
  repeat (first | refine WP.seq ?_ | refine WP.block ?_ | (refine WP.region Try.tab ?_; simp -dsimp) | (refine WP.draw Try.tab Try.mixed ?_; simp -dsimp) | refine And.intro (by first | rfl | omega | decide | (simp; done) | (simp; omega) | (intros; simp_all; done)) ?_)
  refine WP.cond (b := false) (by simp; omega) (fun h => by cases h) (fun _ => ?_)
  refine WP.skip ?_
  simp -dsimp
  repeat (first | refine WP.seq ?_ | refine WP.block ?_ | (refine WP.region Try.tab ?_; simp -dsimp) | (refine WP.draw Try.tab Try.mixed ?_; simp -dsimp) | refine And.intro (by first | rfl | omega | decide | (simp; done) | (simp; omega) | (intros; simp_all; done)) ?_)
  refine vcStop.call0 Try.body23 (f23_ok a) rfl rfl (by simp) ?_
  simp -dsimp [V.d, V.cells, V.cellsL]
  refine vcStop.call0 Try.body12 h12 rfl rfl (by simp [V.d, V.cells, V.cellsL]) ?_
  simp -dsimp
  repeat (first | refine WP.seq ?_ | refine WP.block ?_ | (refine WP.region Try.tab ?_; simp -dsimp) | (refine WP.draw Try.tab Try.mixed ?_; simp -dsimp) | refine And.intro (by first | rfl | omega | decide | (simp; done) | (simp; omega) | (intros; simp_all; done)) ?_)
  refine vcStop.call0 Try.body18 h18 rfl rfl (by simp) ?_
  simp -dsimp [V.d, V.cells, V.cellsL]
  repeat (first | refine WP.seq ?_ | refine WP.block ?_ | (refine WP.region Try.tab ?_; simp -dsimp) | (refine WP.draw Try.tab Try.mixed ?_; simp -dsimp) | refine And.intro (by first | rfl | omega | decide | (simp; done) | (simp; omega) | (intros; simp_all; done)) ?_)
  refine WP.ret (finQ.retE ?_)
  simp -dsimp
end Go.Proofs.Ytnbanfpelgcmoaa
