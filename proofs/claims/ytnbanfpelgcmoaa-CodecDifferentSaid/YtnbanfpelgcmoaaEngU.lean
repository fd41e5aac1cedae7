/-
  The engine, part U. From a row's reading to data.
-/
import Derived.Test.YtnbanfpelgcmoaaEngT
import Derived.ProofKit
namespace Go.Xe
open Go.RowKit

def tsz (τ : Tab) (T : TypeId) : Nat := match τ T with
  | some e => e.size
  | none => 0
def tby (τ : Tab) (T : TypeId) : Nat := match τ T with
  | some e => e.bytes
  | none => 0
/-- Data of a type, as deep as n. -/
def OkD (τ : Tab) : Nat → TypeId → List D → Prop
  | 0, _, _ => False
  | n + 1, T, ds => match τ T with
    | some ⟨.int k, _, _, _⟩ => ∃ x, ds = [.v (.int k x)] ∧ k.min ≤ x ∧ x ≤ k.max
    | some ⟨.bool, _, _, _⟩ => ∃ b, ds = [.v (.bool b)]
    | some ⟨.string, _, _, _⟩ => ∃ s : ByteArray, ds = [.v (.string s)] ∧ s.size ≤ 140737488351232
    | some ⟨.slice e, _, _, _⟩ => ∃ l : List (List D), ds = [.sl (tsz τ e) l.flatten l.length false] ∧ (∀ x ∈ l, OkD τ n e x) ∧ l.length * tby τ e ≤ 140737488351232
    | some ⟨.struct fs, _, _, _⟩ => ∃ l : List (List D), ds = l.flatten ∧ l.length = fs.length ∧ ∀ (i : Nat) (x : List D) (f : Nat × Nat), l[i]? = some x → fs[i]? = some f → OkD τ n f.2 x
    | some ⟨.array m e, _, _, _⟩ => ∃ l : List (List D), ds = l.flatten ∧ l.length = m ∧ ∀ x ∈ l, OkD τ n e x
    | _ => False

/-- Fields that lie one behind the other. -/
def contig (τ : Tab) : Nat → List (Nat × Nat) → Nat → Bool
  | off, [], n => decide (off = n)
  | off, (o, T) :: r, n => decide (o = off) && contig τ (off + tsz τ T) r n
/-- Types that are read here: numbers, strings, slices, structs, arrays of such. -/
def gOk1 (τ : Tab) (L : List TypeId) (t : TypeId) : Bool :=
  match τ t with
  | some ⟨.int _, sz, _, _⟩ => decide (sz = 1)
  | some ⟨.bool, sz, _, _⟩ => decide (sz = 1)
  | some ⟨.string, sz, _, _⟩ => decide (sz = 1)
  | some ⟨.slice e, sz, _, _⟩ => decide (sz = 1) && (decide (0 < tsz τ e) && L.contains e)
  | some ⟨.struct fs, sz, _, _⟩ => contig τ 0 fs sz && fs.all fun f => L.contains f.2
  | some ⟨.array m e, sz, _, _⟩ => decide (sz = m * tsz τ e) && L.contains e
  | _ => false
def gOk (τ : Tab) (L : List TypeId) : Bool := L.all (gOk1 τ L)

theorem mapM_at {α β : Type} {f : α → Option β} : ∀ {l : List α} {r : List β}, l.mapM f = some r → r.length = l.length ∧ ∀ (i : Nat) (x : α), l[i]? = some x → ∃ y, r[i]? = some y ∧ f x = some y
  | [], r, h => by simp at h; subst h; simp
  | a :: l, r, h => by
    rw [List.mapM_cons] at h
    cases hf : f a with
    | none => rw [hf] at h; cases h
    | some y =>
      rw [hf] at h
      cases hl : l.mapM f with
      | none => rw [hl] at h; cases h
      | some r' =>
        rw [hl] at h
        cases h
        obtain ⟨h1, h2⟩ := mapM_at hl
        refine ⟨by simp [h1], fun i x hx => ?_⟩
        cases i with
        | zero => simp at hx; subst hx; exact ⟨y, rfl, hf⟩
        | succ i => simpa using h2 i x (by simpa using hx)

section
variable {w : World} {I : Nat → Prop}
theorem Dens.append {a b : List D} {vs us : List Value} : Dens w I a vs → Dens w I b us → Dens w I (a ++ b) (vs ++ us) := by
  induction a generalizing vs with
  | nil => intro h h'; rw [Dens] at h; subst h; exact h'
  | cons c cs ih => intro h h'; obtain ⟨v, vs', rfl, h1, h2⟩ := h; exact ⟨v, _, rfl, h1, ih h2 h'⟩
/-- Pieces of a list of cells, one behind the other. -/
theorem Dens.pieces {sz : Nat} : ∀ (n off : Nat) (cs : List Value) (l : List (List D)), l.length = n → cs.length = off + n * sz → (∀ i x, l[i]? = some x → Dens w I x ((cs.drop (off + i * sz)).take sz)) → Dens w I l.flatten (cs.drop off)
  | 0, off, cs, l, hl, hc, _ => by
    have : l = [] := List.eq_nil_of_length_eq_zero hl
    subst this
    rw [List.drop_of_length_le (by omega)]
    rfl
  | n + 1, off, cs, l, hl, hc, h => by
    cases l with
    | nil => cases hl
    | cons x l =>
      have h0 := h 0 x rfl
      have hr := Dens.pieces (sz := sz) n (off + sz) cs l (by simpa using hl) (by rw [hc, Nat.succ_mul]; omega) fun i y hy => by
        have := h (i + 1) y (by simpa using hy)
        rwa [show off + (i + 1) * sz = off + sz + i * sz from by rw [Nat.succ_mul]; omega] at this
      have := Dens.append h0 hr
      simp only [Nat.zero_mul, Nat.add_zero] at this
      rwa [show cs.drop (off + sz) = (cs.drop off).drop sz from by rw [List.drop_drop], List.take_append_drop] at this
theorem Dens.fields {τ : Tab} : ∀ (fs : List (Nat × Nat)) (off n : Nat) (cs : List Value) (l : List (List D)), contig τ off fs n = true → l.length = fs.length → cs.length = n → (∀ (i : Nat) (x : List D) (f : Nat × Nat), l[i]? = some x → fs[i]? = some f → Dens w I x ((cs.drop f.1).take (tsz τ f.2))) → Dens w I l.flatten (cs.drop off)
  | [], off, n, cs, l, hc, hl, hn, _ => by
    have : l = [] := List.eq_nil_of_length_eq_zero hl
    subst this
    simp only [contig, decide_eq_true_eq] at hc
    rw [List.drop_of_length_le (by omega)]
    rfl
  | (o, T) :: fs, off, n, cs, l, hc, hl, hn, h => by
    cases l with
    | nil => cases hl
    | cons x l =>
      simp only [contig, Bool.and_eq_true, decide_eq_true_eq] at hc
      obtain ⟨rfl, hc⟩ := hc
      have h0 := h 0 x (o, T) rfl rfl
      have hr := Dens.fields fs (o + tsz τ T) n cs l hc (by simpa using hl) hn fun i y f hy hf => h (i + 1) y f (by simpa using hy) (by simpa using hf)
      have := Dens.append h0 hr
      rwa [show cs.drop (o + tsz τ T) = (cs.drop o).drop (tsz τ T) from by rw [List.drop_drop], List.take_append_drop] at this
end

theorem fields_all {τ : Tab} {Q : Value → Prop} : ∀ (fs : List (Nat × Nat)) (off n : Nat) (cs : List Value), contig τ off fs n = true → cs.length = n → (∀ (i : Nat) (f : Nat × Nat), fs[i]? = some f → ∀ v ∈ (cs.drop f.1).take (tsz τ f.2), Q v) → ∀ v ∈ cs.drop off, Q v
  | [], off, n, cs, hc, hn, _ => by
    simp only [contig, decide_eq_true_eq] at hc
    rw [List.drop_of_length_le (by omega)]
    simp
  | (o, T) :: fs, off, n, cs, hc, hn, h => by
    simp only [contig, Bool.and_eq_true, decide_eq_true_eq] at hc
    obtain ⟨rfl, hc⟩ := hc
    intro v hv
    rw [← List.take_append_drop (tsz τ T) (cs.drop o)] at hv
    rcases List.mem_append.1 hv with hv | hv
    · exact h 0 (o, T) rfl v hv
    · rw [List.drop_drop] at hv
      exact fields_all fs (o + tsz τ T) n cs hc hn (fun i f hf => h (i + 1) f (by simpa using hf)) v hv
theorem pieces_all {Q : Value → Prop} {sz : Nat} : ∀ (n off : Nat) (cs : List Value), cs.length = off + n * sz → (∀ i, i < n → ∀ v ∈ (cs.drop (off + i * sz)).take sz, Q v) → ∀ v ∈ cs.drop off, Q v
  | 0, off, cs, hc, _ => by
    rw [List.drop_of_length_le (by omega)]
    simp
  | n + 1, off, cs, hc, h => by
    intro v hv
    rw [← List.take_append_drop sz (cs.drop off)] at hv
    rcases List.mem_append.1 hv with hv | hv
    · exact h 0 (by omega) v (by simpa using hv)
    · rw [List.drop_drop] at hv
      refine pieces_all (sz := sz) n (off + sz) cs (by rw [hc, Nat.succ_mul]; omega) (fun i hi => ?_) v hv
      have := h (i + 1) (by omega)
      rwa [show off + (i + 1) * sz = off + sz + i * sz from by rw [Nat.succ_mul]; omega] at this
theorem cellsOf_tsz {P : Program} {τ : Tab} {T : TypeId} {e : TE} (h : TyOk P T e) (ht : τ T = some e) : P.cellsOf T = tsz τ T := by
  obtain ⟨i, z, hi, hs, _⟩ := h.info
  simp [Program.cellsOf, hi, hs, tsz, ht]
theorem bytesOf_tby {P : Program} {τ : Tab} {T : TypeId} {e : TE} (h : TyOk P T e) (ht : τ T = some e) : P.bytesOf T = tby τ T := by
  obtain ⟨i, z, hi, _, hs, _⟩ := h.info
  simp [Program.bytesOf, hi, hs, tby, ht]

/-- From a list of existence to a list. -/
theorem list_of {α β : Type} {Q : Nat → α → β → Prop} : ∀ (l : List α), (∀ i x, l[i]? = some x → ∃ y, Q i x y) → ∃ r : List β, r.length = l.length ∧ ∀ i x y, l[i]? = some x → r[i]? = some y → Q i x y
  | [], _ => ⟨[], rfl, by simp⟩
  | a :: l, h => by
    obtain ⟨y, hy⟩ := h 0 a rfl
    obtain ⟨r, h1, h2⟩ := list_of (Q := fun i => Q (i + 1)) l fun i x hx => h (i + 1) x (by simpa using hx)
    refine ⟨y :: r, by simp [h1], fun i x z hx hz => ?_⟩
    cases i with
    | zero => simp at hx hz; subst hx; subst hz; exact hy
    | succ i => exact h2 i x z (by simpa using hx) (by simpa using hz)

theorem reach_num {n : Nat} (h : n ≤ reachBytes) : n ≤ 140737488351232 := h

/-- Every block that was there when the call began. -/
def Old (w : World) (n : Nat) : Prop := n < w.heap.size

section
variable {H : Type} {enc : TypeId × Value → H} {P : Program} {w : World} {base : Nat} {spare : Nat → Bool} {held : Bool} {τ : Tab}
theorem all_append {a b : List Nat} {p : Nat → Bool} (h : (a ++ b).all p = true) : a.all p = true ∧ b.all p = true := by
  rw [List.all_append, Bool.and_eq_true] at h; exact h
theorem weightsAll_at {e : TypeId} : ∀ {ds : List (DataW H)} {i : Nat} {d : DataW H}, (DataW.weightsAll P e ds).all (· ≤ reachBytes) = true → ds[i]? = some d → (d.weights P e).all (· ≤ reachBytes) = true
  | [], _, _, _, hd => by simp at hd
  | x :: ds, 0, d, h, hd => by
    rw [DataW.weightsAll] at h
    simp at hd; subst hd
    exact (all_append h).1
  | x :: ds, i + 1, d, h, hd => by
    rw [DataW.weightsAll] at h
    exact weightsAll_at (all_append h).2 (by simpa using hd)
theorem weightsEach_at : ∀ {ts : List TypeId} {ds : List (DataW H)} {i : Nat} {t : TypeId} {d : DataW H}, (DataW.weightsEach P ts ds).all (· ≤ reachBytes) = true → ts[i]? = some t → ds[i]? = some d → (d.weights P t).all (· ≤ reachBytes) = true
  | [], _, _, _, _, _, ht, _ => by simp at ht
  | _ :: _, [], _, _, _, _, _, hd => by simp at hd
  | t :: ts, x :: ds, 0, _, d, h, ht, hd => by
    rw [DataW.weightsEach] at h
    simp at hd ht; subst hd; subst ht
    exact (all_append h).1
  | t :: ts, x :: ds, i + 1, _, d, h, ht, hd => by
    rw [DataW.weightsEach] at h
    exact weightsEach_at (all_append h).2 (by simpa using ht) (by simpa using hd)

theorem cell_add {a : Addr} {n j : Nat} {v : Value} (h : w.cell? ((a.add n).add j) = some v) : w.cell? ⟨a.block, a.off + n + j, none⟩ = some v ∧ (n = 0 → j = 0 → a.spot = none) := by
  obtain ⟨b, off, sp⟩ := a
  by_cases hn : n = 0
  · subst hn
    by_cases hj : j = 0
    · subst hj
      simp only [Addr.add, if_true] at h
      have hs : sp = none := by
        cases sp with
        | none => rfl
        | some s =>
          exfalso
          simp only [World.cell?] at h
          split at h <;> simp at h
      subst hs
      exact ⟨h, fun _ _ => rfl⟩
    · simp only [Addr.add, if_true, if_neg hj] at h
      exact ⟨h, fun _ h0 => absurd h0 hj⟩
  · by_cases hj : j = 0
    · subst hj
      simp only [Addr.add, if_true, if_neg hn] at h
      exact ⟨h, fun h0 => absurd h0 hn⟩
    · simp only [Addr.add, if_neg hn, if_neg hj] at h
      exact ⟨h, fun h0 => absurd h0 hn⟩
theorem cell_lt {b off : Nat} {v : Value} (h : w.cell? ⟨b, off, none⟩ = some v) : b < w.heap.size := by
  rcases Nat.lt_or_ge b w.heap.size with h1 | h1
  · exact h1
  · simp only [World.cell?] at h
    rw [Array.getElem?_eq_none h1] at h
    cases h
theorem DenAt.pieces {I : Nat → Prop} {sz b : Nat} : ∀ (l : List (List D)) (off : Nat), (∀ i x, l[i]? = some x → x.length = sz ∧ DenAt w I x b (off + i * sz)) → DenAt w I l.flatten b off
  | [], _, _ => by simp [DenAt]
  | x :: l, off, h => by
    obtain ⟨h1, h2⟩ := h 0 x rfl
    rw [List.flatten_cons]
    refine DenAt.append (by simpa using h2) ?_
    rw [h1]
    refine DenAt.pieces (sz := sz) l (off + sz) fun i y hy => ?_
    have := h (i + 1) y (by simpa using hy)
    rwa [show off + (i + 1) * sz = off + sz + i * sz from by rw [Nat.succ_mul]; omega] at this
theorem flatten_len {α : Type} {sz : Nat} : ∀ (l : List (List α)), (∀ (i : Nat) (x : List α), l[i]? = some x → x.length = sz) → l.flatten.length = l.length * sz
  | [], _ => by simp
  | x :: l, h => by
    rw [List.flatten_cons, List.length_append, h 0 x rfl, flatten_len l fun i y hy => h (i + 1) y (by simpa using hy), List.length_cons, Nat.succ_mul, Nat.add_comm]

theorem okD_of_trod (hτ : TabOk P τ) {L : List TypeId} (hL : gOk τ L = true) : ∀ (fuel : Nat) (t : TypeId) (cs : List Value) (d : DataW H) (ps : List MemPlace), L.contains t = true →
    DataW.trod enc P w base spare held fuel t cs = some (d, ps) → (d.weights P t).all (· ≤ reachBytes) = true →
    ∃ ds, OkD τ fuel t ds ∧ cs.length = tsz τ t ∧ Dens w (Old w) ds cs ∧ ∀ v ∈ cs, v.oneCell' = true := by
  intro fuel
  induction fuel with
  | zero => intro t cs d ps _ h; cases h
  | succ fuel ih =>
    intro t cs d ps hG h hw
    have hg : gOk1 τ L t = true := List.all_eq_true.1 hL t (by simpa using hG)
    unfold gOk1 at hg
    cases ht : τ t with
    | none => rw [ht] at hg; cases hg
    | some te =>
      have tk := hτ t te ht
      have hcs := cellsOf_tsz tk ht
      obtain ⟨dsc, hu, hk⟩ := tk.und
      rw [ht] at hg
      obtain ⟨k, sz, byt, zero⟩ := te
      have hsz : tsz τ t = sz := by simp [tsz, ht]
      cases k with
      | int k =>
        simp only [TK.ok] at hk
        subst hk
        simp only [decide_eq_true_eq] at hg
        cases cs with
        | nil => simp [DataW.trod, hu] at h
        | cons c cs =>
          cases cs with
          | cons _ _ => cases c <;> simp [DataW.trod, hu] at h
          | nil =>
            cases c <;> simp [DataW.trod, hu] at h
            obtain ⟨⟨rfl, hwf⟩, _⟩ := h
            simp only [Lit.wf, Bool.and_eq_true, decide_eq_true_eq] at hwf
            refine ⟨[.v (.int _ _)], by rw [OkD, ht]; exact ⟨_, rfl, hwf⟩, by simp [hsz, hg], ⟨_, _, rfl, rfl, rfl⟩, by simp⟩
      | bool =>
        simp only [TK.ok] at hk
        subst hk
        simp only [decide_eq_true_eq] at hg
        cases cs with
        | nil => simp [DataW.trod, hu] at h
        | cons c cs =>
          cases cs with
          | cons _ _ => cases c <;> simp [DataW.trod, hu] at h
          | nil =>
            cases c <;> simp [DataW.trod, hu] at h
            refine ⟨[.v (.bool _)], by rw [OkD, ht]; exact ⟨_, rfl⟩, by simp [hsz, hg], ⟨_, _, rfl, rfl, rfl⟩, by simp⟩
      | string =>
        simp only [TK.ok] at hk
        subst hk
        simp only [decide_eq_true_eq] at hg
        cases cs with
        | nil => simp [DataW.trod, hu] at h
        | cons c cs =>
          cases cs with
          | cons _ _ => cases c <;> simp [DataW.trod, hu] at h
          | nil =>
            cases c <;> simp [DataW.trod, hu] at h
            rename_i s
            obtain ⟨_, rfl, _⟩ := h
            simp [DataW.weights] at hw
            refine ⟨[.v (.string s)], by rw [OkD, ht]; exact ⟨s, rfl, reach_num (by exact hw)⟩, by simp [hsz, hg], ⟨_, _, rfl, rfl, rfl⟩, by simp⟩
      | slice e =>
        simp only [TK.ok] at hk
        subst hk
        simp only [Bool.and_eq_true, decide_eq_true_eq] at hg
        cases cs with
        | nil => simp [DataW.trod, hu] at h
        | cons c cs =>
          cases cs with
          | cons _ _ => cases c <;> simp [DataW.trod, hu] at h
          | nil =>
            cases c with
            | slice a len cap =>
              cases a with
              | none =>
                have hz : len = 0 ∧ cap = 0 := by
                  cases len <;> cases cap <;> simp [DataW.trod, hu] at h ⊢
                obtain ⟨rfl, rfl⟩ := hz
                refine ⟨[.sl (tsz τ e) [] 0 false], by rw [OkD, ht]; exact ⟨[], rfl, by simp, by simp⟩, by simp [hsz, hg.1], ⟨_, _, rfl, ?_, rfl⟩, by simp⟩
                rw [Den]
                exact ⟨none, 0, rfl, Nat.le_refl _, by simp [maxLen], by simp, by simp, fun _ => ⟨rfl, rfl⟩, by simp⟩
              | some a =>
                simp only [DataW.trod, hu] at h
                split at h
                · rename_i hc
                  obtain ⟨hb, hlc, hcm⟩ := hc
                  cases hm : (List.range len).mapM (fun i => (w.cells? base (a.add (i * P.cellsOf e)) (P.cellsOf e)).bind (DataW.trod enc P w base spare held fuel e)) with
                  | none => rw [hm] at h; cases h
                  | some elems =>
                    rw [hm, Option.bind_some] at h
                    obtain ⟨rest, _, h2⟩ := Option.map_eq_some_iff.1 h
                    cases h2
                    obtain ⟨hl1, hat⟩ := mapM_at hm
                    simp only [List.length_range] at hl1
                    have hge : L.contains e = true := hg.2.2
                    have hce : ∃ ee, τ e = some ee := by
                      have := List.all_eq_true.1 hL e (by simpa using hge)
                      unfold gOk1 at this
                      cases hte : τ e with
                      | none => rw [hte] at this; cases this
                      | some ee => exact ⟨ee, rfl⟩
                    obtain ⟨ee, hte⟩ := hce
                    have tke := hτ e ee hte
                    have hce := cellsOf_tsz tke hte
                    have hbe := bytesOf_tby tke hte
                    rw [DataW.weights, hu] at hw
                    simp only [List.all_cons, Bool.and_eq_true, decide_eq_true_eq, List.length_map] at hw
                    obtain ⟨hw0, hw1⟩ := hw
                    have hwe := (all_append hw1).1
                    obtain ⟨l, hll, hq⟩ := list_of (Q := fun (i : Nat) (_ : DataW H × List MemPlace) (x : List D) => OkD τ fuel e x ∧ x.length = tsz τ e ∧ (i = 0 → a.spot = none) ∧ DenAt w (Old w) x a.block (a.off + i * tsz τ e)) elems fun i x hx => by
                      have hil : i < len := by have := (List.getElem?_eq_some_iff.1 hx).1; omega
                      obtain ⟨y, hy1, hy2⟩ := hat i i (by rw [List.getElem?_range hil])
                      rw [hx] at hy1
                      cases hy1
                      obtain ⟨csi, hcs1, hcs2⟩ := Option.bind_eq_some_iff.1 hy2
                      obtain ⟨di, pi⟩ := x
                      obtain ⟨dsi, h3, h4, h5, h6⟩ := ih e csi di pi hge hcs2 (weightsAll_at hwe (i := i) (by simp [hx]))
                      have hc1 : (List.range (P.cellsOf e)).mapM (fun j => w.cell? ((a.add (i * P.cellsOf e)).add j)) = some csi := by
                        unfold World.cells? at hcs1
                        split at hcs1
                        · exact hcs1
                        · cases hcs1
                      obtain ⟨hl3, hat3⟩ := mapM_at hc1
                      rw [hce] at hl3 hat3
                      have hcell : ∀ j v, csi[j]? = some v → w.cell? ⟨a.block, a.off + i * tsz τ e + j, none⟩ = some v ∧ (i * tsz τ e = 0 → j = 0 → a.spot = none) := fun j v hj => by
                        have hjl : j < tsz τ e := by have := (List.getElem?_eq_some_iff.1 hj).1; simp at hl3; omega
                        obtain ⟨v', hv1, hv2⟩ := hat3 j j (by rw [List.getElem?_range hjl])
                        rw [hj] at hv1
                        cases hv1
                        exact cell_add hv2
                      have hpos : 0 < csi.length := by rw [h4]; exact hg.2.1
                      obtain ⟨v0, hv0⟩ : ∃ v, csi[0]? = some v := ⟨csi[0], List.getElem?_eq_getElem hpos⟩
                      have hb0 : Old w a.block := cell_lt (hcell 0 v0 hv0).1
                      exact ⟨dsi, h3, by rw [h5.length, h4], fun h0 => (hcell 0 v0 hv0).2 (by rw [h0, Nat.zero_mul]) rfl, DenAt.of_dens hb0 h5 h6 fun j v hj => (hcell j v hj).1⟩
                    have hq' : ∀ i x, l[i]? = some x → OkD τ fuel e x ∧ x.length = tsz τ e ∧ (i = 0 → a.spot = none) ∧ DenAt w (Old w) x a.block (a.off + i * tsz τ e) := fun i x hx => by
                      have hil : i < elems.length := by have := (List.getElem?_eq_some_iff.1 hx).1; omega
                      exact hq i elems[i] x (List.getElem?_eq_getElem hil) hx
                    have hlen : l.length = len := by omega
                    refine ⟨[.sl (tsz τ e) l.flatten l.length false], ?_, by simp [hsz, hg.1], ⟨_, _, rfl, ?_, rfl⟩, by simp⟩
                    · rw [OkD, ht]
                      refine ⟨l, rfl, fun x hx => ?_, ?_⟩
                      · obtain ⟨i, hi⟩ := List.mem_iff_getElem?.1 hx
                        exact (hq' i x hi).1
                      · rw [← hbe]
                        refine reach_num (Nat.le_trans (Nat.mul_le_mul_right _ ?_) hw0)
                        omega
                    · rw [Den]
                      refine ⟨some a, cap, by rw [hlen], by omega, hcm, by simp, flatten_len l fun i x hx => (hq' i x hx).2.1, by simp, fun ad had => ?_⟩
                      cases had
                      refine ⟨fun hp => ?_, DenAt.pieces (sz := tsz τ e) l a.off fun i x hx => ⟨(hq' i x hx).2.1, (hq' i x hx).2.2.2⟩⟩
                      exact (hq' 0 l[0] (List.getElem?_eq_getElem hp)).2.2.1 rfl
                · cases h
            | _ => simp [DataW.trod, hu] at h
      | struct fs =>
        obtain ⟨fa, rfl, rfl⟩ := hk
        simp only [Bool.and_eq_true] at hg
        obtain ⟨hct, hall⟩ := hg
        have hL1 : ∀ f ∈ fa.toList, L.contains f.type = true := fun f hf => by
          have := List.all_eq_true.1 hall (f.offset, f.type) (List.mem_map.2 ⟨f, hf, rfl⟩)
          exact this
        have hcell : ∀ T, L.contains T = true → P.cellsOf T = tsz τ T := fun T hT => by
          have := List.all_eq_true.1 hL T (by simpa using hT)
          unfold gOk1 at this
          cases hte : τ T with
          | none => rw [hte] at this; cases this
          | some ee => exact cellsOf_tsz (hτ T ee hte) hte
        simp only [DataW.trod, hu] at h
        split at h
        · rename_i hlen
          rw [hcs, hsz] at hlen
          obtain ⟨xs, hm, h2⟩ := Option.map_eq_some_iff.1 h
          cases h2
          obtain ⟨hl1, hat⟩ := mapM_at hm
          rw [DataW.weights, hu] at hw
          obtain ⟨l, hll, hq⟩ := list_of (Q := fun (_ : Nat) (f : Field) (x : List D) => OkD τ fuel f.type x ∧ Dens w (Old w) x ((cs.drop f.offset).take (tsz τ f.type)) ∧ ∀ v ∈ (cs.drop f.offset).take (tsz τ f.type), v.oneCell' = true) fa.toList fun i f hf => by
            obtain ⟨y, hy1, hy2⟩ := hat i f hf
            obtain ⟨di, pi⟩ := y
            have hT := hL1 f (List.mem_iff_getElem?.2 ⟨i, hf⟩)
            obtain ⟨dsi, h3, h4, h5, h6⟩ := ih f.type _ di pi hT hy2 (weightsEach_at hw (i := i) (by simp [hf]) (by simp [hy1]))
            rw [hcell _ hT] at h5 h6
            exact ⟨dsi, h3, h5, h6⟩
          refine ⟨l.flatten, ?_, by rw [hlen, hsz], ?_, ?_⟩
          · rw [OkD, ht]
            refine ⟨l, rfl, by rw [hll, List.length_map], fun i x f hx hf => ?_⟩
            rw [List.getElem?_map] at hf
            obtain ⟨f', hf', rfl⟩ := Option.map_eq_some_iff.1 hf
            exact (hq i f' x hf' hx).1
          · have := Dens.fields (τ := τ) (w := w) (I := Old w) _ 0 sz cs l hct (by rw [hll, List.length_map]) hlen fun i x f hx hf => by
              rw [List.getElem?_map] at hf
              obtain ⟨f', hf', rfl⟩ := Option.map_eq_some_iff.1 hf
              exact (hq i f' x hf' hx).2.1
            simpa using this
          · have := fields_all (τ := τ) (Q := fun v => v.oneCell' = true) _ 0 sz cs hct hlen fun i f hf => by
              rw [List.getElem?_map] at hf
              obtain ⟨f', hf', rfl⟩ := Option.map_eq_some_iff.1 hf
              have hil : i < l.length := by have := (List.getElem?_eq_some_iff.1 hf').1; omega
              exact (hq i f' l[i] hf' (List.getElem?_eq_getElem hil)).2.2
            simpa using this
        · cases h
      | array m e =>
        simp only [TK.ok] at hk
        subst hk
        simp only [Bool.and_eq_true, decide_eq_true_eq] at hg
        obtain ⟨hse, hge⟩ := hg
        have hce : P.cellsOf e = tsz τ e := by
          have := List.all_eq_true.1 hL e (by simpa using hge)
          unfold gOk1 at this
          cases hte : τ e with
          | none => rw [hte] at this; cases this
          | some ee => exact cellsOf_tsz (hτ e ee hte) hte
        simp only [DataW.trod, hu] at h
        split at h
        · rename_i hlen
          rw [hcs, hsz] at hlen
          obtain ⟨xs, hm, h2⟩ := Option.map_eq_some_iff.1 h
          cases h2
          obtain ⟨hl1, hat⟩ := mapM_at hm
          simp only [List.length_range] at hl1
          rw [DataW.weights, hu] at hw
          simp only at hw
          obtain ⟨l, hll, hq⟩ := list_of (Q := fun (i : Nat) (_ : DataW H × List MemPlace) (x : List D) => OkD τ fuel e x ∧ Dens w (Old w) x ((cs.drop (0 + i * tsz τ e)).take (tsz τ e)) ∧ ∀ v ∈ (cs.drop (0 + i * tsz τ e)).take (tsz τ e), v.oneCell' = true) xs fun i y hy => by
            have hil : i < m := by have := (List.getElem?_eq_some_iff.1 hy).1; omega
            obtain ⟨y', hy1, hy2⟩ := hat i i (by rw [List.getElem?_range hil])
            rw [hy] at hy1
            cases hy1
            obtain ⟨di, pi⟩ := y
            obtain ⟨dsi, h3, h4, h5, h6⟩ := ih e _ di pi hge hy2 (weightsAll_at hw (i := i) (by simp [hy]))
            rw [hce] at h5 h6
            rw [Nat.zero_add]
            exact ⟨dsi, h3, h5, h6⟩
          have hq' : ∀ i x, l[i]? = some x → OkD τ fuel e x ∧ Dens w (Old w) x ((cs.drop (0 + i * tsz τ e)).take (tsz τ e)) ∧ ∀ v ∈ (cs.drop (0 + i * tsz τ e)).take (tsz τ e), v.oneCell' = true := fun i x hx => by
            have hil : i < xs.length := by have := (List.getElem?_eq_some_iff.1 hx).1; omega
            exact hq i xs[i] x (List.getElem?_eq_getElem hil) hx
          have hlm : l.length = m := by omega
          refine ⟨l.flatten, ?_, by rw [hlen, hsz], ?_, ?_⟩
          · rw [OkD, ht]
            refine ⟨l, rfl, hlm, fun x hx => ?_⟩
            obtain ⟨i, hi⟩ := List.mem_iff_getElem?.1 hx
            exact (hq' i x hi).1
          · have := Dens.pieces (w := w) (I := Old w) (sz := tsz τ e) m 0 cs l hlm (by omega) fun i x hx => (hq' i x hx).2.1
            simpa using this
          · have := pieces_all (Q := fun v => v.oneCell' = true) (sz := tsz τ e) m 0 cs (by omega) fun i hi => (hq' i l[i] (List.getElem?_eq_getElem (by omega))).2.2
            simpa using this
        · cases h
      | ptr e => cases hg
      | func => cases hg
      | map k e => cases hg
      | iface => cases hg
end

/-! ### a law's row -/
/-- A value of a type, as one datum. -/
def argOf (τ : Tab) (T : TypeId) (ds : List D) : D := match τ T with
  | some e => match e.k.agg with
    | true => .agg ds
    | false => (ds[0]?).getD .any
  | none => .any
def ArgsOk (τ : Tab) : List TypeId → List D → Prop
  | [], [] => True
  | t :: ts, a :: as => (∃ n ds, OkD τ n t ds ∧ a = argOf τ t ds) ∧ ArgsOk τ ts as
  | _, _ => False

section
variable {H : Type} {enc : TypeId × Value → H} {P : Program} {τ : Tab}
theorem arg_den (hτ : TabOk P τ) {L : List TypeId} (hL : gOk τ L = true) {W : World} {base : Nat} {t : TypeId} {v : Value} {d : DataW H} {ps : List MemPlace} (hG : L.contains t = true) (hval : Value.okWide P W .any base t v)
    (h : DataW.Trod enc P W 0 (fun _ => true) true t v d ps) (hw : (d.weights P t).all (· ≤ reachBytes) = true) : ∃ n ds, OkD τ n t ds ∧ Den W (Old W) (argOf τ t ds) v := by
  obtain ⟨fuel, hf⟩ := h
  obtain ⟨ds, h1, h2, h3, h4⟩ := okD_of_trod hτ hL fuel t _ d ps hG hf hw
  refine ⟨fuel, ds, h1, ?_⟩
  have hg : gOk1 τ L t = true := List.all_eq_true.1 hL t (by simpa using hG)
  unfold gOk1 at hg
  cases ht : τ t with
  | none => rw [ht] at hg; cases hg
  | some te =>
    rw [ht] at hg
    obtain ⟨dsc, hu, hk⟩ := (hτ t te ht).und
    have hsz : tsz τ t = te.size := by simp [tsz, ht]
    obtain ⟨k, sz, byt, zero⟩ := te
    have single : k.agg = false → sz = 1 → v.cells.toList = [v] → Den W (Old W) (argOf τ t ds) v := fun ha hs1 hc => by
      rw [hc] at h3
      obtain ⟨x, hx⟩ : ∃ x, ds = [x] := by
        match ds, h3 with
        | [], h3 => rw [Dens] at h3; cases h3
        | [x], _ => exact ⟨x, rfl⟩
        | x :: y :: r, h3 => obtain ⟨_, _, e, _, h5⟩ := h3; cases e; obtain ⟨_, _, e, _⟩ := h5; cases e
      subst hx
      obtain ⟨_, _, e, h5, _⟩ := h3
      cases e
      simp only [argOf, ht, ha]
      exact h5
    cases k with
    | int k =>
      simp only [TK.ok] at hk; subst hk
      simp only [decide_eq_true_eq] at hg
      refine single rfl hg ?_
      simp only [Value.okWide, hu, Cell.okWide] at hval
      cases v <;> simp [Cell.ok, hu] at hval <;> rfl
    | bool =>
      simp only [TK.ok] at hk; subst hk
      simp only [decide_eq_true_eq] at hg
      refine single rfl hg ?_
      simp only [Value.okWide, hu, Cell.okWide] at hval
      cases v <;> simp [Cell.ok, hu] at hval <;> rfl
    | string =>
      simp only [TK.ok] at hk; subst hk
      simp only [decide_eq_true_eq] at hg
      refine single rfl hg ?_
      simp only [Value.okWide, hu, Cell.okWide] at hval
      cases v <;> simp [Cell.ok, hu] at hval <;> rfl
    | slice e =>
      simp only [TK.ok] at hk; subst hk
      simp only [Bool.and_eq_true, decide_eq_true_eq] at hg
      refine single rfl hg.1 ?_
      simp only [Value.okWide, hu, Cell.okWide] at hval
      cases v <;> simp [Cell.ok, hu] at hval <;> rfl
    | struct fs =>
      obtain ⟨fa, rfl, rfl⟩ := hk
      simp only [Value.okWide, hu] at hval
      obtain ⟨cs, rfl, _⟩ := hval
      simp only [argOf, ht, TK.agg]
      rw [Den]
      exact ⟨cs.toList, by simp, h3⟩
    | array m e =>
      simp only [TK.ok] at hk; subst hk
      simp only [Value.okWide, hu] at hval
      obtain ⟨cs, rfl, _⟩ := hval
      simp only [argOf, ht, TK.agg]
      rw [Den]
      exact ⟨cs.toList, by simp, h3⟩
    | ptr e => cases hg
    | func => cases hg
    | map k e => cases hg
    | iface => cases hg

theorem args_den (hτ : TabOk P τ) {L : List TypeId} (hL : gOk τ L = true) {W : World} {base : Nat} {β : Nat → Value} : ∀ {ts : List TypeId} {vs : List Value} {ds : List (DataW H)} {ps : List MemPlace}, (∀ t ∈ ts, L.contains t = true) →
    (∀ (j : Nat) t v, ts[j]? = some t → vs[j]? = some v → Value.okWide P W .any base t v) → DataW.TrodAll enc P W 0 (fun _ => true) true ts vs ds ps → (DataW.weightsEach P ts ds).all (· ≤ reachBytes) = true →
    ∃ as, ArgsOk τ ts as ∧ DenAs W (Old W) β (as.map .d) vs
  | [], [], [], _, _, _, _, _ => ⟨[], trivial, rfl⟩
  | t :: ts, v :: vs, d :: ds, ps, hG, hval, h, hw => by
    obtain ⟨p, q, h1, h2, _⟩ := h
    rw [DataW.weightsEach] at hw
    obtain ⟨hw1, hw2⟩ := all_append hw
    obtain ⟨n, x, h3, h4⟩ := arg_den hτ hL (hG t (by simp)) (hval 0 t v rfl rfl) h1 hw1
    obtain ⟨as, h5, h6⟩ := args_den hτ hL (fun t ht => hG t (by simp [ht])) (fun j t v hj hv => hval (j + 1) t v (by simpa using hj) (by simpa using hv)) h2 hw2
    exact ⟨argOf τ t x :: as, ⟨⟨n, x, h3, rfl⟩, h5⟩, v, vs, rfl, by rw [DenA]; exact h4, h6⟩
  | [], [], _ :: _, _, _, _, h, _ => h.elim
  | [], _ :: _, _, _, _, _, h, _ => by cases ‹List (DataW H)› <;> exact h.elim
  | _ :: _, [], _, _, _, _, h, _ => by cases ‹List (DataW H)› <;> exact h.elim
  | _ :: _, _ :: _, [], _, _, _, h, _ => h.elim

theorem args_stay (hl : laidOutB P = true) {W W' : World} (hb : Below W.heap.size W W') : ∀ {ts : List TypeId} {vs : List Value} {ds : List (DataW H)} {ps : List MemPlace}, (∀ t ∈ ts, P.readableRec t = true ∧ t < P.types.size) →
    DataW.TrodAll enc P W 0 (fun _ => true) true ts vs ds ps → (∀ p ∈ ps, p.block < W.heap.size) → DataW.TrodAll enc P W' 0 (fun b => decide (b < W.heap.size)) true ts vs ds ps
  | [], [], [], _, _, h, _ => h
  | t :: ts, v :: vs, d :: ds, ps, hr, h, hlt => by
    obtain ⟨p, q, h1, h2, rfl⟩ := h
    obtain ⟨r1, r2⟩ := hr t (by simp)
    exact ⟨p, q, Below.trod hl r1 r2 h1 hb fun x hx => hlt x (List.mem_append_left _ hx), args_stay hl hb (fun t ht => hr t (by simp [ht])) h2 fun x hx => hlt x (List.mem_append_right _ hx), rfl⟩
  | [], [], _ :: _, _, _, h, _ => h.elim
  | [], _ :: _, _, _, _, h, _ => by cases ‹List (DataW H)› <;> exact h.elim
  | _ :: _, [], _, _, _, h, _ => by cases ‹List (DataW H)› <;> exact h.elim
  | _ :: _, _ :: _, [], _, _, h, _ => h.elim

theorem trodAll_len {W : World} {b : Nat} {sp : Nat → Bool} {hd : Bool} : ∀ {ts : List TypeId} {vs : List Value} {ds : List (DataW H)} {ps : List MemPlace}, DataW.TrodAll enc P W b sp hd ts vs ds ps → ds.length = ts.length
  | [], [], [], _, _ => rfl
  | _ :: _, _ :: _, _ :: _, _, h => by obtain ⟨_, _, _, h2, _⟩ := h; simp [trodAll_len h2]
  | [], [], _ :: _, _, h => h.elim
  | [], _ :: _, _, _, h => by cases ‹List (DataW H)› <;> exact h.elim
  | _ :: _, [], _, _, h => by cases ‹List (DataW H)› <;> exact h.elim
  | _ :: _, _ :: _, [], _, h => h.elim

/-- A law out of its contract. -/
theorem law_core (hτ : TabOk P τ) {L : List TypeId} (hL : gOk τ L = true) (hlaid : laidOutB P = true) {f : FuncId} {fn : Func} {s : ChangeSpec} {tb : TypeId} {apart fresh handsOn : Bool} (hvars : s.vars = [])
    (hspec : ∀ ds : List (DataW H), ds.length = fn.params.toList.length → s.fn H ds = { results := [.lit (.bool true)], args := ds }) (hrt : fn.resultTypes = #[tb]) (htb : P.underlying tb = some .bool)
    (hpar : ∀ t ∈ fn.params.toList, L.contains t = true ∧ P.readableRec t = true ∧ t < P.types.size) (hcall : ∀ as, ArgsOk τ fn.params.toList as → Fn0 P f as (.v (.bool true)))
    {W : World} {base : Nat} {args : Array Value} {ds gs : List (DataW H)} {before : List MemPlace} (hval : ∀ (j : Nat) t v, fn.params[j]? = some t → args[j]? = some v → Value.okWide P W .any base t v)
    (hW : DataW.Whole enc P fn.params.toList s.vars apart W args.toList ds gs before) (hwt : (DataW.weightsEach P (fn.params.toList ++ s.plain.varTypes P) (ds ++ gs)).all (· ≤ reachBytes) = true) :
    Calls P f args W fun e W' => ∃ v, e = .returned v ∧ s.post enc P fn apart fresh handsOn false W args v W' := by
  have hW0 := hW
  obtain ⟨p, q, h1, h2, rfl, hfz, hnd⟩ := hW
  rw [hvars] at h2
  have hgs : gs = [] ∧ q = [] := by
    cases gs with
    | nil => exact ⟨rfl, h2⟩
    | cons _ _ => exact h2.elim
  obtain ⟨rfl, rfl⟩ := hgs
  have hv0 : s.plain.varTypes P = [] := by simp [ChangeSpec.plain, DataSpec.varTypes, hvars]
  rw [hv0, List.append_nil, List.append_nil] at hwt
  obtain ⟨as, ha, hd⟩ := args_den (β := fun _ => undef) hτ hL (fun t ht => (hpar t ht).1) (fun j t v hj hv => hval j t v (by simpa using hj) (by simpa using hv)) h1 hwt
  have hm : Mem W (Old W) (Fp [] fun _ => undef) [] (Old W) (fun _ => undef) W :=
    ⟨fun k b h => (by cases h), fun k b n h => (by cases h), fun k j b c n h => (by cases h), fun n h => h, fun n h => .inl h, .refl W _, fun _ _ _ => rfl, Nat.le_refl _, rfl, rfl, rfl⟩
  have hc := hcall as ha W (Old W) (fun _ => undef) args.toList hm hd
  rw [Array.toArray_toList] at hc
  refine hc.mono fun e W' he => ?_
  cases e with
  | outgrown => exact he.elim
  | panicked ch => exact he.1.elim
  | returned v =>
    obtain ⟨I', β', hm', hv, _⟩ := he
    rw [DenA_v] at hv
    subst hv
    have hb : Below W.heap.size W W' := ⟨hm'.os, hm'.tape, hm'.out, hm'.sz, fun k hk => hm'.kept.eq k hk⟩
    have hlen := trodAll_len h1
    have hs := hspec ds hlen
    have hlt : ∀ x ∈ p, x.block < W.heap.size := fun x hx => hW0.lt x (by simp [hx])
    refine ⟨_, rfl, ds, [], p ++ [], [], p, [], hW0, ?_, ?_, ?_, ?_, fun h => by cases h⟩
    · rw [List.append_nil, hs, hrt]
      exact ⟨[], [], ⟨1, by simp [DataW.trod, htb, Value.cells]⟩, rfl, rfl⟩
    · rw [List.append_nil, hs]
      exact args_stay hlaid hb (fun t ht => (hpar t ht).2) h1 hlt
    · rw [List.append_nil, hs, hvars]
      rfl
    · refine World.keptBut_mono (fun x hx => ⟨hx, ?_⟩) (hb.frame (· ∈ p ++ []))
      rw [List.append_nil] at hx
      exact .inr (.inl hx)
end

end Go.Xe
