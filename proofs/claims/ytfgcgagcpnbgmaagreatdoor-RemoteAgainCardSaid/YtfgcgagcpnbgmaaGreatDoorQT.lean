/-
  Joined texts.
-/
import Derived.Test.YtfgcgagcpnbgmaaGreatDoorQNU
set_option linter.unusedVariables false
set_option linter.unusedSimpArgs false
set_option linter.unusedSectionVars false
namespace Go.Proofs.YtfgcgagcpnbgmaaGreatDoor
open Go.Xe Go.RowKit
abbrev W := BitVec 32
def wI (x : W) : Int := x.toNat
def u32D (x : W) : D := .v (.int .u32 (wI x))
def u32L (l : List W) : List D := l.map u32D
def gW (v : List W) (i : Nat) : W := v.getD i 0
def rr (n : Nat) (x : W) : W := (x <<< (32 - n)) ||| (x >>> n)
theorem u32L_len (v : List W) : (u32L v).length = v.length := by simp [u32L]
theorem u32L_set (v : List W) (i : Nat) (x : W) : (u32L v).set i (u32D x) = u32L (v.set i x) := by simp [u32L, List.map_set]
theorem u32L_at (v : List W) (i : Nat) (h : i < v.length) : (u32L v)[i]? = some (u32D (gW v i)) := by
 simp [u32L, gW, h]
theorem u32L_atL (v : List W) (i : Nat) (h : i < v.length) : atL ((u32L v).map .d) i = .d (.v (.int .u32 (wI (gW v i)))) := by
 rw [← atL_eq, List.getElem?_map, u32L_at v i h]; rfl
theorem u32L_put (v : List W) (i : Nat) (x : W) : ((u32L v).map AV.d).set i (.d (.v (.int .u32 (wI x)))) = (u32L (v.set i x)).map AV.d := by
 rw [← u32L_set, List.map_set]; rfl
theorem w_wrap (n : Nat) : IntKind.u32.wrap (n : Int) = wI (BitVec.ofNat 32 n) := by
 rw [wI, IntKind.wrap_u32, BitVec.toNat_ofNat]; omega
theorem w_add (a b : W) : IntKind.u32.wrap (wI a + wI b) = wI (a + b) := by
 rw [wI, wI, wI, IntKind.wrap_u32, BitVec.toNat_add]; omega
theorem w_bv (a : W) : BitVec.ofInt 32 (wI a) = a := by
 apply BitVec.eq_of_toNat_eq
 rw [wI, BitVec.toNat_ofInt]
 have := a.isLt
 omega
theorem w_back (a : W) : IntKind.u32.wrap (wI a) = wI a := by
 have := a.isLt
 rw [wI, IntKind.wrap_u32]; omega
theorem w_xor (a b : W) : bits .xor .u32 (wI a) (wI b) = wI (a ^^^ b) := by
 have h : bits .xor .u32 (wI a) (wI b) = IntKind.u32.wrap (wI (BitVec.ofInt 32 (wI a) ^^^ BitVec.ofInt 32 (wI b))) := rfl
 rw [h, w_bv, w_bv, w_back]
theorem w_or (a b : W) : bits .or .u32 (wI a) (wI b) = wI (a ||| b) := by
 have h : bits .or .u32 (wI a) (wI b) = IntKind.u32.wrap (wI (BitVec.ofInt 32 (wI a) ||| BitVec.ofInt 32 (wI b))) := rfl
 rw [h, w_bv, w_bv, w_back]
theorem w_shl (a : W) (n : Nat) : IntKind.u32.wrap (wI a * 2 ^ n) = wI (a <<< n) := by
 have h : (wI a * 2 ^ n) = ((a.toNat * 2 ^ n : Nat) : Int) := by simp [wI]
 rw [h, wI, IntKind.wrap_u32, BitVec.toNat_shiftLeft, Nat.shiftLeft_eq]
 omega
theorem w_shr (a : W) (n : Nat) : (wI a).fdiv (2 ^ n) = wI (a >>> n) := by
 have h : ((2 : Int) ^ n) = ((2 ^ n : Nat) : Int) := by simp
 rw [h, wI, wI, BitVec.toNat_ushiftRight, Nat.shiftRight_eq_div_pow, Int.fdiv_eq_ediv_of_nonneg _ (Int.natCast_nonneg _)]
 exact (Int.natCast_ediv _ _).symm
theorem w_byte (x : W) : IntKind.u8.wrap (wI x) = ((UInt8.ofNat x.toNat).toNat : Int) := by
 rw [wI, IntKind.wrap_u8, UInt8.toNat_ofNat']; omega
theorem w_ofByte (b : UInt8) : IntKind.u32.wrap (b.toNat : Int) = wI (BitVec.ofNat 32 b.toNat) := w_wrap _
/-! ### the state of a block -/
def s1 (v : List W) (a b : Nat) (x : W) : List W := v.set a (gW v a + (gW v b + x))
def s2 (v : List W) (d a n : Nat) : List W := v.set d (rr n (gW v d ^^^ gW v a))
def s3 (v : List W) (c d : Nat) : List W := v.set c (gW v c + gW v d)
def mixV (v : List W) (a b c d : Nat) (x y : W) : List W :=
 s2 (s3 (s2 (s1 (s2 (s3 (s2 (s1 v a b x) d a 16) c d) b c 12) a b y) d a 8) c d) b c 7
theorem s1_len (v : List W) (a b : Nat) (x : W) : (s1 v a b x).length = v.length := by simp [s1]
theorem s2_len (v : List W) (d a n : Nat) : (s2 v d a n).length = v.length := by simp [s2]
theorem s3_len (v : List W) (c d : Nat) : (s3 v c d).length = v.length := by simp [s3]
theorem mixV_len (v : List W) (a b c d : Nat) (x y : W) : (mixV v a b c d x y).length = v.length := by simp only [mixV, s1_len, s2_len, s3_len]
def permT : List (List Nat) := [[0, 1, 2, 3, 4, 5, 6, 7, 8, 9, 10, 11, 12, 13, 14, 15], [14, 10, 4, 8, 9, 15, 13, 6, 1, 12, 0, 2, 11, 7, 5, 3], [11, 8, 12, 0, 5, 2, 15, 13, 10, 14, 3, 6, 7, 1, 9, 4], [7, 9, 3, 1, 13, 12, 11, 14, 2, 6, 5, 10, 4, 0, 15, 8], [9, 0, 5, 7, 2, 4, 10, 15, 14, 1, 11, 12, 6, 8, 3, 13], [2, 12, 6, 10, 0, 11, 8, 3, 4, 13, 7, 5, 15, 14, 1, 9], [12, 5, 1, 15, 14, 13, 4, 10, 0, 7, 6, 3, 9, 2, 8, 11], [13, 11, 7, 14, 12, 1, 3, 9, 5, 0, 15, 4, 8, 6, 2, 10], [6, 15, 14, 9, 11, 3, 0, 8, 12, 2, 13, 7, 1, 4, 10, 5], [10, 2, 8, 4, 7, 6, 1, 5, 15, 11, 9, 14, 3, 12, 13, 0]]
def ptA (r j : Nat) : Nat := ((permT.getD r []).getD j 0)
theorem ptA_lt : ∀ r, r < 10 → ∀ j, j < 16 → ptA r j < 16 := by decide
def colV (m : List W) (r : Nat) (v : List W) : Nat → List W
 | 0 => v
 | i + 1 => mixV (colV m r v i) i (4 + i) (8 + i) (12 + i) (gW m (ptA r (2 * i))) (gW m (ptA r (2 * i + 1)))
def diaV (m : List W) (r : Nat) (v : List W) : Nat → List W
 | 0 => v
 | i + 1 => mixV (diaV m r v i) i (4 + (i + 1) % 4) (8 + (i + 2) % 4) (12 + (i + 3) % 4) (gW m (ptA r (8 + 2 * i))) (gW m (ptA r (9 + 2 * i)))
def rndV (m v : List W) : Nat → List W
 | 0 => v
 | r + 1 => diaV m r (colV m r (rndV m v r) 4) 4
theorem colV_len (m : List W) (r : Nat) (v : List W) : ∀ i, (colV m r v i).length = v.length
 | 0 => rfl
 | i + 1 => by rw [colV, mixV_len, colV_len m r v i]
theorem diaV_len (m : List W) (r : Nat) (v : List W) : ∀ i, (diaV m r v i).length = v.length
 | 0 => rfl
 | i + 1 => by rw [diaV, mixV_len, diaV_len m r v i]
theorem rndV_len (m v : List W) : ∀ r, (rndV m v r).length = v.length
 | 0 => rfl
 | r + 1 => by rw [rndV, diaV_len, colV_len, rndV_len m v r]
def byA (b : List UInt8) (i : Nat) : UInt8 := b.getD i 0
def wordV (b : List UInt8) : Nat → List W
 | 0 => List.replicate 16 0
 | i + 1 => (wordV b i).set (i / 4) (gW (wordV b i) (i / 4) ||| (BitVec.ofNat 32 (byA b i).toNat) <<< (8 * (i % 4)))
theorem wordV_len (b : List UInt8) : ∀ i, (wordV b i).length = 16
 | 0 => rfl
 | i + 1 => by rw [wordV, List.length_set, wordV_len b i]
def iniV : List W := [0x6a09e667, 0xbb67ae85, 0x3c6ef372, 0xa54ff53a, 0x510e527f, 0x9b05688c, 0x1f83d9ab, 0x5be0cd19]
def begV (h : List W) (n : Nat) (last : Bool) : List W :=
 let v := h ++ iniV
 let v := v.set 12 (gW v 12 ^^^ BitVec.ofNat 32 n)
 let v := v.set 13 (gW v 13 ^^^ BitVec.ofNat 32 (n / 4294967296))
 if last = true then v.set 14 (4294967295 ^^^ gW v 14) else v
def endV (h v : List W) : Nat → List W
 | 0 => h
 | i + 1 => (endV h v i).set i (gW (endV h v i) i ^^^ (gW v i ^^^ gW v (8 + i)))
theorem endV_len (h v : List W) : ∀ i, (endV h v i).length = h.length
 | 0 => rfl
 | i + 1 => by rw [endV, List.length_set, endV_len h v i]
def cmpV (h : List W) (b : List UInt8) (n : Nat) (last : Bool) : List W := endV h (rndV (wordV b b.length) (begV h n last) 10) 8
theorem cmpV_len (h : List W) (b : List UInt8) (n : Nat) (last : Bool) : (cmpV h b n last).length = h.length := endV_len _ _ _
def absV (b : List UInt8) : Nat → List W
 | 0 => iniV.set 0 (gW iniV 0 ^^^ 0x01010020)
 | k + 1 => cmpV (absV b k) ((b.drop (64 * k)).take 64) (64 * (k + 1)) false
theorem absV_len (b : List UInt8) : ∀ k, (absV b k).length = 8
 | 0 => rfl
 | k + 1 => by rw [absV, cmpV_len, absV_len b k]
def blkN (b : List UInt8) : Nat := (b.length - 1) / 64
def finV (b : List UInt8) : List W := cmpV (absV b (blkN b)) (b.drop (64 * blkN b)) b.length true
theorem finV_len (b : List UInt8) : (finV b).length = 8 := by rw [finV, cmpV_len, absV_len]
def sumB (b : List UInt8) : List UInt8 := (List.range 32).map fun i => UInt8.ofNat ((gW (finV b) (i / 4) >>> (8 * (i % 4))).toNat)
theorem sumB_len (b : List UInt8) : (sumB b).length = 32 := by simp [sumB]
def tagB (t b : List UInt8) : List UInt8 := sumB (sumB t ++ b)
theorem tagB_len (t b : List UInt8) : (tagB t b).length = 32 := sumB_len _
abbrev Dg := List UInt8
def tB (s : String) : List UInt8 := s.toUTF8.data.toList
def halfN (n : Nat) : Nat := 2 ^ Nat.log2 (n - 1)
theorem halfN_lt (n : Nat) (h : 2 ≤ n) : halfN n < n := by
 have := Nat.log2_self_le (n := n - 1) (by omega)
 unfold halfN
 omega
theorem halfN_pos (n : Nat) : 0 < halfN n := Nat.two_pow_pos _
def leafB (d : Dg) : Dg := tagB (tB "leaf") d
def nodeB (a b : Dg) : Dg := tagB (tB "node") (a ++ b)
def dirs : Nat → Nat → Nat → List Bool
 | 0, _, _ => []
 | f + 1, i, n => if n ≤ 1 then [] else if i < halfN n then true :: dirs f i (halfN n) else false :: dirs f (i - halfN n) (n - halfN n)
def upB : Dg → List Dg → List Bool → Dg
 | x, p :: ps, b :: bs => upB (if b = true then nodeB x p else nodeB p x) ps bs
 | x, _, _ => x
theorem leafB_len (d : Dg) : (leafB d).length = 32 := tagB_len _ _
theorem nodeB_len (a b : Dg) : (nodeB a b).length = 32 := tagB_len _ _
theorem upB_len : ∀ (p : List Dg) (b : List Bool) (x : Dg), x.length = 32 → (upB x p b).length = 32
 | [], _, x, h => by simpa [upB] using h
 | p :: ps, [], x, h => by simpa [upB] using h
 | p :: ps, b :: bs, x, h => by
  rw [upB]
  refine upB_len ps bs _ ?_
  split
  ·exact nodeB_len _ _
  ·exact nodeB_len _ _
def climbB (d : Dg) (i n : Nat) (p : List Dg) : Option Dg :=
 if i < n ∧ n ≤ 1099511627776 ∧ p.length = (dirs n i n).length then some (upB (leafB d) p (dirs n i n).reverse) else none
def twoB (n : Nat) : List UInt8 := [UInt8.ofNat (n / 256), UInt8.ofNat n]
def openB (d : Dg) : Dg := tagB (tB "open") d
def bitB (root : Dg) (index : Nat) (msg : List UInt8) (j : Nat) : Bool :=
 ((byA (tagB (tB "message") (root ++ (twoB index ++ msg))) (j / 8)).toNat / 2 ^ (7 - j % 8)) % 2 == 1
def pubL (hash : Nat → Bool → Dg) : Nat → List UInt8
 | 0 => []
 | j + 1 => pubL hash j ++ (hash j false ++ hash j true)
def pubB (hash : Nat → Bool → Dg) : Dg := tagB (tB "one") (pubL hash 64)
def digA (l : List Dg) (i : Nat) : Dg := l.getD i (List.replicate 32 0)
def hashB (root : Dg) (index : Nat) (msg : List UInt8) (op cl : List Dg) (j : Nat) (b : Bool) : Dg :=
 if bitB root index msg j = b then openB (digA op j) else digA cl j
def sealB (root : Dg) (n : Int) (msg : List UInt8) (index : Int) (op cl path : List Dg) : Bool :=
 if n < 1 ∨ 4096 < n ∨ index < 0 ∨ n ≤ index ∨ op.length ≠ 64 ∨ cl.length ≠ 64 ∨ 65536 < msg.length then false
 else decide (climbB (pubB (hashB root index.toNat msg op cl)) index.toNat n.toNat path = some root)
def bitL (n : Nat) : Nat := if n = 0 then 0 else Nat.log2 n + 1
theorem log2_half (n : Nat) (h : 2 ≤ n) : Nat.log2 n = Nat.log2 (n / 2) + 1 := by
 rw [Nat.log2_def n, if_pos h]
theorem bitL_8 (n : Nat) (h : 256 ≤ n) : bitL n = bitL (n / 256) + 8 := by
 unfold bitL
 rw [if_neg (by omega), if_neg (by omega)]
 rw [log2_half n (by omega), log2_half (n / 2) (by omega), log2_half (n / 2 / 2) (by omega), log2_half (n / 2 / 2 / 2) (by omega), log2_half (n / 2 / 2 / 2 / 2) (by omega), log2_half (n / 2 / 2 / 2 / 2 / 2) (by omega), log2_half (n / 2 / 2 / 2 / 2 / 2 / 2) (by omega), log2_half (n / 2 / 2 / 2 / 2 / 2 / 2 / 2) (by omega)]
 simp only [Nat.div_div_eq_div_mul]
theorem halfN_bit (n : Nat) (h : 2 ≤ n) : halfN n = 2 ^ (bitL (n - 1) - 1) := by
 unfold halfN bitL
 rw [if_neg (by omega)]
 simp
/-! ### what the reference does with a block -/
/-! ### the reference's hash -/
/-! ### trees -/
theorem halfN_lt' {n : Nat} (h : ¬ n ≤ 1) : halfN n < n := halfN_lt n (by omega)
def treeF : Nat → List Dg → Dg
 | 0, _ => []
 | f + 1, l => if l.length = 0 then tagB (tB "empty") [] else if l.length = 1 then leafB (digA l 0) else nodeB (treeF f (l.take (halfN l.length))) (treeF f (l.drop (halfN l.length)))
theorem treeF_fuel : ∀ (f g : Nat) (l : List Dg), l.length < f → l.length < g → treeF f l = treeF g l
 | 0, _, _, h, _ => by omega
 | _, 0, _, _, h => by omega
 | f + 1, g + 1, l, hf, hg => by
  rw [treeF, treeF]
  by_cases h0 : l.length = 0
  ·rw [if_pos h0, if_pos h0]
  ·by_cases h1 : l.length = 1
   ·rw [if_neg h0, if_neg h0, if_pos h1, if_pos h1]
   ·rw [if_neg h0, if_neg h0, if_neg h1, if_neg h1]
    have hk := halfN_lt l.length (by omega)
    have hp := halfN_pos l.length
    rw [treeF_fuel f g _ (by rw [List.length_take]; omega) (by rw [List.length_take]; omega), treeF_fuel f g _ (by rw [List.length_drop]; omega) (by rw [List.length_drop]; omega)]
def treeB (l : List Dg) : Dg := treeF (l.length + 1) l
theorem treeB_0 : treeB [] = tagB (tB "empty") [] := rfl
theorem treeB_2 (l : List Dg) (h : 2 ≤ l.length) : treeB l = nodeB (treeB (l.take (halfN l.length))) (treeB (l.drop (halfN l.length))) := by
 have hk := halfN_lt l.length h
 have hp := halfN_pos l.length
 rw [treeB, treeF, if_neg (by omega), if_neg (by omega), treeB, treeB, treeF_fuel l.length _ (l.take _) (by rw [List.length_take]; omega) (Nat.lt_succ_self _), treeF_fuel l.length _ (l.drop _) (by rw [List.length_drop]; omega) (Nat.lt_succ_self _)]
theorem treeB_len (l : List Dg) : (treeB l).length = 32 := by
 rw [treeB, treeF]
 split
 ·exact tagB_len _ _
 ·split
  ·exact leafB_len _
  ·exact nodeB_len _ _
theorem dirs_fuel : ∀ (f g i n : Nat), n ≤ f → n ≤ g → dirs f i n = dirs g i n
 | 0, 0, _, _, _, _ => rfl
 | 0, g + 1, i, n, h, _ => by rw [dirs, dirs, if_pos (by omega)]
 | f + 1, 0, i, n, _, h => by rw [dirs, dirs, if_pos (by omega)]
 | f + 1, g + 1, i, n, hf, hg => by
  rw [dirs, dirs]
  by_cases h : n ≤ 1
  ·rw [if_pos h, if_pos h]
  ·have hk := halfN_lt' h
   have hp := halfN_pos n
   rw [if_neg h, if_neg h, dirs_fuel f g _ _ (by omega) (by omega), dirs_fuel f g _ _ (by omega) (by omega)]
def dirB (i n : Nat) : List Bool := dirs n i n
theorem dirB_1 (i n : Nat) (h : n ≤ 1) : dirB i n = [] := by
 rw [dirB]
 cases n with
 | zero => rfl
 | succ n => rw [dirs, if_pos h]
theorem dirB_2 (i n : Nat) (h : 2 ≤ n) : dirB i n = if i < halfN n then true :: dirB i (halfN n) else false :: dirB (i - halfN n) (n - halfN n) := by
 have hk := halfN_lt n h
 have hp := halfN_pos n
 rw [dirB]
 obtain ⟨m, rfl⟩ : ∃ m, n = m + 1 := ⟨n - 1, by omega⟩
 rw [dirs, if_neg (by omega), dirB, dirB, dirs_fuel m (halfN (m + 1)) _ _ (by omega) (Nat.le_refl _), dirs_fuel m (m + 1 - halfN (m + 1)) _ _ (by omega) (Nat.le_refl _)]
theorem dirB_len : ∀ (N i n : Nat), n ≤ N → (dirB i n).length ≤ N
 | 0, i, n, h => by rw [dirB_1 i n (by omega)]; exact Nat.zero_le _
 | N + 1, i, n, h => by
  by_cases h1 : n ≤ 1
  ·rw [dirB_1 i n h1]; exact Nat.zero_le _
  ·have hk := halfN_lt' h1
   have hp := halfN_pos n
   rw [dirB_2 i n (by omega)]
   split
   ·have := dirB_len N i (halfN n) (by omega); rw [List.length_cons]; omega
   ·have := dirB_len N (i - halfN n) (n - halfN n) (by omega); rw [List.length_cons]; omega
theorem upB_snoc : ∀ (ps : List Dg) (bs : List Bool) (x q : Dg) (b : Bool), ps.length = bs.length → upB x (ps ++ [q]) (bs ++ [b]) = if b = true then nodeB (upB x ps bs) q else nodeB q (upB x ps bs)
 | [], [], x, q, b, _ => by simp [upB]
 | [], _ :: _, _, _, _, h => by simp at h
 | _ :: _, [], _, _, _, h => by simp at h
 | p :: ps, c :: bs, x, q, b, h => by
  rw [List.cons_append, List.cons_append, upB, upB, upB_snoc ps bs _ q b (by simpa using h)]
theorem upB_take (x : Dg) (p : List Dg) (bs : List Bool) (h : p.length = bs.length) (i : Nat) (hi : i < p.length) :
  upB x (p.take (i + 1)) (bs.take (i + 1)) = if bs.getD i false = true then nodeB (upB x (p.take i) (bs.take i)) (digA p i) else nodeB (digA p i) (upB x (p.take i) (bs.take i)) := by
 have e1 : p.take (i + 1) = p.take i ++ [digA p i] := by
  rw [List.take_add_one, digA, List.getD_eq_getElem?_getD, List.getElem?_eq_getElem hi]; rfl
 have e2 : bs.take (i + 1) = bs.take i ++ [bs.getD i false] := by
  rw [List.take_add_one, List.getD_eq_getElem?_getD, List.getElem?_eq_getElem (by omega)]; rfl
 rw [e1, e2, upB_snoc _ _ _ _ _ (by rw [List.length_take, List.length_take, h])]
def pathF : Nat → List Dg → Nat → List Dg
 | 0, _, _ => []
 | f + 1, l, i => if l.length ≤ 1 then [] else if i < halfN l.length then pathF f (l.take (halfN l.length)) i ++ [treeB (l.drop (halfN l.length))] else pathF f (l.drop (halfN l.length)) (i - halfN l.length) ++ [treeB (l.take (halfN l.length))]
theorem pathF_fuel : ∀ (f g : Nat) (l : List Dg) (i : Nat), l.length ≤ f → l.length ≤ g → pathF f l i = pathF g l i
 | 0, 0, _, _, _, _ => rfl
 | 0, g + 1, l, i, h, _ => by rw [pathF, pathF, if_pos (by omega)]
 | f + 1, 0, l, i, _, h => by rw [pathF, pathF, if_pos (by omega)]
 | f + 1, g + 1, l, i, hf, hg => by
  rw [pathF, pathF]
  by_cases h : l.length ≤ 1
  ·rw [if_pos h, if_pos h]
  ·have hk := halfN_lt' h
   have hp := halfN_pos l.length
   rw [if_neg h, if_neg h, pathF_fuel f g (l.take _) _ (by rw [List.length_take]; omega) (by rw [List.length_take]; omega), pathF_fuel f g (l.drop _) _ (by rw [List.length_drop]; omega) (by rw [List.length_drop]; omega)]
def pathB (l : List Dg) (i : Nat) : List Dg := pathF l.length l i
theorem pathB_1 (l : List Dg) (i : Nat) (h : l.length ≤ 1) : pathB l i = [] := by
 rw [pathB]
 cases e : l.length with
 | zero => rfl
 | succ n => rw [pathF, if_pos h]
theorem pathB_2 (l : List Dg) (i : Nat) (h : 2 ≤ l.length) : pathB l i = if i < halfN l.length then pathB (l.take (halfN l.length)) i ++ [treeB (l.drop (halfN l.length))] else pathB (l.drop (halfN l.length)) (i - halfN l.length) ++ [treeB (l.take (halfN l.length))] := by
 have hk := halfN_lt l.length h
 have hp := halfN_pos l.length
 rw [pathB, pathF_fuel _ (l.length + 1) l i (Nat.le_refl _) (Nat.le_succ _), pathF, if_neg (by omega), pathB, pathB, pathF_fuel l.length (l.take (halfN l.length)).length (l.take _) _ (by rw [List.length_take]; omega) (Nat.le_refl _), pathF_fuel l.length (l.drop (halfN l.length)).length (l.drop _) _ (by rw [List.length_drop]; omega) (Nat.le_refl _)]
theorem path_up : ∀ (N : Nat) (l : List Dg) (i : Nat), l.length ≤ N → i < l.length → (pathB l i).length = (dirB i l.length).length ∧ upB (leafB (digA l i)) (pathB l i) (dirB i l.length).reverse = treeB l
 | 0, l, i, h, hi => by omega
 | N + 1, l, i, h, hi => by
  by_cases h1 : l.length ≤ 1
  ·have e : l.length = 1 := by omega
   rw [pathB_1 l i h1, dirB_1 i _ h1]
   refine ⟨rfl, ?_⟩
   obtain ⟨d, rfl⟩ : ∃ d, l = [d] := List.length_eq_one_iff.1 e
   have : i = 0 := by simp at hi; exact hi
   subst this
   rfl
  ·have hk := halfN_lt' h1
   have hp := halfN_pos l.length
   rw [pathB_2 l i (by omega), dirB_2 i _ (by omega), treeB_2 l (by omega)]
   by_cases hik : i < halfN l.length
   ·have lt : (l.take (halfN l.length)).length = halfN l.length := by rw [List.length_take]; omega
    obtain ⟨k1, k2⟩ := path_up N (l.take (halfN l.length)) i (by omega) (by omega)
    rw [lt] at k1 k2
    rw [if_pos hik, if_pos hik]
    refine ⟨by simp [k1], ?_⟩
    rw [List.reverse_cons, upB_snoc _ _ _ _ _ (by simp [k1]), if_pos rfl, ← k2]
    congr 3
    simp [digA, List.getD_eq_getElem?_getD, List.getElem?_take, hik]
   ·have lt : (l.drop (halfN l.length)).length = l.length - halfN l.length := by rw [List.length_drop]
    obtain ⟨k1, k2⟩ := path_up N (l.drop (halfN l.length)) (i - halfN l.length) (by omega) (by omega)
    rw [lt] at k1 k2
    rw [if_neg hik, if_neg hik]
    refine ⟨by simp [k1], ?_⟩
    rw [List.reverse_cons, upB_snoc _ _ _ _ _ (by simp [k1]), if_neg (by decide), ← k2]
    congr 3
    simp [digA, List.getD_eq_getElem?_getD, List.getElem?_drop]
    rw [show halfN l.length + (i - halfN l.length) = i by omega]
theorem climb_path (l : List Dg) (i : Nat) (hi : i < l.length) (hn : l.length ≤ 1099511627776) : climbB (digA l i) i l.length (pathB l i) = some (treeB l) := by
 obtain ⟨h1, h2⟩ := path_up l.length l i (Nat.le_refl _) hi
 rw [climbB, if_pos ⟨hi, hn, h1⟩]
 exact congrArg some h2
/-! ### one-time signatures -/
def secretB (seed : List UInt8) (i j : Nat) (b : Bool) : Dg := tagB (tB "secret") (seed ++ (twoB i ++ [UInt8.ofNat j, if b = true then 1 else 0]))
def keyH (seed : List UInt8) (i j : Nat) (b : Bool) : Dg := openB (secretB seed i j b)
def pubsB (seed : List UInt8) (n : Nat) : List Dg := (List.range n).map fun i => pubB (keyH seed i)
theorem pubsB_len (seed : List UInt8) (n : Nat) : (pubsB seed n).length = n := by simp [pubsB]
theorem pubsB_at (seed : List UInt8) (n i : Nat) (h : i < n) : digA (pubsB seed n) i = pubB (keyH seed i) := by
 simp [digA, pubsB, List.getD_eq_getElem?_getD, List.getElem?_map, List.getElem?_range h]
theorem pubL_congr {g h : Nat → Bool → Dg} : ∀ n, (∀ j, j < n → ∀ b, g j b = h j b) → pubL g n = pubL h n
 | 0, _ => rfl
 | n + 1, e => by rw [pubL, pubL, pubL_congr n fun j hj b => e j (by omega) b, e n (by omega), e n (by omega)]
theorem pubB_congr {g h : Nat → Bool → Dg} (e : ∀ j, j < 64 → ∀ b, g j b = h j b) : pubB g = pubB h := by rw [pubB, pubB, pubL_congr 64 e]
theorem pubB_len (g : Nat → Bool → Dg) : (pubB g).length = 32 := tagB_len _ _
def openedB (seed : List UInt8) (i : Nat) (x : Nat → Bool) : Nat → List Dg
 | 0 => []
 | j + 1 => openedB seed i x j ++ [secretB seed i j (x j)]
def closedB (seed : List UInt8) (i : Nat) (x : Nat → Bool) : Nat → List Dg
 | 0 => []
 | j + 1 => closedB seed i x j ++ [keyH seed i j (!x j)]
theorem openedB_len (seed : List UInt8) (i : Nat) (x : Nat → Bool) : ∀ n, (openedB seed i x n).length = n
 | 0 => rfl
 | n + 1 => by rw [openedB, List.length_append, openedB_len seed i x n]; rfl
theorem closedB_len (seed : List UInt8) (i : Nat) (x : Nat → Bool) : ∀ n, (closedB seed i x n).length = n
 | 0 => rfl
 | n + 1 => by rw [closedB, List.length_append, closedB_len seed i x n]; rfl
theorem digA_snoc (l : List Dg) (d : Dg) (j : Nat) : digA (l ++ [d]) j = if j = l.length then d else digA l j := by
 unfold digA
 simp only [List.getD_eq_getElem?_getD, List.getElem?_append]
 by_cases h : j < l.length
 ·rw [if_pos h, if_neg (by omega)]
 ·rw [if_neg h]
  by_cases e : j = l.length
  ·subst e; simp
  ·rw [if_neg e, List.getElem?_eq_none (by simp; omega), List.getElem?_eq_none (by omega)]
theorem openedB_at (seed : List UInt8) (i : Nat) (x : Nat → Bool) : ∀ n j, j < n → digA (openedB seed i x n) j = secretB seed i j (x j)
 | 0, _, h => by omega
 | n + 1, j, h => by
  rw [openedB, digA_snoc, openedB_len]
  split
  ·rename_i e; rw [e]
  ·exact openedB_at seed i x n j (by omega)
theorem closedB_at (seed : List UInt8) (i : Nat) (x : Nat → Bool) : ∀ n j, j < n → digA (closedB seed i x n) j = keyH seed i j (!x j)
 | 0, _, h => by omega
 | n + 1, j, h => by
  rw [closedB, digA_snoc, closedB_len]
  split
  ·rename_i e; rw [e]
  ·exact closedB_at seed i x n j (by omega)
theorem seal_sign (seed : List UInt8) (n i : Nat) (msg : List UInt8) (hi : i < n) (hn : n ≤ 4096) (hm : msg.length ≤ 65536) :
  sealB (treeB (pubsB seed n)) n msg i (openedB seed i (bitB (treeB (pubsB seed n)) i msg) 64) (closedB seed i (bitB (treeB (pubsB seed n)) i msg) 64) (pathB (pubsB seed n) i) = true := by
 have hc := climb_path (pubsB seed n) i (by rw [pubsB_len]; exact hi) (by rw [pubsB_len]; omega)
 rw [pubsB_len, pubsB_at seed n i hi] at hc
 generalize treeB (pubsB seed n) = root at *
 have h1 := openedB_len seed i (bitB root i msg) 64
 have h2 := closedB_len seed i (bitB root i msg) 64
 have e : pubB (hashB root i msg (openedB seed i (bitB root i msg) 64) (closedB seed i (bitB root i msg) 64)) = pubB (keyH seed i) := pubB_congr fun j hj b => by
  rw [hashB, openedB_at _ _ _ _ _ hj, closedB_at _ _ _ _ _ hj]
  cases bitB root i msg j <;> cases b <;> rfl
 generalize openedB seed i (bitB root i msg) 64 = op at *
 generalize closedB seed i (bitB root i msg) 64 = cl at *
 unfold sealB
 rw [if_neg (by omega), Int.toNat_natCast, Int.toNat_natCast, e, hc]
 simp
end Go.Proofs.YtfgcgagcpnbgmaaGreatDoor
