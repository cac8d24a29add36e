/-
  The reference's Text; a rec's words by Pack, and that Unpack reads them again: plain lists, no program in sight.
-/
import Derived.Test.YtdjkadfgmhmhcaaRecMT
import Derived.Test.YtdjkadfgmhmhcaaPTx6
import Derived.Test.YtdjkadfgmhmhcaaPTx7
import Derived.Test.YtdjkadfgmhmhcaaPTx8
import Derived.Test.YtdjkadfgmhmhcaaPTx9
namespace Go.Proofs.Ytdjkadfgmhmhcaa.PureT
set_option linter.unusedVariables false
set_option linter.unusedSimpArgs false
open Go.RowKit Go.Proofs.Ytdjkadfgmhmhcaa.PT Go.Proofs.YtdjkadfgmhmhcaaW.PrintWords Go.Proofs.YtdjkadfgmhmhcaaW.PrintLast Go.Proofs.YtdjkadfgmhmhcaaW.PrintMore Go.Proofs.YtdjkadfgmhmhcaaH

theorem div_byte {w : Int} (h0 : 0 ≤ w) (h1 : w < 18446744073709551616) (j : Nat) : IntKind.u64.wrap (Int.tdiv (w / 256 ^ j) 256) = w / 256 ^ (j + 1) := by
  have hp := p256_pos j
  have h2 : 0 ≤ w / 256 ^ j := Int.ediv_nonneg h0 (by omega)
  have h3 : w / 256 ^ j ≤ w := Int.ediv_le_self _ h0
  rw [Int.tdiv_eq_ediv_of_nonneg h2, wraps_u64 _ (by omega) (by omega), Int.ediv_ediv_of_nonneg (by omega), Int.pow_succ]
theorem refText_in {l : List Int} (h : U64s l) (hl : l.length ≤ 1099511627776) (n : Int) (i : Nat) (hi : i < 8 * l.length) (x6 : List Int) (h6 : x6.length < 140737488355328) (R : ByteArray × Bool) (K : Nat) (H : ∀ k, K ≤ k → treillageref11_Text.l0 k l n (x6 ++ [PT.byteOf l i]) ((i + 1 : Nat) : Int) = some R) :
    ∀ m j k, j + m = i % 8 → K + m + 1 ≤ k → treillageref11_Text.l1 k l n x6 (i : Int) (l.getD (i / 8) 0 / 256 ^ j) (j : Int) = some R := by
  have hw := u64s_getD h (i / 8)
  intro m
  induction m with
  | zero =>
    intro j k hj hk
    obtain ⟨k, rfl⟩ : ∃ q, k = q + 1 := ⟨k - 1, by omega⟩
    have h2 : 0 ≤ l.getD (i / 8) 0 / 256 ^ j := Int.ediv_nonneg hw.1 (by have := p256_pos j; omega)
    have hb : Int.tmod (l.getD (i / 8) 0 / 256 ^ j) 256 % 256 = PT.byteOf l i := by
      rw [Int.tmod_eq_emod_of_nonneg h2, byteOf_eq _ _ (by omega), show i % 8 = j by omega]
      omega
    rw [treillageref11_Text.l1, if_neg (by rw [Int.tmod_eq_emod_of_nonneg (by omega)]; omega), if_pos h6, hb, show wrap64 ((i : Int) + 1) = ((i + 1 : Nat) : Int) by unfold wrap64; omega]
    exact H k (by omega)
  | succ m ih =>
    intro j k hj hk
    obtain ⟨k, rfl⟩ : ∃ q, k = q + 1 := ⟨k - 1, by omega⟩
    rw [treillageref11_Text.l1, if_pos (by rw [Int.tmod_eq_emod_of_nonneg (by omega)]; omega), div_byte hw.1 hw.2, show wrap64 ((j : Int) + 1) = ((j + 1 : Nat) : Int) by unfold wrap64; omega]
    exact ih (j + 1) k (by omega) (by omega)
theorem refText_loop {l : List Int} (h : U64s l) (hl : l.length ≤ 1000000) (n : Nat) (hn : n ≤ 8 * l.length) : ∀ r i k, i + r = n → 10 * r + 2 * n + l.length + 40 ≤ k → treillageref11_Text.l0 k l (n : Int) ((List.range i).map (PT.byteOf l)) (i : Int) = some (if wordsL ((List.range n).map (PT.byteOf l)) = l then (strOfNums ((List.range n).map (PT.byteOf l)), true) else ((⟨#[]⟩ : ByteArray), false)) := by
  intro r
  induction r with
  | zero =>
    intro i k hi hk
    obtain ⟨k, rfl⟩ : ∃ q, k = q + 1 := ⟨k - 1, by omega⟩
    obtain rfl : i = n := by omega
    have hsz : (strOfNums ((List.range i).map (PT.byteOf l))).size = i := by
      rw [← bytesOf_length, bytesOf_strOfNums (bts_range l i)]; simp
    rw [treillageref11_Text.l0, if_neg (by omega), refWords_eq _ (by omega) k (by omega), Option.bind_some, bytesOf_strOfNums (bts_range l i), same_eq _ _ (by omega) k (by omega), Option.bind_some]
    by_cases e : wordsL ((List.range i).map (PT.byteOf l)) = l
    · rw [decide_eq_true e, if_pos rfl, if_pos e]
    · rw [decide_eq_false e, if_neg (by decide), if_neg e]
  | succ r ih =>
    intro i k hi hk
    obtain ⟨k, rfl⟩ : ∃ q, k = q + 1 := ⟨k - 1, by omega⟩
    have hd : wrap64 (Int.tdiv (i : Int) 8) = ((i / 8 : Nat) : Int) := by
      rw [Int.tdiv_eq_ediv_of_nonneg (by omega)]; unfold wrap64; omega
    rw [treillageref11_Text.l0, if_pos (by omega), hd, if_pos (by omega), if_pos (by omega)]
    have h2 := refText_in h (by omega) (n : Int) i (by omega) ((List.range i).map (PT.byteOf l)) (by simp; omega) _ (10 * r + 2 * n + l.length + 40) (fun k hk => by rw [range_snoc]; exact ih (i + 1) k (by omega) hk) (i % 8) 0 k (by omega) (by omega)
    rw [Int.pow_zero, Int.ediv_one] at h2
    exact h2
theorem refText_eq {l : List Int} (h : U64s l) (hl : l.length ≤ 1000000) (n : Int) (k : Nat) (hk : 120 * l.length + 100 ≤ k) : treillageref11_Text.f k l n = some (recText l n) := by
  obtain ⟨k, rfl⟩ : ∃ q, k = q + 1 := ⟨k - 1, by omega⟩
  rw [recText_words h (by omega)]
  unfold treillageref11_Text.f
  by_cases c : n < 0
  · rw [if_pos c, treillageref11_Text.j0, if_pos rfl, if_neg (by omega)]
  · rw [if_neg c, show wrap64 (8 * (l.length : Int)) = 8 * (l.length : Int) by unfold wrap64; omega]
    by_cases c2 : n > 8 * (l.length : Int)
    · rw [decide_eq_true c2, treillageref11_Text.j0, if_pos rfl, if_neg (by omega)]
    · obtain ⟨m, rfl⟩ : ∃ m : Nat, n = m := ⟨n.toNat, by omega⟩
      have h2 := refText_loop h hl m (by omega) m 0 k (by omega) (by omega)
      rw [decide_eq_false c2, treillageref11_Text.j0, if_neg (by decide), Int.toNat_natCast]
      refine h2.trans ?_
      by_cases e : wordsL ((List.range m).map (PT.byteOf l)) = l
      · rw [if_pos e, if_pos ⟨by omega, by omega, e⟩]
      · rw [if_neg e, if_neg (fun q => e q.2.2)]
theorem text_eq (l : List Int) (n : Int) (hl : l.length ≤ 1099511627776) (k : Nat) (hk : 8 * l.length + 2 ≤ k) : rec_Text.f k l n = some (recText l n) := by
  have h := recText_eq l n hl
  exact at_rounds (g := fun k => rec_Text.f k l n) (rec_Text.mono l n) hk h

/-! ### the head of a rec -/
def headOf (k p n t q z : Int) : Int := k + 4 * (p + 256 * (n + 32 * (t + 64 * (q + 16 * z))))
theorem join_at (i : Nat) (hi : i ≤ 40) (y x : Int) (hy0 : 0 ≤ y) (hy : y < 2 ^ i) (hx0 : 0 ≤ x) (hx : x < 65536) (a : Int) (ha : a.toNat = i) : Go.bits .or .u64 y (IntKind.u64.wrap (IntKind.u64.wrap x * 2 ^ min a.toNat 64)) = y + x * 2 ^ i := by
  have hp : (0 : Int) < 2 ^ i := Int.pow_pos (by decide)
  have hle : (2 : Int) ^ i ≤ 2 ^ 40 := by
    have : ((2 ^ i : Nat) : Int) ≤ ((2 ^ 40 : Nat) : Int) := Int.ofNat_le.2 (Nat.pow_le_pow_right (by decide) hi)
    rwa [Int.natCast_pow, Int.natCast_pow] at this
  have h1 : 0 ≤ x * 2 ^ i := Int.mul_nonneg hx0 (by omega)
  have h2 : x * 2 ^ i ≤ 65535 * 2 ^ 40 := by
    refine Int.le_trans (Int.mul_le_mul_of_nonneg_right (show x ≤ 65535 by omega) (by omega)) ?_
    exact Int.mul_le_mul_of_nonneg_left hle (by decide)
  simp only [Int.reducePow] at h2
  rw [ha, Nat.min_eq_left (by omega), wraps_u64 x hx0 (by omega), wraps_u64 _ h1 (by omega), or_comm_u64, join_u64 i (by omega) _ y h1 (Int.mul_emod_left _ _) (by omega) hy0 hy, Int.add_comm]
theorem packHead_eq (k p n t q z : Int) (hk : 0 ≤ k ∧ k < 4) (hp : 0 ≤ p ∧ p < 256) (hn : 0 ≤ n ∧ n < 32) (ht : 0 ≤ t ∧ t < 64) (hq : 0 ≤ q ∧ q < 16) (hz : 0 ≤ z ∧ z < 256) : packHead [k, p, n, t, q, z] 6 = headOf k p n t q z := by
  have e1 : packHead [k, p, n, t, q, z] 1 = k := by
    show Go.bits .or .u64 0 (IntKind.u64.wrap (IntKind.u64.wrap k * 2 ^ min (0 : Int).toNat 64)) = k
    rw [join_at 0 (by decide) 0 k (by decide) (by decide) hk.1 (by omega) 0 rfl]
    omega
  have e2 : packHead [k, p, n, t, q, z] 2 = k + p * 4 := by
    show Go.bits .or .u64 (packHead [k, p, n, t, q, z] 1) (IntKind.u64.wrap (IntKind.u64.wrap p * 2 ^ min (2 : Int).toNat 64)) = _
    rw [e1, join_at 2 (by decide) k p hk.1 (by simp only [Int.reducePow]; omega) hp.1 (by omega) 2 rfl]
    rfl
  have e3 : packHead [k, p, n, t, q, z] 3 = k + p * 4 + n * 1024 := by
    show Go.bits .or .u64 (packHead [k, p, n, t, q, z] 2) (IntKind.u64.wrap (IntKind.u64.wrap n * 2 ^ min (10 : Int).toNat 64)) = _
    rw [e2, join_at 10 (by decide) _ n (by omega) (by simp only [Int.reducePow]; omega) hn.1 (by omega) 10 rfl]
    rfl
  have e4 : packHead [k, p, n, t, q, z] 4 = k + p * 4 + n * 1024 + t * 32768 := by
    show Go.bits .or .u64 (packHead [k, p, n, t, q, z] 3) (IntKind.u64.wrap (IntKind.u64.wrap t * 2 ^ min (15 : Int).toNat 64)) = _
    rw [e3, join_at 15 (by decide) _ t (by omega) (by simp only [Int.reducePow]; omega) ht.1 (by omega) 15 rfl]
    rfl
  have e5 : packHead [k, p, n, t, q, z] 5 = k + p * 4 + n * 1024 + t * 32768 + q * 2097152 := by
    show Go.bits .or .u64 (packHead [k, p, n, t, q, z] 4) (IntKind.u64.wrap (IntKind.u64.wrap q * 2 ^ min (21 : Int).toNat 64)) = _
    rw [e4, join_at 21 (by decide) _ q (by omega) (by simp only [Int.reducePow]; omega) hq.1 (by omega) 21 rfl]
    rfl
  show Go.bits .or .u64 (packHead [k, p, n, t, q, z] 5) (IntKind.u64.wrap (IntKind.u64.wrap z * 2 ^ min (25 : Int).toNat 64)) = _
  rw [e5, join_at 25 (by decide) _ z (by omega) (by simp only [Int.reducePow]; omega) hz.1 (by omega) 25 rfl]
  unfold headOf
  simp only [Int.reducePow]
  omega
theorem pAt_eq (h : Int) (k i : Nat) (m : Int) (hi : i ≤ 8) (hm : maskOf k = 2 ^ i - 1) (hx0 : 0 ≤ hAt h k) (hx1 : hAt h k < 18446744073709551616) : pAt h k = hAt h k % 2 ^ i := by
  have hp : (0 : Int) < 2 ^ i := Int.pow_pos (by decide)
  have hle : (2 : Int) ^ i ≤ 2 ^ 8 := by
    have : ((2 ^ i : Nat) : Int) ≤ ((2 ^ 8 : Nat) : Int) := Int.ofNat_le.2 (Nat.pow_le_pow_right (by decide) hi)
    rwa [Int.natCast_pow, Int.natCast_pow] at this
  have h1 := Int.emod_nonneg (hAt h k) (Int.ne_of_gt hp)
  have h2 := Int.emod_lt_of_pos (hAt h k) hp
  simp only [Int.reducePow] at hle
  unfold pAt
  rw [hm, mask_u64 i (by omega) _ hx0 hx1]
  unfold wrap64
  omega
theorem pAts (h : Int) (h0 : 0 ≤ h) (h1 : h < 18446744073709551616) : pAt h 0 = h % 4 ∧ pAt h 1 = h / 4 % 256 ∧ pAt h 2 = h / 1024 % 32 ∧ pAt h 3 = h / 32768 % 64 ∧ pAt h 4 = h / 2097152 % 16 ∧ pAt h 5 = h / 33554432 % 256 := by
  have a0 : hAt h 0 = h := rfl
  have a1 : hAt h 1 = h / 4 := by rw [hAt_s1, a0]
  have a2 : hAt h 2 = h / 1024 := by rw [hAt_s2, a1]; omega
  have a3 : hAt h 3 = h / 32768 := by rw [hAt_s3, a2]; omega
  have a4 : hAt h 4 = h / 2097152 := by rw [hAt_s4, a3]; omega
  have a5 : hAt h 5 = h / 33554432 := by rw [hAt_s5, a4]; omega
  refine ⟨?_, ?_, ?_, ?_, ?_, ?_⟩
  · rw [pAt_eq h 0 2 0 (by decide) rfl (by omega) (by omega), a0]; rfl
  · rw [pAt_eq h 1 8 0 (by decide) rfl (by omega) (by omega), a1]; rfl
  · rw [pAt_eq h 2 5 0 (by decide) rfl (by omega) (by omega), a2]; rfl
  · rw [pAt_eq h 3 6 0 (by decide) rfl (by omega) (by omega), a3]; rfl
  · rw [pAt_eq h 4 4 0 (by decide) rfl (by omega) (by omega), a4]; rfl
  · rw [pAt_eq h 5 8 0 (by decide) rfl (by omega) (by omega), a5]; rfl

/-! ### the lengths of texts, in two words -/
def v64 : List Int → Int
  | [] => 0
  | x :: l => x + 64 * v64 l
def Six (l : List Int) : Prop := ∀ x ∈ l, 0 ≤ x ∧ x < 64
theorem v64_nonneg {l : List Int} (h : Six l) : 0 ≤ v64 l := by
  induction l with
  | nil => exact Int.le_refl 0
  | cons x l ih => have := ih (fun y hy => h y (List.mem_cons_of_mem _ hy)); have := h x List.mem_cons_self; simp only [v64]; omega
theorem v64_lt {l : List Int} (h : Six l) : v64 l < 64 ^ l.length := by
  induction l with
  | nil => decide
  | cons x l ih => have := ih (fun y hy => h y (List.mem_cons_of_mem _ hy)); have := h x List.mem_cons_self; simp only [v64, List.length_cons, Int.pow_succ]; omega
theorem v64_snoc (l : List Int) (x : Int) : v64 (l ++ [x]) = v64 l + x * 64 ^ l.length := by
  induction l with
  | nil => simp [v64]
  | cons y l ih => simp only [List.cons_append, v64, ih, List.length_cons, Int.pow_succ, Int.mul_add]; rw [Int.mul_comm (64 ^ l.length) 64, Int.mul_left_comm x 64, Int.add_assoc]
theorem v64_get {l : List Int} (h : Six l) (i : Nat) : v64 l / 64 ^ i % 64 = l.getD i 0 := by
  induction l generalizing i with
  | nil => simp [v64]
  | cons x l ih =>
    have hx := h x List.mem_cons_self
    cases i with
    | zero => simp only [v64, Int.pow_zero, Int.ediv_one, List.getD_cons_zero]; omega
    | succ i =>
      rw [List.getD_cons_succ, ← ih (fun y hy => h y (List.mem_cons_of_mem _ hy)) i]
      simp only [v64]
      rw [Int.pow_succ, Int.mul_comm (64 ^ i) 64, ← Int.ediv_ediv_of_nonneg (by decide), show (x + 64 * v64 l) / 64 = v64 l by omega]
def sizes (l : List ByteArray) : List Int := l.map fun s => (s.size : Int)
theorem sizes_getD (l : List ByteArray) (i : Nat) : (sizes l).getD i 0 = ((l.getD i ByteArray.empty).size : Int) := by
  unfold sizes
  rw [List.getD_eq_getElem?_getD, List.getD_eq_getElem?_getD, List.getElem?_map]
  cases l[i]? <;> rfl
theorem rdOf_nat (l : List ByteArray) (i : Nat) : rdOf ByteArray.empty l (i : Int) = l.getD i ByteArray.empty := by
  unfold rdOf; rw [Int.toNat_natCast]
theorem lenBits_sh (i : Nat) (hi : i < 16) : (wrap64 (Go.bits .and .i64 (i : Int) 7 * 6)).toNat = 6 * (i % 8) := by
  rw [and_seven_i64 i (by omega)]
  have h8 : i % 8 < 8 := Nat.mod_lt _ (by decide)
  generalize i % 8 = m at h8
  have e : wrap64 ((m : Int) * 6) = (m : Int) * 6 := by unfold wrap64; omega
  rw [e]
  omega
theorem six_join (m : Nat) (hm : m < 8) (y x : Int) (hy0 : 0 ≤ y) (hy : y < 64 ^ m) (hx : 0 ≤ x ∧ x < 64) (i : Nat) (hi : i < 16) (him : i % 8 = m) : Go.bits .or .u64 y (lenBits i x) = y + x * 64 ^ m := by
  have e : (64 : Int) ^ m = 2 ^ (6 * m) := by rw [Int.pow_mul]; rfl
  unfold lenBits
  rw [lenBits_sh i hi, him]
  rw [e] at hy ⊢
  have h := join_u64 (6 * m) (by omega) (x * 2 ^ (6 * m)) y (Int.mul_nonneg hx.1 (by have : (0 : Int) < 2 ^ (6 * m) := Int.pow_pos (by decide); omega)) (Int.mul_emod_left _ _) (by
    have h7 : m = 0 ∨ m = 1 ∨ m = 2 ∨ m = 3 ∨ m = 4 ∨ m = 5 ∨ m = 6 ∨ m = 7 := by omega
    rcases h7 with h | h | h | h | h | h | h | h <;> rw [h] <;> simp only [Nat.reduceMul, Int.reducePow] <;> omega) hy0 hy
  have h8 : x * 2 ^ (6 * m) < 18446744073709551616 := by
    have h7 : m = 0 ∨ m = 1 ∨ m = 2 ∨ m = 3 ∨ m = 4 ∨ m = 5 ∨ m = 6 ∨ m = 7 := by omega
    rcases h7 with h | h | h | h | h | h | h | h <;> rw [h] <;> simp only [Nat.reduceMul, Int.reducePow] <;> omega
  have h9 : 0 ≤ x * 2 ^ (6 * m) := Int.mul_nonneg hx.1 (by have : (0 : Int) < 2 ^ (6 * m) := Int.pow_pos (by decide); omega)
  rw [Nat.min_eq_left (by omega), wraps_u64 x hx.1 (by omega), wraps_u64 _ h9 (by omega), or_comm_u64, h, Int.add_comm]
theorem sixTake {l : List Int} (h : Six l) (n : Nat) : Six (l.take n) := fun x hx => h x (List.mem_of_mem_take hx)
theorem sixDrop {l : List Int} (h : Six l) (n : Nat) : Six (l.drop n) := fun x hx => h x (List.mem_of_mem_drop hx)
theorem sixGet {l : List Int} (h : Six l) (i : Nat) : 0 ≤ l.getD i 0 ∧ l.getD i 0 < 64 := by
  rw [List.getD_eq_getElem?_getD]
  cases e : l[i]? with
  | none => simp
  | some x => exact h x (List.mem_of_getElem? e)
theorem v64_lt_pow {l : List Int} (h : Six l) {n : Nat} (hn : l.length ≤ n) : v64 l < 64 ^ n := Int.lt_of_lt_of_le (v64_lt h) (by
  have : ((64 ^ l.length : Nat) : Int) ≤ ((64 ^ n : Nat) : Int) := Int.ofNat_le.2 (Nat.pow_le_pow_right (by decide) hn)
  rwa [Int.natCast_pow, Int.natCast_pow] at this)
theorem lensAt_eq (l : List ByteArray) (h : Six (sizes l)) (hl : l.length ≤ 16) : ∀ k, k ≤ l.length → lensAt l k = (v64 ((sizes l).take (min k 8)), v64 (((sizes l).drop 8).take (k - 8))) := by
  have hsl : (sizes l).length = l.length := by simp [sizes]
  intro k
  induction k with
  | zero => intro _; rfl
  | succ k ih =>
    intro hk
    have hx := sixGet h k
    have hr : (rdOf ByteArray.empty l (k : Int)).size = ((sizes l).getD k 0).toNat := by rw [rdOf_nat, sizes_getD]; omega
    have hr2 : ((rdOf ByteArray.empty l (k : Int)).size : Int) = (sizes l).getD k 0 := by omega
    rw [lensAt, ih (by omega)]
    by_cases c : k < 8
    · rw [if_pos c, hr2]
      have h1 := six_join k c (v64 ((sizes l).take (min k 8))) ((sizes l).getD k 0) (v64_nonneg (sixTake h _)) (v64_lt_pow (sixTake h _) (by rw [List.length_take]; omega)) hx k (by omega) (by omega)
      simp only [h1]
      rw [show min (k + 1) 8 = k + 1 by omega, show min k 8 = k by omega, show k + 1 - 8 = k - 8 by omega, take_succ_getD _ _ (by omega), v64_snoc, List.length_take, Nat.min_eq_left (by omega)]
    · rw [if_neg c, hr2]
      have h1 := six_join (k - 8) (by omega) (v64 (((sizes l).drop 8).take (k - 8))) ((sizes l).getD k 0) (v64_nonneg (sixTake (sixDrop h _) _)) (v64_lt_pow (sixTake (sixDrop h _) _) (by rw [List.length_take]; omega)) hx k (by omega) (by omega)
      simp only [h1]
      have h2 : ((sizes l).drop 8).getD (k - 8) 0 = (sizes l).getD k 0 := by
        rw [List.getD_eq_getElem?_getD, List.getD_eq_getElem?_getD, List.getElem?_drop, show 8 + (k - 8) = k by omega]
      rw [show min (k + 1) 8 = min k 8 by omega, show k + 1 - 8 = k - 8 + 1 by omega, take_succ_getD _ _ (by rw [List.length_drop]; omega), v64_snoc, List.length_take, List.length_drop, Nat.min_eq_left (show k - 8 ≤ (sizes l).length - 8 by omega), h2]
theorem attrLen_at (q0 q1 : Int) (i : Nat) (hi : i < 16) (h0 : 0 ≤ q0 ∧ q0 < 18446744073709551616) (h1 : 0 ≤ q1 ∧ q1 < 18446744073709551616) : attrLen q0 q1 i = (if i < 8 then q0 else q1) / 64 ^ (i % 8) % 64 := by
  have hq : 0 ≤ (if i < 8 then q0 else q1) ∧ (if i < 8 then q0 else q1) < 18446744073709551616 := by split <;> assumption
  unfold attrLen shr
  generalize (if i < 8 then q0 else q1) = q at hq ⊢
  have e : (64 : Int) ^ (i % 8) = 2 ^ (i % 8 * 6) := by rw [Nat.mul_comm, Int.pow_mul]; rfl
  rw [Int.toNat_natCast, show IntKind.u64.bits = 64 from rfl, Nat.min_eq_left (show i % 8 * 6 ≤ 64 by omega), ← e]
  have hp : (0 : Int) < 64 ^ (i % 8) := Int.pow_pos (by decide)
  have h2 : 0 ≤ q / 64 ^ (i % 8) := Int.ediv_nonneg hq.1 (by omega)
  have h3 : q / 64 ^ (i % 8) ≤ q := Int.ediv_le_self _ hq.1
  have h4 := mask_u64 6 (by decide) (q / 64 ^ (i % 8)) h2 (by omega)
  rw [show (63 : Int) = 2 ^ 6 - 1 from rfl, h4, show (2 : Int) ^ 6 = 64 from rfl]
  unfold wrap64
  omega
theorem attrLen_lens (l : List ByteArray) (h : Six (sizes l)) (hl : l.length ≤ 16) (i : Nat) (hi : i < l.length) : attrLen (lensAt l l.length).1 (lensAt l l.length).2 i = (sizes l).getD i 0 := by
  have e := lensAt_eq l h hl l.length (Nat.le_refl _)
  have hsl : (sizes l).length = l.length := by simp [sizes]
  have b0 := v64_lt_pow (sixTake h (min l.length 8)) (n := 8) (by rw [List.length_take]; omega)
  have b1 := v64_lt_pow (sixTake (sixDrop h 8) (l.length - 8)) (n := 8) (by rw [List.length_take]; omega)
  simp only [Int.reducePow] at b0 b1
  rw [e, attrLen_at _ _ i (by omega) ⟨v64_nonneg (sixTake h _), by omega⟩ ⟨v64_nonneg (sixTake (sixDrop h _) _), by omega⟩]
  by_cases c : i < 8
  · rw [if_pos c, v64_get (sixTake h _), show i % 8 = i by omega, List.getD_eq_getElem?_getD, List.getD_eq_getElem?_getD, List.getElem?_take, if_pos (by omega)]
  · rw [if_neg c, v64_get (sixTake (sixDrop h _) _), show i % 8 = i - 8 by omega, List.getD_eq_getElem?_getD, List.getD_eq_getElem?_getD, List.getElem?_take, if_pos (by omega), List.getElem?_drop, show 8 + (i - 8) = i by omega]

/-! ### Pack, and Unpack of it -/
def wds (s : ByteArray) : List Int := wordsL (bytesOf s)
def flatW (T : List ByteArray) : List Int := (T.map wds).flatten
theorem wds_len (s : ByteArray) : (wds s).length = (s.size + 7) / 8 := by rw [wds, wordsL_len, bytesOf_length]
theorem flatW_len (T : List ByteArray) (h : ∀ s ∈ T, s.size ≤ 100) : (flatW T).length ≤ 13 * T.length := by
  induction T with
  | nil => exact Nat.le_refl _
  | cons s T ih =>
    have h1 := ih (fun x hx => h x (List.mem_cons_of_mem _ hx))
    have h2 := h s List.mem_cons_self
    simp only [flatW, List.map_cons, List.flatten_cons, List.length_append, List.length_cons] at h1 ⊢
    rw [wds_len]
    omega
theorem packWords_eq (T : List ByteArray) (O : List Int) (h : ∀ s ∈ T, s.size ≤ 100) (hT : T.length ≤ 100) (hO : O.length ≤ 10) : ∀ k, k ≤ T.length → packWords T O k = some (O ++ flatW (T.take k)) := by
  intro k
  induction k with
  | zero => intro _; simp [packWords, flatW]
  | succ k ih =>
    intro hk
    have hx : rdOf ByteArray.empty T (k : Int) = T[k] := by rw [rdOf_nat, List.getD_eq_getElem?_getD, List.getElem?_eq_getElem (show k < T.length by omega)]; rfl
    have hs := h T[k] (List.getElem_mem (show k < T.length by omega))
    have hfl := flatW_len (T.take k) (fun s hs => h s (List.mem_of_mem_take hs))
    rw [List.length_take] at hfl
    rw [packWords, ih (by omega), Option.bind_some, hx, words_eq _ (by omega) _ (by omega), Option.bind_some, if_pos (by rw [List.length_append]; have := wds_len T[k]; unfold wds at this; omega)]
    rw [List.take_add_one, List.getElem?_eq_getElem (show k < T.length by omega)]
    simp only [flatW, Option.toList_some, List.map_append, List.map_cons, List.map_nil, List.flatten_append, List.flatten_cons, List.flatten_nil, List.append_nil, List.append_assoc]
    rfl
def lens2 (l : List ByteArray) : List Int := if l.length = 0 then [] else [(lensAt l l.length).1, (lensAt l l.length).2]
/-- A rec's words. -/
def packL (k p : Int) (n t : ByteArray) (l : List ByteArray) (r z : Int) : List Int := [headOf k (p + 1) n.size t.size ((l.length / 2 : Nat) : Int) z, r] ++ (lens2 l ++ (wds n ++ (wds t ++ flatW l)))
structure MayR (k p : Int) (n t : ByteArray) (l : List ByteArray) (z : Int) : Prop where
  hk : 0 ≤ k ∧ k ≤ 3
  hp : -1 ≤ p ∧ p < 60
  hn : n.size ≤ 20
  ht : t.size ≤ 60
  hl : l.length ≤ 16
  h2 : l.length % 2 = 0
  hs : ∀ s ∈ l, s.size ≤ 60
  hz : 0 ≤ z ∧ z ≤ 200
theorem any_long {l : List ByteArray} : l.any textLong = false ↔ ∀ s ∈ l, s.size ≤ 60 := by
  rw [List.any_eq_false]
  constructor
  · intro h s hs
    have := h s hs
    simp only [textLong, decide_eq_true_eq] at this
    omega
  · intro h s hs
    have := h s hs
    simp only [textLong, decide_eq_true_eq]
    omega
theorem may_iff {k p : Int} {n t : ByteArray} {l : List ByteArray} {z : Int} : recMay k p n t l z = true ↔ MayR k p n t l z := by
  constructor
  · intro h
    simp only [recMay, Bool.and_eq_true, Bool.not_eq_true', decide_eq_true_eq, any_long] at h
    obtain ⟨h, hz⟩ := h
    exact ⟨by omega, by omega, by omega, by omega, by omega, by omega, by simp_all, by omega⟩
  · intro h
    obtain ⟨h1, h2, h3, h4, h5, h6, h7, h8⟩ := h
    simp only [recMay, Bool.and_eq_true, Bool.not_eq_true', decide_eq_true_eq, any_long]
    simp_all
theorem six_sizes {l : List ByteArray} (h : ∀ s ∈ l, s.size ≤ 60) : Six (sizes l) := fun x hx => by
  unfold sizes at hx
  obtain ⟨s, hs, rfl⟩ := List.mem_map.1 hx
  have := h s hs
  omega
theorem pack_yes {k p : Int} {n t : ByteArray} {l : List ByteArray} {r z : Int} (h : MayR k p n t l z) : rec_Pack.f k p n t l r z = some (packL k p n t l r z, 0) := by
  obtain ⟨hk, hp, hn, ht, hl, h2, hs, hz⟩ := h
  have hm : recMay k p n t l z = true := may_iff.2 ⟨hk, hp, hn, ht, hl, h2, hs, hz⟩
  unfold rec_Pack.f
  rw [if_pos hm]
  have hN : packNs k p n t l z = [k, p + 1, (n.size : Int), (t.size : Int), ((l.length / 2 : Nat) : Int), z] := by
    unfold packNs
    rw [show wrap64 (p + 1) = p + 1 by unfold wrap64; omega]
  have hH : packHead (packNs k p n t l z) 6 = headOf k (p + 1) n.size t.size ((l.length / 2 : Nat) : Int) z := by
    rw [hN]
    exact packHead_eq k (p + 1) n.size t.size ((l.length / 2 : Nat) : Int) z (by omega) (by omega) (by omega) (by omega) (by omega) (by omega)
  have hS : packStart k p n t l r z = [headOf k (p + 1) n.size t.size ((l.length / 2 : Nat) : Int) z, r] ++ lens2 l := by
    unfold packStart lens2
    rw [hH]
    split
    · rw [List.append_nil]
    · rfl
  have hw := packWords_eq ([n, t] ++ l) (packStart k p n t l r z) (fun s hs_ => by
    rw [List.mem_append] at hs_
    rcases hs_ with h_ | h_
    · simp only [List.mem_cons, List.not_mem_nil, or_false] at h_
      rcases h_ with rfl | rfl <;> omega
    · have := hs s h_; omega) (by simp; omega) (by rw [hS]; unfold lens2; split <;> simp) _ (Nat.le_refl _)
  rw [hw, Option.bind_some, List.take_length, hS]
  unfold packL flatW
  simp only [List.cons_append, List.nil_append, List.map_cons, List.flatten_cons, List.append_assoc]
theorem pack_no {k p : Int} {n t : ByteArray} {l : List ByteArray} {r z : Int} (h : ¬ MayR k p n t l z) : rec_Pack.f k p n t l r z = some ([], 1) := by
  unfold rec_Pack.f
  rw [if_neg (fun e => h (may_iff.1 e))]
theorem packL_len {k p : Int} {n t : ByteArray} {l : List ByteArray} {r z : Int} (h : MayR k p n t l z) : (packL k p n t l r z).length = 2 + (n.size + 7) / 8 + (t.size + 7) / 8 + (lens2 l).length + (flatW l).length := by
  unfold packL
  simp only [List.length_append, wds_len, List.length_cons, List.length_nil]
  omega
theorem flatW_small {l : List ByteArray} (hl : l.length ≤ 16) (hs : ∀ s ∈ l, s.size ≤ 60) : (flatW l).length ≤ 208 := by
  have := flatW_len l (fun s h => by have := hs s h; omega)
  omega
theorem lens2_len (l : List ByteArray) : (lens2 l).length = if l.length = 0 then 0 else 2 := by unfold lens2; split <;> rfl
theorem takeText_words (s : ByteArray) (hs : s.size ≤ 1099511627776) (R : List Int) (b : Bool) : takeText (s.size : Int) (wds s ++ R, b) = (s, (R, b)) := by
  have hK : textK (wds s ++ R) (s.size : Int) = (wds s).length := by
    unfold textK
    rw [List.length_append, wds_len]
    omega
  unfold takeText
  simp only [hK, List.take_left, List.drop_left]
  rw [wds, recText_back s hs]
  simp
theorem takeAttrs_words (q0 q1 : Int) (l : List ByteArray) (b : Bool) (hs : ∀ s ∈ l, s.size ≤ 60) (hq : ∀ i, i < l.length → attrLen q0 q1 i = (sizes l).getD i 0) : ∀ k, k ≤ l.length → takeAttrs q0 q1 (flatW l, b) k = (l.take k, (flatW (l.drop k), b)) := by
  intro k
  induction k with
  | zero => intro _; rfl
  | succ k ih =>
    intro hk
    have hx := List.getElem_mem (show k < l.length by omega)
    have hsz := hs _ hx
    have hd : flatW (l.drop k) = wds l[k] ++ flatW (l.drop (k + 1)) := by
      rw [List.drop_eq_getElem_cons (show k < l.length by omega)]
      simp only [flatW, List.map_cons, List.flatten_cons]
    have ha : attrLen q0 q1 k = (l[k].size : Int) := by
      rw [hq k (by omega), sizes_getD, List.getD_eq_getElem?_getD, List.getElem?_eq_getElem (show k < l.length by omega)]
      rfl
    have ht := takeText_words l[k] (by omega) (flatW (l.drop (k + 1))) b
    have hst := takeAttrs_step (ih (by omega)) (show takeText (attrLen q0 q1 k) (flatW (l.drop k), b) = (l[k], (flatW (l.drop (k + 1)), b)) by rw [ha, hd]; exact ht)
    rw [hst, List.take_add_one, List.getElem?_eq_getElem (show k < l.length by omega)]
    rfl
theorem head_parts {k p n t q z : Int} (hk : 0 ≤ k ∧ k ≤ 3) (hp : -1 ≤ p ∧ p < 60) (hn : 0 ≤ n ∧ n ≤ 20) (ht : 0 ≤ t ∧ t ≤ 60) (hq : 0 ≤ q ∧ q ≤ 8) (hz : 0 ≤ z ∧ z ≤ 200) : (0 ≤ headOf k (p + 1) n t q z ∧ headOf k (p + 1) n t q z < 18446744073709551616) ∧ headOf k (p + 1) n t q z % 4 = k ∧ headOf k (p + 1) n t q z / 4 % 256 = p + 1 ∧ headOf k (p + 1) n t q z / 1024 % 32 = n ∧ headOf k (p + 1) n t q z / 32768 % 64 = t ∧ headOf k (p + 1) n t q z / 2097152 % 16 = q ∧ headOf k (p + 1) n t q z / 33554432 % 256 = z := by
  unfold headOf
  omega
/-- What is packed is unpacked to the same. -/
theorem unpack_pack {k p : Int} {n t : ByteArray} {l : List ByteArray} {r z : Int} (h : MayR k p n t l z) : rec_Unpack.f (packL k p n t l r z) = some (k, p, n, t, l, r, z, 0) := by
  have hpk := pack_yes (r := r) h
  have hlen := packL_len (r := r) h
  obtain ⟨hk, hp, hn, ht, hl, h2, hs, hz⟩ := h
  have hfl := flatW_small hl hs
  have hl2 := lens2_len l
  obtain ⟨H, hH⟩ : ∃ H, H = headOf k (p + 1) n.size t.size ((l.length / 2 : Nat) : Int) z := ⟨_, rfl⟩
  have hHp := head_parts (n := (n.size : Int)) (t := (t.size : Int)) (q := ((l.length / 2 : Nat) : Int)) hk hp (by omega) (by omega) (by omega) hz
  rw [← hH] at hHp
  obtain ⟨hr, c0, c1, c2, c3, c4, c5⟩ := hHp
  have hps := Aside0.mk (pAts H hr.1 hr.2)
  have b0 := Aside0.mk (hps.out.1.trans c0)
  have b1 := Aside0.mk (hps.out.2.1.trans c1)
  have b2 := Aside0.mk (hps.out.2.2.1.trans c2)
  have b3 := Aside0.mk (hps.out.2.2.2.1.trans c3)
  have b4 := Aside0.mk (hps.out.2.2.2.2.1.trans c4)
  have b5 := Aside0.mk (hps.out.2.2.2.2.2.trans c5)
  clear c0 c1 c2 c3 c4 c5 hr
  have hw1 : takeWord (packL k p n t l r z, false) = (H, ([r] ++ (lens2 l ++ (wds n ++ (wds t ++ flatW l))), false)) := by rw [hH]; rfl
  have hw2 : takeWord ([r] ++ (lens2 l ++ (wds n ++ (wds t ++ flatW l))), false) = (r, (lens2 l ++ (wds n ++ (wds t ++ flatW l)), false)) := rfl
  have hN : l.length = min (2 * (((l.length / 2 : Nat) : Int)).toNat) 16 := by omega
  have hT5 := takeText_words n (by omega) (wds t ++ flatW l) false
  have hT6 := takeText_words t (by omega) (flatW l) false
  have hun : ∃ q0 q1, twoWords ((l.length / 2 : Nat) : Int) (lens2 l ++ (wds n ++ (wds t ++ flatW l)), false) = ((q0, q1), (wds n ++ (wds t ++ flatW l), false)) ∧ ∀ i, i < l.length → attrLen q0 q1 i = (sizes l).getD i 0 := by
    by_cases c : l.length = 0
    · refine ⟨0, 0, ?_, fun i hi => by omega⟩
      unfold twoWords lens2
      rw [if_neg (by omega), if_pos c]
      rfl
    · refine ⟨(lensAt l l.length).1, (lensAt l l.length).2, ?_, fun i hi => attrLen_lens l (six_sizes hs) hl i hi⟩
      unfold twoWords lens2
      rw [if_pos (by omega), if_neg c]
      rfl
  obtain ⟨q0, q1, hTW, hal⟩ := hun
  have hTA := takeAttrs_words q0 q1 l false hs hal l.length (Nat.le_refl _)
  rw [List.take_length, List.drop_length] at hTA
  have hU := unTuple_eq hw1 hw2 b0.out.symm b1.out.symm b2.out.symm b3.out.symm b4.out.symm b5.out.symm hTW hT5 hT6 hN hTA
  unfold rec_Unpack.f
  rw [if_pos (by rw [hlen, hl2]; split <;> omega), hU, show p + 1 - 1 = p by omega, show wrap64 p = p by unfold wrap64; omega]
  unfold unDone
  simp only [hpk, Option.bind_some, ne_eq, not_true_eq_false, or_self, Bool.false_eq_true, if_false]
theorem unpack_back {l : List Int} {k p : Int} {n t : ByteArray} {a : List ByteArray} {r z : Int} (h : rec_Unpack.f l = some (k, p, n, t, a, r, z, 0)) : rec_Pack.f k p n t a r z = some (l, 0) := by
  unfold rec_Unpack.f at h
  split at h
  · unfold unDone at h
    obtain ⟨⟨m, e⟩, h1, h2⟩ := Option.bind_eq_some_iff.1 h
    split at h2
    · simp at h2
    · rename_i hc
      simp only [ne_eq, not_or, Decidable.not_not] at hc
      simp only [Option.some.injEq, Prod.mk.injEq, and_true] at h2
      obtain ⟨rfl, rfl, rfl, rfl, rfl, rfl, rfl⟩ := h2
      rw [h1, hc.2.1, hc.2.2]
  · cases h
/-- Unpack answers. -/
theorem unpack_some (l : List Int) (hl : l.length ≤ 1099511627776) : (∃ k p n t a r z, rec_Unpack.f l = some (k, p, n, t, a, r, z, 0)) ∨ rec_Unpack.f l = some (0, 0, (⟨#[]⟩ : ByteArray), (⟨#[]⟩ : ByteArray), [], 0, 0, 4) := by
  unfold rec_Unpack.f
  rw [if_pos hl]
  unfold unDone
  by_cases hm : MayR (unTuple l).1.1 (unTuple l).1.2.1 (unTuple l).1.2.2.1 (unTuple l).1.2.2.2.1 (unTuple l).1.2.2.2.2.1 (unTuple l).1.2.2.2.2.2.2
  · rw [pack_yes hm, Option.bind_some]
    split
    · exact .inr rfl
    · exact .inl ⟨_, _, _, _, _, _, _, rfl⟩
  · rw [pack_no hm, Option.bind_some, if_pos (.inr (.inl (by decide)))]
    exact .inr rfl
theorem shown11 : ∃ k, treillagelaw11_shown.f k = some true := by
  refine ⟨40, ?_⟩
  decide +kernel
theorem shown_at {k : Nat} (hk : 40 ≤ k) : treillagelaw11_shown.f k = some true := at_rounds treillagelaw11_shown.mono hk (by decide +kernel)

end Go.Proofs.Ytdjkadfgmhmhcaa.PureT
