
import Derived.WalkKit
import Derived.Laws.Bits64
import Derived.Laws.BitsLemmas
import Derived.Laws.BitsAllLaws
import Derived.RowKit
import Derived.Test.YtjiejmkkaekefaaVWords
import Derived.Test.YtjiejmkkaekefaaVMore


/-
  Plain laws on bits and wraps: masks, joins, complements of words of 64 bits; no program in sight.
-/
namespace Go.Proofs.YtjiejmkkaekefaaH
open Go.RowKit Go.Proofs.YtjiejmkkaekefaaW.PrintWords Go.Proofs.YtjiejmkkaekefaaW.PrintMore

theorem wrap_i8 (n : Int) : IntKind.i8.wrap n = (n + 128) % 256 - 128 := by
  simp [IntKind.wrap, IntKind.bits, IntKind.signed]
  split <;> omega
theorem wrap_i16 (n : Int) : IntKind.i16.wrap n = (n + 32768) % 65536 - 32768 := by
  simp [IntKind.wrap, IntKind.bits, IntKind.signed]
  split <;> omega
theorem wraps_u64 (n : Int) (h₀ : 0 ≤ n) (h₁ : n < 2 ^ 64) : IntKind.u64.wrap n = n := by rw [IntKind.wrap_u64]; omega
theorem wraps_u32 (n : Int) (h₀ : 0 ≤ n) (h₁ : n < 2 ^ 32) : IntKind.u32.wrap n = n := by rw [IntKind.wrap_u32]; omega
theorem wf_u64 {n : Int} (h : (Lit.int .u64 n).wf = true) : 0 ≤ n ∧ n < 18446744073709551616 := by
  simp only [Lit.wf, Bool.and_eq_true, decide_eq_true_eq] at h
  have hmin : IntKind.u64.min = 0 := rfl
  have hmax : IntKind.u64.max = 18446744073709551615 := rfl
  omega
theorem wf_i64 {n : Int} (h : (Lit.int .i64 n).wf = true) : -9223372036854775808 ≤ n ∧ n < 9223372036854775808 := by
  simp only [Lit.wf, Bool.and_eq_true, decide_eq_true_eq] at h
  have hmin : IntKind.i64.min = -9223372036854775808 := rfl
  have hmax : IntKind.i64.max = 9223372036854775807 := rfl
  omega
theorem wf_u32 {n : Int} (h : (Lit.int .u32 n).wf = true) : 0 ≤ n ∧ n < 4294967296 := by
  simp only [Lit.wf, Bool.and_eq_true, decide_eq_true_eq] at h
  have hmin : IntKind.u32.min = 0 := rfl
  have hmax : IntKind.u32.max = 4294967295 := rfl
  omega
theorem wf_u16 {n : Int} (h : (Lit.int .u16 n).wf = true) : 0 ≤ n ∧ n < 65536 := by
  simp only [Lit.wf, Bool.and_eq_true, decide_eq_true_eq] at h
  have hmin : IntKind.u16.min = 0 := rfl
  have hmax : IntKind.u16.max = 65535 := rfl
  omega
theorem wf_u8 {n : Int} (h : (Lit.int .u8 n).wf = true) : 0 ≤ n ∧ n < 256 := by
  simp only [Lit.wf, Bool.and_eq_true, decide_eq_true_eq] at h
  have hmin : IntKind.u8.min = 0 := rfl
  have hmax : IntKind.u8.max = 255 := rfl
  omega
theorem mask_u64 (i : Nat) (hi : i ≤ 64) (x : Int) (h0 : 0 ≤ x) (h1 : x < 18446744073709551616) : bits .and .u64 x (2 ^ i - 1) = x % 2 ^ i :=
  bits_mask .u64 64 (by decide) wraps_u64 i hi x h0 h1
theorem mask_u32 (i : Nat) (hi : i ≤ 32) (x : Int) (h0 : 0 ≤ x) (h1 : x < 4294967296) : bits .and .u32 x (2 ^ i - 1) = x % 2 ^ i :=
  bits_mask .u32 32 (by decide) wraps_u32 i hi x h0 h1
theorem join_u64 (i : Nat) (hi : i ≤ 64) (x y : Int) (hx0 : 0 ≤ x) (hx : x % 2 ^ i = 0) (hx1 : x < 18446744073709551616) (hy0 : 0 ≤ y) (hy : y < 2 ^ i) : bits .or .u64 x y = x + y := by
  refine bits_join .u64 64 (by decide) wraps_u64 i x y hx0 hx hx1 hy0 hy ?_
  have : (2 : Int) ^ i ≤ 2 ^ 64 := by exact_mod_cast Nat.pow_le_pow_right (by decide) hi
  omega
theorem or_comm_u64 (x y : Int) : bits .or .u64 x y = bits .or .u64 y x := by
  simp only [bits]; rw [BitVec.or_comm]
theorem and24 (x : Int) (h0 : 0 ≤ x) (h1 : x < 18446744073709551616) : bits .and .u64 x 16777215 = x % 16777216 := mask_u64 24 (by decide) x h0 h1
theorem xor_u64_zero (x : Int) (h0 : 0 ≤ x) (h1 : x < 18446744073709551616) : bits .xor .u64 x 0 = x := by
  obtain ⟨a, rfl⟩ := Int.eq_ofNat_of_zero_le h0
  have := bits_xor_u64_nat a 0 (by omega) (by decide)
  simpa using this
theorem xor_ones_nat (a : Nat) (h : a < 2 ^ 64) : a ^^^ (2 ^ 64 - 1) = 2 ^ 64 - 1 - a := by
  have h1 : BitVec.ofNat 64 a ^^^ BitVec.allOnes 64 = ~~~ BitVec.ofNat 64 a := BitVec.xor_allOnes
  have h2 := congrArg BitVec.toNat h1
  rw [BitVec.toNat_xor, BitVec.toNat_not, BitVec.toNat_allOnes, BitVec.toNat_ofNat, Nat.mod_eq_of_lt h] at h2
  exact h2
theorem xor_u64_ones (x : Int) (h0 : 0 ≤ x) (h1 : x < 18446744073709551616) : bits .xor .u64 x 18446744073709551615 = 18446744073709551615 - x := by
  obtain ⟨a, rfl⟩ := Int.eq_ofNat_of_zero_le h0
  have ha : a < 2 ^ 64 := by omega
  have := bits_xor_u64_nat a 18446744073709551615 ha (by decide)
  have h2 := xor_ones_nat a ha
  rw [show (18446744073709551615 : Int) = ((18446744073709551615 : Nat) : Int) from rfl, this, show (18446744073709551615 : Nat) = 2 ^ 64 - 1 from rfl, h2]
  omega
theorem ofInt_i64 (x : Int) (h0 : 0 ≤ x) (h1 : x < 9223372036854775808) : (BitVec.ofInt 64 x).toNat = x.toNat := by
  obtain ⟨a, rfl⟩ := Int.eq_ofNat_of_zero_le h0
  rw [BitVec.ofInt_natCast, BitVec.toNat_ofNat, Nat.mod_eq_of_lt (by omega)]
  rfl
theorem xor_i64_zero (x : Int) (h0 : 0 ≤ x) (h1 : x < 9223372036854775808) : bits .xor .i64 x 0 = x := by
  show IntKind.i64.wrap ((BitVec.ofInt 64 x ^^^ BitVec.ofInt 64 0).toNat : Int) = x
  rw [show BitVec.ofInt 64 0 = 0#64 from rfl, BitVec.xor_zero, ofInt_i64 x h0 h1, IntKind.wrap_i64]
  omega
theorem xor_i64_ones (x : Int) (h0 : 0 ≤ x) (h1 : x < 9223372036854775808) : bits .xor .i64 x (-1) = -1 - x := by
  show IntKind.i64.wrap ((BitVec.ofInt 64 x ^^^ BitVec.ofInt 64 (-1)).toNat : Int) = -1 - x
  rw [show BitVec.ofInt 64 (-1) = BitVec.allOnes 64 from by decide, BitVec.xor_allOnes, BitVec.toNat_not, ofInt_i64 x h0 h1, IntKind.wrap_i64]
  omega
theorem andNot_parts (x m : BitVec 64) : x = (x &&& m) + (x &&& ~~~m) := by
  have h : (x &&& m) &&& (x &&& ~~~m) = 0#64 := by
    apply BitVec.eq_of_getLsbD_eq
    intro i hi
    simp [hi]
    intro _ hm _
    exact hm
  rw [BitVec.add_eq_or_of_and_eq_zero _ _ h]
  apply BitVec.eq_of_getLsbD_eq
  intro i hi
  simp [hi]
  cases x[i] <;> cases m[i] <;> rfl
theorem andNot_u64 (i : Nat) (hi : i ≤ 64) (x : Int) (h0 : 0 ≤ x) (h1 : x < 18446744073709551616) : bits .andNot .u64 x (2 ^ i - 1) = x - x % 2 ^ i := by
  have hm := mask_u64 i hi x h0 h1
  have hp := congrArg BitVec.toNat (andNot_parts (BitVec.ofInt 64 x) (BitVec.ofInt 64 (2 ^ i - 1)))
  obtain ⟨a, rfl⟩ := Int.eq_ofNat_of_zero_le h0
  have ha : a < 2 ^ 64 := by omega
  have hx : (BitVec.ofInt 64 (a : Int)).toNat = a := by rw [BitVec.ofInt_natCast, BitVec.toNat_ofNat, Nat.mod_eq_of_lt ha]
  have e1 : bits .and .u64 (a : Int) (2 ^ i - 1) = ((BitVec.ofInt 64 (a : Int) &&& BitVec.ofInt 64 (2 ^ i - 1)).toNat : Int) := by
    show IntKind.u64.wrap ((BitVec.ofInt 64 (a : Int) &&& BitVec.ofInt 64 (2 ^ i - 1)).toNat : Int) = _
    rw [IntKind.wrap_u64]
    have := (BitVec.ofInt 64 (a : Int) &&& BitVec.ofInt 64 (2 ^ i - 1)).isLt
    omega
  have e2 : bits .andNot .u64 (a : Int) (2 ^ i - 1) = ((BitVec.ofInt 64 (a : Int) &&& ~~~ BitVec.ofInt 64 (2 ^ i - 1)).toNat : Int) := by
    show IntKind.u64.wrap ((BitVec.ofInt 64 (a : Int) &&& ~~~ BitVec.ofInt 64 (2 ^ i - 1)).toNat : Int) = _
    rw [IntKind.wrap_u64]
    have := (BitVec.ofInt 64 (a : Int) &&& ~~~ BitVec.ofInt 64 (2 ^ i - 1)).isLt
    omega
  rw [hx, BitVec.toNat_add] at hp
  have l1 : (BitVec.ofInt 64 (a : Int) &&& BitVec.ofInt 64 (2 ^ i - 1)).toNat ≤ a := by
    rw [BitVec.toNat_and, hx]; exact Nat.and_le_left
  have l2 : (BitVec.ofInt 64 (a : Int) &&& ~~~ BitVec.ofInt 64 (2 ^ i - 1)).toNat ≤ a := by
    rw [BitVec.toNat_and, hx]; exact Nat.and_le_left
  rw [e2, ← hm, e1]
  generalize (BitVec.ofInt 64 (a : Int) &&& BitVec.ofInt 64 (2 ^ i - 1)).toNat = p at *
  generalize (BitVec.ofInt 64 (a : Int) &&& ~~~ BitVec.ofInt 64 (2 ^ i - 1)).toNat = q at *
  omega
theorem andNot24 (x : Int) (h0 : 0 ≤ x) (h1 : x < 18446744073709551616) : bits .andNot .u64 x 16777215 = x - x % 16777216 := andNot_u64 24 (by decide) x h0 h1

end Go.Proofs.YtjiejmkkaekefaaH
