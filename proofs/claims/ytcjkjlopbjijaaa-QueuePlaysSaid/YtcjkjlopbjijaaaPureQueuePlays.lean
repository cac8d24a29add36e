/-
  The queue in plain numbers, and that whoever goes when, program and document do the same (written by wip/gen/gen_queue_plays.py).
-/
import Derived.Test.YtcjkjlopbjijaaaPYx10
import Derived.Test.YtcjkjlopbjijaaaVMore
import Derived.WalkKit
import Derived.Laws.Bits64
import Derived.Laws.BitsLemmas
import Derived.Laws.BitsAllLaws
import Derived.RowKit
namespace Go.Proofs.Ytcjkjlopbjijaaa.Pure
set_option linter.unusedVariables false
set_option linter.unusedSimpArgs false
open Go.RowKit Go.Proofs.Ytcjkjlopbjijaaa.PY Go.Proofs.YtcjkjlopbjijaaaW.PrintWords Go.Proofs.YtcjkjlopbjijaaaW.PrintLast Go.Proofs.YtcjkjlopbjijaaaW.PrintMore Go.Proofs.YtcjkjlopbjijaaaH


theorem wrap_i8 (n : Int) : IntKind.i8.wrap n = (n + 128) % 256 - 128 := by
  simp [IntKind.wrap, IntKind.bits, IntKind.signed]
  split <;> omega
theorem wrap_i16 (n : Int) : IntKind.i16.wrap n = (n + 32768) % 65536 - 32768 := by
  simp [IntKind.wrap, IntKind.bits, IntKind.signed]
  split <;> omega
theorem wraps_u64 (n : Int) (h₀ : 0 ≤ n) (h₁ : n < 2 ^ 64) : IntKind.u64.wrap n = n := by rw [IntKind.wrap_u64]; omega
theorem wraps_u32 (n : Int) (h₀ : 0 ≤ n) (h₁ : n < 2 ^ 32) : IntKind.u32.wrap n = n := by rw [IntKind.wrap_u32]; omega
theorem wf_u64 {n : Int} (h : (Lit.int .u64 n).wf = true) : 0 ≤ n ∧ n < 18446744073709551616 := by
  simp only [Lit.wf, Bool.and_eq_true, decide_eq_true_eq] at h
  have hmin : IntKind.u64.min = 0 := rfl
  have hmax : IntKind.u64.max = 18446744073709551615 := rfl
  omega
theorem wf_i64 {n : Int} (h : (Lit.int .i64 n).wf = true) : -9223372036854775808 ≤ n ∧ n < 9223372036854775808 := by
  simp only [Lit.wf, Bool.and_eq_true, decide_eq_true_eq] at h
  have hmin : IntKind.i64.min = -9223372036854775808 := rfl
  have hmax : IntKind.i64.max = 9223372036854775807 := rfl
  omega
theorem wf_u32 {n : Int} (h : (Lit.int .u32 n).wf = true) : 0 ≤ n ∧ n < 4294967296 := by
  simp only [Lit.wf, Bool.and_eq_true, decide_eq_true_eq] at h
  have hmin : IntKind.u32.min = 0 := rfl
  have hmax : IntKind.u32.max = 4294967295 := rfl
  omega
theorem wf_u16 {n : Int} (h : (Lit.int .u16 n).wf = true) : 0 ≤ n ∧ n < 65536 := by
  simp only [Lit.wf, Bool.and_eq_true, decide_eq_true_eq] at h
  have hmin : IntKind.u16.min = 0 := rfl
  have hmax : IntKind.u16.max = 65535 := rfl
  omega
theorem wf_u8 {n : Int} (h : (Lit.int .u8 n).wf = true) : 0 ≤ n ∧ n < 256 := by
  simp only [Lit.wf, Bool.and_eq_true, decide_eq_true_eq] at h
  have hmin : IntKind.u8.min = 0 := rfl
  have hmax : IntKind.u8.max = 255 := rfl
  omega
theorem mask_u64 (i : Nat) (hi : i ≤ 64) (x : Int) (h0 : 0 ≤ x) (h1 : x < 18446744073709551616) : bits .and .u64 x (2 ^ i - 1) = x % 2 ^ i :=
  bits_mask .u64 64 (by decide) wraps_u64 i hi x h0 h1
theorem mask_u32 (i : Nat) (hi : i ≤ 32) (x : Int) (h0 : 0 ≤ x) (h1 : x < 4294967296) : bits .and .u32 x (2 ^ i - 1) = x % 2 ^ i :=
  bits_mask .u32 32 (by decide) wraps_u32 i hi x h0 h1
theorem join_u64 (i : Nat) (hi : i ≤ 64) (x y : Int) (hx0 : 0 ≤ x) (hx : x % 2 ^ i = 0) (hx1 : x < 18446744073709551616) (hy0 : 0 ≤ y) (hy : y < 2 ^ i) : bits .or .u64 x y = x + y := by
  refine bits_join .u64 64 (by decide) wraps_u64 i x y hx0 hx hx1 hy0 hy ?_
  have : (2 : Int) ^ i ≤ 2 ^ 64 := by exact_mod_cast Nat.pow_le_pow_right (by decide) hi
  omega
theorem or_comm_u64 (x y : Int) : bits .or .u64 x y = bits .or .u64 y x := by
  simp only [bits]; rw [BitVec.or_comm]
theorem and24 (x : Int) (h0 : 0 ≤ x) (h1 : x < 18446744073709551616) : bits .and .u64 x 16777215 = x % 16777216 := mask_u64 24 (by decide) x h0 h1
theorem xor_u64_zero (x : Int) (h0 : 0 ≤ x) (h1 : x < 18446744073709551616) : bits .xor .u64 x 0 = x := by
  obtain ⟨a, rfl⟩ := Int.eq_ofNat_of_zero_le h0
  have := bits_xor_u64_nat a 0 (by omega) (by decide)
  simpa using this
theorem xor_ones_nat (a : Nat) (h : a < 2 ^ 64) : a ^^^ (2 ^ 64 - 1) = 2 ^ 64 - 1 - a := by
  have h1 : BitVec.ofNat 64 a ^^^ BitVec.allOnes 64 = ~~~ BitVec.ofNat 64 a := BitVec.xor_allOnes
  have h2 := congrArg BitVec.toNat h1
  rw [BitVec.toNat_xor, BitVec.toNat_not, BitVec.toNat_allOnes, BitVec.toNat_ofNat, Nat.mod_eq_of_lt h] at h2
  exact h2
theorem xor_u64_ones (x : Int) (h0 : 0 ≤ x) (h1 : x < 18446744073709551616) : bits .xor .u64 x 18446744073709551615 = 18446744073709551615 - x := by
  obtain ⟨a, rfl⟩ := Int.eq_ofNat_of_zero_le h0
  have ha : a < 2 ^ 64 := by omega
  have := bits_xor_u64_nat a 18446744073709551615 ha (by decide)
  have h2 := xor_ones_nat a ha
  rw [show (18446744073709551615 : Int) = ((18446744073709551615 : Nat) : Int) from rfl, this, show (18446744073709551615 : Nat) = 2 ^ 64 - 1 from rfl, h2]
  omega
theorem ofInt_i64 (x : Int) (h0 : 0 ≤ x) (h1 : x < 9223372036854775808) : (BitVec.ofInt 64 x).toNat = x.toNat := by
  obtain ⟨a, rfl⟩ := Int.eq_ofNat_of_zero_le h0
  rw [BitVec.ofInt_natCast, BitVec.toNat_ofNat, Nat.mod_eq_of_lt (by omega)]
  rfl
theorem xor_i64_zero (x : Int) (h0 : 0 ≤ x) (h1 : x < 9223372036854775808) : bits .xor .i64 x 0 = x := by
  show IntKind.i64.wrap ((BitVec.ofInt 64 x ^^^ BitVec.ofInt 64 0).toNat : Int) = x
  rw [show BitVec.ofInt 64 0 = 0#64 from rfl, BitVec.xor_zero, ofInt_i64 x h0 h1, IntKind.wrap_i64]
  omega
theorem xor_i64_ones (x : Int) (h0 : 0 ≤ x) (h1 : x < 9223372036854775808) : bits .xor .i64 x (-1) = -1 - x := by
  show IntKind.i64.wrap ((BitVec.ofInt 64 x ^^^ BitVec.ofInt 64 (-1)).toNat : Int) = -1 - x
  rw [show BitVec.ofInt 64 (-1) = BitVec.allOnes 64 from by decide, BitVec.xor_allOnes, BitVec.toNat_not, ofInt_i64 x h0 h1, IntKind.wrap_i64]
  omega
theorem andNot_parts (x m : BitVec 64) : x = (x &&& m) + (x &&& ~~~m) := by
  have h : (x &&& m) &&& (x &&& ~~~m) = 0#64 := by
    apply BitVec.eq_of_getLsbD_eq
    intro i hi
    simp [hi]
    intro _ hm _
    exact hm
  rw [BitVec.add_eq_or_of_and_eq_zero _ _ h]
  apply BitVec.eq_of_getLsbD_eq
  intro i hi
  simp [hi]
  cases x[i] <;> cases m[i] <;> rfl
theorem andNot_u64 (i : Nat) (hi : i ≤ 64) (x : Int) (h0 : 0 ≤ x) (h1 : x < 18446744073709551616) : bits .andNot .u64 x (2 ^ i - 1) = x - x % 2 ^ i := by
  have hm := mask_u64 i hi x h0 h1
  have hp := congrArg BitVec.toNat (andNot_parts (BitVec.ofInt 64 x) (BitVec.ofInt 64 (2 ^ i - 1)))
  obtain ⟨a, rfl⟩ := Int.eq_ofNat_of_zero_le h0
  have ha : a < 2 ^ 64 := by omega
  have hx : (BitVec.ofInt 64 (a : Int)).toNat = a := by rw [BitVec.ofInt_natCast, BitVec.toNat_ofNat, Nat.mod_eq_of_lt ha]
  have e1 : bits .and .u64 (a : Int) (2 ^ i - 1) = ((BitVec.ofInt 64 (a : Int) &&& BitVec.ofInt 64 (2 ^ i - 1)).toNat : Int) := by
    show IntKind.u64.wrap ((BitVec.ofInt 64 (a : Int) &&& BitVec.ofInt 64 (2 ^ i - 1)).toNat : Int) = _
    rw [IntKind.wrap_u64]
    have := (BitVec.ofInt 64 (a : Int) &&& BitVec.ofInt 64 (2 ^ i - 1)).isLt
    omega
  have e2 : bits .andNot .u64 (a : Int) (2 ^ i - 1) = ((BitVec.ofInt 64 (a : Int) &&& ~~~ BitVec.ofInt 64 (2 ^ i - 1)).toNat : Int) := by
    show IntKind.u64.wrap ((BitVec.ofInt 64 (a : Int) &&& ~~~ BitVec.ofInt 64 (2 ^ i - 1)).toNat : Int) = _
    rw [IntKind.wrap_u64]
    have := (BitVec.ofInt 64 (a : Int) &&& ~~~ BitVec.ofInt 64 (2 ^ i - 1)).isLt
    omega
  rw [hx, BitVec.toNat_add] at hp
  have l1 : (BitVec.ofInt 64 (a : Int) &&& BitVec.ofInt 64 (2 ^ i - 1)).toNat ≤ a := by
    rw [BitVec.toNat_and, hx]; exact Nat.and_le_left
  have l2 : (BitVec.ofInt 64 (a : Int) &&& ~~~ BitVec.ofInt 64 (2 ^ i - 1)).toNat ≤ a := by
    rw [BitVec.toNat_and, hx]; exact Nat.and_le_left
  rw [e2, ← hm, e1]
  generalize (BitVec.ofInt 64 (a : Int) &&& BitVec.ofInt 64 (2 ^ i - 1)).toNat = p at *
  generalize (BitVec.ofInt 64 (a : Int) &&& ~~~ BitVec.ofInt 64 (2 ^ i - 1)).toNat = q at *
  omega
theorem andNot24 (x : Int) (h0 : 0 ≤ x) (h1 : x < 18446744073709551616) : bits .andNot .u64 x 16777215 = x - x % 16777216 := andNot_u64 24 (by decide) x h0 h1



/-- A layout that may be. -/
def Lay (c s : Int) : Prop := (1 ≤ c ∧ c ≤ 4) ∧ (1 ≤ s ∧ s ≤ 4)
/-- How many places. -/
def pw (s : Int) : Int := if s = 1 then 2 else if s = 2 then 4 else if s = 3 then 8 else 16
theorem pw_bd (s : Int) : 2 ≤ pw s ∧ pw s ≤ 16 := by unfold pw; (repeat' split) <;> omega
theorem Lay.cases {c s : Int} (h : Lay c s) : s = 1 ∨ s = 2 ∨ s = 3 ∨ s = 4 := by unfold Lay at h; omega
theorem w64' {i : Int} (h0 : 0 ≤ i) (h1 : i < 4611686018427387904) : wrap64 i = i := by unfold wrap64; omega
theorem may_eq (c s : Int) : mem_May.f c s = some (decide ((1 ≤ c ∧ c ≤ 4) ∧ (1 ≤ s ∧ s ≤ 4))) := by
  unfold mem_May.f
  (repeat' split)
  · simp only [Option.some.injEq, decide_eq_decide]; omega
  all_goals (simp only [Option.some.injEq]; symm; simp only [decide_eq_false_iff_not]; omega)
theorem may_ok {c s : Int} (h : Lay c s) : mem_May.f c s = some true := by rw [may_eq]; simp only [Option.some.injEq, decide_eq_true_eq]; exact h
theorem may_no {c s : Int} (h : ¬Lay c s) : mem_May.f c s = some false := by rw [may_eq]; simp only [Option.some.injEq, decide_eq_false_iff_not]; exact h
theorem cell_ok {c s : Int} (h : Lay c s) (n : Int) : mem_cell.f c s n = some n := by simp [mem_cell.f, may_ok h]
theorem cell_no {c s : Int} (h : ¬Lay c s) (n : Int) : mem_cell.f c s n = some (-1) := by simp [mem_cell.f, may_no h]
theorem tail_ok {c s : Int} (h : Lay c s) : mem_Tail.f c s = some (2 + 2 * c) := by
  have h' := h
  unfold Lay at h'
  rw [mem_Tail.f, cell_ok h, w64' (i := 2 * c) (by omega) (by omega), w64' (by omega) (by omega)]
  rfl
theorem shl_two {c s : Int} (h : Lay c s) : shl .i64 2 s = 2 * pw s := by rcases h.cases with rfl | rfl | rfl | rfl <;> decide +kernel
theorem shl_one {c s : Int} (h : Lay c s) : shl .u64 1 s = pw s := by rcases h.cases with rfl | rfl | rfl | rfl <;> decide +kernel
theorem mask_pw {c s p : Int} (h : Lay c s) (h0 : 0 ≤ p) (h1 : p < 18446744073709551616) : Go.bits .and .u64 p (IntKind.u64.wrap (pw s - 1)) = p % pw s := by
  rcases h.cases with rfl | rfl | rfl | rfl
  · exact mask_u64 1 (by decide) p h0 h1
  · exact mask_u64 2 (by decide) p h0 h1
  · exact mask_u64 3 (by decide) p h0 h1
  · exact mask_u64 4 (by decide) p h0 h1
theorem mod_pw (p s : Int) : 0 ≤ p % pw s ∧ p % pw s < pw s := ⟨Int.emod_nonneg _ (by have := pw_bd s; omega), Int.emod_lt_of_pos _ (by have := pw_bd s; omega)⟩
theorem size_ok {c s : Int} (h : Lay c s) : mem_Size.f c s = some (3 + 2 * c + 2 * pw s) := by
  have h' := h
  unfold Lay at h'
  have hp := pw_bd s
  rw [mem_Size.f, may_ok h]
  simp only [Option.bind_some, if_true, tail_ok h]
  rw [if_pos (by omega), shl_two h, w64' (i := 2 + 2 * c + 1) (by omega) (by omega), w64' (by omega) (by omega)]
  congr 1; omega
theorem seq_ok {c s p : Int} (h : Lay c s) (h0 : 0 ≤ p) (h1 : p < 18446744073709551616) : mem_Seq.f c s p = some (3 + 2 * c + 2 * (p % pw s)) := by
  have h' := h
  unfold Lay at h'
  have hp := pw_bd s
  have hm := mod_pw p s
  rw [mem_Seq.f, may_ok h]
  simp only [Option.bind_some, if_true, tail_ok h]
  rw [if_pos (by omega), shl_one h, mask_pw h h0 h1, w64' (i := p % pw s) (by omega) (by omega), w64' (i := p % pw s * 2) (by omega) (by omega), w64' (i := 2 + 2 * c + 1) (by omega) (by omega), w64' (by omega) (by omega)]
  congr 1; omega
theorem seq_no {c s : Int} (h : ¬Lay c s) (p : Int) : mem_Seq.f c s p = some (-1) := by simp [mem_Seq.f, may_no h]
theorem item_ok {c s p : Int} (h : Lay c s) (h0 : 0 ≤ p) (h1 : p < 18446744073709551616) : mem_Item.f c s p = some (3 + 2 * c + 2 * (p % pw s) + 1) := by
  have h' := h
  unfold Lay at h'
  have hp := pw_bd s
  have hm := mod_pw p s
  rw [mem_Item.f, may_ok h, seq_ok h h0 h1]
  simp only [Option.bind_some, if_true]
  rw [w64' (by omega) (by omega)]
theorem item_no {c s : Int} (h : ¬Lay c s) (p : Int) : mem_Item.f c s p = some (-1) := by simp [mem_Item.f, may_no h]




theorem rmay_eq : treillageref15_May.f = mem_May.f := by
  funext c s
  rw [may_eq]
  unfold treillageref15_May.f
  (repeat' split)
  · simp only [Option.some.injEq, decide_eq_decide]; omega
  all_goals (simp only [Option.some.injEq]; symm; simp only [decide_eq_false_iff_not]; omega)
theorem rcell_eq : treillageref15_cell.f = mem_cell.f := by
  funext c s n
  unfold treillageref15_cell.f mem_cell.f
  rw [rmay_eq]
theorem places_ok {c s : Int} (h : Lay c s) {k : Nat} (hk : 6 ≤ k) : treillageref15_places.f k c s = some (pw s) := by
  refine at_rounds (treillageref15_places.mono c s) hk ?_
  have hc : c = 1 ∨ c = 2 ∨ c = 3 ∨ c = 4 := by have := h.1; omega
  rcases h.cases with rfl | rfl | rfl | rfl <;> rcases hc with rfl | rfl | rfl | rfl <;> decide +kernel
theorem rseq_eq {c s p : Int} {k : Nat} (hk : 6 ≤ k) (h0 : 0 ≤ p) (h1 : p < 18446744073709551616) : treillageref15_Seq.f k c s p = mem_Seq.f c s p := by
  by_cases h : Lay c s
  · have h' := h
    unfold Lay at h'
    have hp := pw_bd s
    have hm := mod_pw p s
    rw [seq_ok h h0 h1, treillageref15_Seq.f, rmay_eq, may_ok h]
    simp only [Option.bind_some, if_true, places_ok h hk]
    rw [wraps_u64 (pw s) (by omega) (by omega), if_neg (by omega), Int.tmod_eq_emod_of_nonneg h0, w64' (i := p % pw s) (by omega) (by omega), w64' (i := 2 * (p % pw s)) (by omega) (by omega), w64' (i := 2 * c) (by omega) (by omega), w64' (i := 3 + 2 * c) (by omega) (by omega), w64' (by omega) (by omega)]
  · simp [seq_no h, treillageref15_Seq.f, rmay_eq, may_no h]
theorem ritem_eq {c s p : Int} {k : Nat} (hk : 6 ≤ k) (h0 : 0 ≤ p) (h1 : p < 18446744073709551616) : treillageref15_Item.f k c s p = mem_Item.f c s p := by
  unfold treillageref15_Item.f mem_Item.f
  rw [rmay_eq, rseq_eq hk h0 h1]



abbrev Putter := S54
abbrev rdP (l : List Putter) (j : Int) : Putter := rd_T54 l j
theorem shown_at {k : Nat} (hk : 20 ≤ k) : treillagelaw16_shown.f k = some true := at_rounds treillagelaw16_shown.mono hk (by decide +kernel)
/-! ### Each function -/
def gotS (st pos v : Int) (b : Bool) : Int := if st = 0 then 1 else if st = 1 then (if v < pos then 6 else if v > pos then 0 else 2) else if st = 2 then (if b = true then 3 else 0) else if st = 3 then 4 else if st = 4 then 5 else st
theorem w3 : wrap64 3 = 3 := by unfold wrap64; omega
theorem w4 : wrap64 4 = 4 := by unfold wrap64; omega
theorem w5 : wrap64 5 = 5 := by unfold wrap64; omega
theorem w11 : wrap64 (1 + 1) = 2 := by unfold wrap64; omega
theorem w21 : wrap64 (2 + 1) = 3 := by unfold wrap64; omega
theorem w31 : wrap64 (3 + 1) = 4 := by unfold wrap64; omega
theorem w41 : wrap64 (4 + 1) = 5 := by unfold wrap64; omega
theorem got_ok {k : Nat} (hk : 4 ≤ k) (st pos it v : Int) (b : Bool) : queue_Got.f k st pos it v b = some (gotS st pos v b, if st = 0 then v else pos, it) := by
  obtain ⟨k, rfl⟩ : ∃ k', k = k' + 4 := ⟨k - 4, by omega⟩
  unfold queue_Got.f gotS
  by_cases h0 : st = 0
  · rw [if_pos h0, if_pos h0, if_pos h0]
  rw [if_neg h0, if_neg h0, if_neg h0]
  by_cases h1 : st = 1
  · subst h1
    rw [if_pos rfl, if_pos rfl, queue_Got.j0]
    by_cases h2 : v < pos
    · rw [if_pos (by simpa using h2), if_pos h2]
    rw [if_neg (by simpa using h2), if_neg h2, if_pos rfl, queue_Got.j1]
    by_cases h3 : v > pos
    · rw [if_pos (by simpa using h3), if_pos h3, queue_Got.j2, if_pos (by simpa using h3)]
    rw [if_neg (by simpa using h3), if_neg h3, if_neg (by decide), queue_Got.j2, if_neg (by simp), if_pos (by decide), if_pos (by decide), w11]
  rw [if_neg h1, if_neg h1, queue_Got.j0, if_neg (by simp), if_neg h1, queue_Got.j1, if_neg (by simp)]
  by_cases h2 : st = 2
  · subst h2
    rw [if_pos rfl, if_pos rfl, queue_Got.j2]
    cases b <;> simp [w3]
  rw [if_neg h2, if_neg h2, queue_Got.j2, if_neg (by simp)]
  by_cases h3 : st = 3
  · subst h3; simp [w4]
  rw [if_neg h3]
  by_cases h4 : st = 4
  · subst h4; simp [w5]
  rw [if_neg h4]
  (repeat' split) <;> first | rfl | omega
def givenS (st h it v : Int) : Int × Int × Int × Bool := if st = 0 then (if v = IntKind.u64.wrap (h + 1) then (1, h, it, false) else (0, h, it, false)) else if st = 1 then (2, h, v, false) else (0, IntKind.u64.wrap (h + 1), it, true)
theorem given_ok {k : Nat} (hk : 1 ≤ k) (c s st h it v : Int) : queue_Given.f k c s st h it v = some (givenS st h it v) := by
  obtain ⟨k, rfl⟩ : ∃ k', k = k' + 1 := ⟨k - 1, by omega⟩
  unfold queue_Given.f givenS
  by_cases h0 : st = 0
  · subst h0
    rw [if_pos rfl, if_pos rfl, queue_Given.j0]
    by_cases h1 : v = IntKind.u64.wrap (h + 1)
    · rw [if_pos h1, if_neg (by simp [h1]), if_pos rfl]
    · rw [if_neg h1, if_pos (by simpa using h1)]
  rw [if_neg h0, if_neg h0, queue_Given.j0, if_neg (by simp), if_neg h0]
  split <;> rfl
theorem want_0 {c s : Int} (h : Lay c s) (pos it : Int) : queue_Want.f c s 0 pos it = some (1, 2 + 2 * c, 0, 0, true) := by
  unfold queue_Want.f; rw [if_neg (by omega), if_pos rfl, tail_ok h]; rfl
theorem want_1 {c s : Int} (h : Lay c s) {pos : Int} (it : Int) (h0 : 0 ≤ pos) (h1 : pos < 18446744073709551616) : queue_Want.f c s 1 pos it = some (1, 3 + 2 * c + 2 * (pos % pw s), 0, 0, true) := by
  unfold queue_Want.f; rw [if_neg (by omega), if_neg (by omega), if_pos rfl, seq_ok h h0 h1]; rfl
theorem want_2 {c s : Int} (h : Lay c s) (pos it : Int) : queue_Want.f c s 2 pos it = some (3, 2 + 2 * c, pos, IntKind.u64.wrap (pos + 1), true) := by
  unfold queue_Want.f; rw [if_neg (by omega), if_neg (by omega), if_neg (by omega), if_pos rfl, tail_ok h]; rfl
theorem want_3 {c s : Int} (h : Lay c s) {pos : Int} (it : Int) (h0 : 0 ≤ pos) (h1 : pos < 18446744073709551616) : queue_Want.f c s 3 pos it = some (2, 3 + 2 * c + 2 * (pos % pw s) + 1, 0, it, true) := by
  unfold queue_Want.f; rw [if_neg (by omega), if_neg (by omega), if_neg (by omega), if_neg (by omega), if_pos rfl, item_ok h h0 h1]; rfl
theorem want_4 {c s : Int} (h : Lay c s) {pos : Int} (it : Int) (h0 : 0 ≤ pos) (h1 : pos < 18446744073709551616) : queue_Want.f c s 4 pos it = some (2, 3 + 2 * c + 2 * (pos % pw s), 0, IntKind.u64.wrap (pos + 1), true) := by
  unfold queue_Want.f; rw [if_neg (by omega), if_neg (by omega), if_neg (by omega), if_neg (by omega), if_neg (by omega), seq_ok h h0 h1]; rfl
theorem next_0 {c s : Int} (h : Lay c s) {p : Int} (it : Int) (h0 : 0 ≤ p) (h1 : p < 18446744073709551616) : queue_Next.f c s 0 p it = some (1, 3 + 2 * c + 2 * (p % pw s), 0, 0) := by
  unfold queue_Next.f; rw [if_pos rfl, seq_ok h h0 h1]; rfl
theorem next_1 {c s : Int} (h : Lay c s) {p : Int} (it : Int) (h0 : 0 ≤ p) (h1 : p < 18446744073709551616) : queue_Next.f c s 1 p it = some (1, 3 + 2 * c + 2 * (p % pw s) + 1, 0, 0) := by
  unfold queue_Next.f; rw [if_neg (by omega), if_pos rfl, item_ok h h0 h1]; rfl
theorem next_2 {c s : Int} (h : Lay c s) {st p : Int} (it : Int) (hst : st ≠ 0 ∧ st ≠ 1) (h0 : 0 ≤ p) (h1 : p < 18446744073709551616) : queue_Next.f c s st p it = some (2, 3 + 2 * c + 2 * (p % pw s), 0, IntKind.u64.wrap (p + pw s)) := by
  have := h.2.1
  unfold queue_Next.f; rw [if_neg hst.1, if_neg hst.2, seq_ok h h0 h1]; simp only [Option.bind_some]; rw [if_pos (by omega), shl_one h]; rfl
theorem want_no {c s st pos it : Int} (h : st < 0 ∨ 5 ≤ st) : queue_Want.f c s st pos it = some (0, 0, 0, 0, false) := by
  unfold queue_Want.f; rw [if_pos h]
/-! ### Cells -/
theorem rd_set_self {l : List Int} {i : Int} (h0 : 0 ≤ i) (h1 : i < l.length) (x : Int) : rd (l.set i.toNat x) i = x := by
  unfold rd
  rw [List.getD_eq_getElem?_getD, List.getElem?_set_self (by omega)]
  rfl
theorem rd_set_ne {l : List Int} {i j : Int} (h0 : 0 ≤ i) (hj : 0 ≤ j) (hne : j ≠ i) (x : Int) : rd (l.set i.toNat x) j = rd l j := by
  unfold rd
  rw [List.getD_eq_getElem?_getD, List.getD_eq_getElem?_getD, List.getElem?_set_ne (by omega)]
theorem do_load {l : List Int} {i o n : Int} (h0 : 0 ≤ i) (h1 : i < l.length) : mem_Do.f l 1 i o n = some (l, rd l i, true) := by
  unfold mem_Do.f
  rw [if_neg (by omega), if_pos rfl]
theorem do_store {l : List Int} {i o n : Int} (h0 : 0 ≤ i) (h1 : i < l.length) (hl : l.length ≤ 100) : mem_Do.f l 2 i o n = some (l.set i.toNat n, rd l i, true) := by
  unfold mem_Do.f
  rw [if_neg (by omega), if_neg (by decide), if_neg (by omega), if_pos (.inl rfl), if_pos (by omega)]
theorem do_cas {l : List Int} {i o n : Int} (h0 : 0 ≤ i) (h1 : i < l.length) (hl : l.length ≤ 100) : mem_Do.f l 3 i o n = if rd l i = o then some (l.set i.toNat n, rd l i, true) else some (l, rd l i, false) := by
  unfold mem_Do.f
  rw [if_neg (by omega), if_neg (by decide)]
  by_cases h : rd l i = o
  · rw [if_neg (fun hh => hh.2 h), if_pos (.inr rfl), if_pos (by omega), if_pos h]
  · rw [if_pos ⟨rfl, h⟩, if_neg h]


theorem rtail_eq (c s : Int) : treillageref15_Tail.f c s = mem_Tail.f c s := by unfold treillageref15_Tail.f mem_Tail.f; rw [rcell_eq]
theorem rwant_eq {c s st p it : Int} {k : Nat} (hk : 6 ≤ k) (h0 : 0 ≤ p) (h1 : p < 18446744073709551616) : treillageref16_Want.f k c s st p it = queue_Want.f c s st p it := by
  unfold treillageref16_Want.f
  by_cases ho : st < 0 ∨ 5 ≤ st
  · rw [want_no ho, if_neg (by omega), if_neg (by omega), if_neg (by omega), if_neg (by omega), if_neg (by omega)]
  · unfold queue_Want.f
    rw [if_neg ho, rtail_eq, rseq_eq hk h0 h1, ritem_eq hk h0 h1]
    have hs : st = 0 ∨ st = 1 ∨ st = 2 ∨ st = 3 ∨ st = 4 := by omega
    rcases hs with rfl | rfl | rfl | rfl | rfl <;> rfl
theorem want_some {c s st p it : Int} (h : Lay c s) (h0 : 0 ≤ p) (h1 : p < 18446744073709551616) : ∃ x, queue_Want.f c s st p it = some x := by
  by_cases ho : st < 0 ∨ 5 ≤ st
  · exact ⟨_, want_no ho⟩
  · have hs : st = 0 ∨ st = 1 ∨ st = 2 ∨ st = 3 ∨ st = 4 := by omega
    rcases hs with rfl | rfl | rfl | rfl | rfl
    · exact ⟨_, want_0 h _ _⟩
    · exact ⟨_, want_1 h _ h0 h1⟩
    · exact ⟨_, want_2 h _ _⟩
    · exact ⟨_, want_3 h _ h0 h1⟩
    · exact ⟨_, want_4 h _ h0 h1⟩
theorem next_some {c s st p it : Int} (h : Lay c s) (h0 : 0 ≤ p) (h1 : p < 18446744073709551616) : ∃ x, queue_Next.f c s st p it = some x := by
  by_cases e0 : st = 0
  · subst e0; exact ⟨_, next_0 h _ h0 h1⟩
  by_cases e1 : st = 1
  · subst e1; exact ⟨_, next_1 h _ h0 h1⟩
  exact ⟨_, next_2 h _ ⟨e0, e1⟩ h0 h1⟩
theorem rplaces {c s : Int} (h : Lay c s) {k : Nat} (hk : 6 ≤ k) : treillageref16_places.f k c s = some (pw s) := by
  refine at_rounds (treillageref16_places.mono c s) hk ?_
  have hc : c = 1 ∨ c = 2 ∨ c = 3 ∨ c = 4 := by have := h.1; omega
  rcases h.cases with rfl | rfl | rfl | rfl <;> rcases hc with rfl | rfl | rfl | rfl <;> decide +kernel
theorem rnext_eq {c s st p it : Int} (h : Lay c s) {k : Nat} (hk : 6 ≤ k) (h0 : 0 ≤ p) (h1 : p < 18446744073709551616) : treillageref16_Next.f k c s st p it = queue_Next.f c s st p it := by
  unfold treillageref16_Next.f
  rw [rseq_eq hk h0 h1, ritem_eq hk h0 h1]
  by_cases e0 : st = 0
  · subst e0; rw [if_pos rfl, next_0 h _ h0 h1, seq_ok h h0 h1]; rfl
  by_cases e1 : st = 1
  · subst e1; rw [if_neg (by decide), if_pos rfl, next_1 h _ h0 h1, item_ok h h0 h1]; rfl
  rw [if_neg e0, if_neg e1, next_2 h _ ⟨e0, e1⟩ h0 h1, seq_ok h h0 h1, rplaces h hk]; rfl
theorem rgiven_eq (c s st h it v : Int) : treillageref16_Given.f c s st h it v = some (givenS st h it v) := by
  unfold treillageref16_Given.f givenS
  by_cases e0 : st = 0
  · subst e0; simp only [if_true]; split <;> rfl
  rw [if_neg e0, if_neg e0]
  split <;> rfl
theorem rgot_eq (c s st v : Int) (b : Bool) : treillageref16_Got.f c s st v b = some (gotS c s v b, if c = 0 then v else s, st) := by
  unfold treillageref16_Got.f gotS
  by_cases e0 : c = 0
  · simp [e0]
  rw [if_neg e0, if_neg e0, if_neg e0]
  by_cases e1 : c = 1
  · rw [if_pos e1, if_pos e1]
    by_cases a : v < s
    · rw [if_neg (by omega), if_pos a, if_pos a]
    · by_cases a2 : v = s
      · rw [if_pos a2, if_neg a, if_neg a, if_neg (by omega)]
      · rw [if_neg a2, if_neg a, if_neg a, if_pos (by omega)]
  rw [if_neg e1, if_neg e1]
  by_cases e2 : c = 2
  · rw [if_pos e2, if_pos e2]; split <;> rfl
  rw [if_neg e2, if_neg e2]
  by_cases e3 : c = 3
  · rw [if_pos e3, if_pos e3]
  rw [if_neg e3, if_neg e3]
  by_cases e4 : c = 4
  · rw [if_pos e4, if_pos e4]
  rw [if_neg e4, if_neg e4]
theorem handles_from (l : List Int) : ∀ (d k : Nat) (i : Int), 0 ≤ i → i + d = l.length → d + 1 ≤ k → l.length ≤ 4000000000 → treillageref03_Handles.l0 k l l i = some true := by
  intro d
  induction d with
  | zero =>
    intro k i hi he hk hl
    obtain ⟨k, rfl⟩ : ∃ k', k = k' + 1 := ⟨k - 1, by omega⟩
    rw [treillageref03_Handles.l0, if_neg (by omega)]
  | succ d ih =>
    intro k i hi he hk hl
    obtain ⟨k, rfl⟩ : ∃ k', k = k' + 1 := ⟨k - 1, by omega⟩
    rw [treillageref03_Handles.l0, if_pos (by omega), if_pos hi, if_pos (by omega), if_pos rfl, show wrap64 (i + 1) = i + 1 from by unfold wrap64; omega]
    exact ih k (i + 1) (by omega) (by omega) (by omega) hl
theorem handles_refl (l : List Int) (k : Nat) (hk : l.length + 1 ≤ k) (hl : l.length ≤ 4000000000) : treillageref03_Handles.f k l l = some true := by
  unfold treillageref03_Handles.f
  rw [if_pos rfl]
  exact handles_from l l.length k 0 (by omega) (by omega) hk hl


theorem ref_do (l : List Int) (a i o n : Int) (hl : l.length ≤ 300) (k : Nat) : treillageref15_Do.f (k + 1) l a i o n = mem_Do.f l a i o n := by
  unfold treillageref15_Do.f mem_Do.f
  have hj : treillageref15_Do.j0 (k + 1) l true a i o n = some (l, 0, false) := by rw [treillageref15_Do.j0, if_pos rfl]
  by_cases c1 : i < 0
  · rw [if_pos c1, hj, if_pos (.inl c1)]
  rw [if_neg c1]
  by_cases c2 : i ≥ (l.length : Int)
  · rw [if_pos c2, hj, if_pos (.inr c2)]
  rw [if_neg c2, if_neg (show ¬(i < 0 ∨ (l.length : Int) ≤ i) by omega)]
  by_cases c3 : a < 1
  · rw [if_pos c3, hj, if_neg (by omega), if_neg (by omega), if_neg (by omega)]
  rw [if_neg c3]
  by_cases c4 : a > 3
  · rw [show decide (a > 3) = true from decide_eq_true c4, hj, if_neg (by omega), if_neg (by omega), if_neg (by omega)]
  rw [show decide (a > 3) = false from decide_eq_false c4, treillageref15_Do.j0, if_neg (by simp), if_pos (by omega), if_pos (by omega)]
  have hlim : ([] : List Int).length + l.length < 17592186044416 := by simp; omega
  by_cases c5 : a = 1
  · rw [if_pos c5, if_pos c5]
  rw [if_neg c5, if_neg c5]
  by_cases c6 : a = 3
  · rw [if_pos c6]
    by_cases c7 : rd l i = o
    · rw [if_pos c7, if_neg (fun h => h.2 c7), if_pos (.inr c6), if_pos (by omega)]
      simp only [Option.bind_some, if_pos hlim, List.nil_append]
      rw [if_pos (by omega)]
    · rw [if_neg c7, if_pos ⟨c6, c7⟩]
  · rw [if_neg c6, if_neg (fun h => c6 h.1), if_pos (.inl (by omega)), if_pos (by omega)]
    simp only [Option.bind_some, if_pos hlim, List.nil_append]
    rw [if_pos (by omega)]

abbrev RPutter := S61
abbrev rdR (l : List RPutter) (j : Int) : RPutter := rd_T61 l j
abbrev U64 (x : Int) : Prop := 0 ≤ x ∧ x < 18446744073709551616
theorem u_wrap (x : Int) : U64 (IntKind.u64.wrap x) := by rw [IntKind.wrap_u64]; unfold U64; omega
def cv (p : Putter) : RPutter := ⟨p.f0, p.f1, p.f2⟩
theorem cv_f0 (p : Putter) : (cv p).f0 = p.f0 := rfl
theorem cv_f1 (p : Putter) : (cv p).f1 = p.f1 := rfl
theorem cv_f2 (p : Putter) : (cv p).f2 = p.f2 := rfl
theorem rd_cv (l : List Putter) (i : Int) : rd_T61 (l.map cv) i = cv (rd_T54 l i) := by
  unfold rd_T61 rd_T54
  rw [List.getD_eq_getElem?_getD, List.getD_eq_getElem?_getD, List.getElem?_map]
  cases l[i.toNat]? <;> rfl
theorem set_cv (l : List Putter) (n : Nat) (a b c : Int) : (l.map cv).set n (⟨a, b, c⟩ : RPutter) = (l.set n (⟨a, b, c⟩ : Putter)).map cv := by rw [List.map_set]; rfl
def OkP (p : Putter) : Prop := U64 p.f1 ∧ U64 p.f2
theorem rd_okp {l : List Putter} (h : ∀ p ∈ l, OkP p) (i : Int) : OkP (rd_T54 l i) := by
  unfold rd_T54
  rw [List.getD_eq_getElem?_getD]
  cases e : l[i.toNat]? with
  | none => exact ⟨by decide, by decide⟩
  | some p => exact h p (List.mem_of_getElem? e)
theorem rd_in {l : List Int} {B : Int} (hB : 0 < B) (h : ∀ x ∈ l, 0 ≤ x ∧ x < B) (i : Int) : 0 ≤ rd l i ∧ rd l i < B := by
  unfold rd
  rw [List.getD_eq_getElem?_getD]
  cases e : l[i.toNat]? with
  | none => exact ⟨by simp, by simpa using hB⟩
  | some p => exact h p (List.mem_of_getElem? e)
theorem want_rng {c s st p it : Int} (h : Lay c s) (hp : U64 p) (hi : U64 it) : ∃ kd cell o nw b, queue_Want.f c s st p it = some (kd, cell, o, nw, b) ∧ U64 nw := by
  by_cases ho : st < 0 ∨ 5 ≤ st
  · exact ⟨_, _, _, _, _, want_no ho, by decide⟩
  · have hs : st = 0 ∨ st = 1 ∨ st = 2 ∨ st = 3 ∨ st = 4 := by omega
    rcases hs with rfl | rfl | rfl | rfl | rfl
    · exact ⟨_, _, _, _, _, want_0 h _ _, by decide⟩
    · exact ⟨_, _, _, _, _, want_1 h _ hp.1 hp.2, by decide⟩
    · exact ⟨_, _, _, _, _, want_2 h _ _, u_wrap _⟩
    · exact ⟨_, _, _, _, _, want_3 h _ hp.1 hp.2, hi⟩
    · exact ⟨_, _, _, _, _, want_4 h _ hp.1 hp.2, u_wrap _⟩
theorem next_rng {c s st p it : Int} (h : Lay c s) (hp : U64 p) : ∃ kd cell o nw, queue_Next.f c s st p it = some (kd, cell, o, nw) ∧ U64 nw := by
  by_cases e0 : st = 0
  · subst e0; exact ⟨_, _, _, _, next_0 h _ hp.1 hp.2, by decide⟩
  by_cases e1 : st = 1
  · subst e1; exact ⟨_, _, _, _, next_1 h _ hp.1 hp.2, by decide⟩
  exact ⟨_, _, _, _, next_2 h _ ⟨e0, e1⟩ hp.1 hp.2, u_wrap _⟩
theorem do_rng {l : List Int} {a i o n : Int} (hl : l.length ≤ 100) (hu : ∀ x ∈ l, U64 x) (hn : U64 n) :
    ∃ m v b, mem_Do.f l a i o n = some (m, v, b) ∧ m.length = l.length ∧ (∀ x ∈ m, U64 x) ∧ U64 v := by
  have hv : U64 (rd l i) := rd_in (by decide) hu i
  have hz : U64 0 := by decide
  unfold mem_Do.f
  split
  · exact ⟨_, _, _, rfl, rfl, hu, hz⟩
  split
  · exact ⟨_, _, _, rfl, rfl, hu, hv⟩
  split
  · exact ⟨_, _, _, rfl, rfl, hu, hv⟩
  split
  · rw [if_pos (by omega)]
    refine ⟨_, _, _, rfl, List.length_set, fun x hx => ?_, hv⟩
    rcases List.mem_or_eq_of_mem_set hx with h | h
    · exact hu x h
    · rw [h]; exact hn
  · exact ⟨_, _, _, rfl, rfl, hu, hz⟩
theorem ref_do' (l : List Int) (a i o n : Int) (hl : l.length ≤ 100) {k : Nat} (hk : 1 ≤ k) : treillageref15_Do.f k l a i o n = mem_Do.f l a i o n := by
  obtain ⟨k, rfl⟩ : ∃ k', k = k' + 1 := ⟨k - 1, by omega⟩
  exact ref_do l a i o n (by omega) k
theorem given_rng (st h it v : Int) (hh : U64 h) : ∃ a b c d, givenS st h it v = (a, b, c, d) ∧ U64 b := by
  unfold givenS
  split
  · split
    · exact ⟨_, _, _, _, rfl, hh⟩
    · exact ⟨_, _, _, _, rfl, hh⟩
  split
  · exact ⟨_, _, _, _, rfl, hh⟩
  · exact ⟨_, _, _, _, rfl, u_wrap _⟩
theorem plays_ok {s : Int} (hl : Lay 1 s) {x1 x2 : List Int} (h12 : x1.length ≤ 12) (hx : ∀ x ∈ x2, 0 ≤ x ∧ x < 256) (h300 : x2.length ≤ 300) :
    ∀ (d k : Nat) (i : Int) (m : List Int) (l : List Putter) (ts h ti : Int), 0 ≤ i → i + d = x2.length → d + 120 ≤ k → m.length ≤ 100 → (∀ x ∈ m, U64 x) → l.length = x1.length → (∀ p ∈ l, OkP p) → U64 h →
      treillagelaw16_QueuePlays.l1 k x1 x2 m m l (l.map cv) i 1 s 1 s ts h ti ts h ti = some true := by
  intro d
  induction d with
  | zero =>
    intro k i m l ts h ti hi he hk hm hu hll hp hh
    obtain ⟨k, rfl⟩ : ∃ k', k = k' + 1 := ⟨k - 1, by omega⟩
    rw [treillagelaw16_QueuePlays.l1, if_neg (by omega)]
  | succ d ih =>
    intro k i m l ts h ti hi he hk hm hu hll hp hh
    obtain ⟨k, rfl⟩ : ∃ k', k = k' + 1 := ⟨k - 1, by omega⟩
    have hw1 : wrap64 ((x1.length : Int) + 1) = (x1.length : Int) + 1 := w64' (by omega) (by omega)
    have hwi : wrap64 (i + 1) = i + 1 := w64' (by omega) (by omega)
    have hb := rd_in (by decide) hx i
    have hwb : wrap64 (rd x2 i) = rd x2 i := w64' hb.1 (by omega)
    obtain ⟨q, hq⟩ : ∃ q, q = Int.tmod (rd x2 i) ((x1.length : Int) + 1) := ⟨_, rfl⟩
    have hq0 : 0 ≤ q ∧ q < (x1.length : Int) + 1 := by
      rw [hq, Int.tmod_eq_emod_of_nonneg hb.1]
      exact ⟨Int.emod_nonneg _ (by omega), Int.emod_lt_of_pos _ (by omega)⟩
    rw [treillagelaw16_QueuePlays.l1, if_pos (by omega), if_pos hi, hw1, hwi, hwb, ← hq, if_neg (by omega)]
    have hH : ∀ m' : List Int, m'.length ≤ 100 → treillageref03_Handles.f k m' m' = some true := fun m' h' => handles_refl m' k (by omega) (by omega)
    by_cases c : q = (x1.length : Int)
    · rw [if_pos c]
      obtain ⟨kd, cell, o, nw, hN, hnw⟩ := next_rng (st := ts) (it := ti) hl hh
      obtain ⟨m', v, b, hD, hml, hmu, hv⟩ := do_rng (a := kd) (i := cell) (o := o) hm hu hnw
      obtain ⟨ts', h', ti', tk, hG, hh'⟩ := given_rng ts h ti v hh
      have hN2 : treillageref16_Next.f k 1 s ts h ti = some (kd, cell, o, nw) := (rnext_eq hl (by omega) hh.1 hh.2).trans hN
      have hD2 : treillageref15_Do.f k m kd cell o nw = some (m', v, b) := (ref_do' m kd cell o nw hm (by omega)).trans hD
      have hG1 : queue_Given.f k 1 s ts h ti v = some (ts', h', ti', tk) := (given_ok (by omega) 1 s ts h ti v).trans (congrArg some hG)
      have hG2 : treillageref16_Given.f 1 s ts h ti v = some (ts', h', ti', tk) := (rgiven_eq 1 s ts h ti v).trans (congrArg some hG)
      simp only [hN, hN2, Option.bind_some, hD, hD2, hG1, hG2, hH m' (by omega), if_true, beq_self_eq_true, Bool.not_true, Bool.or_self, Bool.false_eq_true, if_false]
      exact ih k (i + 1) m' l ts' h' ti' (by omega) (by omega) (by omega) (by omega) hmu hll hp hh'
    · rw [if_neg c, if_pos hq0.1, if_pos (show q < (l.length : Int) by omega)]
      have hP := rd_okp hp q
      obtain ⟨P, hPe⟩ : ∃ P, P = rd_T54 l q := ⟨_, rfl⟩
      rw [← hPe] at hP
      obtain ⟨kd, cell, o, nw, b, hW, hnw⟩ := want_rng (st := P.f0) hl hP.1 hP.2
      have hW2 : treillageref16_Want.f k 1 s P.f0 P.f1 P.f2 = some (kd, cell, o, nw, b) := (rwant_eq (by omega) hP.1.1 hP.1.2).trans hW
      have hlm : q < ((l.map cv).length : Int) := by rw [List.length_map]; omega
      simp only [rd_cv, ← hPe, cv_f0, cv_f1, cv_f2, hW, hW2, Option.bind_some, if_pos hlm, bne_self_eq_false, Bool.false_eq_true, if_false]
      cases b with
      | false =>
        simp only [Bool.false_eq_true, if_false]
        exact ih k (i + 1) m l ts h ti (by omega) (by omega) (by omega) hm hu hll hp hh
      | true =>
        obtain ⟨m', v, so, hD, hml, hmu, hv⟩ := do_rng (a := kd) (i := cell) (o := o) hm hu hnw
        have hD2 : treillageref15_Do.f k m kd cell o nw = some (m', v, so) := (ref_do' m kd cell o nw hm (by omega)).trans hD
        have hg1 := got_ok (k := k) (by omega) P.f0 P.f1 P.f2 v so
        have hg2 := rgot_eq P.f0 P.f1 P.f2 v so
        simp only [if_true, hD, hD2, hg1, hg2, Option.bind_some, set_cv, rd_cv, cv_f0, cv_f1, cv_f2, hH m' (by omega), beq_self_eq_true, Bool.not_true, Bool.or_self, Bool.false_eq_true, if_false]
        refine ih k (i + 1) m' _ ts h ti (by omega) (by omega) (by omega) (by omega) hmu (by rw [List.length_set]; exact hll) (fun p h => ?_) hh
        rcases List.mem_or_eq_of_mem_set h with h | h
        · exact hp p h
        · rw [h]
          refine ⟨?_, hP.2⟩
          show U64 (if P.f0 = 0 then v else P.f1)
          split
          · exact hv
          · exact hP.1
theorem items_ok {s : Int} (hl : Lay 1 s) {x1 x2 : List Int} (h12 : x1.length ≤ 12) (hx1 : ∀ x ∈ x1, U64 x) (hx : ∀ x ∈ x2, 0 ≤ x ∧ x < 256) (h300 : x2.length ≤ 300) {m : List Int} (hm : m.length ≤ 100) (hu : ∀ x ∈ m, U64 x) :
    ∀ (d k : Nat) (i : Int) (l : List Putter), 0 ≤ i → i + d = x1.length → d + 430 ≤ k → (l.length : Int) = i → (∀ p ∈ l, OkP p) →
      treillagelaw16_QueuePlays.l0 k x1 x2 m m l (l.map cv) i 1 s 1 s = some true := by
  intro d
  induction d with
  | zero =>
    intro k i l hi he hk hll hp
    obtain ⟨k, rfl⟩ : ∃ k', k = k' + 1 := ⟨k - 1, by omega⟩
    rw [treillagelaw16_QueuePlays.l0, if_neg (by omega)]
    exact plays_ok hl h12 hx h300 x2.length k 0 m l 0 0 0 (by omega) (by omega) (by omega) hm hu (by omega) hp (by decide)
  | succ d ih =>
    intro k i l hi he hk hll hp
    obtain ⟨k, rfl⟩ : ∃ k', k = k' + 1 := ⟨k - 1, by omega⟩
    have hwi : wrap64 (i + 1) = i + 1 := w64' (by omega) (by omega)
    rw [treillagelaw16_QueuePlays.l0, if_pos (by omega), if_pos hi, if_pos (by omega), if_pos (by rw [List.length_map]; omega), hwi]
    have e : (l.map cv) ++ [(⟨0, 0, rd x1 i⟩ : RPutter)] = (l ++ [(⟨0, 0, rd x1 i⟩ : Putter)]).map cv := by rw [List.map_append]; rfl
    rw [e]
    refine ih k (i + 1) _ (by omega) (by omega) (by omega) (by rw [List.length_append]; simp; omega) (fun p hp' => ?_)
    rcases List.mem_append.1 hp' with h | h
    · exact hp p h
    · rw [List.mem_singleton.1 h]
      exact ⟨(by decide : U64 0), rd_in (by decide) hx1 i⟩
theorem new_ok {s : Int} (h : Lay 1 s) {k : Nat} (hk : 60 ≤ k) : ∃ m, mem_New.f k 1 s = some m ∧ treillageref15_New.f k 1 s = some m ∧ m.length ≤ 100 ∧ ∀ x ∈ m, U64 x := by
  rcases h.cases with rfl | rfl | rfl | rfl
  · exact ⟨(mem_New.f 60 1 1).getD [], at_rounds (mem_New.mono 1 1) hk (by decide +kernel), at_rounds (treillageref15_New.mono 1 1) hk (by decide +kernel), by decide +kernel, by decide +kernel⟩
  · exact ⟨(mem_New.f 60 1 2).getD [], at_rounds (mem_New.mono 1 2) hk (by decide +kernel), at_rounds (treillageref15_New.mono 1 2) hk (by decide +kernel), by decide +kernel, by decide +kernel⟩
  · exact ⟨(mem_New.f 60 1 3).getD [], at_rounds (mem_New.mono 1 3) hk (by decide +kernel), at_rounds (treillageref15_New.mono 1 3) hk (by decide +kernel), by decide +kernel, by decide +kernel⟩
  · exact ⟨(mem_New.f 60 1 4).getD [], at_rounds (mem_New.mono 1 4) hk (by decide +kernel), at_rounds (treillageref15_New.mono 1 4) hk (by decide +kernel), by decide +kernel, by decide +kernel⟩
theorem wf_u8' {n : Int} (h : (Lit.int .u8 n).wf = true) : 0 ≤ n ∧ n < 256 := by
  simp only [Lit.wf, Bool.and_eq_true, decide_eq_true_eq] at h
  have hmin : IntKind.u8.min = 0 := rfl
  have hmax : IntKind.u8.max = 255 := rfl
  omega
theorem QueuePlays : ∀ (a0 : Int) (l1 : List Int) (l2 : List Int), (Lit.int .u8 a0).wf = true → l1.length ≤ maxLen → l1.length * 8 ≤ 140737488351232 → (∀ x ∈ l1, (Lit.int .u64 x).wf = true) → l2.length ≤ maxLen → l2.length * 1 ≤ 140737488351232 → (∀ x ∈ l2, (Lit.int .u8 x).wf = true) → ∃ k, treillagelaw16_QueuePlays.f k a0 l1 l2 = some true := by
  intro a0 x1 x2 w0 _ _ hx1 _ _ hx2
  refine ⟨600, ?_⟩
  have ha := wf_u8' w0
  have hj : treillagelaw16_QueuePlays.j0 600 a0 x1 x2 true = some true := by
    rw [show (600 : Nat) = 599 + 1 from rfl, treillagelaw16_QueuePlays.j0, if_pos rfl, shown_at (by omega)]; rfl
  unfold treillagelaw16_QueuePlays.f
  by_cases c1 : (x1.length : Int) > 12
  · rw [if_pos c1, hj]
  by_cases c2 : (x2.length : Int) > 300
  · rw [if_neg c1, if_pos c2, hj]
  rw [if_neg c1, if_neg c2, shown_at (by omega)]
  simp only [Option.bind_some, Bool.not_true]
  have hwa : wrap64 a0 = a0 := w64' ha.1 (by omega)
  have hs : Lay 1 (wrap64 (1 + Int.tmod (wrap64 a0) 4)) := by
    rw [hwa, Int.tmod_eq_emod_of_nonneg ha.1, w64' (by omega) (by omega)]
    exact ⟨by omega, by omega⟩
  obtain ⟨m, hm1, hm2, hm, hu⟩ := new_ok hs (k := 599) (by omega)
  rw [show (600 : Nat) = 599 + 1 from rfl, treillagelaw16_QueuePlays.j0, if_neg (by decide), hm1, hm2]
  simp only [Option.bind_some]
  exact items_ok hs (by omega) (fun x hx => wf_u64 (hx1 x hx)) (fun x hx => wf_u8' (hx2 x hx)) (by omega) hm hu x1.length 599 0 [] (by omega) (by omega) (by omega) rfl (fun p hp => by simp at hp)
end Go.Proofs.Ytcjkjlopbjijaaa.Pure
