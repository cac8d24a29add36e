/-
  What is told by any numbers, and what any number tells: the same as the document, and back.
-/
import Derived.Test.YtcjkjlopbjijaaaPAx5
import Derived.Test.YtcjkjlopbjijaaaMemM
namespace Go.Proofs.Ytcjkjlopbjijaaa.Pure
set_option linter.unusedVariables false
set_option linter.unusedSimpArgs false
open Go.RowKit Go.Proofs.Ytcjkjlopbjijaaa.PA Go.Proofs.YtcjkjlopbjijaaaW.PrintWords Go.Proofs.YtcjkjlopbjijaaaW.PrintLast Go.Proofs.YtcjkjlopbjijaaaW.PrintMore Go.Proofs.YtcjkjlopbjijaaaH

theorem bits_from (x : Int) (n : Nat) (hn : n ≤ 40) : ∀ (d k i : Nat), i + d = n → d + 1 ≤ k → treillageref15_bits.l0 k x n ((2 : Int) ^ i) i = some (Int.tmod (IntKind.u64.wrap x) ((2 : Int) ^ n)) := by
  intro d
  induction d with
  | zero =>
    intro k i he hk
    obtain ⟨k, rfl⟩ : ∃ k', k = k' + 1 := ⟨k - 1, by omega⟩
    have : i = n := by omega
    subst this
    rw [treillageref15_bits.l0, if_neg (by omega), if_neg (by have : (0 : Int) < 2 ^ i := Int.pow_pos (by decide); omega)]
  | succ d ih =>
    intro k i he hk
    obtain ⟨k, rfl⟩ : ∃ k', k = k' + 1 := ⟨k - 1, by omega⟩
    have hp : (0 : Int) < 2 ^ i := Int.pow_pos (by decide)
    have hq : (2 : Int) ^ i ≤ 2 ^ 40 := by
      have := Nat.pow_le_pow_right (n := 2) (by decide) (show i ≤ 40 by omega)
      exact_mod_cast this
    rw [treillageref15_bits.l0, if_pos (by omega), wraps_u64 ((2 : Int) ^ i * 2) (by omega) (by omega), show wrap64 ((i : Int) + 1) = ((i + 1 : Nat) : Int) from by unfold wrap64; omega, ← Int.pow_succ]
    exact ih k (i + 1) (by omega) (by omega)
theorem bits_32 {k : Nat} (hk : 40 ≤ k) (x : Int) : treillageref15_bits.f k x 32 = some (x % 4294967296) := by
  have h := bits_from x 32 (by decide) 32 k 0 rfl (by omega)
  unfold treillageref15_bits.f
  refine h.trans ?_
  rw [IntKind.wrap_u64, Int.tmod_eq_emod_of_nonneg (by omega)]
  congr 1
  omega
theorem bits_16 {k : Nat} (hk : 40 ≤ k) (x : Int) : treillageref15_bits.f k x 16 = some (x % 65536) := by
  have h := bits_from x 16 (by decide) 16 k 0 rfl (by omega)
  unfold treillageref15_bits.f
  refine h.trans ?_
  rw [IntKind.wrap_u64, Int.tmod_eq_emod_of_nonneg (by omega)]
  congr 1
  omega
theorem u16_mod (x : Int) : IntKind.u16.wrap x = x % 65536 := by
  rw [IntKind.wrap_u16]
theorem told_eq (a b c : Int) : mem_Told.f a b c = some ((wrap64 (a + 1)) % 4294967296 * 4294967296 + b % 65536 * 65536 + c % 65536) := by
  unfold mem_Told.f
  rw [u16_mod, u16_mod]
  obtain ⟨x, hx⟩ : ∃ x, x = wrap64 (a + 1) % 4294967296 := ⟨_, rfl⟩
  obtain ⟨y, hy⟩ : ∃ y, y = b % 65536 := ⟨_, rfl⟩
  obtain ⟨z, hz⟩ : ∃ z, z = c % 65536 := ⟨_, rfl⟩
  have h1 : 0 ≤ x ∧ x < 4294967296 := by rw [hx]; omega
  have h2 : 0 ≤ y ∧ y < 65536 := by rw [hy]; omega
  have h3 : 0 ≤ z ∧ z < 65536 := by rw [hz]; omega
  rw [← hx, ← hy, ← hz, wraps_u64 y (by omega) (by omega), wraps_u64 z (by omega) (by omega), wraps_u64 (y * 65536) (by omega) (by omega)]
  rw [join_u64 32 (by decide) (x * 4294967296) (y * 65536) (by omega) (by omega) (by omega) (by omega) (by omega)]
  rw [join_u64 16 (by decide) (x * 4294967296 + y * 65536) z (by omega) (by omega) (by omega) (by omega) (by omega)]
theorem ref_told_eq {k : Nat} (hk : 40 ≤ k) (a b c : Int) : treillageref15_Told.f k a b c = some ((wrap64 (a + 1)) % 4294967296 * 4294967296 + b % 65536 * 65536 + c % 65536) := by
  unfold treillageref15_Told.f
  rw [bits_32 hk, bits_16 hk, bits_16 hk]
  simp only [Option.bind_some]
  obtain ⟨x, hx⟩ : ∃ x, x = wrap64 (a + 1) % 4294967296 := ⟨_, rfl⟩
  obtain ⟨y, hy⟩ : ∃ y, y = b % 65536 := ⟨_, rfl⟩
  obtain ⟨z, hz⟩ : ∃ z, z = c % 65536 := ⟨_, rfl⟩
  have h1 : 0 ≤ x ∧ x < 4294967296 := by rw [hx]; omega
  have h2 : 0 ≤ y ∧ y < 65536 := by rw [hy]; omega
  have h3 : 0 ≤ z ∧ z < 65536 := by rw [hz]; omega
  rw [← hx, ← hy, ← hz, wraps_u64 (x * 65536) (by omega) (by omega), wraps_u64 (x * 65536 + y) (by omega) (by omega), wraps_u64 ((x * 65536 + y) * 65536) (by omega) (by omega), wraps_u64 ((x * 65536 + y) * 65536 + z) (by omega) (by omega)]
  congr 1
  omega
theorem MemTold : treillagelaw15_MemTold.Pure := by
  intro a b c v ha hb hc hv
  have ha := wf_i64 ha
  have hb := wf_i64 hb
  have hc := wf_i64 hc
  have hv := wf_u64 hv
  refine ⟨50, ?_⟩
  have e1 : mem_Call.f v = treillageref15_Call.f v := by
    unfold mem_Call.f treillageref15_Call.f
    rw [Int.tdiv_eq_ediv_of_nonneg (by omega), wraps_u64 (v / 4294967296) (by omega) (by omega)]
  have e2 : mem_Place.f v = treillageref15_Place.f v := by
    unfold mem_Place.f treillageref15_Place.f
    rw [Int.tdiv_eq_ediv_of_nonneg (by omega), wraps_u64 (v / 65536) (by omega) (by omega), Int.tmod_eq_emod_of_nonneg (by omega), u16_mod]
  have e3 : mem_Errno.f v = treillageref15_Errno.f v := by
    unfold mem_Errno.f treillageref15_Errno.f
    rw [Int.tmod_eq_emod_of_nonneg (by omega), u16_mod]
  have hs : ∀ k, 8 ≤ k → treillagelaw15_shown.f k = some true := fun k hk => shown_at hk
  obtain ⟨t, ht⟩ : ∃ t, t = (wrap64 (a + 1)) % 4294967296 * 4294967296 + b % 65536 * 65536 + c % 65536 := ⟨_, rfl⟩
  have key : treillagelaw15_MemTold.j0 50 a b c t false = some true := by
    have hj : treillagelaw15_MemTold.j1 49 a b c t true = some true := by
      rw [treillagelaw15_MemTold.j1, if_pos rfl, hs _ (by omega)]
      rfl
    rw [treillagelaw15_MemTold.j0, if_neg (by simp)]
    by_cases c1 : a < -1
    · rw [if_pos c1]; exact hj
    rw [if_neg c1]
    by_cases c2 : a ≥ 4294967295
    · rw [if_pos c2]; exact hj
    rw [if_neg c2]
    by_cases c3 : b < 0
    · rw [if_pos c3]; exact hj
    rw [if_neg c3]
    by_cases c4 : b > 65535
    · rw [if_pos c4]; exact hj
    rw [if_neg c4]
    by_cases c5 : c < 0
    · rw [if_pos c5]; exact hj
    rw [if_neg c5]
    by_cases c6 : c > 65535
    · rw [show decide (c > 65535) = true from decide_eq_true c6]; exact hj
    rw [show decide (c > 65535) = false from decide_eq_false c6]
    have h1 : wrap64 (a + 1) = a + 1 := by unfold wrap64; omega
    have htt : t = (a + 1) * 4294967296 + b * 65536 + c := by
      rw [ht, h1]; omega
    rw [treillagelaw15_MemTold.j1, if_neg (by simp)]
    have q1 : mem_Call.f t = some a := by
      unfold mem_Call.f
      rw [show t / 4294967296 = a + 1 from by omega, h1, show wrap64 (a + 1 - 1) = a from by unfold wrap64; omega]
    have q2 : mem_Place.f t = some b := by
      unfold mem_Place.f
      rw [u16_mod, show t / 65536 % 65536 = b from by omega, show wrap64 b = b from by unfold wrap64; omega]
    have q3 : mem_Errno.f t = some c := by
      unfold mem_Errno.f
      rw [u16_mod, show t % 65536 = c from by omega, show wrap64 c = c from by unfold wrap64; omega]
    rw [q1, q2, q3]
    simp only [Option.bind_some, if_true]
    rw [hs _ (by omega)]
    rfl
  unfold treillagelaw15_MemTold.f
  rw [told_eq, ref_told_eq (by decide), ← ht, e1, e2, e3]
  obtain ⟨r1, h1⟩ : ∃ r, treillageref15_Call.f v = some r := ⟨_, rfl⟩
  obtain ⟨r2, h2⟩ : ∃ r, treillageref15_Place.f v = some r := ⟨_, rfl⟩
  obtain ⟨r3, h3⟩ : ∃ r, treillageref15_Errno.f v = some r := ⟨_, rfl⟩
  rw [h1, h2, h3]
  simp only [Option.bind_some, if_true, bne_self_eq_false]
  exact key

end Go.Proofs.Ytcjkjlopbjijaaa.Pure
