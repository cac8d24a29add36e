/-
  The digits in base 4 of every 32-bit number, and how many levels any number needs, are the reference's; the sixteen digits make the number.
-/
import Derived.Test.YthopfipaaboffaaPackM
namespace Go.Proofs.Ythopfipaaboffaa.Pure
set_option linter.unusedVariables false
set_option linter.unusedSimpArgs false
open Go.RowKit Go.Proofs.Ythopfipaaboffaa.PA Go.Proofs.YthopfipaaboffaaW.PrintWords Go.Proofs.YthopfipaaboffaaW.PrintLast Go.Proofs.YthopfipaaboffaaW.PrintMore Go.Proofs.YthopfipaaboffaaH

def digit (i l : Int) : Int := if l < 0 ∨ 15 < l then 0 else i / 4 ^ l.toNat % 4
theorem digit_eq {i l : Int} (hi : 0 ≤ i ∧ i < 4294967296) : pack_Digit.f i l = some (digit i l) := by
  unfold pack_Digit.f digit
  by_cases h0 : l < 0
  · rw [if_pos h0, if_pos (.inl h0)]
  by_cases h1 : l > 15
  · rw [if_neg h0, if_pos h1, if_pos (.inr h1)]
  rw [if_neg h0, if_neg h1]
  obtain ⟨n, rfl⟩ := Int.eq_ofNat_of_zero_le (show 0 ≤ l by omega)
  have hn : n ≤ 15 := by omega
  have e1 : wrap64 (2 * (n : Int)) = ((2 * n : Nat) : Int) := by unfold wrap64; omega
  have e2 : shr .u32 i ((2 * n : Nat) : Int) = i / 4 ^ n := by
    unfold shr
    rw [Int.toNat_natCast, Nat.min_eq_left (by show 2 * n ≤ 32; omega), show (4 : Int) ^ n = 2 ^ (2 * n) from by rw [Int.pow_mul]; rfl]
  have hp : (0 : Int) < 4 ^ n := Int.pow_pos (by decide)
  have hq : 0 ≤ i / 4 ^ n ∧ i / 4 ^ n < 4294967296 := ⟨Int.ediv_nonneg hi.1 (Int.le_of_lt hp), by
    have := Int.ediv_le_self (4 ^ n) hi.1
    omega⟩
  rw [e1, if_pos (by omega), e2, if_neg (show ¬ ((n : Int) < 0 ∨ 15 < (n : Int)) by omega)]
  rw [show bits .and .u32 (i / 4 ^ n) 3 = i / 4 ^ n % 4 from mask_u32 2 (by decide) _ hq.1 hq.2]
  rw [show ((n : Int)).toNat = n from Int.toNat_natCast n]
  congr 1
  unfold wrap64
  omega
theorem refdigit_loop (l : Nat) (hl : l ≤ 15) (d : Nat) : ∀ (k : Nat) (i : Int) (j : Nat), 0 ≤ i → i < 4294967296 → j ≤ l → l - j = d → d + 1 ≤ k → treillageref01_Digit.l0 k i l j = some (i / 4 ^ d % 4) := by
  induction d with
  | zero =>
    intro k i j h0 h1 hj hd hk
    obtain ⟨k, rfl⟩ : ∃ m, k = m + 1 := ⟨k - 1, by omega⟩
    simp only [treillageref01_Digit.l0]
    rw [if_neg (by omega), Int.tmod_eq_emod_of_nonneg h0]
    congr 1
    unfold wrap64
    simp
    omega
  | succ d ih =>
    intro k i j h0 h1 hj hd hk
    obtain ⟨k, rfl⟩ : ∃ m, k = m + 1 := ⟨k - 1, by omega⟩
    simp only [treillageref01_Digit.l0]
    rw [if_pos (by omega), Int.tdiv_eq_ediv_of_nonneg h0, show wrap64 ((j : Int) + 1) = ((j + 1 : Nat) : Int) from by unfold wrap64; omega, show i / 4 % 4294967296 = i / 4 from by omega]
    rw [ih k (i / 4) (j + 1) (by omega) (by omega) (by omega) (by omega) (by omega)]
    rw [Int.pow_succ, Int.mul_comm, Int.ediv_ediv_of_nonneg (by decide)]
theorem refdigit_eq {k : Nat} (hk : 60 ≤ k) {i l : Int} (hi : 0 ≤ i ∧ i < 4294967296) : treillageref01_Digit.f k i l = some (digit i l) := by
  obtain ⟨k, rfl⟩ : ∃ m, k = m + 1 := ⟨k - 1, by omega⟩
  unfold treillageref01_Digit.f digit
  simp only [treillageref01_Digit.j0]
  by_cases h0 : l < 0
  · rw [if_pos h0, if_pos trivial, if_pos (.inl h0)]
  by_cases h1 : l > 15
  · rw [if_neg h0, if_pos (by simpa using h1), if_pos (.inr h1)]
  rw [if_neg h0, if_neg (by simpa using h1), if_neg (by omega)]
  obtain ⟨n, rfl⟩ := Int.eq_ofNat_of_zero_le (show 0 ≤ l by omega)
  have := refdigit_loop n (by omega) n k i 0 hi.1 hi.2 (by omega) (by omega) (by omega)
  rw [Int.toNat_natCast]
  exact this
/-- The least k with 4 to the k at least n. -/
theorem levels_loop (d : Nat) : ∀ (k : Nat) (c u : Int), 0 ≤ u → u < 4 ^ d → 0 ≤ c → c + d ≤ 1000 → d + 1 ≤ k → ∃ m : Nat, m ≤ d ∧ pack_Levels.l0 k c u = some (c + m) ∧ u < 4 ^ m ∧ (0 < m → (4 : Int) ^ (m - 1) ≤ u) := by
  induction d with
  | zero =>
    intro k c u h0 h1 hc hcd hk
    obtain ⟨k, rfl⟩ : ∃ m, k = m + 1 := ⟨k - 1, by omega⟩
    have : u = 0 := by simp at h1; omega
    subst this
    exact ⟨0, Nat.le_refl _, by simp only [pack_Levels.l0]; rw [if_neg (by decide)]; simp, by decide, fun h => absurd h (by decide)⟩
  | succ d ih =>
    intro k c u h0 h1 hc hcd hk
    obtain ⟨k, rfl⟩ : ∃ m, k = m + 1 := ⟨k - 1, by omega⟩
    simp only [pack_Levels.l0]
    by_cases hu : u > 0
    · rw [if_pos hu, show wrap64 (c + 1) = c + 1 from by unfold wrap64; omega]
      obtain ⟨m, hm, he, hlt, hge⟩ := ih k (c + 1) (u / 4) (by omega) (by rw [Int.pow_succ] at h1; omega) (by omega) (by omega) (by omega)
      refine ⟨m + 1, by omega, by rw [he]; congr 1; omega, by rw [Int.pow_succ]; omega, fun _ => ?_⟩
      rw [Nat.add_sub_cancel]
      rcases Nat.eq_zero_or_pos m with h | h
      · subst h; simp; omega
      · have := hge h
        obtain ⟨j, rfl⟩ : ∃ j, m = j + 1 := ⟨m - 1, by omega⟩
        rw [Nat.add_sub_cancel] at this
        rw [Int.pow_succ]; omega
    · rw [if_neg hu]
      have : u = 0 := by omega
      subst this
      exact ⟨0, by omega, by simp, by decide, fun h => absurd h (by decide)⟩
theorem reflevels_loop {n : Int} (hn : 0 < n ∧ n < 9223372036854775808) (m : Nat) (hm : m ≤ 32) (hlt : n ≤ 4 ^ m) (hge : ∀ j, j < m → (4 : Int) ^ j < n) (d : Nat) : ∀ (k : Nat) (j : Nat), j ≤ m → m - j = d → d + 1 ≤ k →
    treillageref01_Levels.l0 k n j ((4 : Int) ^ j % 18446744073709551616) = some (m : Int) := by
  induction d with
  | zero =>
    intro k j hj hd hk
    obtain ⟨k, rfl⟩ : ∃ m, k = m + 1 := ⟨k - 1, by omega⟩
    have : j = m := by omega
    subst this
    simp only [treillageref01_Levels.l0]
    rw [if_pos hn.1]
    by_cases h32 : j = 32
    · subst h32
      simp
    · have hp : (4 : Int) ^ j ≤ 4 ^ 31 := by exact_mod_cast Nat.pow_le_pow_right (by decide) (by omega)
      have h31 : (4 : Int) ^ 31 = 4611686018427387904 := by decide
      rw [if_neg (by rw [IntKind.wrap_u64]; omega)]
  | succ d ih =>
    intro k j hj hd hk
    obtain ⟨k, rfl⟩ : ∃ m, k = m + 1 := ⟨k - 1, by omega⟩
    have hp : (4 : Int) ^ j ≤ 4 ^ 31 := by exact_mod_cast Nat.pow_le_pow_right (by decide) (by omega)
    have h31 : (4 : Int) ^ 31 = 4611686018427387904 := by decide
    have hpos : (0 : Int) < 4 ^ j := Int.pow_pos (by decide)
    have := hge j (by omega)
    simp only [treillageref01_Levels.l0]
    rw [if_pos hn.1, if_pos (by rw [IntKind.wrap_u64]; omega), if_pos (by omega), show wrap64 ((j : Int) + 1) = ((j + 1 : Nat) : Int) from by unfold wrap64; omega]
    rw [show IntKind.u64.wrap ((4 : Int) ^ j % 18446744073709551616 * 4) = (4 : Int) ^ (j + 1) % 18446744073709551616 from by rw [IntKind.wrap_u64, Int.pow_succ]; omega]
    exact ih k (j + 1) (by omega) (by omega) (by omega)
theorem levels_same {n : Int} (hn : -9223372036854775808 ≤ n ∧ n < 9223372036854775808) : ∃ m : Int, ∀ k, 60 ≤ k → pack_Levels.f k n = some m ∧ treillageref01_Levels.f k n = some m := by
  by_cases h2 : n < 2
  · refine ⟨0, fun k hk => ⟨by unfold pack_Levels.f; rw [if_pos h2], ?_⟩⟩
    obtain ⟨k, rfl⟩ : ∃ m, k = m + 1 := ⟨k - 1, by omega⟩
    unfold treillageref01_Levels.f
    simp only [treillageref01_Levels.l0]
    by_cases h0 : n > 0
    · have : n = 1 := by omega
      subst this
      rfl
    · rw [if_neg h0]
  · have e : IntKind.u64.wrap (IntKind.u64.wrap n - 1) = n - 1 := by simp only [IntKind.wrap_u64]; omega
    have h32 : (4 : Int) ^ 32 = 18446744073709551616 := by decide
    obtain ⟨m, hm, he, hlt, hge⟩ := levels_loop 32 60 0 (n - 1) (by omega) (by omega) (by omega) (by omega) (by omega)
    refine ⟨m, fun k hk => ⟨?_, ?_⟩⟩
    · refine at_rounds (fun k => pack_Levels.mono n k) hk ?_
      unfold pack_Levels.f
      rw [if_neg h2, e, he]; simp
    · unfold treillageref01_Levels.f
      have := reflevels_loop (n := n) ⟨by omega, hn.2⟩ m hm (by omega) (fun j hj => by
        have h1 := hge (by omega)
        have h2 : (4 : Int) ^ j ≤ 4 ^ (m - 1) := by exact_mod_cast Nat.pow_le_pow_right (by decide) (by omega)
        omega) m k 0 (by omega) (by omega) (by omega)
      exact this
theorem digits_loop {i l n m : Int} (hi : 0 ≤ i ∧ i < 4294967296) (hm : ∀ k, 60 ≤ k → pack_Levels.f k n = some m ∧ treillageref01_Levels.f k n = some m) (d : Nat) : ∀ (k : Nat), d ≤ 16 → d + 61 ≤ k →
    treillagelaw01_PackDigits.l0 k i l n (i / 4 ^ d) ((d : Int) - 1) = some true := by
  induction d with
  | zero =>
    intro k _ hk
    obtain ⟨k, rfl⟩ : ∃ j, k = j + 1 := ⟨k - 1, by omega⟩
    simp only [treillagelaw01_PackDigits.l0]
    rw [if_neg (by decide), digit_eq hi, refdigit_eq (by omega) hi, (hm k (by omega)).1, (hm k (by omega)).2]
    simp only [Option.bind_some, if_true]
    rw [if_pos (by rw [IntKind.wrap_u64]; simp; omega), shown_k (by omega)]
    rfl
  | succ d ih =>
    intro k hd hk
    obtain ⟨k, rfl⟩ : ∃ j, k = j + 1 := ⟨k - 1, by omega⟩
    simp only [treillagelaw01_PackDigits.l0]
    rw [show ((d + 1 : Nat) : Int) - 1 = d from by omega, if_pos (by omega), digit_eq hi]
    simp only [Option.bind_some]
    have hp : (0 : Int) < 4 ^ d := Int.pow_pos (by decide)
    have hq : 0 ≤ i / 4 ^ d ∧ i / 4 ^ d < 4294967296 := ⟨Int.ediv_nonneg hi.1 (Int.le_of_lt hp), by
      have := Int.ediv_le_self (4 ^ d) hi.1
      omega⟩
    have e : i / 4 ^ (d + 1) = i / 4 ^ d / 4 := by rw [Int.pow_succ, Int.ediv_ediv_of_nonneg (Int.le_of_lt hp)]
    have hdg : digit i d = i / 4 ^ d % 4 := by
      unfold digit
      rw [if_neg (by omega), Int.toNat_natCast]
    rw [hdg, e, show wrap64 ((d : Int) - 1) = (d : Int) - 1 from by unfold wrap64; omega]
    rw [show IntKind.u64.wrap (IntKind.u64.wrap (i / 4 ^ d / 4 * 4) + IntKind.u64.wrap (i / 4 ^ d % 4)) = i / 4 ^ d from by
      simp only [IntKind.wrap_u64]; omega]
    exact ih k (by omega) (by omega)
theorem PackDigits : treillagelaw01_PackDigits.Pure := by
  intro i l n hi hl hn
  have hi := wf_u32 hi
  have hn := wf_i64 hn
  obtain ⟨m, hm⟩ := levels_same hn
  refine ⟨100, ?_⟩
  unfold treillagelaw01_PackDigits.f
  have := digits_loop (l := l) hi hm 16 100 (by decide) (by decide)
  rw [show i / 4 ^ 16 = 0 from by rw [show (4 : Int) ^ 16 = 4294967296 from by decide]; omega] at this
  exact this

end Go.Proofs.Ythopfipaaboffaa.Pure
