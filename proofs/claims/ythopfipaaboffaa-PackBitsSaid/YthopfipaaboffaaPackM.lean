/-
  What the printed functions of layer 1 tell, in plain numbers: zigzag, handles, narrow numbers, digits, levels, bytes; for every number of rounds that is great enough.
-/
import Derived.Test.YthopfipaaboffaaPAx
import Derived.Test.YthopfipaaboffaaMath
namespace Go.Proofs.Ythopfipaaboffaa.Pure
set_option linter.unusedVariables false
set_option linter.unusedSimpArgs false
open Go.RowKit Go.Proofs.Ythopfipaaboffaa.PA Go.Proofs.YthopfipaaboffaaW.PrintWords Go.Proofs.YthopfipaaboffaaW.PrintLast Go.Proofs.YthopfipaaboffaaW.PrintMore Go.Proofs.YthopfipaaboffaaH

theorem shown_60 : treillagelaw01_shown.f 60 = some true := by decide +kernel
theorem shown_k {k : Nat} (hk : 60 ≤ k) : treillagelaw01_shown.f k = some true := at_rounds treillagelaw01_shown.mono hk shown_60
theorem power_8 {k : Nat} (hk : 60 ≤ k) : treillageref01_power.f k 8 = some 256 := at_rounds (treillageref01_power.mono 8) hk (by decide +kernel)
theorem power_16 {k : Nat} (hk : 60 ≤ k) : treillageref01_power.f k 16 = some 65536 := at_rounds (treillageref01_power.mono 16) hk (by decide +kernel)
theorem power_32 {k : Nat} (hk : 60 ≤ k) : treillageref01_power.f k 32 = some 4294967296 := at_rounds (treillageref01_power.mono 32) hk (by decide +kernel)
theorem power_24 {k : Nat} (hk : 60 ≤ k) : treillageref01_power.f k 24 = some 16777216 := at_rounds (treillageref01_power.mono 24) hk (by decide +kernel)
theorem power_40 {k : Nat} (hk : 60 ≤ k) : treillageref01_power.f k 40 = some 1099511627776 := at_rounds (treillageref01_power.mono 40) hk (by decide +kernel)

/-! ### zigzag -/
def zig (a : Int) : Int := if 0 ≤ a then 2 * a else -2 * a - 1
def zag (u : Int) : Int := if u % 2 = 0 then u / 2 else -(u / 2) - 1
theorem zig_eq {a : Int} (h : -9223372036854775808 ≤ a ∧ a < 9223372036854775808) : pack_Zig.f a = some (zig a) := by
  unfold pack_Zig.f zig
  by_cases h0 : 0 ≤ a
  · have e1 : IntKind.u64.wrap (wrap64 (a * 2)) = 2 * a := by rw [IntKind.wrap_u64]; unfold wrap64; omega
    have e2 : IntKind.u64.wrap (a / 9223372036854775808) = 0 := by rw [IntKind.wrap_u64]; omega
    rw [e1, e2, xor_u64_zero _ (by omega) (by omega), if_pos h0]
  · have e1 : IntKind.u64.wrap (wrap64 (a * 2)) = 2 * a + 18446744073709551616 := by rw [IntKind.wrap_u64]; unfold wrap64; omega
    have e2 : IntKind.u64.wrap (a / 9223372036854775808) = 18446744073709551615 := by rw [IntKind.wrap_u64]; omega
    rw [e1, e2, xor_u64_ones _ (by omega) (by omega), if_neg h0]
    congr 1; omega
theorem refzig_eq {a : Int} (h : -9223372036854775808 ≤ a ∧ a < 9223372036854775808) : treillageref01_Zig.f a = some (zig a) := by
  unfold treillageref01_Zig.f zig
  simp only [IntKind.wrap_u64, wrap64]
  by_cases h0 : 0 ≤ a
  · rw [if_pos (by omega), if_pos h0]; congr 1; omega
  · rw [if_neg (by omega), if_neg h0]; congr 1; omega
theorem zag_eq {u : Int} (h : 0 ≤ u ∧ u < 18446744073709551616) : pack_Zag.f u = some (zag u) := by
  unfold pack_Zag.f zag
  have e0 : bits .and .u64 u 1 = u % 2 := mask_u64 1 (by decide) u h.1 h.2
  have e1 : wrap64 (u / 2) = u / 2 := by unfold wrap64; omega
  rw [e0, e1]
  by_cases h0 : u % 2 = 0
  · rw [if_pos h0, show wrap64 (-(wrap64 (u % 2))) = 0 from by unfold wrap64; omega, xor_i64_zero _ (by omega) (by omega)]
  · rw [if_neg h0, show wrap64 (-(wrap64 (u % 2))) = -1 from by unfold wrap64; omega, xor_i64_ones _ (by omega) (by omega)]
    congr 1; omega
theorem refzag_eq {u : Int} (h : 0 ≤ u ∧ u < 18446744073709551616) : treillageref01_Zag.f u = some (zag u) := by
  unfold treillageref01_Zag.f zag
  simp only [IntKind.wrap_u64, wrap64, Int.tmod_eq_emod_of_nonneg h.1, Int.tdiv_eq_ediv_of_nonneg h.1]
  by_cases h0 : u % 2 = 0
  · rw [if_pos h0, if_pos h0]; congr 1; omega
  · rw [if_neg h0, if_neg h0]; congr 1; omega
theorem zig_range {a : Int} (h : -9223372036854775808 ≤ a ∧ a < 9223372036854775808) : 0 ≤ zig a ∧ zig a < 18446744073709551616 := by unfold zig; split <;> omega
theorem zag_range {u : Int} (h : 0 ≤ u ∧ u < 18446744073709551616) : -9223372036854775808 ≤ zag u ∧ zag u < 9223372036854775808 := by unfold zag; split <;> omega
theorem zag_zig (a : Int) : zag (zig a) = a := by unfold zig zag; split <;> split <;> omega
theorem zig_zag {u : Int} (h : 0 ≤ u) : zig (zag u) = u := by unfold zig zag; split <;> split <;> omega

/-! ### handles -/
theorem of_eq {i g : Int} (hi : -9223372036854775808 ≤ i ∧ i < 9223372036854775808) (hg : 0 ≤ g ∧ g < 18446744073709551616) :
    pack_Of.f i g = some (if 0 ≤ i ∧ i < 16777216 ∧ g < 1099511627776 then (g * 16777216 + i, true) else (0, false)) := by
  unfold pack_Of.f
  have hw : 0 ≤ IntKind.u64.wrap i ∧ IntKind.u64.wrap i < 18446744073709551616 := by rw [IntKind.wrap_u64]; omega
  rw [andNot24 _ hw.1 hw.2]
  by_cases h1 : 0 ≤ i ∧ i < 16777216
  · have e1 : IntKind.u64.wrap i = i := by rw [IntKind.wrap_u64]; omega
    rw [e1, if_pos (by omega)]
    by_cases h2 : g < 1099511627776
    · have e2 : IntKind.u64.wrap (g * 16777216) = g * 16777216 := by rw [IntKind.wrap_u64]; omega
      rw [if_pos (by omega), if_pos ⟨h1.1, h1.2, h2⟩, e2, join_u64 24 (by decide) _ _ (by omega) (by show _ % 16777216 = 0; omega) (by omega) h1.1 h1.2]
    · rw [if_neg (by omega), if_neg (by omega)]
  · rw [if_neg (by rw [IntKind.wrap_u64]; omega), if_neg (by omega)]
theorem index_eq {h : Int} (hh : 0 ≤ h ∧ h < 18446744073709551616) : pack_Index.f h = some (h % 16777216) := by
  unfold pack_Index.f
  rw [and24 h hh.1 hh.2]
  congr 1; unfold wrap64; omega
theorem gen_eq (h : Int) : pack_Gen.f h = some (h / 16777216) := rfl
def nextH (h : Int) : Int := (h / 16777216 + 1) % 1099511627776 * 16777216 + h % 16777216
theorem next_eq {h : Int} (hh : 0 ≤ h ∧ h < 18446744073709551616) : pack_Next.f h = some (nextH h) := by
  unfold pack_Next.f nextH
  rw [and24 h hh.1 hh.2]
  have e : IntKind.u64.wrap (IntKind.u64.wrap (h / 16777216 + 1) * 16777216) = (h / 16777216 + 1) % 1099511627776 * 16777216 := by simp only [IntKind.wrap_u64]; omega
  rw [e, or_comm_u64, join_u64 24 (by decide) _ _ (by omega) (by show _ % 16777216 = 0; omega) (by omega) (by omega) (by show _ < 16777216; omega)]
theorem next_range {h : Int} (hh : 0 ≤ h ∧ h < 18446744073709551616) : 0 ≤ nextH h ∧ nextH h < 18446744073709551616 := by unfold nextH; omega
theorem refof_eq {k : Nat} (hk : 60 ≤ k) {i g : Int} (hi : -9223372036854775808 ≤ i ∧ i < 9223372036854775808) (hg : 0 ≤ g ∧ g < 18446744073709551616) :
    treillageref01_Of.f k i g = some (if 0 ≤ i ∧ i < 16777216 ∧ g < 1099511627776 then (g * 16777216 + i, true) else (0, false)) := by
  unfold treillageref01_Of.f
  rw [power_24 hk, power_40 hk]
  simp only [Option.bind_some, IntKind.wrap_u64]
  by_cases h0 : i < 0
  · rw [if_pos h0, if_neg (by omega)]
  rw [if_neg h0]
  by_cases h1 : i < 16777216
  · rw [if_neg (by omega)]
    by_cases h2 : g < 1099511627776
    · rw [if_neg (by omega), if_pos ⟨by omega, h1, h2⟩]
      congr 2; omega
    · rw [if_pos (by omega), if_neg (by omega)]
  · rw [if_pos (by omega), if_neg (by omega)]
theorem refindex_eq {k : Nat} (hk : 60 ≤ k) {h : Int} (hh : 0 ≤ h ∧ h < 18446744073709551616) : treillageref01_Index.f k h = some (h % 16777216) := by
  unfold treillageref01_Index.f
  rw [power_24 hk]
  simp only [Option.bind_some, Int.tmod_eq_emod_of_nonneg hh.1]
  rw [if_neg (by decide)]
  congr 1; unfold wrap64; omega
theorem refgen_eq {k : Nat} (hk : 60 ≤ k) {h : Int} (hh : 0 ≤ h ∧ h < 18446744073709551616) : treillageref01_Gen.f k h = some (h / 16777216) := by
  unfold treillageref01_Gen.f
  rw [power_24 hk]
  simp only [Option.bind_some, Int.tdiv_eq_ediv_of_nonneg hh.1, IntKind.wrap_u64]
  rw [if_neg (by decide)]
  congr 1; omega
theorem refnext_eq {k : Nat} (hk : 60 ≤ k) {h : Int} (hh : 0 ≤ h ∧ h < 18446744073709551616) : treillageref01_Next.f k h = some (nextH h) := by
  unfold treillageref01_Next.f nextH
  rw [refgen_eq hk hh, power_24 hk, power_40 hk]
  simp only [Option.bind_some, IntKind.wrap_u64]
  rw [if_neg (by decide)]
  try rw [if_neg (by decide)]
  rw [Int.tmod_eq_emod_of_nonneg (by omega), Int.tmod_eq_emod_of_nonneg hh.1]
  congr 1; omega

/-! ### narrow numbers -/
def narrow (n bits : Int) : Int := if bits = 8 then (n + 128) % 256 - 128 else if bits = 16 then (n + 32768) % 65536 - 32768 else if bits = 32 then (n + 2147483648) % 4294967296 - 2147483648 else n
theorem narrow_eq {n bits : Int} : pack_Narrow.f n bits = some (narrow n bits) := by
  unfold pack_Narrow.f narrow
  simp only [wrap_i8, wrap_i16, wrap32, wrap64]
  split
  · congr 1; omega
  split
  · congr 1; omega
  split
  · congr 1; omega
  rfl
theorem refnarrow_eq {k : Nat} (hk : 61 ≤ k) {n bits : Int} (hn : -9223372036854775808 ≤ n ∧ n < 9223372036854775808) : treillageref01_Narrow.f k n bits = some (narrow n bits) := by
  obtain ⟨k, rfl⟩ : ∃ m, k = m + 1 := ⟨k - 1, by omega⟩
  have hk : 60 ≤ k := by omega
  have ht : ∀ m : Int, 0 < m → (0 ≤ n → n.tmod m = n % m) ∧ (n < 0 → n.tmod m = -((-n) % m)) := fun m hm => ⟨fun h => Int.tmod_eq_emod_of_nonneg h, fun h => by
    have := Int.neg_tmod (-n) m
    rw [Int.neg_neg] at this
    rw [this, Int.tmod_eq_emod_of_nonneg (show 0 ≤ -n by omega)]⟩
  unfold treillageref01_Narrow.f narrow
  split
  · subst_vars
    simp only [treillageref01_Narrow.j0, Bool.false_eq_true, if_false, power_8 hk, Option.bind_some, show wrap64 256 = 256 from by unfold wrap64; rfl, show Int.tdiv 256 2 = 128 from rfl, show wrap64 128 = 128 from by unfold wrap64; rfl]
    obtain ⟨h1, h2⟩ := ht 256 (by decide)
    rcases Int.lt_or_le n 0 with h0 | h0
    · have := h2 h0
      simp only [this, wrap64]
      repeat' split
      all_goals first | omega | (congr 1; omega)
    · have := h1 h0
      simp only [this, wrap64]
      repeat' split
      all_goals first | omega | (congr 1; omega)
  split
  · subst_vars
    simp only [treillageref01_Narrow.j0, Bool.false_eq_true, if_false, power_16 hk, Option.bind_some, show wrap64 65536 = 65536 from by unfold wrap64; rfl, show Int.tdiv 65536 2 = 32768 from rfl, show wrap64 32768 = 32768 from by unfold wrap64; rfl]
    obtain ⟨h1, h2⟩ := ht 65536 (by decide)
    rcases Int.lt_or_le n 0 with h0 | h0
    · have := h2 h0
      simp only [this, wrap64]
      repeat' split
      all_goals first | omega | (congr 1; omega)
    · have := h1 h0
      simp only [this, wrap64]
      repeat' split
      all_goals first | omega | (congr 1; omega)
  split
  · subst_vars
    simp only [treillageref01_Narrow.j0, show ((32 : Int) != 32) = false from rfl, Bool.false_eq_true, if_false, power_32 hk, Option.bind_some, show wrap64 4294967296 = 4294967296 from by unfold wrap64; rfl, show Int.tdiv 4294967296 2 = 2147483648 from rfl, show wrap64 2147483648 = 2147483648 from by unfold wrap64; rfl]
    obtain ⟨h1, h2⟩ := ht 4294967296 (by decide)
    rcases Int.lt_or_le n 0 with h0 | h0
    · have := h2 h0
      simp only [this, wrap64]
      repeat' split
      all_goals first | omega | (congr 1; omega)
    · have := h1 h0
      simp only [this, wrap64]
      repeat' split
      all_goals first | omega | (congr 1; omega)
  · rename_i h3
    rw [show (bits != 32) = true from by simpa using h3]
    simp [treillageref01_Narrow.j0]

end Go.Proofs.Ythopfipaaboffaa.Pure
