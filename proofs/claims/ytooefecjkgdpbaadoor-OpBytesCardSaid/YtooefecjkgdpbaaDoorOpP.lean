
import Derived.Test.YtooefecjkgdpbaaDoorPAx9
import Derived.Test.YtooefecjkgdpbaaDoorPAx5
import Derived.Test.YtooefecjkgdpbaaDoorBytesM

/-
  What layer 1's printed functions tell, for layer 6: zigzag, and the bytes of numbers, in plain numbers; for every number of rounds that is great enough.
-/
namespace Go.Proofs.YtooefecjkgdpbaaDoor.Pure
set_option linter.unusedVariables false
set_option linter.unusedSimpArgs false
open Go.RowKit Go.Proofs.YtooefecjkgdpbaaDoor.PA Go.Proofs.YtooefecjkgdpbaaDoorW.PrintWords Go.Proofs.YtooefecjkgdpbaaDoorW.PrintLast Go.Proofs.YtooefecjkgdpbaaDoorW.PrintMore Go.Proofs.YtooefecjkgdpbaaDoorH

/-! ### zigzag -/
def zig (a : Int) : Int := if 0 ≤ a then 2 * a else -2 * a - 1
def zag (u : Int) : Int := if u % 2 = 0 then u / 2 else -(u / 2) - 1
theorem zig_eq {a : Int} (h : -9223372036854775808 ≤ a ∧ a < 9223372036854775808) : pack_Zig.f a = some (zig a) := by
  unfold pack_Zig.f zig
  by_cases h0 : 0 ≤ a
  · have e1 : IntKind.u64.wrap (wrap64 (a * 2)) = 2 * a := by rw [IntKind.wrap_u64]; unfold wrap64; omega
    have e2 : IntKind.u64.wrap (a / 9223372036854775808) = 0 := by rw [IntKind.wrap_u64]; omega
    rw [e1, e2, xor_u64_zero _ (by omega) (by omega), if_pos h0]
  · have e1 : IntKind.u64.wrap (wrap64 (a * 2)) = 2 * a + 18446744073709551616 := by rw [IntKind.wrap_u64]; unfold wrap64; omega
    have e2 : IntKind.u64.wrap (a / 9223372036854775808) = 18446744073709551615 := by rw [IntKind.wrap_u64]; omega
    rw [e1, e2, xor_u64_ones _ (by omega) (by omega), if_neg h0]
    congr 1; omega
theorem refzig_eq {a : Int} (h : -9223372036854775808 ≤ a ∧ a < 9223372036854775808) : treillageref01_Zig.f a = some (zig a) := by
  unfold treillageref01_Zig.f zig
  simp only [IntKind.wrap_u64, wrap64]
  by_cases h0 : 0 ≤ a
  · rw [if_pos (by omega), if_pos h0]; congr 1; omega
  · rw [if_neg (by omega), if_neg h0]; congr 1; omega
theorem zag_eq {u : Int} (h : 0 ≤ u ∧ u < 18446744073709551616) : pack_Zag.f u = some (zag u) := by
  unfold pack_Zag.f zag
  have e0 : bits .and .u64 u 1 = u % 2 := mask_u64 1 (by decide) u h.1 h.2
  have e1 : wrap64 (u / 2) = u / 2 := by unfold wrap64; omega
  rw [e0, e1]
  by_cases h0 : u % 2 = 0
  · rw [if_pos h0, show wrap64 (-(wrap64 (u % 2))) = 0 from by unfold wrap64; omega, xor_i64_zero _ (by omega) (by omega)]
  · rw [if_neg h0, show wrap64 (-(wrap64 (u % 2))) = -1 from by unfold wrap64; omega, xor_i64_ones _ (by omega) (by omega)]
    congr 1; omega
theorem zig_range {a : Int} (h : -9223372036854775808 ≤ a ∧ a < 9223372036854775808) : 0 ≤ zig a ∧ zig a < 18446744073709551616 := by unfold zig; split <;> omega
theorem zag_range {u : Int} (h : 0 ≤ u ∧ u < 18446744073709551616) : -9223372036854775808 ≤ zag u ∧ zag u < 9223372036854775808 := by unfold zag; split <;> omega
theorem zag_zig (a : Int) : zag (zig a) = a := by unfold zig zag; split <;> split <;> omega
theorem zig_zag {u : Int} (h : 0 ≤ u) : zig (zag u) = u := by unfold zig zag; split <;> split <;> omega

theorem size_loop (d : Nat) : ∀ (k : Nat) (u c : Int), 0 ≤ u → u < 256 ^ d → 0 ≤ c → c + d ≤ 1000 → d + 1 ≤ k → pack_size.l0 k u c = some (c + (dig d u).length) := by
  induction d with
  | zero =>
    intro k u c h0 h1 hc hcd hk
    obtain ⟨k, rfl⟩ : ∃ m, k = m + 1 := ⟨k - 1, by omega⟩
    have : u = 0 := by simp at h1; omega
    subst this
    simp only [pack_size.l0]
    simp [dig]
  | succ d ih =>
    intro k u c h0 h1 hc hcd hk
    obtain ⟨k, rfl⟩ : ∃ m, k = m + 1 := ⟨k - 1, by omega⟩
    simp only [pack_size.l0]
    unfold dig
    by_cases hu : u = 0
    · rw [if_pos hu, if_pos hu]; simp
    · rw [if_neg hu, if_neg hu, show wrap64 (c + 1) = c + 1 from by unfold wrap64; omega, ih k (u / 256) (c + 1) (by omega) (by rw [Int.pow_succ] at h1; omega) (by omega) (by omega) (by omega)]
      congr 1
      rw [List.length_cons]
      omega
theorem p256 : (256 : Int) ^ 8 = 18446744073709551616 := by decide
/-- The bytes of a number: how many, and they. -/
def bytes (u : Int) : List Int := ((dig 8 u).length : Int) :: dig 8 u
theorem bytes_bts (u : Int) : Bts (bytes u) := Bts.cons (by have := dig_len 8 u; omega) (dig_bts 8 u)
theorem size_eq {k : Nat} (hk : 60 ≤ k) {u : Int} (hu : 0 ≤ u ∧ u < 18446744073709551616) : pack_size.f k u = some ((dig 8 u).length : Int) := by
  unfold pack_size.f
  rw [size_loop 8 k u 0 hu.1 (by rw [p256]; exact hu.2) (by omega) (by omega) (by omega)]
  simp
theorem bytes_eq {k : Nat} (hk : 60 ≤ k) {u : Int} (hu : 0 ≤ u ∧ u < 18446744073709551616) : pack_Bytes.f k u = some (strOfNums (bytes u)) := by
  unfold pack_Bytes.f
  rw [size_eq hk hu]
  have hl := dig_len 8 u
  simp only [Option.bind_some]
  rw [if_pos (by omega)]
  unfold packB bytes
  rw [Int.toNat_natCast, dig_range 8 u hu.1 (by rw [p256]; exact hu.2)]
theorem refbytes_loop (d : Nat) : ∀ (k : Nat) (u : Int) (c : Int) (pre : List Int), 0 ≤ u → u < 256 ^ d → 0 ≤ c → c + d ≤ 255 → pre.length + d ≤ 100 → d ≤ 8 → d + 1 ≤ k →
    treillageref01_Bytes.l0 k u (c :: pre) = some (strOfNums ((c + (dig d u).length) :: (pre ++ dig d u))) := by
  induction d with
  | zero =>
    intro k u c pre h0 h1 hc hcd hp _ hk
    obtain ⟨k, rfl⟩ : ∃ m, k = m + 1 := ⟨k - 1, by omega⟩
    have : u = 0 := by simp at h1; omega
    subst this
    simp only [treillageref01_Bytes.l0]
    simp [dig]
  | succ d ih =>
    intro k u c pre h0 h1 hc hcd hp hd hk
    obtain ⟨k, rfl⟩ : ∃ m, k = m + 1 := ⟨k - 1, by omega⟩
    simp only [treillageref01_Bytes.l0]
    unfold dig
    by_cases hu : u = 0
    · subst hu
      rw [if_neg (by decide), if_pos rfl]
      simp
    · have hpw : (256 : Int) ^ (d + 1) ≤ 256 ^ 8 := by
        have : ((256 ^ (d + 1) : Nat) : Int) ≤ ((256 ^ 8 : Nat) : Int) := Int.ofNat_le.2 (Nat.pow_le_pow_right (by decide) hd)
        rwa [Int.natCast_pow, Int.natCast_pow] at this
      rw [p256] at hpw
      rw [if_pos (by omega), if_neg hu, if_pos (by simp only [List.length_cons]; omega)]
      simp only [Option.bind_some]
      rw [if_pos (by simp only [List.length_append, List.length_cons]; omega)]
      rw [Int.tmod_eq_emod_of_nonneg h0, Int.tdiv_eq_ediv_of_nonneg h0]
      have e1 : u % 256 % 256 = u % 256 := by omega
      have e2 : IntKind.u64.wrap (u / 256) = u / 256 := by rw [IntKind.wrap_u64]; omega
      have e3 : rd (c :: pre ++ [u % 256 % 256]) 0 = c := rfl
      have e4 : (c + 1) % 256 = c + 1 := by omega
      rw [e3, e4, e1, e2]
      have e5 : (c :: pre ++ [u % 256]).set (0 : Int).toNat (c + 1) = (c + 1) :: (pre ++ [u % 256]) := rfl
      rw [e5, ih k (u / 256) (c + 1) (pre ++ [u % 256]) (by omega) (by rw [Int.pow_succ] at h1; omega) (by omega) (by omega) (by simp only [List.length_append, List.length_cons, List.length_nil]; omega) (by omega) (by omega)]
      rw [List.length_cons, List.append_assoc]
      congr 3
      omega
theorem refbytes_eq {k : Nat} (hk : 60 ≤ k) {u : Int} (hu : 0 ≤ u ∧ u < 18446744073709551616) : treillageref01_Bytes.f k u = some (strOfNums (bytes u)) := by
  unfold treillageref01_Bytes.f
  rw [refbytes_loop 8 k u 0 [] hu.1 (by rw [p256]; exact hu.2) (by omega) (by omega) (by simp) (by omega) (by omega)]
  unfold bytes
  simp

theorem val_drop {tl : List Int} {d : Nat} (h : d < tl.length) : val (tl.drop d) = tl.getD d 0 + 256 * val (tl.drop (d + 1)) := by
  rw [List.drop_eq_getElem_cons h]
  simp only [val]
  rw [List.getD_eq_getElem?_getD, List.getElem?_eq_getElem h]
  rfl
theorem bts_drop {tl : List Int} (h : Bts tl) (d : Nat) : Bts (tl.drop d) := fun x hx => h x (List.mem_of_mem_drop hx)
theorem bts_get {tl : List Int} (h : Bts tl) (d : Nat) : 0 ≤ tl.getD d 0 ∧ tl.getD d 0 < 256 := by
  rw [List.getD_eq_getElem?_getD]
  rcases Nat.lt_or_ge d tl.length with hd | hd
  · rw [List.getElem?_eq_getElem hd]; exact h _ (List.getElem_mem hd)
  · rw [List.getElem?_eq_none hd]; decide
theorem val_small {tl : List Int} (h : Bts tl) (h8 : tl.length ≤ 8) : 0 ≤ val tl ∧ val tl < 18446744073709551616 := by
  refine ⟨val_nonneg h, Int.lt_of_lt_of_le (val_lt h) ?_⟩
  rw [← p256]
  have : ((256 ^ tl.length : Nat) : Int) ≤ ((256 ^ 8 : Nat) : Int) := Int.ofNat_le.2 (Nat.pow_le_pow_right (by decide) h8)
  rwa [Int.natCast_pow, Int.natCast_pow] at this
theorem val_step {tl : List Int} {d : Nat} (h : Bts tl) (h8 : tl.length ≤ 8) (hd : d < tl.length) : 0 ≤ val (tl.drop (d + 1)) ∧ val (tl.drop (d + 1)) * 256 + 255 < 18446744073709551616 := by
  have h1 := val_small (bts_drop h d) (by rw [List.length_drop]; omega)
  have h2 := val_nonneg (bts_drop h (d + 1))
  have h3 := val_lt (bts_drop h (d + 1))
  refine ⟨h2, ?_⟩
  have h4 : (256 : Int) ^ (tl.drop (d + 1)).length ≤ 256 ^ 7 := by
    have : ((256 ^ (tl.drop (d + 1)).length : Nat) : Int) ≤ ((256 ^ 7 : Nat) : Int) := Int.ofNat_le.2 (Nat.pow_le_pow_right (by decide) (by rw [List.length_drop]; omega))
    rwa [Int.natCast_pow, Int.natCast_pow] at this
  have h5 : (256 : Int) ^ 7 = 72057594037927936 := by decide
  omega
def backOf (b : Int) (tl : List Int) : Int × Bool := if b = tl.length ∧ tl.length ≤ 8 ∧ dig 8 (val tl) = tl then (val tl, true) else (0, false)
section
variable {b : Int} {tl : List Int} (hb : Bts (b :: tl)) (h8 : tl.length ≤ 8)
include hb h8
theorem back_loop (d : Nat) : ∀ (k : Nat), d ≤ tl.length → d + 62 ≤ k → pack_Back.l0 k (strOfNums (b :: tl)) (val (tl.drop d)) d = some (if dig 8 (val tl) = tl then (val tl, true) else (0, false)) := by
  induction d with
  | zero =>
    intro k _ hk
    obtain ⟨k, rfl⟩ : ∃ m, k = m + 1 := ⟨k - 1, by omega⟩
    simp only [pack_Back.l0, List.drop_zero]
    rw [if_neg (by decide), size_eq (by omega) (val_small hb.tail h8)]
    simp only [Option.bind_some, strOfNums_size, List.length_cons]
    have hw : wrap64 (((tl.length + 1 : Nat) : Int) - 1) = tl.length := by unfold wrap64; omega
    rw [hw]
    by_cases h : dig 8 (val tl) = tl
    · rw [if_pos (by rw [h]), if_pos h]
    · rw [if_neg (fun e => h ((dig_iff hb.tail h8).1 (by omega))), if_neg h]
  | succ d ih =>
    intro k hd hk
    obtain ⟨k, rfl⟩ : ∃ m, k = m + 1 := ⟨k - 1, by omega⟩
    simp only [pack_Back.l0]
    have hv := val_step hb.tail h8 (show d < tl.length by omega)
    have hg := bts_get hb.tail d
    rw [if_pos (by omega), if_pos (by omega), if_pos (by rw [strOfNums_size, List.length_cons]; omega), bt_strOfNums hb]
    have e1 : rd (b :: tl) ((d + 1 : Nat) : Int) = tl.getD d 0 := rfl
    have e2 : IntKind.u64.wrap (val (tl.drop (d + 1)) * 256) = val (tl.drop (d + 1)) * 256 := by rw [IntKind.wrap_u64]; omega
    have e3 : IntKind.u64.wrap (tl.getD d 0) = tl.getD d 0 := by rw [IntKind.wrap_u64]; omega
    rw [e1, e2, e3, join_u64 8 (by decide) _ _ (by omega) (by show _ % 256 = 0; omega) (by omega) hg.1 (by show _ < 256; omega)]
    rw [show wrap64 (((d + 1 : Nat) : Int) - 1) = d from by unfold wrap64; omega]
    rw [show val (tl.drop (d + 1)) * 256 + tl.getD d 0 = val (tl.drop d) from by rw [val_drop (show d < tl.length by omega)]; omega]
    exact ih k (by omega) (by omega)
end
theorem back_eq {k : Nat} (hk : 80 ≤ k) {b : Int} {tl : List Int} (hb : Bts (b :: tl)) (hl : tl.length ≤ 140737488351232) : pack_Back.f k (strOfNums (b :: tl)) = some (backOf b tl) := by
  obtain ⟨k, rfl⟩ : ∃ m, k = m + 1 := ⟨k - 1, by omega⟩
  unfold pack_Back.f backOf
  simp only [pack_Back.j0, strOfNums_size, List.length_cons]
  rw [if_neg (by omega)]
  by_cases h9 : tl.length ≤ 8
  · rw [if_neg (by omega), if_pos (by omega), bt_strOfNums hb]
    have e1 : rd (b :: tl) 0 = b := rfl
    have hbb := hb.head
    have e2 : wrap64 b = b := by unfold wrap64; omega
    have e3 : wrap64 (((tl.length + 1 : Nat) : Int) - 1) = tl.length := by unfold wrap64; omega
    rw [e1, e2, e3]
    by_cases h : b = tl.length
    · rw [if_neg (by simpa using h)]
      have := back_loop hb h9 tl.length k (Nat.le_refl _) (by omega)
      rw [List.drop_length] at this
      rw [show (0 : Int) = val [] from rfl, this]
      by_cases hd : dig 8 (val tl) = tl
      · rw [if_pos hd, if_pos ⟨h, h9, hd⟩]
      · rw [if_neg hd, if_neg (fun e => hd e.2.2)]
        rfl
    · rw [if_pos (by simpa using h), if_neg (fun e => h e.1)]
  · rw [if_pos (by omega), if_pos trivial, if_neg (fun e => h9 e.2.1)]
end Go.Proofs.YtooefecjkgdpbaaDoor.Pure
