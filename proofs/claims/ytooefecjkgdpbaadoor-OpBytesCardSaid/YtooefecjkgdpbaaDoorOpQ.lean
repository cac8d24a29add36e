
import Derived.Test.YtooefecjkgdpbaaDoorOpP
import Derived.Test.YtooefecjkgdpbaaDoorPAx11
/-
  What layer 1's printed functions tell, for layer 6: the reference's numbers off bytes; for every number of rounds that is great enough.
-/
namespace Go.Proofs.YtooefecjkgdpbaaDoor.Pure
set_option linter.unusedVariables false
set_option linter.unusedSimpArgs false
open Go.RowKit Go.Proofs.YtooefecjkgdpbaaDoor.PA Go.Proofs.YtooefecjkgdpbaaDoorW.PrintWords Go.Proofs.YtooefecjkgdpbaaDoorW.PrintLast Go.Proofs.YtooefecjkgdpbaaDoorW.PrintMore Go.Proofs.YtooefecjkgdpbaaDoorH

theorem refzag_eq {u : Int} (h : 0 ≤ u ∧ u < 18446744073709551616) : treillageref01_Zag.f u = some (zag u) := by
  unfold treillageref01_Zag.f zag
  simp only [IntKind.wrap_u64, wrap64, Int.tmod_eq_emod_of_nonneg h.1, Int.tdiv_eq_ediv_of_nonneg h.1]
  by_cases h0 : u % 2 = 0
  · rw [if_pos h0, if_pos h0]; congr 1; omega
  · rw [if_neg h0, if_neg h0]; congr 1; omega
section
variable {b : Int} {tl : List Int} (hb : Bts (b :: tl)) (h8 : tl.length ≤ 8)
include hb h8
theorem refback_loop (d : Nat) : ∀ (k : Nat), d ≤ tl.length → d + 62 ≤ k → treillageref01_Back.l0 k (strOfNums (b :: tl)) (val (tl.drop d)) d = some (backOf b tl) := by
  induction d with
  | zero =>
    intro k _ hk
    obtain ⟨k, rfl⟩ : ∃ m, k = m + 1 := ⟨k - 1, by omega⟩
    simp only [treillageref01_Back.l0, List.drop_zero]
    rw [if_neg (by decide), refbytes_eq (by omega) (val_small hb.tail h8)]
    simp only [Option.bind_some, str_toList_iff, strOfNums_inj (bytes_bts _) hb]
    unfold backOf bytes
    by_cases h : dig 8 (val tl) = tl
    · by_cases h2 : b = tl.length
      · rw [if_pos (by rw [h, h2]), if_pos ⟨h2, h8, h⟩]
      · rw [if_neg (fun e => h2 (by injection e with e _; rw [h] at e; omega)), if_neg (fun e => h2 e.1)]
    · rw [if_neg (fun e => h (by injection e)), if_neg (fun e => h e.2.2)]
  | succ d ih =>
    intro k hd hk
    obtain ⟨k, rfl⟩ : ∃ m, k = m + 1 := ⟨k - 1, by omega⟩
    simp only [treillageref01_Back.l0]
    have hv := val_step hb.tail h8 (show d < tl.length by omega)
    have hg := bts_get hb.tail d
    rw [if_pos (by omega), if_pos (by rw [strOfNums_size, List.length_cons]; omega), if_pos (by omega), if_pos (by rw [strOfNums_size, List.length_cons]; omega), bt_strOfNums hb]
    have e1 : rd (b :: tl) ((d + 1 : Nat) : Int) = tl.getD d 0 := rfl
    rw [e1, show wrap64 (((d + 1 : Nat) : Int) - 1) = d from by unfold wrap64; omega]
    rw [show IntKind.u64.wrap (IntKind.u64.wrap (val (tl.drop (d + 1)) * 256) + IntKind.u64.wrap (tl.getD d 0)) = val (tl.drop d) from by
      rw [val_drop (show d < tl.length by omega)]; simp only [IntKind.wrap_u64]; omega]
    exact ih k (by omega) (by omega)
end
theorem refback_eq {k : Nat} (hk : 80 ≤ k) {b : Int} {tl : List Int} (hb : Bts (b :: tl)) (hl : tl.length ≤ 140737488351232) : treillageref01_Back.f k (strOfNums (b :: tl)) = some (backOf b tl) := by
  unfold treillageref01_Back.f
  simp only [strOfNums_size, List.length_cons]
  have e3 : wrap64 (((tl.length + 1 : Nat) : Int) - 1) = tl.length := by unfold wrap64; omega
  rw [e3]
  by_cases h9 : tl.length ≤ 8
  · have := refback_loop hb h9 tl.length k (Nat.le_refl _) (by omega)
    rw [List.drop_length] at this
    exact this
  · obtain ⟨k, rfl⟩ : ∃ m, k = m + 1 := ⟨k - 1, by omega⟩
    simp only [treillageref01_Back.l0]
    rw [if_pos (show (tl.length : Int) ≥ 1 by omega), if_neg (by rw [strOfNums_size, List.length_cons]; omega), refbytes_eq (by omega) (by decide)]
    simp only [Option.bind_some, str_toList_iff, strOfNums_inj (bytes_bts _) hb]
    unfold backOf
    rw [if_neg (by
      intro e
      have hl := congrArg List.length e
      rw [show bytes 0 = [0] from rfl] at hl
      simp only [List.length_cons, List.length_nil] at hl
      omega), if_neg (fun e => h9 e.2.1)]
theorem back_empty {k : Nat} (hk : 80 ≤ k) : pack_Back.f k (strOfNums []) = some (0, false) ∧ treillageref01_Back.f k (strOfNums []) = some (0, false) := by
  obtain ⟨k, rfl⟩ : ∃ m, k = m + 1 := ⟨k - 1, by omega⟩
  constructor
  · unfold pack_Back.f
    simp only [pack_Back.j0, strOfNums_size, List.length_nil]
    rfl
  · unfold treillageref01_Back.f
    simp only [treillageref01_Back.l0, strOfNums_size, List.length_nil]
    rw [if_neg (by unfold wrap64; decide), refbytes_eq (by omega) (by decide)]
    simp only [Option.bind_some, str_toList_iff, strOfNums_inj (bytes_bts _) Bts.nil]
    rw [if_neg (by unfold bytes; exact fun e => by cases e)]
end Go.Proofs.YtooefecjkgdpbaaDoor.Pure
