
import Derived.Test.YtooefecjkgdpbaaDoorOpD

/-
  Layer 6: what is shown is true, for every number of rounds that is great enough.
-/
namespace Go.Proofs.YtooefecjkgdpbaaDoor.Pure
set_option linter.unusedVariables false
set_option linter.unusedSimpArgs false
open Go.RowKit Go.Proofs.YtooefecjkgdpbaaDoor.PA Go.Proofs.YtooefecjkgdpbaaDoorW.PrintWords Go.Proofs.YtooefecjkgdpbaaDoorW.PrintLast Go.Proofs.YtooefecjkgdpbaaDoorW.PrintMore Go.Proofs.YtooefecjkgdpbaaDoorH

theorem itoa_3 : itoaB 3 = (⟨#[51]⟩ : ByteArray) := by
  unfold itoaB Lib.itoa
  rw [if_neg (by decide), show (3 : Int).toNat = 3 from rfl, dec_small 3 (by decide)]
  rfl
theorem itoa_0 : itoaB 0 = (⟨#[48]⟩ : ByteArray) := by
  unfold itoaB Lib.itoa
  rw [if_neg (by decide), show (0 : Int).toNat = 0 from rfl, dec_small 0 (by decide)]
  rfl
theorem itoa_m1 : itoaB (-1) = (⟨#[45, 49]⟩ : ByteArray) := by
  unfold itoaB Lib.itoa
  rw [if_pos (by decide), show (-1 : Int).natAbs = 1 from rfl, dec_small 1 (by decide)]
  rfl
theorem print_shown : op_Print.f 4 3 0 (-1) (⟨#[]⟩ : ByteArray) (⟨#[]⟩ : ByteArray) = some (⟨#[105, 110, 115, 101, 114, 116, 32, 51, 32, 48, 32, 45, 49]⟩ : ByteArray) := by
  unfold op_Print.f
  rw [if_pos (by decide +kernel), if_pos (by decide)]
  unfold opPrint
  rw [show shpW 4 = (⟨#[105, 110, 115, 101, 114, 116]⟩ : ByteArray) by decide +kernel, show shpN 4 = 3 by decide, show shpS 4 = false by decide, show shpT 4 = false by decide]
  unfold addNum addText
  rw [itoa_3, itoa_0, itoa_m1]
  decide +kernel
theorem enc_shown : op_Encode.f 100 [(⟨4, 3, 0, (-1), (⟨#[]⟩ : ByteArray), (⟨#[]⟩ : ByteArray)⟩ : S23)] = some ((⟨#[4, 1, 6, 0, 1, 1]⟩ : ByteArray), 0) := by kernel_rfl
theorem dec_shown : op_Decode.f 100 (⟨#[4, 1, 6, 0, 1, 1]⟩ : ByteArray) = some ([(⟨4, 3, 0, (-1), (⟨#[]⟩ : ByteArray), (⟨#[]⟩ : ByteArray)⟩ : S23)], 0) := by kernel_rfl
theorem toList_lit (l : List UInt8) : (⟨l.toArray⟩ : ByteArray).toList = l := by rw [ByteArray.toList_eq]
theorem shown_100 : treillagelaw06_shown.f 100 = some true := by
  unfold treillagelaw06_shown.f
  rw [enc_shown, Option.bind_some]
  simp only
  rw [dec_shown, Option.bind_some]
  simp only
  rw [if_pos trivial, if_pos trivial, if_pos (toList_lit [4, 1, 6, 0, 1, 1]), if_pos (by decide), if_pos (by decide), if_pos (by decide +kernel), print_shown, Option.bind_some, toList_lit [105, 110, 115, 101, 114, 116, 32, 51, 32, 48, 32, 45, 49]]
  rfl
theorem shown_k {k : Nat} (hk : 100 ≤ k) : treillagelaw06_shown.f k = some true := at_rounds treillagelaw06_shown.mono hk shown_100
end Go.Proofs.YtooefecjkgdpbaaDoor.Pure
