
import Derived.Test.YtooefecjkgdpbaaDoorCards
import Derived.Test.YtooefecjkgdpbaaDoorTie
import Derived.Test.YtooefecjkgdpbaaDoorBuild
import Derived.LaidMore
import Derived.LaidLaws
import Derived.ProofKit
import Derived.MakeChecks

/-
  The tables of the library that the rows of this seat list: the table of tens is what a walk is given; and a world that has them.
-/
namespace Go.Proofs.YtooefecjkgdpbaaDoorH
set_option linter.unusedVariables false
open Go.RowKit
theorem laidG0 : Tryd.prog.globalNamed "internal/strconv.uint64pow10" = some 0 := by kernel_rfl
theorem laidT0 : (Tryd.prog.globals[0]?).map (·.type) = some 92 := by kernel_rfl
/-- What the rows list. -/
def laidAll {H : Type} : List (String × DataW H) := [("math/bits.deBruijn32tab", Go.Proofs.YtooefecjkgdpbaaDoor.Rows.laid_math_bits_deBruijn32tab), ("math/bits.deBruijn64tab", Go.Proofs.YtooefecjkgdpbaaDoor.Rows.laid_math_bits_deBruijn64tab), ("internal/strconv.uint64pow10", Go.Proofs.YtooefecjkgdpbaaDoor.Rows.laid_internal_strconv_uint64pow10)]
theorem tab_data : (Go.Proofs.YtooefecjkgdpbaaDoor.Rows.laid_internal_strconv_uint64pow10 : DataW Unit) = Lib.tabData .u64 Lib.pow10Tab := by rfl
theorem tab_of_laid {W : World} (h : laidMetH Tryd.prog laidAll W) : Tab W := by
  rw [MakeChecks.laidMetH_plain _ _ _ (by kernel_rfl)] at h
  obtain ⟨ps, ⟨_, _, _, _, _, _, _, _, _, _, ⟨_, _, _, _, _, _, _, _, _, _, ⟨g2, t2, cs2, f2, p2, q2, hg2, ht2, hv2, hd2, _⟩, _⟩, _⟩, _⟩ := h
  obtain rfl := Option.some.inj (laidG0.symm.trans hg2)
  obtain rfl := Option.some.inj (laidT0.symm.trans ht2)
  rw [tab_data] at hd2
  unfold Tab Lib.TabIs
  rw [hv2, ← Lib.cells_of_tab Tryd.underlying92 Tryd.underlying67 (by kernel_rfl) (by kernel_rfl) hd2]
theorem door_met (os : Os) (args : Array Value) : laidMetH Tryd.prog laidAll ((World.doorLaid Tryd.prog 4000 os).forCall (fun _ _ => 0) ⟨#[], args, []⟩).memory :=
  laidMetH_of_parts (laidMet_of_run' 8 (by kernel_rfl) (by kernel_rfl)) (by kernel_rfl)
end Go.Proofs.YtooefecjkgdpbaaDoorH
