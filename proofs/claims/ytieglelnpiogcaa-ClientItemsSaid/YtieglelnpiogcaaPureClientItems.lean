/-
  ClientItems, the plain law: the items of any numbers, and which ones any item is of, are the document's; they come back. No condition.
-/
import Derived.Test.YtieglelnpiogcaaMath
import Derived.Test.YtieglelnpiogcaaPBx10
namespace Go.Proofs.Ytieglelnpiogcaa.Pure
set_option linter.unusedVariables false
set_option linter.unusedSimpArgs false
open Go.RowKit Go.Proofs.Ytieglelnpiogcaa.PB Go.Proofs.YtieglelnpiogcaaW.PrintWords Go.Proofs.YtieglelnpiogcaaW.PrintLast Go.Proofs.YtieglelnpiogcaaW.PrintMore Go.Proofs.YtieglelnpiogcaaH

theorem itemVal (a0 a1 : Int) : Go.bits .or .u64 (IntKind.u64.wrap ((IntKind.u64.wrap (a0)) * 65536)) (Go.bits .and .u64 (IntKind.u64.wrap (a1)) 65535) = a0 % 281474976710656 * 65536 + a1 % 65536 := by
  have h1 := mask_u64 16 (by decide) (IntKind.u64.wrap a1) (by rw [IntKind.wrap_u64]; omega) (by rw [IntKind.wrap_u64]; omega)
  have e1 : Go.bits .and .u64 (IntKind.u64.wrap (a1)) 65535 = a1 % 65536 := by
    refine h1.trans ?_
    rw [IntKind.wrap_u64]
    simp only [Int.reducePow]
    omega
  have e2 : IntKind.u64.wrap ((IntKind.u64.wrap (a0)) * 65536) = a0 % 281474976710656 * 65536 := by
    rw [IntKind.wrap_u64, IntKind.wrap_u64]
    omega
  rw [e1, e2, join_u64 16 (by decide) _ _ (by omega) (by simp only [Int.reducePow]; omega) (by omega) (by omega) (by simp only [Int.reducePow]; omega)]
theorem item_eq (a0 a1 : Int) : client_Item.f a0 a1 = some (a0 % 281474976710656 * 65536 + a1 % 65536) := congrArg some (itemVal a0 a1)
theorem refItem_eq (a0 a1 : Int) : treillageref17_Item.f a0 a1 = some (a0 % 281474976710656 * 65536 + a1 % 65536) := by
  unfold treillageref17_Item.f
  have h : 0 ≤ IntKind.u64.wrap a1 := by rw [IntKind.wrap_u64]; omega
  rw [Int.tmod_eq_emod_of_nonneg h]
  simp only [IntKind.wrap_u64]
  congr 1
  omega
theorem from_eq (a : Int) (h0 : 0 ≤ a) (h1 : a < 18446744073709551616) : client_From.f a = some (a / 65536, a % 65536) := by
  unfold client_From.f
  have e := mask_u64 16 (by decide) a h0 h1
  rw [show Go.bits .and .u64 a 65535 = a % 65536 from e]
  unfold wrap64
  congr 1
  refine Prod.ext ?_ ?_ <;> simp only <;> omega
theorem refFrom_eq (a : Int) (h0 : 0 ≤ a) (h1 : a < 18446744073709551616) : treillageref17_From.f a = some (a / 65536, a % 65536) := by
  unfold treillageref17_From.f
  rw [Int.tdiv_eq_ediv_of_nonneg h0, Int.tmod_eq_emod_of_nonneg h0, IntKind.wrap_u64]
  unfold wrap64
  congr 1
  refine Prod.ext ?_ ?_ <;> simp only <;> omega
theorem shown17 : treillagelaw17_shown.f 40 = some true := by decide +kernel
theorem ClientItems : treillagelaw17_ClientItems.Pure := by
  intro a0 a1 a2 h0 h1 h2
  obtain ⟨u0, u1⟩ := wf_u64 h2
  refine ⟨40, ?_⟩
  unfold treillagelaw17_ClientItems.f
  rw [from_eq a2 u0 u1, Option.bind_some, refFrom_eq a2 u0 u1, Option.bind_some, item_eq, Option.bind_some, from_eq _ (by omega) (by omega), Option.bind_some, refItem_eq]
  simp only [Option.bind_some, shown17, if_true]
  by_cases c0 : a0 ≥ 0
  · rw [if_pos c0]
    by_cases c1 : a0 < 4
    · rw [if_pos c1]
      by_cases c2 : a1 ≥ 0
      · rw [if_pos c2]
        by_cases c3 : a1 < 65536
        · rw [if_pos c3, if_pos (by omega), if_pos (by omega)]
        · rw [if_neg c3]
      · rw [if_neg c2]
    · rw [if_neg c1]
  · rw [if_neg c0]

end Go.Proofs.Ytieglelnpiogcaa.Pure
