/-
  What may not be has no bytes, and no words; what may has some.
-/
import Derived.Test.YtooefecjkgdpbaaDoorOpS
import Derived.Test.YtooefecjkgdpbaaDoorPAx14
import Derived.Test.YtooefecjkgdpbaaDoorWfOpMay
namespace Go.Proofs.YtooefecjkgdpbaaDoor.opMay
set_option linter.unusedVariables false
open Go.RowKit Go.Proofs.YtooefecjkgdpbaaDoor.PA Go.Proofs.YtooefecjkgdpbaaDoorW.PrintWords Go.Proofs.YtooefecjkgdpbaaDoorW.PrintLast Go.Proofs.YtooefecjkgdpbaaDoorW.PrintMore Go.Proofs.YtooefecjkgdpbaaDoorH Go.Proofs.YtooefecjkgdpbaaDoor.Pure

theorem app_size (a b : ByteArray) : (a ++ b).size = a.size + b.size := ByteArray.size_append
theorem addNum_le (c : Bool) (n : Int) (acc : ByteArray) : acc.size ≤ (addNum c n acc).size := by
  unfold addNum
  split
  · rw [app_size]
    omega
  · omega
theorem addText_le (c : Bool) (s acc : ByteArray) : acc.size ≤ (addText c s acc).size := by
  unfold addText
  split
  · rw [app_size]
    omega
  · omega
theorem shpW_pos {n : Int} (h : 1 ≤ n ∧ n ≤ 8) : 1 ≤ (shpW n).size := by
  obtain rfl | rfl | rfl | rfl | rfl | rfl | rfl | rfl : n = 1 ∨ n = 2 ∨ n = 3 ∨ n = 4 ∨ n = 5 ∨ n = 6 ∨ n = 7 ∨ n = 8 := by omega
  all_goals decide +kernel
theorem toList_ne {s : ByteArray} (h : 1 ≤ s.size) : (s.toList != ([] : List UInt8)) = true := by
  rw [bne_iff_ne, ByteArray.toList_eq]
  intro e
  have := congrArg List.length e
  rw [Array.length_toList] at this
  simp only [ByteArray.size] at h
  simp only [List.length_nil] at this
  omega
theorem toList_no : ((⟨#[]⟩ : ByteArray).toList != ([] : List UInt8)) = false := by
  rw [ByteArray.toList_eq]
  rfl
theorem pure : ∀ (x0 : S23), wf23 x0 → ∃ k : Nat, PA.treillagelaw06_OpMay.f k x0.f0 x0.f1 x0.f2 x0.f3 x0.f4 x0.f5 = some true := by
  intro x0 ⟨h0, h1, h2, h3, _⟩
  replace h0 := wf64 h0
  replace h1 := wf64 h1
  replace h2 := wf64 h2
  replace h3 := wf64 h3
  refine ⟨201, ?_⟩
  unfold treillagelaw06_OpMay.f
  obtain ⟨b, hb, _⟩ := bounded_eq (k := 201) [(⟨x0.f0, x0.f1, x0.f2, x0.f3, x0.f4, x0.f5⟩ : S23)] (by simp) (by simp)
  rw [hb, Option.bind_some, shown_k (by decide), Option.bind_some]
  cases b
  · rw [if_neg (by decide)]
    simp only [treillagelaw06_OpMay.j0]
    rw [if_pos trivial, shown_k (by decide)]
    rfl
  · rw [if_pos rfl]
    simp only [treillagelaw06_OpMay.j0]
    rw [if_neg (by decide), encode_eq (by decide) _ (by intro o ho; rw [List.mem_singleton] at ho; subst ho; exact ⟨h0, h1, h2, h3⟩), Option.bind_some]
    unfold op_May.f encR
    rw [if_neg (by simp)]
    simp only [Option.bind_some, List.all_cons, List.all_nil, Bool.and_true]
    rw [show mayO (⟨x0.f0, x0.f1, x0.f2, x0.f3, x0.f4, x0.f5⟩ : S23) = opMay x0.f0 x0.f1 x0.f2 x0.f3 x0.f4 x0.f5 from rfl]
    by_cases hm : opMay x0.f0 x0.f1 x0.f2 x0.f3 x0.f4 x0.f5 = true
    · have hk := opMay_kind _ _ _ _ _ _ hm
      have hp : op_Print.f x0.f0 x0.f1 x0.f2 x0.f3 x0.f4 x0.f5 = some (opPrint x0.f0 x0.f1 x0.f2 x0.f3 x0.f4 x0.f5) := by
        unfold op_Print.f
        rw [if_pos hm, if_pos (by omega)]
      have hps : 1 ≤ (opPrint x0.f0 x0.f1 x0.f2 x0.f3 x0.f4 x0.f5).size := by
        unfold opPrint
        exact Nat.le_trans (shpW_pos ⟨hk.1, hk.2.1⟩) (Nat.le_trans (addNum_le _ _ _) (Nat.le_trans (addNum_le _ _ _) (Nat.le_trans (addNum_le _ _ _) (Nat.le_trans (addText_le _ _ _) (addText_le _ _ _)))))
      rw [hm, hp, Option.bind_some]
      simp only [if_true]
      rw [toList_ne hps, toList_ne (by rw [strOfNums_size]; simp [encsI, encI])]
      rfl
    · have hm0 : opMay x0.f0 x0.f1 x0.f2 x0.f3 x0.f4 x0.f5 = false := by simpa using hm
      have hp : op_Print.f x0.f0 x0.f1 x0.f2 x0.f3 x0.f4 x0.f5 = some ⟨#[]⟩ := by
        unfold op_Print.f
        rw [if_neg hm]
      rw [hm0, hp, Option.bind_some]
      simp only [Bool.false_eq_true, if_false]
      rw [toList_no]
      rfl
end Go.Proofs.YtooefecjkgdpbaaDoor.opMay
