
import Derived.Test.YtooefecjkgdpbaaDoorOpS
import Derived.Test.YtooefecjkgdpbaaDoorOpI
import Derived.Test.YtooefecjkgdpbaaDoorPAx15
import Derived.Test.YtooefecjkgdpbaaDoorWfOpApart
/-
  Unlike lists of operations have unlike bytes.
-/
namespace Go.Proofs.YtooefecjkgdpbaaDoor.opApart
set_option linter.unusedVariables false
set_option linter.unusedSimpArgs false
open Go.RowKit Go.Proofs.YtooefecjkgdpbaaDoor.PA Go.Proofs.YtooefecjkgdpbaaDoorW.PrintWords Go.Proofs.YtooefecjkgdpbaaDoorW.PrintLast Go.Proofs.YtooefecjkgdpbaaDoorW.PrintMore Go.Proofs.YtooefecjkgdpbaaDoorH Go.Proofs.YtooefecjkgdpbaaDoor.Pure

theorem j0_true {k : Nat} (hk : 201 ≤ k) (x0 x1 : List OpT) : treillagelaw06_OpApart.j0 k x0 x1 true = some true := by
  obtain ⟨n, rfl⟩ : ∃ n, k = n + 1 := ⟨k - 1, by omega⟩
  simp only [treillagelaw06_OpApart.j0]
  rw [if_pos trivial, shown_k (by omega)]
  rfl
theorem tl_nil : (⟨#[]⟩ : ByteArray).toList = ([] : List UInt8) := by rw [ByteArray.toList_eq]
/-- What Encode tells, in three kinds. -/
theorem encR_or (l : List OpT) : (encR l = (strOfNums (encsI l), 0) ∧ l.all mayO = true ∧ l.length ≤ 20) ∨ ∃ e : Int, e ≠ 0 ∧ encR l = (⟨#[]⟩, e) := by
  unfold encR
  by_cases h : 20 < l.length
  · rw [if_pos h]
    exact Or.inr ⟨2, by decide, rfl⟩
  · rw [if_neg h]
    by_cases hm : l.all mayO = true
    · rw [if_pos hm]
      exact Or.inl ⟨rfl, hm, by omega⟩
    · rw [if_neg hm]
      exact Or.inr ⟨1, by decide, rfl⟩
theorem j0_false {k : Nat} (hk : 201 ≤ k) (x0 x1 : List OpT) (h0 : ∀ o ∈ x0, OkO o) (h1 : ∀ o ∈ x1, OkO o) (l0 : x0.length ≤ 25) (l1 : x1.length ≤ 25) : treillagelaw06_OpApart.j0 k x0 x1 false = some true := by
  obtain ⟨n, rfl⟩ : ∃ n, k = n + 2 := ⟨k - 2, by omega⟩
  simp only [treillagelaw06_OpApart.j0]
  rw [if_neg (by decide), encode_eq (by omega) x0 h0, Option.bind_some, encode_eq (by omega) x1 h1, Option.bind_some]
  rcases encR_or x0 with ⟨e0, m0, n0⟩ | ⟨v0, z0, e0⟩
  · rw [e0]
    simp only
    rw [if_pos trivial]
    rcases encR_or x1 with ⟨e1, m1, n1⟩ | ⟨v1, z1, e1⟩
    · rw [e1]
      simp only [treillagelaw06_OpApart.j1]
      obtain ⟨t, ht, hs⟩ := same_eq (k := n) x0 x1 (by omega) (by omega)
      rw [if_neg (by decide), its_eq x0 (by omega) (by omega), Option.bind_some, its_eq x1 (by omega) (by omega), Option.bind_some, ht, Option.bind_some]
      have key : ((strOfNums (encsI x0)).toList == (strOfNums (encsI x1)).toList) = t := by
        rw [Bool.eq_iff_iff, hs, beq_iff_eq, str_toList_iff, strOfNums_inj (encsI_bts m0) (encsI_bts m1)]
        exact ⟨encsI_inj m0 m1 h0 h1 n0 n1, fun e => by rw [e]⟩
      rw [key]
      simp
    · rw [e1]
      simp only [treillagelaw06_OpApart.j1]
      rw [if_pos (by simpa using z1), if_pos trivial, if_neg z1, tl_nil]
      rfl
  · rw [e0]
    simp only
    rw [if_neg z0]
    simp only [treillagelaw06_OpApart.j1]
    rw [if_pos trivial, if_neg z0, tl_nil, if_pos rfl]
theorem pure : ∀ (x0 : List S23) (x1 : List S23), (x0.length * Tryd.prog.bytesOf 23 ≤ 140737488351232 ∧ ∀ y0_ ∈ x0, wf23 y0_) → (x1.length * Tryd.prog.bytesOf 23 ≤ 140737488351232 ∧ ∀ y0_ ∈ x1, wf23 y0_) → ∃ k : Nat, PA.treillagelaw06_OpApart.f k x0 x1 = some true := by
  rintro x0 x1 ⟨l0, h0⟩ ⟨l1, h1⟩
  rw [show Tryd.prog.bytesOf 23 = 64 by kernel_rfl] at l0 l1
  have o0 : ∀ o ∈ x0, OkO o := fun o ho => ⟨wf64 (h0 o ho).1, wf64 (h0 o ho).2.1, wf64 (h0 o ho).2.2.1, wf64 (h0 o ho).2.2.2.1⟩
  have o1 : ∀ o ∈ x1, OkO o := fun o ho => ⟨wf64 (h1 o ho).1, wf64 (h1 o ho).2.1, wf64 (h1 o ho).2.2.1, wf64 (h1 o ho).2.2.2.1⟩
  obtain ⟨b0, hb0, hl0⟩ := bounded_eq (k := x0.length + x1.length + 300) x0 (by omega) (by omega)
  obtain ⟨b1, hb1, hl1⟩ := bounded_eq (k := x0.length + x1.length + 300) x1 (by omega) (by omega)
  refine ⟨x0.length + x1.length + 300, ?_⟩
  unfold treillagelaw06_OpApart.f
  rw [hb0, Option.bind_some]
  cases b0
  · rw [if_neg (by decide)]
    exact j0_true (by omega) _ _
  · rw [if_pos rfl, hb1, Option.bind_some]
    cases b1
    · rw [if_neg (by decide)]
      exact j0_true (by omega) _ _
    · rw [if_pos rfl, shown_k (by omega), Option.bind_some]
      exact j0_false (by omega) _ _ o0 o1 (hl0 rfl) (hl1 rfl)
end Go.Proofs.YtooefecjkgdpbaaDoor.opApart
