
import Derived.Test.YtooefecjkgdpbaaDoorOpS
import Derived.Test.YtooefecjkgdpbaaDoorPAx13
import Derived.Test.YtooefecjkgdpbaaDoorWfOpJoins
/-
  The bytes of two lists of operations, one behind the other, are both bytes.
-/
namespace Go.Proofs.YtooefecjkgdpbaaDoor.opJoins
set_option linter.unusedVariables false
set_option linter.unusedSimpArgs false
open Go.RowKit Go.Proofs.YtooefecjkgdpbaaDoor.PA Go.Proofs.YtooefecjkgdpbaaDoorW.PrintWords Go.Proofs.YtooefecjkgdpbaaDoorW.PrintLast Go.Proofs.YtooefecjkgdpbaaDoorW.PrintMore Go.Proofs.YtooefecjkgdpbaaDoorH Go.Proofs.YtooefecjkgdpbaaDoor.Pure

theorem encsI_app (a b : List OpT) : encsI (a ++ b) = encsI a ++ encsI b := List.flatMap_append
theorem str_app (a b : List Int) : strOfNums (a ++ b) = strOfNums a ++ strOfNums b := by
  apply ByteArray.ext
  rw [ByteArray.data_append]
  apply Array.toList_inj.1
  rw [Array.toList_append, strOfNums_data, strOfNums_data, strOfNums_data, List.map_append]
theorem j0_true {k : Nat} (hk : 201 ≤ k) (x0 x1 : List OpT) : treillagelaw06_OpJoins.j0 k x0 x1 true = some true := by
  obtain ⟨n, rfl⟩ : ∃ n, k = n + 1 := ⟨k - 1, by omega⟩
  simp only [treillagelaw06_OpJoins.j0]
  rw [if_pos trivial, shown_k (by omega)]
  rfl
theorem toList_nil : (⟨#[]⟩ : ByteArray).toList = ([] : List UInt8) := by rw [ByteArray.toList_eq]
theorem j0_false {k : Nat} (hk : 201 ≤ k) (x0 x1 : List OpT) (h0 : ∀ o ∈ x0, OkO o) (h1 : ∀ o ∈ x1, OkO o) (hl : x0.length + x1.length ≤ 20) : treillagelaw06_OpJoins.j0 k x0 x1 false = some true := by
  obtain ⟨n, rfl⟩ : ∃ n, k = n + 1 := ⟨k - 1, by omega⟩
  simp only [treillagelaw06_OpJoins.j0]
  rw [if_neg (by decide), encode_eq (by omega) x0 h0, Option.bind_some, encode_eq (by omega) x1 h1, Option.bind_some, Option.bind_some, if_pos (by simp; omega), Option.bind_some, if_pos (by simp; omega), List.nil_append]
  rw [encode_eq (by omega) (x0 ++ x1) (by intro o ho; rcases List.mem_append.1 ho with ho | ho; exact h0 o ho; exact h1 o ho), Option.bind_some]
  rw [encR_le (l := x0) (by omega), encR_le (l := x1) (by omega), encR_le (l := x0 ++ x1) (by rw [List.length_append]; omega), List.all_append]
  by_cases m0 : x0.all mayO = true
  · by_cases m1 : x1.all mayO = true
    · rw [m0, m1]
      simp only [Bool.and_self, if_true]
      rw [encsI_app, str_app, if_pos]
      · simp
      · rw [strOfNums_size, strOfNums_size]
        have bound : ∀ l : List OpT, l.all mayO = true → (encsI l).length ≤ 600 * l.length := by
          intro l
          induction l with
          | nil => intro _; simp [encsI]
          | cons o r ih =>
            intro h
            rw [List.all_cons, Bool.and_eq_true] at h
            have hk := may_kind h.1
            have ho : (encI o).length ≤ 600 := by
              have t1 := numI_len (decide (0 < shpN o.f0)) o.f1
              have t2 := numI_len (decide (1 < shpN o.f0)) o.f2
              have t3 := numI_len (decide (2 < shpN o.f0)) o.f3
              have t : ∀ (c : Bool) (s : ByteArray), s.size ≤ 255 → (txtI c s).length ≤ 256 := by
                intro c s hs
                unfold txtI
                split
                · rw [List.length_cons, bytesOf_length]
                  omega
                · simp
              have t4 := t (shpS o.f0) o.f4 hk.2.2.1
              have t5 := t (shpT o.f0) o.f5 hk.2.2.2
              unfold encI
              simp only [List.length_cons, List.length_append]
              omega
            show (encI o ++ encsI r).length ≤ _
            rw [List.length_append, List.length_cons]
            have := ih h.2
            omega
        have b0 := bound x0 m0
        have b1 := bound x1 m1
        omega
    · have m1 : x1.all mayO = false := by simpa using m1
      rw [m0, m1]
      simp [toList_nil]
  · have m0 : x0.all mayO = false := by simpa using m0
    rw [m0]
    simp [toList_nil]
theorem pure : ∀ (x0 : List S23) (x1 : List S23), (x0.length * Tryd.prog.bytesOf 23 ≤ 140737488351232 ∧ ∀ y0_ ∈ x0, wf23 y0_) → (x1.length * Tryd.prog.bytesOf 23 ≤ 140737488351232 ∧ ∀ y0_ ∈ x1, wf23 y0_) → ∃ k : Nat, PA.treillagelaw06_OpJoins.f k x0 x1 = some true := by
  rintro x0 x1 ⟨l0, h0⟩ ⟨l1, h1⟩
  rw [show Tryd.prog.bytesOf 23 = 64 by kernel_rfl] at l0 l1
  have o0 : ∀ o ∈ x0, OkO o := fun o ho => ⟨wf64 (h0 o ho).1, wf64 (h0 o ho).2.1, wf64 (h0 o ho).2.2.1, wf64 (h0 o ho).2.2.2.1⟩
  have o1 : ∀ o ∈ x1, OkO o := fun o ho => ⟨wf64 (h1 o ho).1, wf64 (h1 o ho).2.1, wf64 (h1 o ho).2.2.1, wf64 (h1 o ho).2.2.2.1⟩
  obtain ⟨b0, hb0, hl0⟩ := bounded_eq (k := x0.length + x1.length + 300) x0 (by omega) (by omega)
  obtain ⟨b1, hb1, hl1⟩ := bounded_eq (k := x0.length + x1.length + 300) x1 (by omega) (by omega)
  refine ⟨x0.length + x1.length + 300, ?_⟩
  unfold treillagelaw06_OpJoins.f
  rw [hb0, Option.bind_some]
  cases b0
  · rw [if_neg (by decide)]
    exact j0_true (by omega) _ _
  · rw [if_pos rfl, hb1, Option.bind_some]
    cases b1
    · rw [if_neg (by decide)]
      exact j0_true (by omega) _ _
    · rw [if_pos rfl]
      have := hl0 rfl
      have := hl1 rfl
      by_cases hs : wrap64 ((x0.length : Int) + (x1.length : Int)) > 20
      · rw [if_pos hs]
        exact j0_true (by omega) _ _
      · rw [if_neg hs, shown_k (by omega), Option.bind_some]
        exact j0_false (by omega) _ _ o0 o1 (by unfold wrap64 at hs; omega)
end Go.Proofs.YtooefecjkgdpbaaDoor.opJoins
