
import Derived.Test.YtooefecjkgdpbaaDoorOpS
import Derived.Test.YtooefecjkgdpbaaDoorOpI
import Derived.Test.YtooefecjkgdpbaaDoorPAx13
import Derived.Test.YtooefecjkgdpbaaDoorWfOpBack
/-
  What is encoded is decoded to the same, and what is decoded encoded.
-/
namespace Go.Proofs.YtooefecjkgdpbaaDoor.opBack
set_option linter.unusedVariables false
set_option linter.unusedSimpArgs false
open Go.RowKit Go.Proofs.YtooefecjkgdpbaaDoor.PA Go.Proofs.YtooefecjkgdpbaaDoorW.PrintWords Go.Proofs.YtooefecjkgdpbaaDoorW.PrintLast Go.Proofs.YtooefecjkgdpbaaDoorW.PrintMore Go.Proofs.YtooefecjkgdpbaaDoorH Go.Proofs.YtooefecjkgdpbaaDoor.Pure

theorem j0_true {k : Nat} (hk : 201 ≤ k) (x0 : List OpT) (s : ByteArray) : treillagelaw06_OpBack.j0 k x0 s true = some true := by
  obtain ⟨n, rfl⟩ : ∃ n, k = n + 1 := ⟨k - 1, by omega⟩
  simp only [treillagelaw06_OpBack.j0]
  rw [if_pos trivial, shown_k (by omega)]
  rfl
theorem j1_eq {k : Nat} (hk : 600 ≤ k) (s : ByteArray) (hs : s.size ≤ 400) : treillagelaw06_OpBack.j1 k s = some true := by
  obtain ⟨n, rfl⟩ : ∃ n, k = n + 1 := ⟨k - 1, by omega⟩
  simp only [treillagelaw06_OpBack.j1]
  obtain ⟨⟨r, e⟩, h1, h2⟩ := decode_eq s hs
  rw [h1 n (by omega), Option.bind_some]
  rcases h2 with ⟨he, hm, hok, hl, hq⟩ | ⟨he, _⟩
  · simp only at he hm hok hl hq
    subst he
    simp only
    rw [if_pos trivial, encode_eq (by omega) r hok, Option.bind_some, encR_le hl, if_pos hm]
    simp only
    rw [if_pos trivial, ← hq, strOfNums_bytesOf]
    simp
  · simp only [Prod.mk.injEq] at he
    obtain ⟨rfl, rfl⟩ := he
    simp
theorem j0_false {k : Nat} (hk : 700 ≤ k) (x0 : List OpT) (h0 : ∀ o ∈ x0, OkO o) (l0 : x0.length ≤ 25) (s : ByteArray) (hs : s.size ≤ 400) : treillagelaw06_OpBack.j0 k x0 s false = some true := by
  obtain ⟨n, rfl⟩ : ∃ n, k = n + 1 := ⟨k - 1, by omega⟩
  simp only [treillagelaw06_OpBack.j0]
  rw [if_neg (by decide), encode_eq (by omega) x0 h0, Option.bind_some]
  unfold encR
  by_cases hl : 20 < x0.length
  · rw [if_pos hl]
    simp only
    rw [if_neg (by decide)]
    exact j1_eq (by omega) s hs
  · rw [if_neg hl]
    by_cases hm : x0.all mayO = true
    · rw [if_pos hm]
      simp only
      rw [if_pos trivial, decode_fwd (by omega) x0 hm h0 (by omega), Option.bind_some]
      simp only
      obtain ⟨t, ht, hs2⟩ := same_eq (k := n) x0 x0 (by omega) (by omega)
      rw [if_pos trivial, its_eq x0 (by omega) (by omega), Option.bind_some, Option.bind_some, ht, Option.bind_some, if_pos (hs2.2 rfl)]
      exact j1_eq (by omega) s hs
    · rw [if_neg hm]
      simp only
      rw [if_neg (by decide)]
      exact j1_eq (by omega) s hs
theorem pure : ∀ (x0 : List S23) (x1 : ByteArray), (x0.length * Tryd.prog.bytesOf 23 ≤ 140737488351232 ∧ ∀ y0_ ∈ x0, wf23 y0_) → x1.size ≤ 140737488351232 → ∃ k : Nat, PA.treillagelaw06_OpBack.f k x0 x1 = some true := by
  rintro x0 x1 ⟨l0, h0⟩ l1
  rw [show Tryd.prog.bytesOf 23 = 64 by kernel_rfl] at l0
  have o0 : ∀ o ∈ x0, OkO o := fun o ho => ⟨wf64 (h0 o ho).1, wf64 (h0 o ho).2.1, wf64 (h0 o ho).2.2.1, wf64 (h0 o ho).2.2.2.1⟩
  obtain ⟨b0, hb0, hl0⟩ := bounded_eq (k := x0.length + 1000) x0 (by omega) (by omega)
  refine ⟨x0.length + 1000, ?_⟩
  unfold treillagelaw06_OpBack.f
  rw [hb0, Option.bind_some]
  cases b0
  · rw [if_neg (by decide)]
    exact j0_true (by omega) _ _
  · rw [if_pos rfl]
    by_cases hs : (x1.size : Int) > 400
    · rw [if_pos hs]
      exact j0_true (by omega) _ _
    · rw [if_neg hs, shown_k (by omega), Option.bind_some]
      exact j0_false (by omega) _ o0 (hl0 rfl) _ (by omega)
end Go.Proofs.YtooefecjkgdpbaaDoor.opBack
