
import Derived.Test.YtooefecjkgdpbaaDoorOpS
import Derived.Test.YtooefecjkgdpbaaDoorOpI
import Derived.Test.YtooefecjkgdpbaaDoorOpY
import Derived.Test.YtooefecjkgdpbaaDoorPAx12
import Derived.Test.YtooefecjkgdpbaaDoorWfOpBytes
/-
  The package's encoding and the reference's are one, and so is their decoding.
-/
namespace Go.Proofs.YtooefecjkgdpbaaDoor.opBytes
set_option linter.unusedVariables false
set_option linter.unusedSimpArgs false
open Go.RowKit Go.Proofs.YtooefecjkgdpbaaDoor.PA Go.Proofs.YtooefecjkgdpbaaDoorW.PrintWords Go.Proofs.YtooefecjkgdpbaaDoorW.PrintLast Go.Proofs.YtooefecjkgdpbaaDoorW.PrintMore Go.Proofs.YtooefecjkgdpbaaDoorH Go.Proofs.YtooefecjkgdpbaaDoor.Pure

theorem j0_true {k : Nat} (hk : 201 ≤ k) (x0 : List OpT) (s : ByteArray) : treillagelaw06_OpBytes.j0 k x0 s true = some true := by
  obtain ⟨n, rfl⟩ : ∃ n, k = n + 1 := ⟨k - 1, by omega⟩
  simp only [treillagelaw06_OpBytes.j0]
  rw [if_pos trivial, shown_k (by omega)]
  rfl
/-- Both readers tell the same of any bytes. -/
theorem read_one (s : ByteArray) (hs : s.size ≤ 400) : ∃ (l : List OpT) (c : Int), l.length ≤ 20 ∧ (∀ k, 500 ≤ k → op_Decode.f k s = some (l, c)) ∧ ∀ k, 10000 ≤ k → treillageref06_Decode.f k s = some (l.map toR, c) := by
  obtain ⟨⟨l, c⟩, h1, h2⟩ := decode_eq s hs
  obtain ⟨r, g1, g2, g3⟩ := refDecode_eq s hs
  rcases h2 with ⟨he, hm, hok, hl, hq⟩ | ⟨he, hno⟩
  · simp only at he hm hok hl hq
    subst he
    refine ⟨l, 0, hl, h1, ?_⟩
    rw [← g3 l hm hok hl hq]
    exact g1
  · simp only [Prod.mk.injEq] at he
    obtain ⟨rfl, rfl⟩ := he
    refine ⟨[], 4, by decide, h1, ?_⟩
    rcases g2 with g2 | ⟨a, _, hm, hok, hl, hq⟩
    · rw [List.map_nil, ← g2]
      exact g1
    · exact absurd hq.symm (hno a hm hok hl)
theorem j0_false {k : Nat} (hk : 10001 ≤ k) (x0 : List OpT) (h0 : ∀ o ∈ x0, OkO o) (l0 : x0.length ≤ 25) (s : ByteArray) (hs : s.size ≤ 400) : treillagelaw06_OpBytes.j0 k x0 s false = some true := by
  obtain ⟨n, rfl⟩ : ∃ n, k = n + 1 := ⟨k - 1, by omega⟩
  obtain ⟨l, c, hl, h1, h2⟩ := read_one s hs
  obtain ⟨t, ht, ht2⟩ := sameR_eq (k := n) (l.map toR) (l.map toR) (by rw [List.length_map]; omega) (by rw [List.length_map]; omega)
  simp only [treillagelaw06_OpBytes.j0]
  rw [if_neg (by decide), encode_eq (by omega) x0 h0, Option.bind_some, its_eq x0 (by omega) (by omega), Option.bind_some, refEncode_eq (by omega) x0 h0, Option.bind_some, h1 n (by omega), Option.bind_some, h2 n (by omega), Option.bind_some, if_pos rfl, if_pos rfl]
  simp only
  rw [its_eq l (by omega) (by omega), Option.bind_some, ht, Option.bind_some, if_pos (ht2.2 rfl)]
  simp
theorem pure : ∀ (x0 : List S23) (x1 : ByteArray), (x0.length * Tryd.prog.bytesOf 23 ≤ 140737488351232 ∧ ∀ y0_ ∈ x0, wf23 y0_) → x1.size ≤ 140737488351232 → ∃ k : Nat, PA.treillagelaw06_OpBytes.f k x0 x1 = some true := by
  rintro x0 x1 ⟨l0, h0⟩ l1
  rw [show Tryd.prog.bytesOf 23 = 64 by kernel_rfl] at l0
  have o0 : ∀ o ∈ x0, OkO o := fun o ho => ⟨wf64 (h0 o ho).1, wf64 (h0 o ho).2.1, wf64 (h0 o ho).2.2.1, wf64 (h0 o ho).2.2.2.1⟩
  obtain ⟨b0, hb0, hl0⟩ := bounded_eq (k := x0.length + 20000) x0 (by omega) (by omega)
  refine ⟨x0.length + 20000, ?_⟩
  unfold treillagelaw06_OpBytes.f
  rw [hb0, Option.bind_some]
  cases b0
  · rw [if_neg (by decide)]
    exact j0_true (by omega) _ _
  · rw [if_pos rfl]
    by_cases hs : (x1.size : Int) > 400
    · rw [if_pos hs]
      exact j0_true (by omega) _ _
    · rw [if_neg hs, shown_k (by omega), Option.bind_some]
      exact j0_false (by omega) _ o0 (hl0 rfl) _ (by omega)
end Go.Proofs.YtooefecjkgdpbaaDoor.opBytes
