/-
  SlotsStale: a state stays as it was, whatever comes of it later: the plain law. No condition beyond the statement's own.
-/
import Derived.Test.YtecfbacgaahlhaaPAx5
import Derived.Test.YtecfbacgaahlhaaSlotsM
namespace Go.Proofs.Ytecfbacgaahlhaa.Pure
set_option linter.unusedVariables false
set_option linter.unusedSimpArgs false
open Go.RowKit Go.Proofs.Ytecfbacgaahlhaa.PA Go.Proofs.YtecfbacgaahlhaaW.PrintWords Go.Proofs.YtecfbacgaahlhaaW.PrintLast Go.Proofs.YtecfbacgaahlhaaW.PrintMore Go.Proofs.YtecfbacgaahlhaaH

theorem shown3 : treillagelaw03_shown.f = some true := by decide +kernel
theorem w64n (i : Nat) (h : i < 1000000) : wrap64 ((i : Int) + 1) = ((i + 1 : Nat) : Int) := by unfold wrap64; omega
theorem stale_l1 (g : List Int) (u : List Bool) (f : List Int) (hl : f.length ≤ 500) : ∀ m j k : Nat, j + m = f.length → m < k → treillagelaw03_SlotsStale.l1 k f (j : Int) g u f = some true := by
  intro m
  induction m with
  | zero =>
    intro j k h1 h2
    obtain ⟨k, rfl⟩ : ∃ q, k = q + 1 := ⟨k - 1, by omega⟩
    unfold treillagelaw03_SlotsStale.l1
    rw [if_neg (by omega), shown3]
    rfl
  | succ m ih =>
    intro j k h1 h2
    obtain ⟨k, rfl⟩ : ∃ q, k = q + 1 := ⟨k - 1, by omega⟩
    unfold treillagelaw03_SlotsStale.l1
    rw [if_pos (by omega), if_pos (by omega), if_pos (by omega), if_pos rfl, w64n j (by omega)]
    exact ih (j + 1) k (by omega) (by omega)
theorem stale_j2 (k : Nat) (x9 : List Int) (b : Bool) (g : List Int) (u : List Bool) (f : List Int) : treillagelaw03_SlotsStale.j2 (k + 1) x9 b g u f = if b = true then some false else treillagelaw03_SlotsStale.l1 k x9 0 g u f := by
  unfold treillagelaw03_SlotsStale.j2
  rfl
theorem stale_j0 (k : Nat) (x1 x7 : Int) (g : List Int) (u : List Bool) (f : List Int) (hl : f.length ≤ 500) : treillagelaw03_SlotsStale.j0 (k + 1) x1 x7 false g u f = (slots_Give.f g u f x7).bind fun bt185 => (treillagelaw03_SlotsStale.l0 k x1 x7 f 0 g u f bt185.1 bt185.2.1 bt185.2.2.1) := by
  unfold treillagelaw03_SlotsStale.j0
  show (if ([] : List Int).length + f.length < 17592186044416 then _ else none) = _
  rw [if_pos (by rw [List.length_nil]; omega)]
  rfl
theorem stale_l0 {N : Nat} {M : Int} {g u f} (h : Inv N M g u f) (hM : M ≤ 900) {i : Nat} (hi : i < N) (hui : u.getD i false = true) (a1 : Int) (c : Nat) (hc : Int.tmod (wrap64 a1) 30 = (c : Int)) (hc2 : c ≤ 30) :
    ∀ m j k : Nat, ∀ g' u' f', Inv N (M + 1) g' u' f' → g'.getD i 0 = g.getD i 0 + 1 → j + m = c → m + 600 < k → treillagelaw03_SlotsStale.l0 k a1 (hd g i) f (j : Int) g u f g' u' f' = some true := by
  have hfl : f.length ≤ 500 := by have := h.hc; have := h.hN; omega
  intro m
  induction m with
  | zero =>
    intro j k g' u' f' h' hg' h1 h2
    obtain ⟨k, rfl⟩ : ∃ q, k = q + 1 := ⟨k - 1, by omega⟩
    have hgi := h.hM i hi
    unfold treillagelaw03_SlotsStale.l0
    rw [hc, if_neg (by omega), live_hd h (by omega) hi true hui, Option.bind_some, if_pos rfl]
    have hd' : slots_Live.f g' u' f' (hd g i) = some false := dead h' (by omega) hi ⟨by omega, by omega⟩
    rw [hd', Option.bind_some, if_neg (by decide)]
    obtain ⟨k, rfl⟩ : ∃ q, k = q + 1 := ⟨k - 1, by omega⟩
    rw [stale_j2, show ((f.length : Int) != (f.length : Int)) = false from by simp, if_neg (by decide)]
    exact stale_l1 g u f hfl f.length 0 k (by omega) (by omega)
  | succ m ih =>
    intro j k g' u' f' h' hg' h1 h2
    obtain ⟨k, rfl⟩ : ∃ q, k = q + 1 := ⟨k - 1, by omega⟩
    unfold treillagelaw03_SlotsStale.l0
    rw [hc, if_pos (by omega)]
    rcases Nat.eq_zero_or_pos f'.length with h0 | hp
    · rw [take_full h0, Option.bind_some, w64n j (by omega)]
      exact ih (j + 1) k g' u' f' h' hg' (by omega) (by omega)
    · obtain ⟨q, hq, hx, huq, ht, hI⟩ := take_eq h' (by omega) hp
      rw [ht, Option.bind_some, w64n j (by omega)]
      exact ih (j + 1) k g' _ _ hI hg' (by omega) (by omega)
theorem SlotsStale : treillagelaw03_SlotsStale.Pure := by
  intro a0 a1 w0 w1
  have b0 := wf_u8 w0
  have b1 := wf_u8 w1
  obtain ⟨n, hn⟩ : ∃ n : Nat, 1 + a0 % 20 = (n : Int) := ⟨(1 + a0 % 20).toNat, by omega⟩
  have e0 : wrap64 (1 + Int.tmod (wrap64 a0) 20) = (n : Int) := by
    rw [show wrap64 a0 = a0 from by unfold wrap64; omega, Int.tmod_eq_emod_of_nonneg b0.1, hn]
    unfold wrap64
    omega
  obtain ⟨c, hc⟩ : ∃ c : Nat, a1 % 30 = (c : Int) := ⟨(a1 % 30).toNat, by omega⟩
  have e1 : Int.tmod (wrap64 a1) 30 = (c : Int) := by rw [show wrap64 a1 = a1 from by unfold wrap64; omega, Int.tmod_eq_emod_of_nonneg b1.1, hc]
  have hI := new_inv (n := n) (by omega)
  obtain ⟨i, hi, hx, hui, ht, hI1⟩ := take_eq hI (by omega) (by have := hI.hc; rw [List.count_replicate] at this; simp at this ⊢; omega)
  have hu1 : ((List.replicate n false).set i true).getD i false = true := getD_set_self _ _ _ _ (by simpa using hi)
  obtain ⟨hgv, hI2⟩ := give_eq hI1 (by omega) hi hu1
  refine ⟨1000, ?_⟩
  unfold treillagelaw03_SlotsStale.f
  rw [e0, new_eq (by omega), Option.bind_some, ht, Option.bind_some, if_pos rfl]
  have hfl : (((List.range n).reverse.map Int.ofNat).take (((List.range n).reverse.map Int.ofNat).length - 1)).length ≤ 500 := by have := hI1.hc; have := hI1.hN; omega
  show treillagelaw03_SlotsStale.j0 (999 + 1) a1 (hd (List.replicate n 1) i) false _ _ _ = _
  rw [stale_j0 999 a1 _ _ _ _ hfl, hgv, Option.bind_some]
  exact stale_l0 hI1 (by omega) hi hu1 a1 c e1 (by omega) c 0 999 _ _ _ hI2 (getD_set_self _ _ _ _ (by simpa using hi)) (by omega) (by omega)
end Go.Proofs.Ytecfbacgaahlhaa.Pure
