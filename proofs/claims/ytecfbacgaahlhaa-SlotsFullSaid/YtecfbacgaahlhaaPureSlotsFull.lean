/-
  SlotsFull: as many slots can be taken as there are, and no more: the plain law. No condition beyond the statement's own.
-/
import Derived.Test.YtecfbacgaahlhaaPAx8
import Derived.Test.YtecfbacgaahlhaaSlotsM
namespace Go.Proofs.Ytecfbacgaahlhaa.Pure
set_option linter.unusedVariables false
set_option linter.unusedSimpArgs false
open Go.RowKit Go.Proofs.Ytecfbacgaahlhaa.PA Go.Proofs.YtecfbacgaahlhaaW.PrintWords Go.Proofs.YtecfbacgaahlhaaW.PrintLast Go.Proofs.YtecfbacgaahlhaaW.PrintMore Go.Proofs.YtecfbacgaahlhaaH

theorem shown3 : treillagelaw03_shown.f = some true := by decide +kernel
theorem w64n (i : Nat) (h : i < 1000000) : wrap64 ((i : Int) + 1) = ((i + 1 : Nat) : Int) := by unfold wrap64; omega
theorem handles_l0 (g : List Int) (hl : g.length ≤ 600) : ∀ m j k : Nat, j + m = g.length → m < k → treillageref03_Handles.l0 k g g (j : Int) = some true := by
  intro m
  induction m with
  | zero =>
    intro j k h1 h2
    obtain ⟨k, rfl⟩ : ∃ q, k = q + 1 := ⟨k - 1, by omega⟩
    unfold treillageref03_Handles.l0
    rw [if_neg (by omega)]
  | succ m ih =>
    intro j k h1 h2
    obtain ⟨k, rfl⟩ : ∃ q, k = q + 1 := ⟨k - 1, by omega⟩
    unfold treillageref03_Handles.l0
    rw [if_pos (by omega), if_pos (by omega), if_pos (by omega), if_pos rfl, w64n j (by omega)]
    exact ih (j + 1) k (by omega) (by omega)
theorem handles_eq (g : List Int) (hl : g.length ≤ 600) (k : Nat) (hk : g.length < k) : treillageref03_Handles.f k g g = some true := by
  unfold treillageref03_Handles.f
  rw [if_pos rfl]
  exact handles_l0 g hl g.length 0 k (by omega) hk
theorem same_l1 (g : List Int) (u : List Bool) (f : List Int) (hg : g.length ≤ 600) (hl : f.length ≤ 600) : ∀ m j k : Nat, j + m = f.length → m + 700 < k → treillageref03_Same.l1 k (j : Int) g u f g u f = some true := by
  intro m
  induction m with
  | zero =>
    intro j k h1 h2
    obtain ⟨k, rfl⟩ : ∃ q, k = q + 1 := ⟨k - 1, by omega⟩
    unfold treillageref03_Same.l1
    rw [if_neg (by omega), handles_eq g hg k (by omega)]
    rfl
  | succ m ih =>
    intro j k h1 h2
    obtain ⟨k, rfl⟩ : ∃ q, k = q + 1 := ⟨k - 1, by omega⟩
    unfold treillageref03_Same.l1
    rw [if_pos (by omega), if_pos (by omega), if_pos (by omega), if_pos rfl, w64n j (by omega)]
    exact ih (j + 1) k (by omega) (by omega)
theorem same_l0 (g : List Int) (u : List Bool) (f : List Int) (hg : g.length ≤ 600) (hu : u.length ≤ 600) (hl : f.length ≤ 600) : ∀ m j k : Nat, j + m = u.length → m + 1400 < k → treillageref03_Same.l0 k (j : Int) g u f g u f = some true := by
  intro m
  induction m with
  | zero =>
    intro j k h1 h2
    obtain ⟨k, rfl⟩ : ∃ q, k = q + 1 := ⟨k - 1, by omega⟩
    unfold treillageref03_Same.l0
    rw [if_neg (by omega)]
    exact same_l1 g u f hg hl f.length 0 k (by omega) (by omega)
  | succ m ih =>
    intro j k h1 h2
    obtain ⟨k, rfl⟩ : ∃ q, k = q + 1 := ⟨k - 1, by omega⟩
    unfold treillageref03_Same.l0
    rw [if_pos (by omega), if_pos (by omega), if_pos (by omega), show (rdOf false u (j : Int) != rdOf false u (j : Int)) = false from by simp, if_neg (by decide), w64n j (by omega)]
    exact ih (j + 1) k (by omega) (by omega)
theorem same_j0 (k : Nat) (g : List Int) (u : List Bool) (f g' : List Int) (u' : List Bool) (f' : List Int) : treillageref03_Same.j0 (k + 1) false g u f g' u' f' = treillageref03_Same.l0 k 0 g u f g' u' f' := by
  unfold treillageref03_Same.j0
  rfl
theorem same_eq (g : List Int) (u : List Bool) (f : List Int) (hg : g.length ≤ 600) (hu : u.length ≤ 600) (hl : f.length ≤ 600) (k : Nat) (hk : 2100 < k) : treillageref03_Same.f k g u f g u f = some true := by
  obtain ⟨k, rfl⟩ : ∃ q, k = q + 1 := ⟨k - 1, by omega⟩
  unfold treillageref03_Same.f
  rw [if_pos rfl, show ((f.length : Int) != (f.length : Int)) = false from by simp, same_j0]
  exact same_l0 g u f hg hu hl u.length 0 k (by omega) (by omega)
/-- What is free when j have been taken. -/
def fj (n j : Nat) : List Int := ((List.range n).reverse.map Int.ofNat).take (n - j)
theorem fj_len (n j : Nat) : (fj n j).length = n - j := by
  unfold fj
  rw [List.length_take, List.length_map, List.length_reverse, List.length_range]
  omega
theorem fj_last (n j : Nat) (hj : j < n) : (fj n j).getD ((fj n j).length - 1) 0 = (j : Int) := by
  rw [fj_len]
  unfold fj
  rw [List.getD_eq_getElem?_getD, List.getElem?_take, if_pos (by omega), List.getElem?_map, List.getElem?_reverse (by rw [List.length_range]; omega), List.length_range, List.getElem?_range (by omega)]
  show Int.ofNat (n - 1 - (n - j - 1)) = (j : Int)
  rw [show n - 1 - (n - j - 1) = j from by omega]
  rfl
theorem fj_next (n j : Nat) (hj : j < n) : (fj n j).take ((fj n j).length - 1) = fj n (j + 1) := by
  rw [fj_len]
  unfold fj
  rw [List.take_take, show min (n - j - 1) (n - j) = n - (j + 1) from by omega]
theorem full_j1t (k : Nat) (x3 x5 x6 : Int) (g : List Int) (u : List Bool) (f : List Int) : treillagelaw03_SlotsFull.j1 (k + 1) x3 x5 x6 true g u f = ((slots_Take.f g u f).bind fun bt293 => (if bt293.2.2.2.2 = 0 then (if (wrap64 (Int.tmod bt293.2.2.2.1 16777216)) = x6 then (treillagelaw03_SlotsFull.l0 k x3 x5 (wrap64 (x6 + 1)) bt293.1 bt293.2.1 bt293.2.2.1) else (some false)) else (some false))) := by
  unfold treillagelaw03_SlotsFull.j1
  rfl
theorem full_j1f (k : Nat) (x3 x5 x6 : Int) (g : List Int) (u : List Bool) (f : List Int) : treillagelaw03_SlotsFull.j1 (k + 1) x3 x5 x6 false g u f = ((slots_Take.f g u f).bind fun bt305 => (if x5 = 0 then (if bt305.2.2.2.2 = 2 then (if bt305.2.2.2.1 = 0 then ((treillagelaw03_its.f bt305.1 bt305.2.1 bt305.2.2.1).bind fun bt317 => ((treillagelaw03_its.f g u f).bind fun bt326 => ((treillageref03_Same.f k bt317.1 bt317.2.1 bt317.2.2 bt326.1 bt326.2.1 bt326.2.2).bind fun t335 => (if t335 = true then ((slots_All.f g u f).bind fun t336 => (if (t336.length : Int) = x3 then ((treillagelaw03_shown.f).bind fun t339 => (some t339)) else (some false))) else (some false))))) else (some false)) else (some false)) else (some false))) := by
  unfold treillagelaw03_SlotsFull.j1
  rfl
theorem full_l0 (n : Nat) (hn : n ≤ 500) : ∀ m j k : Nat, ∀ g u, Inv n 1 g u (fj n j) → j + m = n → 2 * m + 2200 < k → treillagelaw03_SlotsFull.l0 k (n : Int) 0 (j : Int) g u (fj n j) = some true := by
  intro m
  induction m with
  | zero =>
    intro j k g u h h1 h2
    obtain ⟨k, rfl⟩ : ∃ q, k = q + 1 := ⟨k - 1, by omega⟩
    obtain ⟨k, rfl⟩ : ∃ q, k = q + 1 := ⟨k - 1, by omega⟩
    have hfl := fj_len n j
    have hc := h.hc
    have hlen := alls_lenN h
    unfold treillagelaw03_SlotsFull.l0
    rw [if_neg (by omega), full_j1f, take_full (by omega), Option.bind_some, if_pos rfl, if_pos rfl, if_pos rfl]
    show ((treillageref03_Same.f k g u (fj n j) g u (fj n j)).bind _) = _
    rw [same_eq g u _ (by rw [h.hg]; omega) (by rw [h.hu]; omega) (by omega) k (by omega), Option.bind_some, if_pos rfl, all_eq h (by omega), Option.bind_some, if_pos (by omega), shown3]
    rfl
  | succ m ih =>
    intro j k g u h h1 h2
    obtain ⟨k, rfl⟩ : ∃ q, k = q + 1 := ⟨k - 1, by omega⟩
    obtain ⟨k, rfl⟩ : ∃ q, k = q + 1 := ⟨k - 1, by omega⟩
    have hfl := fj_len n j
    obtain ⟨i, hi, hx, hui, ht, hI⟩ := take_eq h (by omega) (by omega)
    rw [fj_last n j (by omega)] at hx
    obtain rfl : j = i := by omega
    have hr := hd_rng h (by omega) hi
    rw [fj_next n j (by omega)] at ht hI
    unfold treillagelaw03_SlotsFull.l0
    rw [if_pos (by omega), show ((0 : Int) == 0) = true from rfl, full_j1t, ht, Option.bind_some, if_pos rfl]
    show (if wrap64 (Int.tmod (hd g j) 16777216) = (j : Int) then _ else _) = _
    rw [if_pos (by rw [Int.tmod_eq_emod_of_nonneg hr.1, hr.2.2.1]; unfold wrap64; omega), w64n j (by omega)]
    exact ih (j + 1) k _ _ hI (by omega) (by omega)
theorem SlotsFull : treillagelaw03_SlotsFull.Pure := by
  intro a0 w0
  have b0 := wf_u8 w0
  obtain ⟨n, rfl⟩ : ∃ n : Nat, a0 = (n : Int) := ⟨a0.toNat, by omega⟩
  have hI := new_inv (n := n) (by omega)
  have e : (List.range n).reverse.map Int.ofNat = fj n 0 := by
    unfold fj
    rw [List.take_of_length_le (by rw [List.length_map, List.length_reverse, List.length_range]; omega)]
  rw [e] at hI
  refine ⟨4000, ?_⟩
  unfold treillagelaw03_SlotsFull.f
  rw [show wrap64 (n : Int) = (n : Int) from by unfold wrap64; omega, new_eq (by omega), Option.bind_some, e]
  exact full_l0 n (by omega) n 0 4000 _ _ hI (by omega) (by omega)
end Go.Proofs.Ytecfbacgaahlhaa.Pure
