/-
  An arena in plain numbers: what New, Take, Give, Live and All tell of a state whose free slots are just those that are not taken.
-/
import Derived.Test.YtecfbacgaahlhaaPAx3
import Derived.Test.YtecfbacgaahlhaaMath
namespace Go.Proofs.Ytecfbacgaahlhaa.Pure
set_option linter.unusedVariables false
set_option linter.unusedSimpArgs false
open Go.RowKit Go.Proofs.Ytecfbacgaahlhaa.PA Go.Proofs.YtecfbacgaahlhaaW.PrintWords Go.Proofs.YtecfbacgaahlhaaW.PrintLast Go.Proofs.YtecfbacgaahlhaaW.PrintMore Go.Proofs.YtecfbacgaahlhaaH

theorem of_eq {i g : Int} (hi : 0 ≤ i ∧ i < 16777216) (hg : 0 ≤ g ∧ g < 1099511627776) : pack_Of.f i g = some (g * 16777216 + i, true) := by
  unfold pack_Of.f
  have e1 : IntKind.u64.wrap i = i := by rw [IntKind.wrap_u64]; omega
  have e2 : IntKind.u64.wrap (g * 16777216) = g * 16777216 := by rw [IntKind.wrap_u64]; omega
  rw [e1, andNot24 _ (by omega) (by omega), if_pos (by omega), if_pos (by omega), e2, join_u64 24 (by decide) _ _ (by omega) (by show _ % 16777216 = 0; omega) (by omega) hi.1 hi.2]
theorem index_eq {h : Int} (hh : 0 ≤ h ∧ h < 18446744073709551616) : pack_Index.f h = some (h % 16777216) := by
  unfold pack_Index.f
  rw [and24 h hh.1 hh.2]
  congr 1; unfold wrap64; omega
theorem gen_eq (h : Int) : pack_Gen.f h = some (h / 16777216) := rfl
def nextH (h : Int) : Int := (h / 16777216 + 1) % 1099511627776 * 16777216 + h % 16777216
theorem next_eq {h : Int} (hh : 0 ≤ h ∧ h < 18446744073709551616) : pack_Next.f h = some (nextH h) := by
  unfold pack_Next.f nextH
  rw [and24 h hh.1 hh.2]
  have e : IntKind.u64.wrap (IntKind.u64.wrap (h / 16777216 + 1) * 16777216) = (h / 16777216 + 1) % 1099511627776 * 16777216 := by simp only [IntKind.wrap_u64]; omega
  rw [e, or_comm_u64, join_u64 24 (by decide) _ _ (by omega) (by show _ % 16777216 = 0; omega) (by omega) (by omega) (by show _ < 16777216; omega)]

/-- A state of N slots, no generation above M: what is free is just what is not taken, each once. -/
structure Inv (N : Nat) (M : Int) (g : List Int) (u : List Bool) (f : List Int) : Prop where
  hg : g.length = N
  hu : u.length = N
  hN : N ≤ 500
  hM : ∀ i, i < N → 1 ≤ g.getD i 0 ∧ g.getD i 0 ≤ M
  hf : ∀ x ∈ f, ∃ i : Nat, i < N ∧ x = (i : Int) ∧ u.getD i true = false
  hnd : f.Nodup
  hc : f.length + u.count true = N
def hd (g : List Int) (i : Nat) : Int := g.getD i 0 * 16777216 + (i : Int)
theorem Inv.mono {N : Nat} {M M' : Int} {g u f} (h : Inv N M g u f) (hm : M ≤ M') : Inv N M' g u f := ⟨h.hg, h.hu, h.hN, fun i hi => ⟨(h.hM i hi).1, Int.le_trans (h.hM i hi).2 hm⟩, h.hf, h.hnd, h.hc⟩
theorem hd_rng {N : Nat} {M : Int} {g u f} (h : Inv N M g u f) (hM : M ≤ 1000) {i : Nat} (hi : i < N) : 0 ≤ hd g i ∧ hd g i < 18446744073709551616 ∧ hd g i % 16777216 = (i : Int) ∧ hd g i / 16777216 = g.getD i 0 ∧ 16777216 ≤ hd g i := by
  have h1 := h.hM i hi
  have h2 := h.hN
  unfold hd
  omega
theorem handle_eq {N : Nat} {M : Int} {g u f} (h : Inv N M g u f) (hM : M ≤ 1000) {i : Nat} (hi : i < N) (u' : List Bool) (f' : List Int) : slots_State_handle.f g u' f' (i : Int) = some (hd g i) := by
  have h1 := h.hM i hi
  have h2 := h.hN
  unfold slots_State_handle.f rd
  rw [if_pos (by omega), if_pos (by rw [h.hg]; omega), Int.toNat_natCast, of_eq ⟨by omega, by omega⟩ ⟨by omega, by omega⟩]
  rfl
theorem new_eq {n : Nat} (hn : n ≤ 500) : slots_New.f (n : Int) = some (List.replicate n 1, List.replicate n false, (List.range n).reverse.map Int.ofNat, 0) := by
  unfold slots_New.f
  rw [if_neg (by omega), Int.toNat_natCast]
theorem new_inv {n : Nat} (hn : n ≤ 500) : Inv n 1 (List.replicate n 1) (List.replicate n false) ((List.range n).reverse.map Int.ofNat) := by
  refine ⟨by simp, by simp, hn, fun i hi => ?_, fun x hx => ?_, ?_, ?_⟩
  · rw [List.getD_eq_getElem?_getD, List.getElem?_replicate, if_pos hi]
    simp
  · simp only [List.mem_map, List.mem_reverse, List.mem_range] at hx
    obtain ⟨i, hi, rfl⟩ := hx
    refine ⟨i, hi, rfl, ?_⟩
    rw [List.getD_eq_getElem?_getD, List.getElem?_replicate, if_pos hi]
    rfl
  · rw [List.nodup_iff_pairwise_ne, List.pairwise_map, List.pairwise_reverse]
    refine List.nodup_range.imp ?_
    intro a b hab he
    exact hab (by have := Int.ofNat.inj he; omega)
  · rw [List.length_map, List.length_reverse, List.length_range, List.count_replicate]
    simp
theorem getD_set_self {α : Type} (l : List α) (i : Nat) (x d : α) (h : i < l.length) : (l.set i x).getD i d = x := by
  rw [List.getD_eq_getElem?_getD, List.getElem?_set_self h]; rfl
theorem getD_set_ne {α : Type} (l : List α) (i j : Nat) (x d : α) (h : i ≠ j) : (l.set i x).getD j d = l.getD j d := by
  rw [List.getD_eq_getElem?_getD, List.getElem?_set_ne h, ← List.getD_eq_getElem?_getD]
theorem count_set_true (u : List Bool) (i : Nat) (hi : i < u.length) (h : u.getD i true = false) : (u.set i true).count true = u.count true + 1 := by
  induction u generalizing i with
  | nil => simp at hi
  | cons a u ih =>
    cases i with
    | zero =>
      simp only [List.getD_cons_zero] at h
      subst h
      simp [List.count_cons]
    | succ i =>
      simp only [List.length_cons, Nat.add_lt_add_iff_right] at hi
      simp only [List.getD_cons_succ] at h
      simp only [List.set_cons_succ, List.count_cons, ih i hi h]
      omega
theorem count_set_false (u : List Bool) (i : Nat) (hi : i < u.length) (h : u.getD i false = true) : (u.set i false).count true + 1 = u.count true := by
  induction u generalizing i with
  | nil => simp at hi
  | cons a u ih =>
    cases i with
    | zero =>
      simp only [List.getD_cons_zero] at h
      subst h
      simp [List.count_cons]
    | succ i =>
      simp only [List.length_cons, Nat.add_lt_add_iff_right] at hi
      simp only [List.getD_cons_succ] at h
      simp only [List.set_cons_succ, List.count_cons]
      have := ih i hi h
      omega
theorem getD_tf (u : List Bool) {i : Nat} (h : i < u.length) (a b : Bool) : u.getD i a = u.getD i b := by
  rw [List.getD_eq_getElem?_getD, List.getD_eq_getElem?_getD, List.getElem?_eq_getElem h]; rfl
theorem last_split (f : List Int) (h : 0 < f.length) : f = f.take (f.length - 1) ++ [f.getD (f.length - 1) 0] := by
  apply List.ext_getElem?
  intro j
  by_cases hj : j < f.length - 1
  · rw [List.getElem?_append_left (by rw [List.length_take]; omega), List.getElem?_take, if_pos hj]
  · by_cases hj2 : j = f.length - 1
    · subst hj2
      rw [List.getElem?_append_right (by rw [List.length_take]; omega), List.length_take, show f.length - 1 - min (f.length - 1) f.length = 0 from by omega, List.getD_eq_getElem?_getD, List.getElem?_eq_getElem (by omega)]
      rfl
    · rw [List.getElem?_eq_none (by omega), List.getElem?_eq_none (by rw [List.length_append, List.length_take, List.length_singleton]; omega)]
/-- A slot is taken: the last one that is free. -/
theorem take_eq {N : Nat} {M : Int} {g u f} (h : Inv N M g u f) (hM : M ≤ 1000) (hp : 0 < f.length) : ∃ i : Nat, i < N ∧ f.getD (f.length - 1) 0 = (i : Int) ∧ u.getD i true = false ∧
    slots_Take.f g u f = some (g, u.set i true, f.take (f.length - 1), hd g i, 0) ∧ Inv N M g (u.set i true) (f.take (f.length - 1)) := by
  have hN := h.hN
  have hs := last_split f hp
  have hmem : f.getD (f.length - 1) 0 ∈ f := by
    have : f.getD (f.length - 1) 0 ∈ f.take (f.length - 1) ++ [f.getD (f.length - 1) 0] := by simp
    rw [← hs] at this
    exact this
  obtain ⟨i, hi, hx, hui⟩ := h.hf _ hmem
  refine ⟨i, hi, hx, hui, ?_, h.hg, by rw [List.length_set]; exact h.hu, hN, h.hM, fun x hx' => ?_, ?_, ?_⟩
  · unfold slots_Take.f
    have hc := h.hc
    rw [if_neg (by omega), if_pos ⟨by rw [h.hg]; omega, by rw [h.hu]; omega, by omega⟩, hx, if_pos ⟨by omega, by rw [h.hu]; omega⟩, Int.toNat_natCast, handle_eq h hM hi]
    rfl
  · have hxf : x ∈ f := List.mem_of_mem_take hx'
    obtain ⟨j, hj, rfl, huj⟩ := h.hf x hxf
    refine ⟨j, hj, rfl, ?_⟩
    have hne : i ≠ j := by
      intro e
      subst e
      have hnd := h.hnd
      rw [hs, List.nodup_append] at hnd
      exact hnd.2.2 _ hx' _ (List.mem_singleton.2 rfl) hx.symm
    rw [getD_set_ne _ _ _ _ _ hne]
    exact huj
  · exact h.hnd.sublist (List.take_sublist _ _)
  · rw [count_set_true u i (by rw [h.hu]; exact hi) hui, List.length_take]
    have := h.hc
    omega
theorem take_full {g : List Int} {u : List Bool} {f : List Int} (hp : f.length = 0) : slots_Take.f g u f = some (g, u, f, 0, 2) := by
  unfold slots_Take.f
  rw [if_pos (by omega)]
theorem live_eq {N : Nat} {M : Int} {g u f} (h : Inv N M g u f) (hM : M ≤ 1000) {x : Int} (hx : 0 ≤ x ∧ x < 18446744073709551616) :
    slots_Live.f g u f x = some (decide (x % 16777216 < N) && u.getD (x % 16777216).toNat false && decide (hd g (x % 16777216).toNat = x)) := by
  unfold slots_Live.f
  rw [index_eq hx]
  show (if x % 16777216 < (u.length : Int) then _ else _) = _
  rw [h.hu]
  by_cases h1 : x % 16777216 < (N : Int)
  · rw [if_pos h1, if_pos (by omega)]
    obtain ⟨i, hi⟩ : ∃ i : Nat, x % 16777216 = i := ⟨(x % 16777216).toNat, by omega⟩
    rw [hi] at h1 ⊢
    rw [Int.toNat_natCast]
    have hr : rdOf false u (i : Int) = u.getD i false := by unfold rdOf; rw [Int.toNat_natCast]
    rw [hr, decide_eq_true h1]
    by_cases h2 : u.getD i false = true
    · rw [if_pos h2, handle_eq h hM (by omega), h2]
      show some (hd g i == x) = _
      congr 1
    · rw [if_neg h2]
      simp only [Bool.not_eq_true] at h2
      rw [h2]
      rfl
  · rw [if_neg h1, decide_eq_false h1]
    rfl
theorem live_hd {N : Nat} {M : Int} {g u f} (h : Inv N M g u f) (hM : M ≤ 1000) {i : Nat} (hi : i < N) (b : Bool) (hb : u.getD i false = b) : slots_Live.f g u f (hd g i) = some b := by
  obtain ⟨h1, h2, h3, h4, _⟩ := hd_rng h hM hi
  rw [live_eq h hM ⟨h1, h2⟩, h3, Int.toNat_natCast, hb]
  simp [hi]
theorem next_gen {h : Int} (h1 : 0 ≤ h) (h2 : h < 18446744073709551616) (h3 : h / 16777216 + 1 < 1099511627776) : nextH h / 16777216 = h / 16777216 + 1 := by
  unfold nextH
  omega
theorem give_step {g : List Int} {u : List Bool} {f : List Int} {x y nx : Int} {i : Nat} (hL : slots_Live.f g u f x = some true) (hI : pack_Index.f x = some y) (hy : y = (i : Int)) (hi0 : i < g.length) (hi1 : i < u.length) (hNx : pack_Next.f x = some nx) (l0 : g.length * 8 ≤ 140737488351232) (l1 : u.length ≤ 140737488351232) (l2 : (f.length + 1) * 8 ≤ 140737488351232) :
    slots_Give.f g u f x = some (g.set i (nx / 16777216), u.set i false, f ++ [(i : Int)], 0) := by
  subst hy
  have h1 : 0 ≤ (i : Int) := Int.natCast_nonneg i
  have h2 : (i : Int) < (g.length : Int) := Int.ofNat_lt.2 hi0
  have h3 : (i : Int) < (u.length : Int) := Int.ofNat_lt.2 hi1
  unfold slots_Give.f
  rw [hL, Option.bind_some, if_pos rfl, hI, Option.bind_some, if_pos ⟨h1, h2, h3⟩, hNx, Option.bind_some, gen_eq, Option.bind_some, if_pos ⟨l0, l1, l2⟩, Int.toNat_natCast]
theorem give_eq {N : Nat} {M : Int} {g u f} (h : Inv N M g u f) (hM : M ≤ 999) {i : Nat} (hi : i < N) (hb : u.getD i false = true) :
    slots_Give.f g u f (hd g i) = some (g.set i (g.getD i 0 + 1), u.set i false, f ++ [(i : Int)], 0) ∧ Inv N (M + 1) (g.set i (g.getD i 0 + 1)) (u.set i false) (f ++ [(i : Int)]) := by
  obtain ⟨h1, h2, h3, h4, _⟩ := hd_rng h (by omega) hi
  have hN := h.hN
  have hc := h.hc
  have hg1 := h.hM i hi
  constructor
  · have e := give_step (live_hd h (by omega) hi true hb) (index_eq ⟨h1, h2⟩) h3 (by rw [h.hg]; exact hi) (by rw [h.hu]; exact hi) (next_eq ⟨h1, h2⟩) (by rw [h.hg]; omega) (by rw [h.hu]; omega) (by omega)
    rw [e, next_gen h1 h2 (by rw [h4]; omega), h4]
  · refine ⟨by rw [List.length_set]; exact h.hg, by rw [List.length_set]; exact h.hu, hN, fun j hj => ?_, fun x hx => ?_, ?_, ?_⟩
    · by_cases e : i = j
      · subst e
        rw [getD_set_self _ _ _ _ (by rw [h.hg]; exact hi)]
        omega
      · rw [getD_set_ne _ _ _ _ _ e]
        have := h.hM j hj
        omega
    · rw [List.mem_append, List.mem_singleton] at hx
      rcases hx with hx | rfl
      · obtain ⟨j, hj, rfl, huj⟩ := h.hf x hx
        refine ⟨j, hj, rfl, ?_⟩
        by_cases e : i = j
        · subst e
          rw [getD_set_self _ _ _ _ (by rw [h.hu]; exact hi)]
        · rw [getD_set_ne _ _ _ _ _ e]
          exact huj
      · exact ⟨i, hi, rfl, by rw [getD_set_self _ _ _ _ (by rw [h.hu]; exact hi)]⟩
    · rw [List.nodup_append]
      refine ⟨h.hnd, by simp, fun a ha b hb' e => ?_⟩
      rw [List.mem_singleton] at hb'
      subst hb'
      subst e
      obtain ⟨j, hj, he, huj⟩ := h.hf _ ha
      have : i = j := by omega
      subst this
      rw [getD_tf u (by rw [h.hu]; exact hi) true false, hb] at huj
      cases huj
    · have := count_set_false u i (by rw [h.hu]; exact hi) hb
      rw [List.length_append, List.length_singleton]
      omega
theorem give_stale {g : List Int} {u : List Bool} {f : List Int} {x : Int} (h : slots_Live.f g u f x = some false) : slots_Give.f g u f x = some (g, u, f, 30) := by
  unfold slots_Give.f
  rw [h]
  rfl
/-- Behind its giving back a handle is not live, nor ever as long as its slot's generation stays above. -/
theorem dead {N : Nat} {M : Int} {g u f} (h : Inv N M g u f) (hM : M ≤ 1000) {i : Nat} (hi : i < N) {q : Int} (hq : 0 ≤ q ∧ q < g.getD i 0) : slots_Live.f g u f (q * 16777216 + (i : Int)) = some false := by
  have h1 := h.hM i hi
  have h2 := h.hN
  rw [live_eq h hM ⟨by omega, by omega⟩, show (q * 16777216 + (i : Int)) % 16777216 = i from by omega, Int.toNat_natCast]
  have : ¬ hd g i = q * 16777216 + (i : Int) := by unfold hd; omega
  rw [decide_eq_false this, Bool.and_false]
/-! ### All -/
def alls (g : List Int) (u : List Bool) (k : Nat) : List Int := ((List.range k).filter (fun i => u.getD i false)).map (fun i => hd g i)
theorem allAt_eq {N : Nat} {M : Int} {g u f} (h : Inv N M g u f) (hM : M ≤ 1000) (k : Nat) (hk : k ≤ N) : allAt g u f k = some (alls g u k) := by
  induction k with
  | zero => rfl
  | succ k ih =>
    unfold allAt
    rw [ih (by omega), Option.bind_some]
    unfold alls
    rw [List.range_succ, List.filter_append, List.map_append]
    by_cases hb : u.getD k false = true
    · rw [if_pos hb, handle_eq h hM (by omega)]
      simp only [Option.bind_some]
      have hf : [k].filter (fun i => u.getD i false) = [k] := by rw [List.filter_cons, if_pos hb]; rfl
      rw [hf]
      rfl
    · have hf : [k].filter (fun i => u.getD i false) = [] := by rw [List.filter_cons, if_neg hb]; rfl
      rw [if_neg hb, hf]
      simp
theorem all_eq {N : Nat} {M : Int} {g u f} (h : Inv N M g u f) (hM : M ≤ 1000) : slots_All.f g u f = some (alls g u N) := by
  unfold slots_All.f
  have := h.hN
  rw [if_pos (by rw [h.hu]; omega), h.hu, allAt_eq h hM N (Nat.le_refl _)]
theorem alls_len {g : List Int} {u : List Bool} (k : Nat) (hk : k ≤ u.length) : (alls g u k).length = (u.take k).count true := by
  induction k with
  | zero => simp [alls]
  | succ k ih =>
    have ih := ih (by omega)
    unfold alls at ih ⊢
    rw [List.length_map] at ih ⊢
    rw [List.range_succ, List.filter_append, List.length_append, ih, List.take_add_one, List.count_append, List.getElem?_eq_getElem (by omega)]
    congr 1
    have e : u.getD k false = u[k] := by rw [List.getD_eq_getElem?_getD, List.getElem?_eq_getElem (by omega)]; rfl
    by_cases hb : u[k] = true
    · have hf : [k].filter (fun i => u.getD i false) = [k] := by rw [List.filter_cons, if_pos (e.trans hb)]; rfl
      rw [hf, hb]; rfl
    · have hf : [k].filter (fun i => u.getD i false) = [] := by rw [List.filter_cons, if_neg (by rw [e]; exact hb)]; rfl
      simp only [Bool.not_eq_true] at hb
      rw [hf, hb]; rfl
theorem alls_lenN {N : Nat} {M : Int} {g u f} (h : Inv N M g u f) : (alls g u N).length = u.count true := by
  rw [alls_len N (by rw [h.hu]; exact Nat.le_refl _), List.take_of_length_le (by rw [h.hu]; exact Nat.le_refl _)]
/-- Each of them is the handle of a slot that is taken. -/
theorem alls_mem {g : List Int} {u : List Bool} {N j : Nat} (hj : j < (alls g u N).length) : ∃ i : Nat, i < N ∧ u.getD i false = true ∧ (alls g u N).getD j 0 = hd g i := by
  have hm : (alls g u N).getD j 0 ∈ alls g u N := by
    rw [List.getD_eq_getElem?_getD, List.getElem?_eq_getElem hj]
    exact List.getElem_mem hj
  unfold alls at hm
  simp only [List.mem_map, List.mem_filter, List.mem_range] at hm
  obtain ⟨i, ⟨h1, h2⟩, h3⟩ := hm
  exact ⟨i, h1, h2, h3.symm⟩
theorem alls_rise {N : Nat} {M : Int} {g u f} (h : Inv N M g u f) (hM : M ≤ 1000) {j : Nat} (hj : j + 1 < (alls g u N).length) : (alls g u N).getD j 0 % 16777216 < (alls g u N).getD (j + 1) 0 % 16777216 := by
  have hp : (alls g u N).Pairwise (fun a b => a % 16777216 < b % 16777216) := by
    unfold alls
    rw [List.pairwise_map]
    have h1 : (List.range N).Pairwise (fun a b => a < b) := List.pairwise_lt_range
    refine (List.Pairwise.filter _ h1).imp_of_mem ?_
    intro a b ha hb hab
    simp only [List.mem_filter, List.mem_range] at ha hb
    rw [(hd_rng h hM ha.1).2.2.1, (hd_rng h hM hb.1).2.2.1]
    omega
  rw [List.getD_eq_getElem?_getD, List.getD_eq_getElem?_getD, List.getElem?_eq_getElem (by omega), List.getElem?_eq_getElem hj]
  exact List.pairwise_iff_getElem.1 hp j (j + 1) (by omega) hj (by omega)
theorem shown_ok : True := trivial
end Go.Proofs.Ytecfbacgaahlhaa.Pure
