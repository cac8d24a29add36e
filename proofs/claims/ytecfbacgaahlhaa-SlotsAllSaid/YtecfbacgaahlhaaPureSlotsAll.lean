/-
  SlotsAll: the handles that are live rise by their indices; all are live, and none behind its giving back: the plain law. No condition beyond the statement's own.
-/
import Derived.Test.YtecfbacgaahlhaaPAx6
import Derived.Test.YtecfbacgaahlhaaSlotsM
namespace Go.Proofs.Ytecfbacgaahlhaa.Pure
set_option linter.unusedVariables false
set_option linter.unusedSimpArgs false
open Go.RowKit Go.Proofs.Ytecfbacgaahlhaa.PA Go.Proofs.YtecfbacgaahlhaaW.PrintWords Go.Proofs.YtecfbacgaahlhaaW.PrintLast Go.Proofs.YtecfbacgaahlhaaW.PrintMore Go.Proofs.YtecfbacgaahlhaaH

theorem shown3 : treillagelaw03_shown.f = some true := by decide +kernel
theorem w64n (i : Nat) (h : i < 1000000) : wrap64 ((i : Int) + 1) = ((i + 1 : Nat) : Int) := by unfold wrap64; omega
theorem rdn (l : List Int) (j : Nat) : rd l (j : Int) = l.getD j 0 := by unfold rd; rw [Int.toNat_natCast]
theorem u16_rng (v : Int) : 0 ≤ IntKind.u16.wrap v ∧ IntKind.u16.wrap v < 65536 := by
  simp [IntKind.wrap, IntKind.bits, IntKind.signed]
  omega
theorem all_l1 {N : Nat} {M : Int} {g u f} (h : Inv N M g u f) (hM : M ≤ 900) (x0 : Int) (hx : Int.tmod (wrap64 x0) 30 = (N : Int)) : ∀ m j k : Nat, j + m = (alls g u N).length → m < k → treillagelaw03_SlotsAll.l1 k x0 (alls g u N) (j : Int) g u f = some true := by
  have hlen := alls_lenN h
  have hN := h.hN
  have hc := h.hc
  intro m
  induction m with
  | zero =>
    intro j k h1 h2
    obtain ⟨k, rfl⟩ : ∃ q, k = q + 1 := ⟨k - 1, by omega⟩
    unfold treillagelaw03_SlotsAll.l1
    rw [if_neg (by omega), hx, decide_eq_true (by omega)]
  | succ m ih =>
    intro j k h1 h2
    obtain ⟨k, rfl⟩ : ∃ q, k = q + 1 := ⟨k - 1, by omega⟩
    have ih := ih (j + 1) k (by omega) (by omega)
    obtain ⟨i, hi, hui, he⟩ := alls_mem (g := g) (u := u) (N := N) (j := j) (by omega)
    unfold treillagelaw03_SlotsAll.l1
    rw [if_pos (by omega), if_pos (by omega), rdn, he, live_hd h (by omega) hi true hui, Option.bind_some, if_pos rfl, w64n j (by omega)]
    by_cases hj : j = 0
    · rw [if_neg (by omega)]
      exact ih
    · obtain ⟨p, rfl⟩ : ∃ p, j = p + 1 := ⟨j - 1, by omega⟩
      have ew : wrap64 (((p + 1 : Nat) : Int) - 1) = (p : Int) := by unfold wrap64; omega
      obtain ⟨i2, hi2, hui2, he2⟩ := alls_mem (g := g) (u := u) (N := N) (j := p) (by omega)
      have hr := alls_rise h (by omega) (j := p) (by omega)
      rw [he, he2] at hr
      have r1 := hd_rng h (by omega) hi
      have r2 := hd_rng h (by omega) hi2
      rw [if_pos (by omega), ew, if_pos (by omega), if_pos (by omega), rdn, he2, Int.tmod_eq_emod_of_nonneg r2.1, Int.tmod_eq_emod_of_nonneg r1.1, if_neg (by omega)]
      exact ih
theorem all_j2 (k : Nat) (x0 : Int) (x1 : List Int) (x7 : Int) (x8 : List Int) (g : List Int) (u : List Bool) (f : List Int) : treillagelaw03_SlotsAll.j2 (k + 1) x0 x1 x7 x8 true g u f = (slots_Take.f g u f).bind fun bt229 => (treillagelaw03_SlotsAll.l0 k x0 x1 (wrap64 (x7 + 1)) bt229.1 bt229.2.1 bt229.2.2.1) := by
  unfold treillagelaw03_SlotsAll.j2
  rfl
theorem all_j2f (k : Nat) (x0 : Int) (x1 : List Int) (x7 : Int) (x8 : List Int) (g : List Int) (u : List Bool) (f : List Int) : treillagelaw03_SlotsAll.j2 (k + 1) x0 x1 x7 x8 false g u f = (if 0 ≤ x7 then (if x7 < (x1.length : Int) then (if (x8.length : Int) = 0 then (none) else (if 0 ≤ (Int.tmod (wrap64 (IntKind.u16.wrap (Int.tdiv (rd x1 x7) 4))) (x8.length : Int)) then (if (Int.tmod (wrap64 (IntKind.u16.wrap (Int.tdiv (rd x1 x7) 4))) (x8.length : Int)) < (x8.length : Int) then ((slots_Give.f g u f (rd x8 (Int.tmod (wrap64 (IntKind.u16.wrap (Int.tdiv (rd x1 x7) 4))) (x8.length : Int)))).bind fun bt242 => ((slots_Give.f bt242.1 bt242.2.1 bt242.2.2.1 (rd x8 (Int.tmod (wrap64 (IntKind.u16.wrap (Int.tdiv (rd x1 x7) 4))) (x8.length : Int)))).bind fun bt253 => (if bt242.2.2.2 = 0 then (if bt253.2.2.2 = 30 then (treillagelaw03_SlotsAll.l0 k x0 x1 (wrap64 (x7 + 1)) bt242.1 bt242.2.1 bt242.2.2.1) else (some false)) else (some false)))) else (none)) else (none))) else (none)) else (none)) := by
  unfold treillagelaw03_SlotsAll.j2
  rfl
theorem all_l0 {N : Nat} (x0 : Int) (hx : Int.tmod (wrap64 x0) 30 = (N : Int)) (acts : List Int) (ha : acts.length ≤ 150) : ∀ m j k : Nat, ∀ g u f, Inv N (1 + (j : Int)) g u f → j + m = acts.length → 2 * m + 600 < k → treillagelaw03_SlotsAll.l0 k x0 acts (j : Int) g u f = some true := by
  intro m
  induction m with
  | zero =>
    intro j k g u f h h1 h2
    obtain ⟨k, rfl⟩ : ∃ q, k = q + 1 := ⟨k - 1, by omega⟩
    have hlen := alls_lenN h
    have hN := h.hN
    have hc := h.hc
    unfold treillagelaw03_SlotsAll.l0
    rw [if_neg (by omega), all_eq h (by omega), Option.bind_some]
    exact all_l1 h (by omega) x0 hx (alls g u N).length 0 k (by omega) (by omega)
  | succ m ih =>
    intro j k g u f h h1 h2
    obtain ⟨k, rfl⟩ : ∃ q, k = q + 1 := ⟨k - 1, by omega⟩
    obtain ⟨k, rfl⟩ : ∃ q, k = q + 1 := ⟨k - 1, by omega⟩
    have htake : treillagelaw03_SlotsAll.j2 (k + 1) x0 acts (j : Int) (alls g u N) true g u f = some true := by
      rw [all_j2]
      rcases Nat.eq_zero_or_pos f.length with h0 | hp
      · rw [take_full h0, Option.bind_some, w64n j (by omega)]
        exact ih (j + 1) k g u f (h.mono (by omega)) (by omega) (by omega)
      · obtain ⟨q, hq, hqx, huq, ht, hI⟩ := take_eq h (by omega) hp
        rw [ht, Option.bind_some, w64n j (by omega)]
        exact ih (j + 1) k g _ _ (hI.mono (by omega)) (by omega) (by omega)
    unfold treillagelaw03_SlotsAll.l0
    rw [if_pos (by omega), all_eq h (by omega), Option.bind_some, if_pos (by omega)]
    by_cases c1 : Int.tmod (rd acts (j : Int)) 4 > 0
    · rw [if_pos c1]
      exact htake
    · rw [if_neg c1]
      by_cases c2 : (alls g u N).length = 0
      · rw [show (((alls g u N).length : Int) == 0) = true from by rw [c2]; rfl]
        exact htake
      · rw [show (((alls g u N).length : Int) == 0) = false from by rw [beq_eq_false_iff_ne]; omega, all_j2f, if_pos (by omega), if_pos (by omega), if_neg (by omega)]
        obtain ⟨v, hv⟩ : ∃ v, v = IntKind.u16.wrap (Int.tdiv (rd acts (j : Int)) 4) := ⟨_, rfl⟩
        have hvr := u16_rng (Int.tdiv (rd acts (j : Int)) 4)
        rw [← hv] at hvr
        rw [← hv, show wrap64 v = v from by unfold wrap64; omega, Int.tmod_eq_emod_of_nonneg hvr.1]
        have q0 := Int.emod_nonneg v (b := ((alls g u N).length : Int)) (by omega)
        have q1 := Int.emod_lt_of_pos v (b := ((alls g u N).length : Int)) (by omega)
        obtain ⟨q, hq⟩ : ∃ q : Nat, v % ((alls g u N).length : Int) = (q : Int) := ⟨(v % ((alls g u N).length : Int)).toNat, by omega⟩
        rw [hq] at q0 q1 ⊢
        obtain ⟨i, hi, hui, he⟩ := alls_mem (g := g) (u := u) (N := N) (j := q) (by omega)
        obtain ⟨hg1, hI⟩ := give_eq h (by omega) hi hui
        have hgi := h.hM i hi
        have hst := give_stale (dead hI (by omega) hi (q := g.getD i 0) ⟨by omega, by rw [getD_set_self _ _ _ _ (by rw [h.hg]; exact hi)]; omega⟩)
        rw [if_pos q0, if_pos q1, rdn, he, hg1, Option.bind_some]
        show ((slots_Give.f _ _ _ (g.getD i 0 * 16777216 + (i : Int))).bind _) = _
        rw [hst, Option.bind_some, if_pos rfl, if_pos rfl, w64n j (by omega)]
        exact ih (j + 1) k _ _ _ (hI.mono (by omega)) (by omega) (by omega)
theorem all_j0 (k : Nat) (x0 : Int) (x1 : List Int) : treillagelaw03_SlotsAll.j0 (k + 1) x0 x1 true = some true := by
  unfold treillagelaw03_SlotsAll.j0
  show (treillagelaw03_shown.f).bind _ = _
  rw [shown3]
  rfl
theorem all_j0f (k : Nat) (x0 : Int) (x1 : List Int) : treillagelaw03_SlotsAll.j0 (k + 1) x0 x1 false = ((slots_New.f (Int.tmod (wrap64 (x0)) 30)).bind fun bt214 => (if bt214.2.2.2 = 0 then (treillagelaw03_SlotsAll.l0 k x0 x1 0 bt214.1 bt214.2.1 bt214.2.2.1) else (some false))) := by
  unfold treillagelaw03_SlotsAll.j0
  rfl
theorem SlotsAll : treillagelaw03_SlotsAll.Pure := by
  intro a0 l1 w0 hm hs hw
  have b0 := wf_u8 w0
  refine ⟨2001, ?_⟩
  unfold treillagelaw03_SlotsAll.f
  by_cases hl : (l1.length : Int) > 150
  · rw [if_pos hl]
    exact all_j0 2000 a0 l1
  · rw [if_neg hl, shown3, Option.bind_some]
    show treillagelaw03_SlotsAll.j0 (2000 + 1) a0 l1 false = _
    rw [all_j0f]
    obtain ⟨n, hn⟩ : ∃ n : Nat, a0 % 30 = (n : Int) := ⟨(a0 % 30).toNat, by omega⟩
    have e0 : Int.tmod (wrap64 a0) 30 = (n : Int) := by rw [show wrap64 a0 = a0 from by unfold wrap64; omega, Int.tmod_eq_emod_of_nonneg b0.1, hn]
    rw [e0, new_eq (by omega), Option.bind_some, if_pos rfl]
    exact all_l0 a0 e0 l1 (by omega) l1.length 0 2000 _ _ _ (new_inv (by omega)) (by omega) (by omega)
end Go.Proofs.Ytecfbacgaahlhaa.Pure
