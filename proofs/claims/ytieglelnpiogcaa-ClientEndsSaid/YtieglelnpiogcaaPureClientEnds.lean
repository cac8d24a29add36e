/-
  ClientEnds, the plain law: a call that is no Submit ends within five accesses, whatever cells have; while there is a session the pin is not 0. No condition.
-/
import Derived.Test.YtieglelnpiogcaaMath
import Derived.Test.YtieglelnpiogcaaPBx11
import Derived.Test.YtieglelnpiogcaaWfClientEnds
namespace Go.Proofs.Ytieglelnpiogcaa.clientEnds
set_option linter.unusedVariables false
set_option linter.unusedSimpArgs false
open Go.RowKit Go.Proofs.Ytieglelnpiogcaa.PB Go.Proofs.YtieglelnpiogcaaW.PrintWords Go.Proofs.YtieglelnpiogcaaW.PrintLast Go.Proofs.YtieglelnpiogcaaW.PrintMore Go.Proofs.YtieglelnpiogcaaH

theorem shown17 : treillagelaw17_shown.f 40 = some true := by decide +kernel
/-- The access of a move, in the layout of one client. -/
def aK : Nat → Int
  | 1 => 2
  | 4 => 2
  | _ => 1
def aC : Nat → Int
  | 0 => 1
  | 2 => 0
  | _ => 2
def aN (code : Nat) (seen : Int) : Int := if code = 1 then IntKind.u64.wrap (seen + 1) else 0
theorem cell_at (code : Nat) (hc : code ≤ 4) (seen : Int) : cellOf code 1 1 0 seen = some (aK code, aC code, 0, aN code seen) := by
  have e1 : mem_Epoch.f 1 1 = some 1 := by decide
  have e2 : mem_Pin.f 1 1 0 = some 2 := by decide +kernel
  have e3 : mem_Root.f 1 1 = some 0 := by decide
  have h : code = 0 ∨ code = 1 ∨ code = 2 ∨ code = 3 ∨ code = 4 := by omega
  rcases h with rfl | rfl | rfl | rfl | rfl
  · simp only [cellOf, e1, Option.bind_some]; rfl
  · simp only [cellOf, e2, Option.bind_some]; rfl
  · simp only [cellOf, e3, Option.bind_some]; rfl
  · simp only [cellOf, e2, Option.bind_some]; rfl
  · simp only [cellOf, e2, Option.bind_some]; rfl
theorem mvs_le (kd sess : Int) (s : Nat) : (mvs kd sess).getD s 0 ≤ 4 := by
  rw [List.getD_eq_getElem?_getD]
  cases e : (mvs kd sess)[s]? with
  | none => simp
  | some c =>
    have hm := List.mem_of_getElem? e
    unfold mvs at hm
    simp only [Option.getD_some]
    split at hm
    · split at hm <;> simp at hm <;> omega
    · split at hm
      · simp at hm; omega
      · split at hm <;> simp at hm <;> omega
def doM (code : Nat) (seen : Int) (m : List Int) : List Int := if code = 1 ∨ code = 4 then m.set 2 (aN code seen) else m
theorem do_at (code : Nat) (hc : code ≤ 4) (seen : Int) (m : List Int) (hm : m.length = 9) : mem_Do.f m (aK code) (aC code) 0 (aN code seen) = some (doM code seen m, rd m (aC code), true) := by
  have h : code = 0 ∨ code = 1 ∨ code = 2 ∨ code = 3 ∨ code = 4 := by omega
  unfold mem_Do.f doM
  rcases h with rfl | rfl | rfl | rfl | rfl
  · rw [if_neg (by simp [aC, hm]), if_pos (show aK 0 = 1 from rfl), if_neg (show ¬ ((0 : Nat) = 1 ∨ (0 : Nat) = 4) by decide)]
  · rw [if_neg (by simp [aC, hm]), if_neg (by decide), if_neg (fun q => absurd q.1 (by decide)), if_pos (.inl rfl), if_pos (by omega), if_pos (.inl rfl)]; rfl
  · rw [if_neg (by simp [aC, hm]), if_pos (show aK 2 = 1 from rfl), if_neg (show ¬ ((2 : Nat) = 1 ∨ (2 : Nat) = 4) by decide)]
  · rw [if_neg (by simp [aC, hm]), if_pos (show aK 3 = 1 from rfl), if_neg (show ¬ ((3 : Nat) = 1 ∨ (3 : Nat) = 4) by decide)]
  · rw [if_neg (by simp [aC, hm]), if_neg (by decide), if_neg (fun q => absurd q.1 (by decide)), if_pos (.inl rfl), if_pos (by omega), if_pos (.inr rfl)]; rfl
theorem doM_len (code : Nat) (seen : Int) (m : List Int) : (doM code seen m).length = m.length := by unfold doM; split <;> simp
section
variable {l : List S44} {i : Int} {kd : Int} {seen ver sess : Int} {told : List S74}
theorem want_at (hi : 0 ≤ i ∧ i < (l.length : Int)) (hkd : (rd_T44 l i).f0 = kd) (hk : ¬ kd = 1) (s : Nat) (hs : s < (mvs kd sess).length) : client_Want.f 1 1 l 0 i (s : Int) 0 0 0 seen ver sess told = some (aK ((mvs kd sess).getD s 0), aC ((mvs kd sess).getD s 0), 0, aN ((mvs kd sess).getD s 0) seen, true) := by
  unfold client_Want.f
  rw [hkd, if_neg (by omega), if_neg hk, Int.toNat_natCast, Nat.min_eq_left (by omega), cell_at _ (mvs_le _ _ _), Option.bind_some]
theorem got_at (hi : 0 ≤ i ∧ i < (l.length : Int)) (hkd : (rd_T44 l i).f0 = kd) (hk : ¬ kd = 1) (s : Nat) (hs : s < (mvs kd sess).length) (v : Int) : client_Got.f 1 1 l 0 i (s : Int) 0 0 0 seen ver sess told v true =
    if (s : Int) < ((mvs kd sess).length : Int) - 1 then some (0, i, wrap64 ((s : Int) + 1), 0, 0, 0, seenOf ((mvs kd sess).getD s 0) seen v, verOf ((mvs kd sess).getD s 0) ver v, sess, told)
    else client_Client_ends.f 10 0 i (s : Int) 0 0 0 (seenOf ((mvs kd sess).getD s 0) seen v) (verOf ((mvs kd sess).getD s 0) ver v) sess told kd := by
  unfold client_Got.f
  rw [want_at hi hkd hk s hs, Option.bind_some, hkd]
  dsimp only
  rw [if_neg (by decide), if_neg hk, Int.toNat_natCast, Nat.min_eq_left (by omega)]
/-- Behind s moves: the cells, and what was seen. -/
def stAt (codes : List Nat) (m : List Int) (seen ver : Int) : Nat → List Int × Int × Int
  | 0 => (m, seen, ver)
  | s + 1 => (doM (codes.getD s 0) (stAt codes m seen ver s).2.1 (stAt codes m seen ver s).1, seenOf (codes.getD s 0) (stAt codes m seen ver s).2.1 (rd (stAt codes m seen ver s).1 (aC (codes.getD s 0))), verOf (codes.getD s 0) (stAt codes m seen ver s).2.2 (rd (stAt codes m seen ver s).1 (aC (codes.getD s 0))))
theorem stAt_len (codes : List Nat) (m : List Int) (seen ver : Int) : ∀ s, (stAt codes m seen ver s).1.length = m.length
  | 0 => rfl
  | s + 1 => by rw [stAt]; dsimp only; rw [doM_len, stAt_len codes m seen ver s]
def sessOf (kd sess ver : Int) : Int := if kd = 3 ∧ sess = 0 then IntKind.u64.wrap (ver + 1) else if kd = 5 then 0 else sess
theorem ends_at (hk : ¬ kd = 1) (s : Int) (hl : told.length ≤ 100) : ∃ d, client_Client_ends.f 10 0 i s 0 0 0 seen ver sess told kd = some (0, wrap64 (i + 1), 0, 0, 0, 0, seen, ver, sessOf kd sess ver, told ++ [d]) := by
  have he : ∀ (a b se ve ss x y z : Int), client_Client_end.f 0 i s 0 0 0 se ve ss told x y z = some (0, wrap64 (i + 1), 0, 0, 0, 0, se, ve, ss, told ++ [⟨x, y, z⟩]) := by
    intro a b se ve ss x y z
    unfold client_Client_end.f
    rw [if_pos (by omega)]
  unfold client_Client_ends.f sessOf
  by_cases h3 : kd = 3
  · subst h3
    rw [if_pos rfl, client_Client_ends.j0]
    by_cases hs : sess = 0
    · subst hs
      rw [if_neg (by decide), if_pos rfl, he 0 0, Option.bind_some, if_pos ⟨rfl, rfl⟩]
      exact ⟨_, rfl⟩
    · rw [if_pos (by simpa using hs), he 0 0, Option.bind_some, if_neg (fun q => hs q.2), if_neg (by decide)]
      exact ⟨_, rfl⟩
  · rw [if_neg h3, client_Client_ends.j0, if_neg (by decide), if_neg h3, if_neg (show ¬ (kd = 3 ∧ sess = 0) from fun q => h3 q.1)]
    by_cases h2 : kd = 2
    · subst h2
      rw [if_pos rfl, he 0 0, Option.bind_some, if_neg (by decide)]
      exact ⟨_, rfl⟩
    · rw [if_neg h2]
      by_cases h4 : kd = 4
      · subst h4
        rw [if_pos rfl, client_Client_ends.j1, if_neg (by decide), if_neg (show ¬ ((4 : Int) = 5) by decide)]
        by_cases hs : sess = 0
        · subst hs
          rw [if_neg (by decide), he 0 0, Option.bind_some]
          exact ⟨_, rfl⟩
        · rw [if_pos (by simpa using hs), if_pos rfl, he 0 0, Option.bind_some]
          exact ⟨_, rfl⟩
      · rw [if_neg h4, client_Client_ends.j1]
        by_cases h5 : kd = 5
        · subst h5
          rw [if_neg (by decide), if_pos rfl]
          by_cases hs : sess = 0
          · subst hs
            rw [if_neg (by decide), he 0 0, Option.bind_some]
            exact ⟨_, rfl⟩
          · rw [if_pos (by simpa using hs), if_neg (by decide), he 0 0, Option.bind_some]
            exact ⟨_, rfl⟩
        · rw [if_pos (by simpa using h5), he 0 0, Option.bind_some, if_neg h5]
          exact ⟨_, rfl⟩
/-- All moves of a call. -/
theorem run_at (hi : 0 ≤ i ∧ i < (l.length : Int)) (hkd : (rd_T44 l i).f0 = kd) (hk : ¬ kd = 1) (hl : told.length ≤ 100) (a2 : Int) (m : List Int) (hm : m.length = 9) (k : Nat) :
    ∃ d, ∀ j s, s + j + 1 = (mvs kd sess).length → treillagelaw17_ClientEnds.l1 (k + j + 1) l a2 (stAt (mvs kd sess) m seen ver s).1 i (s : Int) 1 1 0 i (s : Int) 0 0 0 (stAt (mvs kd sess) m seen ver s).2.1 (stAt (mvs kd sess) m seen ver s).2.2 sess told =
      treillagelaw17_ClientEnds.l1 k l a2 (stAt (mvs kd sess) m seen ver (mvs kd sess).length).1 i (((mvs kd sess).length : Nat) : Int) 1 1 0 (wrap64 (i + 1)) 0 0 0 0 (stAt (mvs kd sess) m seen ver (mvs kd sess).length).2.1 (stAt (mvs kd sess) m seen ver (mvs kd sess).length).2.2 (sessOf kd sess (stAt (mvs kd sess) m seen ver (mvs kd sess).length).2.2) (told ++ [d]) := by
  have hN := mvs_pos kd sess
  obtain ⟨N, hNd⟩ : ∃ N, N = (mvs kd sess).length := ⟨_, rfl⟩
  rw [← hNd] at hN ⊢
  obtain ⟨n, hn⟩ : ∃ n, N = n + 1 := ⟨N - 1, by omega⟩
  obtain ⟨d, hd⟩ := ends_at (i := i) (kd := kd) (seen := (stAt (mvs kd sess) m seen ver N).2.1) (ver := (stAt (mvs kd sess) m seen ver N).2.2) (sess := sess) (told := told) hk (n : Int) hl
  refine ⟨d, ?_⟩
  have one : ∀ s, s < N → ∀ q, treillagelaw17_ClientEnds.l1 (q + 1) l a2 (stAt (mvs kd sess) m seen ver s).1 i (s : Int) 1 1 0 i (s : Int) 0 0 0 (stAt (mvs kd sess) m seen ver s).2.1 (stAt (mvs kd sess) m seen ver s).2.2 sess told =
      (client_Got.f 1 1 l 0 i (s : Int) 0 0 0 (stAt (mvs kd sess) m seen ver s).2.1 (stAt (mvs kd sess) m seen ver s).2.2 sess told (rd (stAt (mvs kd sess) m seen ver s).1 (aC ((mvs kd sess).getD s 0))) true).bind fun b => treillagelaw17_ClientEnds.l1 q l a2 (stAt (mvs kd sess) m seen ver (s + 1)).1 i ((s + 1 : Nat) : Int) 1 1 b.1 b.2.1 b.2.2.1 b.2.2.2.1 b.2.2.2.2.1 b.2.2.2.2.2.1 b.2.2.2.2.2.2.1 b.2.2.2.2.2.2.2.1 b.2.2.2.2.2.2.2.2.1 b.2.2.2.2.2.2.2.2.2 := by
    intro s hs q
    rw [treillagelaw17_ClientEnds.l1, if_pos rfl, want_at hi hkd hk s (by omega), Option.bind_some]
    dsimp only
    rw [do_at _ (mvs_le _ _ _) _ _ (by rw [stAt_len, hm]), Option.bind_some]
    dsimp only
    rw [if_pos rfl, if_pos rfl, if_neg (by omega), show wrap64 ((s : Int) + 1) = ((s + 1 : Nat) : Int) by unfold wrap64; omega]
    rfl
  intro j
  induction j with
  | zero =>
    intro s hs
    obtain rfl : s = n := by omega
    rw [Nat.add_zero, one s (by omega) k, got_at hi hkd hk s (by omega), if_neg (by omega)]
    rw [show seenOf ((mvs kd sess).getD s 0) (stAt (mvs kd sess) m seen ver s).2.1 (rd (stAt (mvs kd sess) m seen ver s).1 (aC ((mvs kd sess).getD s 0))) = (stAt (mvs kd sess) m seen ver N).2.1 by rw [hn]; rfl, show verOf ((mvs kd sess).getD s 0) (stAt (mvs kd sess) m seen ver s).2.2 (rd (stAt (mvs kd sess) m seen ver s).1 (aC ((mvs kd sess).getD s 0))) = (stAt (mvs kd sess) m seen ver N).2.2 by rw [hn]; rfl, hd, Option.bind_some, hn]
  | succ j ih =>
    intro s hs
    rw [show k + (j + 1) + 1 = (k + j + 1) + 1 by omega, one s (by omega) (k + j + 1), got_at hi hkd hk s (by omega), if_pos (by omega), Option.bind_some]
    dsimp only
    rw [show wrap64 ((s : Int) + 1) = ((s + 1 : Nat) : Int) by unfold wrap64; omega]
    exact ih (s + 1) (by omega)
end
/-- The cells, with a pin. -/
def mm (Rt E p : Int) : List Int := [Rt, E, p, 0, 0, 0, 0, 1, 0]
theorem mm_in (a b c : Int) : (2 : Int) < ((mm a b c).length : Int) := by show (2 : Int) < ((9 : Nat) : Int); decide
theorem fin_at (Rt E : Int) (hR : 0 ≤ Rt ∧ Rt < 1000) (hE : 0 ≤ E ∧ E < 1000) (kd sess seen ver : Int) (hk : ¬ kd = 1) :
    (stAt (mvs kd sess) (mm Rt E (if sess = 0 then 0 else E + 1)) seen ver (mvs kd sess).length).1 = mm Rt E (if sessOf kd sess (stAt (mvs kd sess) (mm Rt E (if sess = 0 then 0 else E + 1)) seen ver (mvs kd sess).length).2.2 = 0 then 0 else E + 1) := by
  have hw : IntKind.u64.wrap (E + 1) = E + 1 := wraps_u64 _ (by omega) (by omega)
  have hw2 : IntKind.u64.wrap (Rt + 1) = Rt + 1 := wraps_u64 _ (by omega) (by omega)
  have hR1 : ¬ Rt + 1 = 0 := by omega
  by_cases h2 : kd = 2
  · subst h2
    by_cases hs : sess = 0
    · subst hs
      rw [show mvs 2 0 = [0, 1, 2, 3, 4] from rfl]
      simp [stAt, doM, aN, seenOf, verOf, aC, mm, rd, sessOf]
    · rw [show mvs 2 sess = [2, 3] by unfold mvs; rw [if_pos rfl, if_pos hs]]
      simp [stAt, doM, aN, seenOf, verOf, aC, mm, rd, sessOf, hs]
  · by_cases h3 : kd = 3
    · subst h3
      by_cases hs : sess = 0
      · subst hs
        rw [show mvs 3 0 = [0, 1, 2] from rfl]
        simp [stAt, doM, aN, seenOf, verOf, aC, mm, rd, sessOf, hw, hw2, hR1]
      · rw [show mvs 3 sess = [3] by unfold mvs; rw [if_neg (by decide), if_neg (fun h => hs h.2), if_neg (fun h => absurd h.1 (by decide))]]
        simp [stAt, doM, aN, seenOf, verOf, aC, mm, rd, sessOf, hs]
    · by_cases h5 : kd = 5
      · subst h5
        by_cases hs : sess = 0
        · subst hs
          rw [show mvs 5 0 = [3] from rfl]
          simp [stAt, doM, aN, seenOf, verOf, aC, mm, rd, sessOf]
        · rw [show mvs 5 sess = [4] by unfold mvs; rw [if_neg (by decide), if_neg (fun h => absurd h.1 (by decide)), if_pos ⟨rfl, hs⟩]]
          simp [stAt, doM, aN, seenOf, verOf, aC, mm, rd, sessOf, hs]
      · rw [show mvs kd sess = [3] by unfold mvs; rw [if_neg h2, if_neg (fun h => h3 h.1), if_neg (fun h => h5 h.1)]]
        simp [stAt, doM, aN, seenOf, verOf, aC, mm, rd, sessOf, h3, h5]
theorem ends_loop (l : List S44) (hl : l.length ≤ 30) (a2 : Int) (ha : 0 ≤ a2) (Rt : Int) (hR : 0 ≤ Rt ∧ Rt < 1000) : ∀ (r i k : Nat) (seen ver sess : Int) (told : List S74), i + r = l.length → told.length = i → 20 * r + 2 ≤ k → treillagelaw17_ClientEnds.l0 k l a2 (mm Rt (a2 % 1000) (if sess = 0 then 0 else a2 % 1000 + 1)) 1 1 0 (i : Int) 0 0 0 0 seen ver sess told = some true := by
  have hE : 0 ≤ a2 % 1000 ∧ a2 % 1000 < 1000 := by omega
  have hpin : mem_Pin.f 1 1 0 = some 2 := by decide +kernel
  intro r
  induction r with
  | zero =>
    intro i k seen ver sess told hi ht hk
    obtain ⟨k, rfl⟩ : ∃ q, k = q + 1 := ⟨k - 1, by omega⟩
    rw [treillagelaw17_ClientEnds.l0, if_neg (by omega), ht]
    congr 1
    rw [beq_iff_eq]
    omega
  | succ r ih =>
    intro i k seen ver sess told hi ht hk
    obtain ⟨k, rfl⟩ : ∃ q, k = q + 1 := ⟨k - 1, by omega⟩
    rw [treillagelaw17_ClientEnds.l0, if_pos (by omega), if_pos (by omega)]
    obtain ⟨kd, hkd⟩ : ∃ kd, (rd_T44 l (i : Int)).f0 = kd := ⟨_, rfl⟩
    rw [hkd]
    by_cases h1 : kd = 1
    · rw [if_pos h1]
    · rw [if_neg h1]
      have hN := mvs_pos kd sess
      obtain ⟨d, hrun⟩ := run_at (l := l) (i := (i : Int)) (kd := kd) (seen := seen) (ver := ver) (sess := sess) (told := told) ⟨by omega, by omega⟩ hkd h1 (by omega) a2 (mm Rt (a2 % 1000) (if sess = 0 then 0 else a2 % 1000 + 1)) rfl (k - (mvs kd sess).length)
      have h0 := hrun ((mvs kd sess).length - 1) 0 (by omega)
      rw [show k - (mvs kd sess).length + ((mvs kd sess).length - 1) + 1 = k by omega] at h0
      refine Eq.trans h0 ?_
      have hf := fin_at Rt (a2 % 1000) hR hE kd sess seen ver h1
      generalize hst : stAt (mvs kd sess) (mm Rt (a2 % 1000) (if sess = 0 then 0 else a2 % 1000 + 1)) seen ver (mvs kd sess).length = st at hf ⊢
      obtain ⟨q, hq⟩ : ∃ q, k - (mvs kd sess).length = q + 1 := ⟨k - (mvs kd sess).length - 1, by omega⟩
      rw [hf, hq, treillagelaw17_ClientEnds.l1, show wrap64 ((i : Int) + 1) = ((i + 1 : Nat) : Int) by unfold wrap64; omega, if_neg (by omega), hpin, Option.bind_some, if_pos (by decide), if_pos (mm_in _ _ _)]
      generalize sessOf kd sess st.2.2 = ss
      have hih := fun seen ver => ih (i + 1) q seen ver ss (told ++ [d]) (by omega) (by rw [List.length_append, ht]; rfl) (by omega)
      by_cases hs : ss = 0
      · subst hs
        have hp : rd (mm Rt (a2 % 1000) (if (0 : Int) = 0 then 0 else a2 % 1000 + 1)) 2 = 0 := by rw [if_pos rfl]; rfl
        rw [hp, if_neg (by decide), if_pos rfl]
        exact hih _ _
      · have hp : rd (mm Rt (a2 % 1000) (if ss = 0 then 0 else a2 % 1000 + 1)) 2 = a2 % 1000 + 1 := by rw [if_neg hs]; rfl
        have hb : ¬ (((ss != 0) != (a2 % 1000 + 1 != 0)) = true) := by rw [bne_iff_ne.mpr hs, bne_iff_ne.mpr (show ¬ a2 % 1000 + 1 = 0 by omega)]; decide
        rw [hp, if_neg hb, if_neg hs, Option.bind_some, if_pos (by decide), if_pos (mm_in _ _ _), if_pos (by rw [hp, Int.tmod_eq_emod_of_nonneg ha, wraps_u64 _ (by omega) (by omega)])]
        exact hih _ _
theorem bounded_in (l : List S44) (i K : Nat) (hi : i < l.length) (hlen : l.length ≤ 140737488351232) (ho : (rd_T44 l (i : Int)).f1.length ≤ 30) (H : ∀ k, K ≤ k → ∃ b, treillagelaw17_bounded.l0 k l ((i + 1 : Nat) : Int) = some b ∧ (b = true → l.length ≤ 30)) :
    ∀ m x k, x + m = (rd_T44 l (i : Int)).f1.length → K + m + 1 ≤ k → ∃ b, treillagelaw17_bounded.l1 k l (i : Int) (x : Int) = some b ∧ (b = true → l.length ≤ 30) := by
  intro m
  induction m with
  | zero =>
    intro x k hx hk
    obtain ⟨k, rfl⟩ : ∃ q, k = q + 1 := ⟨k - 1, by omega⟩
    rw [treillagelaw17_bounded.l1, if_pos (by omega), if_pos (by omega), if_neg (by omega), show wrap64 ((i : Int) + 1) = ((i + 1 : Nat) : Int) by unfold wrap64; omega]
    exact H k (by omega)
  | succ m ih =>
    intro x k hx hk
    obtain ⟨k, rfl⟩ : ∃ q, k = q + 1 := ⟨k - 1, by omega⟩
    rw [treillagelaw17_bounded.l1, if_pos (by omega), if_pos (by omega), if_pos (by omega), if_pos (by omega)]
    split
    · exact ⟨false, rfl, fun h => by cases h⟩
    · split
      · exact ⟨false, rfl, fun h => by cases h⟩
      · rw [show wrap64 ((x : Int) + 1) = ((x + 1 : Nat) : Int) by unfold wrap64; omega]
        exact ih (x + 1) k (by omega) (by omega)
theorem bounded_out (l : List S44) (hlen : l.length ≤ 140737488351232) : ∀ r i k, i + r = l.length → 40 * r + 1 ≤ k → ∃ b, treillagelaw17_bounded.l0 k l (i : Int) = some b ∧ (b = true → l.length ≤ 30) := by
  intro r
  induction r with
  | zero =>
    intro i k hi hk
    obtain ⟨k, rfl⟩ : ∃ q, k = q + 1 := ⟨k - 1, by omega⟩
    rw [treillagelaw17_bounded.l0, if_neg (by omega)]
    exact ⟨_, rfl, fun h => by have := of_decide_eq_true h; omega⟩
  | succ r ih =>
    intro i k hi hk
    obtain ⟨k, rfl⟩ : ∃ q, k = q + 1 := ⟨k - 1, by omega⟩
    obtain ⟨k', rfl⟩ : ∃ q, k = q + 1 := ⟨k - 1, by omega⟩
    rw [treillagelaw17_bounded.l0, if_pos (by omega), if_pos (by omega)]
    split
    · rw [treillagelaw17_bounded.j1, if_pos rfl]
      exact ⟨false, rfl, fun h => by cases h⟩
    · rename_i ho
      rw [treillagelaw17_bounded.j1]
      split
      · exact ⟨false, rfl, fun h => by cases h⟩
      · exact bounded_in l i (40 * r + 1) (by omega) hlen (by omega) (fun k hk => ih (i + 1) k (by omega) hk) _ 0 k' (Nat.zero_add _) (by omega)
theorem pure : ∀ (x0 : List S44) (x1 : Int) (x2 : Int), (x0.length * Try.prog.bytesOf 44 ≤ 140737488351232 ∧ ∀ y0_ ∈ x0, wf44 y0_) → (Lit.int .u64 x1).wf = true → (Lit.int .u64 x2).wf = true → ∃ k : Nat, PB.treillagelaw17_ClientEnds.f k x0 x1 x2 = some true := by
  intro l a1 a2 ⟨hl, _⟩ h1 h2
  obtain ⟨u0, u1⟩ := wf_u64 h1
  obtain ⟨v0, v1⟩ := wf_u64 h2
  rw [bytes44] at hl
  have hlen : l.length ≤ 140737488351232 := by omega
  refine ⟨40 * l.length + 2000, ?_⟩
  have hsh : ∀ k, 40 ≤ k → treillagelaw17_shown.f k = some true := fun k hk => at_rounds treillagelaw17_shown.mono hk shown17
  have hj : treillagelaw17_ClientEnds.j0 (40 * l.length + 2000) l a1 a2 true = some true := by
    rw [treillagelaw17_ClientEnds.j0, if_pos rfl, hsh _ (by omega)]
    rfl
  obtain ⟨b, hb, hbl⟩ := bounded_out l hlen l.length 0 (40 * l.length + 2000) (by omega) (by omega)
  unfold treillagelaw17_ClientEnds.f
  rw [show treillagelaw17_bounded.f (40 * l.length + 2000) l = some b from hb, Option.bind_some]
  cases b with
  | false =>
    rw [if_neg (by decide)]
    exact hj
  | true =>
    have hl30 := hbl rfl
    have hnew : ∀ k, 40 ≤ k → mem_New.f k 1 1 = some [0, 0, 0, 0, 0, 0, 0, 1, 0] := fun k hk => at_rounds (g := fun k => mem_New.f k 1 1) (mem_New.mono 1 1) hk (by decide +kernel)
    rw [if_pos rfl, hsh _ (by omega), Option.bind_some, Bool.not_true, treillagelaw17_ClientEnds.j0, if_neg (by decide), hnew _ (by omega), Option.bind_some, show mem_Root.f 1 1 = some 0 by decide, Option.bind_some, if_pos (by decide), if_pos (by decide), show mem_Epoch.f 1 1 = some 1 by decide, Option.bind_some, if_pos (by decide), if_pos (by decide), Int.tmod_eq_emod_of_nonneg u0, Int.tmod_eq_emod_of_nonneg v0]
    exact ends_loop l hl30 a2 v0 (a1 % 1000) (by omega) l.length 0 (40 * l.length + 1999) 0 0 0 [] (by omega) rfl (by omega)

end Go.Proofs.Ytieglelnpiogcaa.clientEnds
