/-
  The reference's May, numbers, Pack and Unpack, as plain lists: Pack's words are packL; Unpack reads them again, or tells its error.
-/
import Derived.Test.YtdjkadfgmhmhcaaRecQT
import Derived.Test.YtdjkadfgmhmhcaaPTx8
namespace Go.Proofs.Ytdjkadfgmhmhcaa.PureT
set_option linter.unusedVariables false
set_option linter.unusedSimpArgs false
open Go.RowKit Go.Proofs.Ytdjkadfgmhmhcaa.PT Go.Proofs.YtdjkadfgmhmhcaaW.PrintWords Go.Proofs.YtdjkadfgmhmhcaaW.PrintLast Go.Proofs.YtdjkadfgmhmhcaaW.PrintMore Go.Proofs.YtdjkadfgmhmhcaaH

theorem recMay_no {k p : Int} {n t : ByteArray} {l : List ByteArray} {z : Int} (h : ¬ MayR k p n t l z) : recMay k p n t l z = false := Bool.eq_false_iff.2 (fun e => h (may_iff.1 e))
theorem getD_mem (l : List ByteArray) (i : Nat) (h : i < l.length) : l.getD i ByteArray.empty ∈ l := by
  rw [List.getD_eq_getElem?_getD, List.getElem?_eq_getElem h]
  exact List.getElem_mem _
theorem refMay_loop (q p : Int) (n t : ByteArray) (l : List ByteArray) (r z : Int) (hl : l.length ≤ 140737488351232) : ∀ m i k, i + m = l.length → m < k → (∀ s ∈ l.take i, s.size ≤ 60) → treillageref11_May.l0 k (i : Int) q p n t l r z = some (recMay q p n t l z) := by
  intro m
  induction m with
  | zero =>
    intro i k hi hk hs
    obtain ⟨k, rfl⟩ : ∃ x, k = x + 1 := ⟨k - 1, by omega⟩
    have hs' : ∀ s ∈ l, s.size ≤ 60 := fun s h => hs s (by rw [List.take_of_length_le (by omega)]; exact h)
    rw [treillageref11_May.l0, if_neg (by omega)]
    by_cases hm : MayR q p n t l z
    · rw [may_iff.2 hm]
      obtain ⟨h1, h2, h3, h4, h5, h6, h7, h8⟩ := hm
      rw [if_pos (by omega), if_pos (by omega), if_pos (by omega), if_pos (by omega), if_pos (by omega), if_pos (by omega), if_pos (by omega), if_pos (by omega), if_pos (by omega), decide_eq_true (by omega)]
    · rw [recMay_no hm]
      repeat' split
      all_goals first
        | rfl
        | exact congrArg some (decide_eq_false (fun hz => hm ⟨by omega, by omega, by omega, by omega, by omega, by omega, hs', by omega⟩))
  | succ m ih =>
    intro i k hi hk hs
    obtain ⟨k, rfl⟩ : ∃ x, k = x + 1 := ⟨k - 1, by omega⟩
    rw [treillageref11_May.l0, if_pos (by omega), if_pos (by omega), rdOf_nat]
    have hx := getD_mem l i (by omega)
    by_cases c : ((l.getD i ByteArray.empty).size : Int) > 60
    · rw [if_pos c, recMay_no (fun e => by have := e.hs _ hx; omega)]
    · rw [if_neg c, show wrap64 ((i : Int) + 1) = ((i + 1 : Nat) : Int) by unfold wrap64; omega]
      refine ih (i + 1) k (by omega) (by omega) (fun s h => ?_)
      rw [List.take_add_one, List.getElem?_eq_getElem (show i < l.length by omega), List.mem_append] at h
      rcases h with h | h
      · exact hs s h
      · rw [List.getD_eq_getElem?_getD, List.getElem?_eq_getElem (show i < l.length by omega)] at c
        simp only [Option.toList, List.mem_singleton] at h
        subst h
        simp only [Option.getD_some] at c
        omega
theorem refMay_eq (q p : Int) (n t : ByteArray) (l : List ByteArray) (r z : Int) (hl : l.length ≤ 140737488351232) (k : Nat) (hk : l.length < k) : treillageref11_May.f k q p n t l r z = some (recMay q p n t l z) := refMay_loop q p n t l r z hl l.length 0 k (by omega) hk (fun s h => by simp at h)

theorem number_step (x0 x1 : List Int) (x5 : Int) (i k : Nat) (h0 : i < x0.length) (h1 : i < x1.length) (hl : x0.length ≤ 100) : treillageref11_number.l0 (k + 1) x0 x1 x5 (i : Int) = treillageref11_number.l0 k x0 x1 (IntKind.u64.wrap (IntKind.u64.wrap (x5 * x1.getD i 0) + x0.getD i 0)) ((i : Int) - 1) := by
  rw [treillageref11_number.l0, if_pos (by omega), if_pos (by omega), if_pos (by omega), if_pos (by omega), show wrap64 ((i : Int) - 1) = (i : Int) - 1 by unfold wrap64; omega]
  rfl
theorem number_end (x0 x1 : List Int) (x5 : Int) (k : Nat) : treillageref11_number.l0 (k + 1) x0 x1 x5 (-1) = some x5 := by
  rw [treillageref11_number.l0, if_neg (by omega)]
theorem number_head (a b c d e g : Int) (ha : 0 ≤ a ∧ a < 4) (hb : 0 ≤ b ∧ b < 256) (hc : 0 ≤ c ∧ c < 32) (hd : 0 ≤ d ∧ d < 64) (he : 0 ≤ e ∧ e < 16) (hg : 0 ≤ g ∧ g < 256) (k : Nat) (hk : 10 ≤ k) : treillageref11_number.f k [a, b, c, d, e, g] [4, 256, 32, 64, 16, 256] = some (headOf a b c d e g) := by
  obtain ⟨k, rfl⟩ : ∃ x, k = x + 7 := ⟨k - 7, by omega⟩
  unfold treillageref11_number.f
  rw [show wrap64 ((([a, b, c, d, e, g] : List Int).length : Int) - 1) = ((5 : Nat) : Int) by simp only [List.length_cons, List.length_nil]; unfold wrap64; omega]
  have e5 : IntKind.u64.wrap (IntKind.u64.wrap (0 * 256) + g) = g := by rw [IntKind.wrap_u64, IntKind.wrap_u64]; omega
  have e4 : IntKind.u64.wrap (IntKind.u64.wrap (g * 16) + e) = g * 16 + e := by rw [IntKind.wrap_u64, IntKind.wrap_u64]; omega
  have e3 : IntKind.u64.wrap (IntKind.u64.wrap ((g * 16 + e) * 64) + d) = (g * 16 + e) * 64 + d := by rw [IntKind.wrap_u64, IntKind.wrap_u64]; omega
  have e2 : IntKind.u64.wrap (IntKind.u64.wrap (((g * 16 + e) * 64 + d) * 32) + c) = ((g * 16 + e) * 64 + d) * 32 + c := by rw [IntKind.wrap_u64, IntKind.wrap_u64]; omega
  have e1 : IntKind.u64.wrap (IntKind.u64.wrap ((((g * 16 + e) * 64 + d) * 32 + c) * 256) + b) = (((g * 16 + e) * 64 + d) * 32 + c) * 256 + b := by rw [IntKind.wrap_u64, IntKind.wrap_u64]; omega
  have e0 : IntKind.u64.wrap (IntKind.u64.wrap (((((g * 16 + e) * 64 + d) * 32 + c) * 256 + b) * 4) + a) = ((((g * 16 + e) * 64 + d) * 32 + c) * 256 + b) * 4 + a := by rw [IntKind.wrap_u64, IntKind.wrap_u64]; omega
  have s : ∀ (i k : Nat) (x5 : Int), i < 6 → treillageref11_number.l0 (k + 1) [a, b, c, d, e, g] [4, 256, 32, 64, 16, 256] x5 (i : Int) = treillageref11_number.l0 k [a, b, c, d, e, g] [4, 256, 32, 64, 16, 256] (IntKind.u64.wrap (IntKind.u64.wrap (x5 * ([4, 256, 32, 64, 16, 256] : List Int).getD i 0) + ([a, b, c, d, e, g] : List Int).getD i 0)) ((i : Int) - 1) := fun i k x5 h => number_step _ _ _ i k (by simpa using h) (by simpa using h) (by simp)
  have t5 := (s 5 (k + 6) 0 (by omega)).trans (congrArg (fun x => treillageref11_number.l0 (k + 6) _ _ x _) e5)
  have t4 := (s 4 (k + 5) g (by omega)).trans (congrArg (fun x => treillageref11_number.l0 (k + 5) _ _ x _) e4)
  have t3 := (s 3 (k + 4) _ (by omega)).trans (congrArg (fun x => treillageref11_number.l0 (k + 4) _ _ x _) e3)
  have t2 := (s 2 (k + 3) _ (by omega)).trans (congrArg (fun x => treillageref11_number.l0 (k + 3) _ _ x _) e2)
  have t1 := (s 1 (k + 2) _ (by omega)).trans (congrArg (fun x => treillageref11_number.l0 (k + 2) _ _ x _) e1)
  have t0 := (s 0 (k + 1) _ (by omega)).trans (congrArg (fun x => treillageref11_number.l0 (k + 1) _ _ x _) e0)
  refine t5.trans (t4.trans (t3.trans (t2.trans (t1.trans (t0.trans ?_)))))
  refine (number_end _ _ _ k).trans (congrArg some ?_)
  unfold headOf
  omega
theorem number_six {x0 : List Int} (h : Six x0) (hl : x0.length ≤ 8) : ∀ i k, i ≤ x0.length → i + 1 ≤ k → treillageref11_number.l0 k x0 (List.replicate x0.length 64) (v64 (x0.drop i)) ((i : Int) - 1) = some (v64 x0) := by
  intro i
  induction i with
  | zero =>
    intro k hi hk
    obtain ⟨k, rfl⟩ : ∃ x, k = x + 1 := ⟨k - 1, by omega⟩
    exact number_end _ _ _ k
  | succ i ih =>
    intro k hi hk
    obtain ⟨k, rfl⟩ : ∃ x, k = x + 1 := ⟨k - 1, by omega⟩
    have hv := v64_lt_pow (sixDrop h (i + 1)) (n := 7) (by rw [List.length_drop]; omega)
    have hv0 := v64_nonneg (sixDrop h (i + 1))
    have hx := sixGet h i
    simp only [Int.reducePow] at hv
    have hd : v64 (x0.drop i) = x0.getD i 0 + 64 * v64 (x0.drop (i + 1)) := by
      rw [List.drop_eq_getElem_cons (show i < x0.length by omega), v64, List.getD_eq_getElem?_getD, List.getElem?_eq_getElem (show i < x0.length by omega)]
      rfl
    have h64 : (List.replicate x0.length (64 : Int)).getD i 0 = 64 := by
      rw [List.getD_eq_getElem?_getD, List.getElem?_replicate, if_pos (by omega)]
      rfl
    rw [show ((i + 1 : Nat) : Int) - 1 = (i : Int) by omega, number_step _ _ _ i k (by omega) (by rw [List.length_replicate]; omega) (by omega), h64]
    rw [show IntKind.u64.wrap (IntKind.u64.wrap (v64 (x0.drop (i + 1)) * 64) + x0.getD i 0) = v64 (x0.drop i) by rw [hd, IntKind.wrap_u64, IntKind.wrap_u64]; omega]
    exact ih k (by omega) (by omega)
theorem sixes_loop (l : List ByteArray) (hs : ∀ s ∈ l, s.size ≤ 60) (hl : l.length ≤ 8) : ∀ m i k, i + m = l.length → m + 12 ≤ k → treillageref11_sixes.l0 k l ((sizes l).take i) (List.replicate i 64) (i : Int) = some (v64 (sizes l)) := by
  have hL : (sizes l).length = l.length := by unfold sizes; simp
  intro m
  induction m with
  | zero =>
    intro i k hi hk
    obtain ⟨k, rfl⟩ : ∃ x, k = x + 1 := ⟨k - 1, by omega⟩
    obtain rfl : i = l.length := by omega
    have hn := number_six (six_sizes hs) (by omega) l.length k (by omega) (by omega)
    rw [treillageref11_sixes.l0, if_neg (by omega), List.take_of_length_le (by omega)]
    unfold treillageref11_number.f
    rw [hL, List.drop_of_length_le (by omega)] at hn
    rw [hL, show wrap64 ((l.length : Int) - 1) = (l.length : Int) - 1 by unfold wrap64; omega]
    rw [show treillageref11_number.l0 k (sizes l) (List.replicate l.length 64) 0 ((l.length : Int) - 1) = some (v64 (sizes l)) from hn]
    rfl
  | succ m ih =>
    intro i k hi hk
    obtain ⟨k, rfl⟩ : ∃ x, k = x + 1 := ⟨k - 1, by omega⟩
    have hx := hs _ (getD_mem l i (by omega))
    rw [treillageref11_sixes.l0, if_pos (by omega), if_pos (by omega), if_pos (by rw [List.length_take]; omega), if_pos (by rw [List.length_replicate]; omega), rdOf_nat, wraps_u64 _ (by omega) (by omega), show wrap64 ((i : Int) + 1) = ((i + 1 : Nat) : Int) by unfold wrap64; omega]
    rw [show (sizes l).take i ++ [((l.getD i ByteArray.empty).size : Int)] = (sizes l).take (i + 1) by rw [take_succ_getD _ _ (by omega), sizes_getD], show List.replicate i (64 : Int) ++ [64] = List.replicate (i + 1) 64 by rw [List.replicate_succ']]
    exact ih (i + 1) k (by omega) (by omega)
theorem sixes_eq (l : List ByteArray) (hs : ∀ s ∈ l, s.size ≤ 60) (hl : l.length ≤ 8) (k : Nat) (hk : 24 ≤ k) : treillageref11_sixes.f k l = some (v64 (sizes l)) := sixes_loop l hs hl l.length 0 k (by omega) (by omega)

theorem refPack_loop (l : List ByteArray) (hs : ∀ s ∈ l, s.size ≤ 60) (hl : l.length ≤ 16) (a b : Int) (n t : ByteArray) (c d : Int) : ∀ m i k O, i + m = l.length → m + 150 ≤ k → O.length ≤ 10000 + 10 * i → treillageref11_Pack.l0 k (l.length : Int) O (i : Int) a b n t l c d = some (O ++ flatW (l.drop i), 0) := by
  intro m
  induction m with
  | zero =>
    intro i k O hi hk hO
    obtain ⟨k, rfl⟩ : ∃ x, k = x + 1 := ⟨k - 1, by omega⟩
    rw [treillageref11_Pack.l0, if_neg (by omega), List.drop_of_length_le (by omega)]
    simp [flatW]
  | succ m ih =>
    intro i k O hi hk hO
    obtain ⟨k, rfl⟩ : ∃ x, k = x + 1 := ⟨k - 1, by omega⟩
    have hx := hs _ (getD_mem l i (by omega))
    have hw : (wordsL (bytesOf (l.getD i ByteArray.empty))).length ≤ 8 := by rw [wordsL_len, bytesOf_length]; omega
    rw [treillageref11_Pack.l0, if_pos (by omega), if_pos (by omega), if_pos (by omega), rdOf_nat, refWords_eq _ (by omega) k (by omega), Option.bind_some, if_pos (by omega), show wrap64 ((i : Int) + 1) = ((i + 1 : Nat) : Int) by unfold wrap64; omega]
    rw [ih (i + 1) k _ (by omega) (by omega) (by rw [List.length_append]; omega), List.append_assoc]
    refine congrArg some (Prod.ext (congrArg (O ++ ·) ?_) rfl)
    rw [List.drop_eq_getElem_cons (show i < l.length by omega), List.getD_eq_getElem?_getD, List.getElem?_eq_getElem (show i < l.length by omega)]
    simp only [flatW, List.map_cons, List.flatten_cons, Option.getD_some]
    rfl
theorem refPack_yes {q p : Int} {n t : ByteArray} {l : List ByteArray} {r z : Int} (h : MayR q p n t l z) (k : Nat) (hk : 400 ≤ k) : treillageref11_Pack.f k q p n t l r z = some (packL q p n t l r z, 0) := by
  have hm := may_iff.2 h
  obtain ⟨h1, h2, h3, h4, h5, h6, h7, h8⟩ := h
  have hL : (sizes l).length = l.length := by unfold sizes; simp
  have hd2 : (l.length : Int) / 2 = ((l.length / 2 : Nat) : Int) := by omega
  have hj : ∀ O : List Int, O.length ≤ 100 → treillageref11_Pack.j0 k (l.length : Int) O q p n t l r z = some (O ++ (wds n ++ (wds t ++ flatW l)), 0) := by
    intro O hO
    obtain ⟨k, rfl⟩ : ∃ x, k = x + 1 := ⟨k - 1, by omega⟩
    have w1 : (wordsL (bytesOf n)).length ≤ 8 := by rw [wordsL_len, bytesOf_length]; omega
    have w2 : (wordsL (bytesOf t)).length ≤ 8 := by rw [wordsL_len, bytesOf_length]; omega
    rw [treillageref11_Pack.j0, refWords_eq _ (by omega) k (by omega), Option.bind_some, if_pos (by omega), Option.bind_some, refWords_eq _ (by omega) k (by omega), Option.bind_some, if_pos (by rw [List.length_append]; omega)]
    have := refPack_loop l h7 h5 q p n t r z l.length 0 k ((O ++ wordsL (bytesOf n)) ++ wordsL (bytesOf t)) (by omega) (by omega) (by rw [List.length_append, List.length_append]; omega)
    refine Eq.trans this ?_
    rw [List.drop_zero, List.append_assoc, List.append_assoc]
    rfl
  unfold treillageref11_Pack.f
  rw [refMay_eq _ _ _ _ _ _ _ (by omega) k (by omega), hm, Option.bind_some, if_pos rfl, hd2, show wrap64 (p + 1) = p + 1 by unfold wrap64; omega, show wrap64 ((l.length / 2 : Nat) : Int) = ((l.length / 2 : Nat) : Int) by unfold wrap64; omega, wraps_u64 q (by omega) (by omega), wraps_u64 (p + 1) (by omega) (by omega), wraps_u64 (n.size : Int) (by omega) (by omega), wraps_u64 (t.size : Int) (by omega) (by omega), wraps_u64 ((l.length / 2 : Nat) : Int) (by omega) (by omega), wraps_u64 z (by omega) (by omega)]
  rw [number_head q (p + 1) n.size t.size ((l.length / 2 : Nat) : Int) z (by omega) (by omega) (by omega) (by omega) (by omega) (by omega) k (by omega), Option.bind_some, Option.bind_some]
  unfold packL lens2
  by_cases c : l.length = 0
  · rw [if_neg (by omega), if_pos c, hj _ (by simp)]
    rfl
  · obtain ⟨M, hM⟩ : ∃ M, M = min l.length 8 := ⟨_, rfl⟩
    have hmn : mn (l.length : Int) 8 = (M : Int) := by unfold mn; split <;> omega
    rw [if_pos (by omega), hmn, if_pos (by omega), if_pos (by omega), if_neg c, Int.toNat_natCast]
    rw [sixes_eq (l.take M) (fun s hs => h7 s (List.mem_of_mem_take hs)) (by rw [List.length_take]; omega) k (by omega), Option.bind_some, sixes_eq (l.drop M) (fun s hs => h7 s (List.mem_of_mem_drop hs)) (by rw [List.length_drop]; omega) k (by omega), Option.bind_some, Option.bind_some, if_pos (by simp), hj _ (by simp), lensAt_eq l (six_sizes h7) h5 l.length (Nat.le_refl _)]
    have e1 : sizes (l.take M) = (sizes l).take M := by unfold sizes; rw [List.map_take]
    have e2 : sizes (l.drop M) = ((sizes l).drop 8).take (l.length - 8) := by
      unfold sizes
      rw [List.map_drop, List.take_of_length_le (by simp)]
      by_cases c8 : l.length ≤ 8
      · rw [List.drop_of_length_le (by simp; omega), List.drop_of_length_le (by simp; omega)]
      · rw [show M = 8 by omega]
    rw [e1, e2, hM]
    simp only [List.append_assoc]
theorem refPack_no {q p : Int} {n t : ByteArray} {l : List ByteArray} {r z : Int} (h : ¬ MayR q p n t l z) (hl : l.length ≤ 140737488351232) (k : Nat) (hk : l.length < k) : treillageref11_Pack.f k q p n t l r z = some ([], 1) := by
  unfold treillageref11_Pack.f
  rw [refMay_eq _ _ _ _ _ _ _ hl k hk, recMay_no h, Option.bind_some, if_neg (by decide)]

end Go.Proofs.Ytdjkadfgmhmhcaa.PureT
