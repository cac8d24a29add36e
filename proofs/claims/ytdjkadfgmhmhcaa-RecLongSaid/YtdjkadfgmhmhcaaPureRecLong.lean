
import Derived.Test.YtdjkadfgmhmhcaaRecQ
import Derived.Test.YtdjkadfgmhmhcaaWfRecLong
/-
  RecLong, the plain law: a rec has as many words as its texts need, and two, and two more, if it has attributes. No condition.
-/
namespace Go.Proofs.Ytdjkadfgmhmhcaa.recLong
set_option linter.unusedVariables false
set_option linter.unusedSimpArgs false
open Go.RowKit Go.Proofs.Ytdjkadfgmhmhcaa.PA Go.Proofs.Ytdjkadfgmhmhcaa.Pure Go.Proofs.YtdjkadfgmhmhcaaW.PrintWords Go.Proofs.YtdjkadfgmhmhcaaW.PrintLast Go.Proofs.YtdjkadfgmhmhcaaW.PrintMore Go.Proofs.YtdjkadfgmhmhcaaH

theorem w7 (s : ByteArray) (hs : s.size ≤ 60) : wrap64 (Int.tdiv (wrap64 ((s.size : Int) + 7)) 8) = (((s.size + 7) / 8 : Nat) : Int) := by
  rw [show wrap64 ((s.size : Int) + 7) = (s.size : Int) + 7 by unfold wrap64; omega, Int.tdiv_eq_ediv_of_nonneg (by omega)]
  unfold wrap64
  omega
theorem wsum (a b : Nat) (h : a + b ≤ 1000000) : wrap64 ((a : Int) + (b : Int)) = ((a + b : Nat) : Int) := by
  unfold wrap64
  omega
theorem wsum2 (b : Nat) (h : b ≤ 1000000) : wrap64 (2 + (b : Int)) = ((2 + b : Nat) : Int) := by
  unfold wrap64
  omega
theorem wsum3 (a : Nat) (h : a ≤ 1000000) : wrap64 ((a : Int) + 2) = ((a + 2 : Nat) : Int) := by
  unfold wrap64
  omega
theorem flatW_take (l : List ByteArray) (i : Nat) (h : i < l.length) : (flatW (l.take (i + 1))).length = (flatW (l.take i)).length + (l[i].size + 7) / 8 := by
  rw [List.take_add_one, List.getElem?_eq_getElem h]
  simp only [flatW, Option.toList_some, List.map_append, List.map_cons, List.map_nil, List.flatten_append, List.flatten_cons, List.flatten_nil, List.append_nil, List.length_append, wds_len]
theorem long_loop {k p : Int} {n t : ByteArray} {l : List ByteArray} {r z : Int} (h : MayR k p n t l z) (B : Nat) (hB : B = 2 + (n.size + 7) / 8 + (t.size + 7) / 8 + (lens2 l).length) : ∀ m i q, i + m = l.length → m < q → treillagelaw11_RecLong.l0 q (packL k p n t l r z) ((B + (flatW (l.take i)).length : Nat) : Int) (i : Int) k p n t l r z = some true := by
  have hlen := packL_len (r := r) h
  have hh := h
  obtain ⟨hk, hp, hn, ht, hl, h2, hs, hz⟩ := hh
  have hfl := flatW_small hl hs
  have hl2 := lens2_len l
  have hB2 : B ≤ 100 := by rw [hB, hl2]; split <;> omega
  intro m
  induction m with
  | zero =>
    intro i q hi hq
    obtain ⟨q, rfl⟩ : ∃ y, q = y + 1 := ⟨q - 1, by omega⟩
    obtain rfl : i = l.length := by omega
    have hH := head_parts (n := (n.size : Int)) (t := (t.size : Int)) (q := ((l.length / 2 : Nat) : Int)) hk hp (by omega) (by omega) (by omega) hz
    have e0 : rd (packL k p n t l r z) 0 = headOf k (p + 1) n.size t.size ((l.length / 2 : Nat) : Int) z := rfl
    have e1 : rd (packL k p n t l r z) 1 = r := rfl
    rw [treillagelaw11_RecLong.l0, if_neg (by omega), List.take_length, if_pos (by omega), if_pos (by omega), e1, if_pos rfl, if_pos (by omega), e0, Int.tmod_eq_emod_of_nonneg hH.1.1, hH.2.1, wraps_u64 k hk.1 (by omega)]
    simp
  | succ m ih =>
    intro i q hi hq
    obtain ⟨q, rfl⟩ : ∃ y, q = y + 1 := ⟨q - 1, by omega⟩
    have hx : rdOf ByteArray.empty l (i : Int) = l[i] := by rw [rdOf_nat, List.getD_eq_getElem?_getD, List.getElem?_eq_getElem (show i < l.length by omega)]; rfl
    have hsz := hs _ (List.getElem_mem (show i < l.length by omega))
    have hft := flatW_take l i (by omega)
    have hfs := flatW_small (l := l.take i) (by rw [List.length_take]; omega) (fun s h => hs s (List.mem_of_mem_take h))
    rw [treillagelaw11_RecLong.l0, if_pos (by omega), if_pos (by omega), hx, w7 _ hsz, wsum _ _ (by omega), show wrap64 ((i : Int) + 1) = ((i + 1 : Nat) : Int) by unfold wrap64; omega, show B + (flatW (l.take i)).length + (l[i].size + 7) / 8 = B + (flatW (l.take (i + 1))).length by rw [hft]; omega]
    exact ih (i + 1) q (by omega) (by omega)
theorem pure : ∀ (x0 : S27), wf27 x0 → ∃ k : Nat, PA.treillagelaw11_RecLong.f k x0.f0 x0.f1 x0.f2 x0.f3 x0.f4 x0.f5.f0 x0.f5.f1 = some true := by
  rintro ⟨k, p, n, t, l, ⟨r, z⟩⟩ hwf
  obtain ⟨w0, w1, w2, w3, ⟨w4, _⟩, w5⟩ := hwf
  dsimp only at w0 w1 w2 w3 w4 w5 ⊢
  rw [bytes9] at w4
  refine ⟨l.length + 100, ?_⟩
  have hj : ∀ m, treillagelaw11_RecLong.j0 (l.length + 100) m true k p n t l r z = some true := by
    intro m
    rw [treillagelaw11_RecLong.j0, if_pos rfl, shown_at (by omega)]
    rfl
  unfold treillagelaw11_RecLong.f
  by_cases hm : MayR k p n t l z
  · rw [pack_yes hm, Option.bind_some, bounded_eq _ _ _ _ _ _ _ (by omega) _ (by omega), Option.bind_some, if_pos (may_bounded hm), if_pos rfl, shown_at (by omega), Option.bind_some, Bool.not_true, treillagelaw11_RecLong.j0, if_neg (by decide)]
    have hloop := fun B hB => long_loop (r := r) hm B hB l.length 0 (l.length + 98) (by omega) (by omega)
    have hl2 := lens2_len l
    have hn := hm.hn
    have ht := hm.ht
    rw [w7 n (by omega), w7 t ht, wsum2 _ (by omega), wsum _ _ (by omega), wsum3 _ (by omega)]
    by_cases hl0 : (l.length : Int) > 0
    · have h := hloop (2 + (n.size + 7) / 8 + (t.size + 7) / 8 + (lens2 l).length) rfl
      rw [hl2, if_neg (by omega)] at h
      rw [if_pos hl0, treillagelaw11_RecLong.j1]
      refine Eq.trans (congrArg (fun x => treillagelaw11_RecLong.l0 (l.length + 98) (packL k p n t l r z) x 0 k p n t l r z) ?_) h
      simp only [List.take_zero, flatW, List.map_nil, List.flatten_nil, List.length_nil]
      try omega
    · have h := hloop (2 + (n.size + 7) / 8 + (t.size + 7) / 8 + (lens2 l).length) rfl
      rw [hl2, if_pos (by omega)] at h
      rw [if_neg hl0, treillagelaw11_RecLong.j1]
      refine Eq.trans (congrArg (fun x => treillagelaw11_RecLong.l0 (l.length + 98) (packL k p n t l r z) x 0 k p n t l r z) ?_) h
      simp only [List.take_zero, flatW, List.map_nil, List.flatten_nil, List.length_nil]
      try omega
  · rw [pack_no hm, Option.bind_some, bounded_eq _ _ _ _ _ _ _ (by omega) _ (by omega), Option.bind_some]
    split
    · rw [if_neg (by decide)]
      exact hj _
    · exact hj _

end Go.Proofs.Ytdjkadfgmhmhcaa.recLong
