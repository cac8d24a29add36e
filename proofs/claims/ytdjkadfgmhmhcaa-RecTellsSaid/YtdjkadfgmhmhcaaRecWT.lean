/-
  The reference's Unpack, whole; and that both Packs, both Unpacks answer the same.
-/
import Derived.Test.YtdjkadfgmhmhcaaRecVT
namespace Go.Proofs.Ytdjkadfgmhmhcaa.PureT
set_option linter.unusedVariables false
set_option linter.unusedSimpArgs false
open Go.RowKit Go.Proofs.Ytdjkadfgmhmhcaa.PT Go.Proofs.YtdjkadfgmhmhcaaW.PrintWords Go.Proofs.YtdjkadfgmhmhcaaW.PrintLast Go.Proofs.YtdjkadfgmhmhcaaW.PrintMore Go.Proofs.YtdjkadfgmhmhcaaH

noncomputable def ansF (l : List Int) : R8 :=
  if l.length < 2 then errR
  else if rd l 0 / 2097152 % 16 > 0 then
    (if (l.drop 2).length < 2 ∨ rd l 0 / 2097152 % 16 > 8 then errR
    else ans3 l (rd l 0) ((l.drop 2).drop 2) ((List.range (2 * (rd l 0 / 2097152 % 16).toNat)).map (lenR (l.drop 2))) (rd l 0 % 4) (rd l 0 / 4 % 256 - 1) (rd l 1) (rd l 0 / 33554432 % 256))
  else ans3 l (rd l 0) (l.drop 2) [] (rd l 0 % 4) (rd l 0 / 4 % 256 - 1) (rd l 1) (rd l 0 / 33554432 % 256)
theorem f_eq {l : List Int} (hu : U64s l) (hl : l.length ≤ 200) (k : Nat) (hk : 3000 ≤ k) : treillageref11_Unpack.f k l = some (ansF l) := by
  unfold treillageref11_Unpack.f ansF
  by_cases c0 : l.length < 2
  · rw [if_pos (by omega), if_pos c0]
    rfl
  · have hH : 0 ≤ rd l 0 ∧ rd l 0 < 18446744073709551616 := u64s_getD hu 0
    have e0 : wrap64 (Int.tmod (rd l 0) 4) = rd l 0 % 4 := by
      rw [Int.tmod_eq_emod_of_nonneg hH.1]
      unfold wrap64
      omega
    have e1 := part_eq (rd l 0) hH 4 256 (by omega) (by omega)
    have e4 := part_eq (rd l 0) hH 2097152 16 (by omega) (by omega)
    have e5 := part_eq (rd l 0) hH 33554432 256 (by omega) (by omega)
    rw [if_neg (by omega), if_pos (by omega), if_pos (by omega), if_pos (by omega), if_neg c0, Option.bind_some, Option.bind_some, e0, e1, e4, e5]
    rw [show wrap64 (rd l 0 / 4 % 256 - 1) = rd l 0 / 4 % 256 - 1 by unfold wrap64; omega]
    generalize hHd : rd l 0 = H at *
    generalize hpd : H / 2097152 % 16 = q at *
    have hq : 0 ≤ q ∧ q < 16 := by omega
    have hdl : (l.drop 2).length ≤ 200 := by rw [List.length_drop]; omega
    by_cases c1 : q > 0
    · rw [if_pos c1, if_pos c1]
      obtain ⟨k, rfl⟩ : ∃ x, k = x + 1 := ⟨k - 1, by omega⟩
      by_cases c2 : (l.drop 2).length < 2
      · rw [if_pos (by omega), treillageref11_Unpack.j0, if_pos rfl, if_pos (.inl c2)]
        rfl
      · rw [if_neg (by omega), treillageref11_Unpack.j0]
        by_cases c3 : q > 8
        · rw [if_pos (decide_eq_true c3), if_pos (.inr c3)]
          rfl
        · rw [if_neg (by simpa using c3), if_neg (by omega)]
          obtain ⟨p, rfl⟩ : ∃ p : Nat, q = p := ⟨q.toNat, by omega⟩
          rw [Int.toNat_natCast]
          exact lens_loop (u64Drop hu 2) l H p (by omega) (H % 4) (H / 4 % 256 - 1) _ _ (rd l 1) (H / 33554432 % 256) _ 2100 (by omega) (fun k hk => j3_eq l (by omega) H hH _ (u64Drop (u64Drop hu 2) 2) (by rw [List.length_drop]; omega) _ (fun x hx => by
            obtain ⟨i, _, rfl⟩ := List.mem_map.1 hx
            unfold lenR
            omega) (by simp; omega) _ _ _ _ _ _ k hk) (2 * p) 0 k (by omega) (by omega)
    · rw [if_neg c1, if_neg c1]
      exact j3_eq l (by omega) H hH _ (u64Drop hu 2) (by omega) _ (fun x hx => by cases hx) (by simp) _ _ _ _ _ _ k (by omega)
theorem answer_or (x0 : List Int) (g : Bool) (a b : Int) (n t : ByteArray) (A : List ByteArray) (c d : Int) : answer x0 g a b n t A c d = errR ∨ ∃ q' p' n' t' A' r' z', answer x0 g a b n t A c d = (q', p', n', t', A', r', z', 0) ∧ MayR q' p' n' t' A' z' ∧ packL q' p' n' t' A' r' z' = x0 := by
  by_cases h : g = true ∧ MayR a b n t A d ∧ packL a b n t A c d = x0
  · exact .inr ⟨a, b, n, t, A, c, d, if_pos h, h.2.1, h.2.2⟩
  · exact .inl (if_neg h)
theorem ans3_or (x0 : List Int) (x4 : Int) (rest x8 : List Int) (a b c d : Int) : ans3 x0 x4 rest x8 a b c d = errR ∨ ∃ q' p' n' t' A' r' z', ans3 x0 x4 rest x8 a b c d = (q', p', n', t', A', r', z', 0) ∧ MayR q' p' n' t' A' z' ∧ packL q' p' n' t' A' r' z' = x0 := by
  unfold ans3
  by_cases h : (takeR rest (x4 / 1024 % 32)).2.2 = true
  · rw [if_pos h]
    exact answer_or _ _ _ _ _ _ _ _ _
  · exact .inl (if_neg h)
theorem ansF_or (l : List Int) : ansF l = errR ∨ ∃ q' p' n' t' A' r' z', ansF l = (q', p', n', t', A', r', z', 0) ∧ MayR q' p' n' t' A' z' ∧ packL q' p' n' t' A' r' z' = l := by
  unfold ansF
  by_cases h0 : l.length < 2
  · exact .inl (if_pos h0)
  · rw [if_neg h0]
    by_cases h1 : rd l 0 / 2097152 % 16 > 0
    · rw [if_pos h1]
      by_cases h2 : (l.drop 2).length < 2 ∨ rd l 0 / 2097152 % 16 > 8
      · exact .inl (if_pos h2)
      · rw [if_neg h2]
        exact ans3_or _ _ _ _ _ _ _ _
    · rw [if_neg h1]
      exact ans3_or _ _ _ _ _ _ _ _
theorem goR_words : ∀ (A B : List ByteArray), (∀ s ∈ A, s.size ≤ 60) → goR (sizes A) (flatW A) true B = (B ++ A, true) := by
  intro A
  induction A with
  | nil => intro B _; rw [List.append_nil]; rfl
  | cons s A ih =>
    intro B hs
    have hf : flatW (s :: A) = wds s ++ flatW A := by simp only [flatW, List.map_cons, List.flatten_cons]
    rw [show sizes (s :: A) = (s.size : Int) :: sizes A from rfl, hf, goR, if_pos rfl, takeR_words s (hs s List.mem_cons_self)]
    dsimp only
    rw [ih (B ++ [s]) (fun x hx => hs x (List.mem_cons_of_mem _ hx)), List.append_assoc]
    rfl
theorem ans3_pack {q p : Int} {n t : ByteArray} {A : List ByteArray} {r z : Int} (h : MayR q p n t A z) (H : Int) (hn : H / 1024 % 32 = n.size) (ht : H / 32768 % 64 = t.size) : ans3 (packL q p n t A r z) H (wds n ++ (wds t ++ flatW A)) (sizes A) q p r z = (q, p, n, t, A, r, z, 0) := by
  unfold ans3
  rw [hn, ht, takeR_words n (by have := h.hn; omega)]
  dsimp only
  rw [if_pos rfl, takeR_words t h.ht]
  dsimp only
  rw [goR_words A [] h.hs]
  unfold answer
  dsimp only
  rw [if_pos ⟨rfl, h, rfl⟩]
  rfl
theorem lens_words {A : List ByteArray} (hs : ∀ s ∈ A, s.size ≤ 60) (hl : A.length ≤ 16) (R : List Int) (h0 : A.length ≠ 0) (p : Nat) (hp : 2 * p = A.length) : (List.range (2 * p)).map (lenR (lens2 A ++ R)) = sizes A := by
  have hL : (sizes A).length = A.length := by unfold sizes; simp
  have hq := lensAt_eq A (six_sizes hs) hl A.length (Nat.le_refl _)
  have r0 : 0 ≤ (lensAt A A.length).1 ∧ (lensAt A A.length).1 < 18446744073709551616 := by
    rw [hq]
    have := v64_lt_pow (sixTake (six_sizes hs) (min A.length 8)) (n := 8) (by rw [List.length_take]; omega)
    have h2 := v64_nonneg (sixTake (six_sizes hs) (min A.length 8))
    simp only [Int.reducePow] at this
    dsimp only
    omega
  have r1 : 0 ≤ (lensAt A A.length).2 ∧ (lensAt A A.length).2 < 18446744073709551616 := by
    rw [hq]
    have := v64_lt_pow (sixTake (sixDrop (six_sizes hs) 8) (A.length - 8)) (n := 8) (by rw [List.length_take, List.length_drop]; omega)
    have h2 := v64_nonneg (sixTake (sixDrop (six_sizes hs) 8) (A.length - 8))
    simp only [Int.reducePow] at this
    dsimp only
    omega
  refine List.ext_getElem (by rw [List.length_map, List.length_range]; omega) (fun i h1 h2 => ?_)
  have hi : i < A.length := by omega
  have e := attrLen_lens A (six_sizes hs) hl i hi
  rw [attrLen_at _ _ i (by omega) r0 r1] at e
  rw [List.getElem_map, List.getElem_range]
  unfold lenR lens2
  rw [if_neg h0]
  rw [List.getD_eq_getElem?_getD (l := sizes A), List.getElem?_eq_getElem h2] at e
  refine Eq.trans ?_ e
  by_cases c : i < 8
  · rw [if_pos c, show i / 8 = 0 by omega]
    rfl
  · rw [if_neg c, show i / 8 = 1 by omega]
    rfl
theorem ansF_pack {q p : Int} {n t : ByteArray} {A : List ByteArray} {r z : Int} (h : MayR q p n t A z) : ansF (packL q p n t A r z) = (q, p, n, t, A, r, z, 0) := by
  have h' := h
  obtain ⟨h1, h2, h3, h4, h5, h6, h7, h8⟩ := h'
  have hh := head_parts (n := (n.size : Int)) (t := (t.size : Int)) (q := ((A.length / 2 : Nat) : Int)) h1 h2 (by omega) (by omega) (by omega) h8
  have hd : (packL q p n t A r z).drop 2 = lens2 A ++ (wds n ++ (wds t ++ flatW A)) := rfl
  have hr0 : rd (packL q p n t A r z) 0 = headOf q (p + 1) n.size t.size ((A.length / 2 : Nat) : Int) z := rfl
  have hr1 : rd (packL q p n t A r z) 1 = r := rfl
  have hlen : ¬ (packL q p n t A r z).length < 2 := by unfold packL; simp
  have h3p := fun H hn ht => ans3_pack (r := r) h H hn ht
  generalize hL : packL q p n t A r z = L at *
  unfold ansF
  rw [if_neg hlen, hr0, hr1, hd]
  generalize headOf q (p + 1) n.size t.size ((A.length / 2 : Nat) : Int) z = H at *
  obtain ⟨_, c0, c1, c2, c3, c4, c5⟩ := hh
  rw [c0, c1, c4, c5, show p + 1 - 1 = p by omega]
  by_cases c : A.length = 0
  · rw [if_neg (by omega)]
    have hA : A = [] := List.length_eq_zero_iff.1 c
    have := h3p H c2 c3
    rw [hA] at this ⊢
    exact this
  · have hl2 : (lens2 A).length = 2 := by rw [lens2_len, if_neg c]
    rw [if_pos (by omega), if_neg (by rw [List.length_append]; omega), Int.toNat_natCast, lens_words h7 h5 _ c _ (by omega), List.drop_left' hl2]
    exact h3p H c2 c3
theorem tells_pack (q p : Int) (n t : ByteArray) (A : List ByteArray) (r z : Int) (hl : A.length ≤ 140737488351232) : ∃ m e, rec_Pack.f q p n t A r z = some (m, e) ∧ m.length ≤ 300 ∧ ∀ k, A.length + 400 ≤ k → treillageref11_Pack.f k q p n t A r z = some (m, e) := by
  by_cases h : MayR q p n t A z
  · refine ⟨_, _, pack_yes h, ?_, fun k hk => refPack_yes h k (by omega)⟩
    have h1 := packL_len (r := r) h
    have h2 := flatW_small h.hl h.hs
    have h3 := lens2_len A
    have h4 := h.hn
    have h5 := h.ht
    have h6 : (lens2 A).length ≤ 2 := by rw [h3]; split <;> omega
    omega
  · exact ⟨_, _, pack_no h, by simp, fun k hk => refPack_no h hl k (by omega)⟩
theorem tells_unpack {l : List Int} (hu : U64s l) (hl : l.length ≤ 200) : ∃ X : R8, rec_Unpack.f l = some X ∧ X.2.2.2.2.1.length ≤ 16 ∧ ∀ k, 3000 ≤ k → treillageref11_Unpack.f k l = some X := by
  rcases unpack_some l (by omega) with ⟨q, p, n, t, a, r, z, h⟩ | h
  · have hb := unpack_back h
    by_cases hm : MayR q p n t a z
    · rw [pack_yes hm] at hb
      have hp : packL q p n t a r z = l := congrArg Prod.fst (Option.some.inj hb)
      refine ⟨_, h, hm.hl, fun k hk => ?_⟩
      rw [f_eq hu hl k hk, ← hp, ansF_pack hm]
    · rw [pack_no hm] at hb
      exact absurd (congrArg Prod.snd (Option.some.inj hb)) (by show ¬ (1 : Int) = 0; decide)
  · refine ⟨_, h, by decide, fun k hk => ?_⟩
    rw [f_eq hu hl k hk]
    rcases ansF_or l with e | ⟨a, b, n, t, A, c, d, _, hm, hp⟩
    · rw [e]; rfl
    · rw [← hp, unpack_pack hm] at h
      simp at h

end Go.Proofs.Ytdjkadfgmhmhcaa.PureT
