
import Derived.Test.YtooefecjkgdpbaaDoorOpR
import Derived.Test.YtooefecjkgdpbaaDoorPAx8
import Derived.KernelRfl

/-
  The words of an operation: the reference's digits are strconv's, and its Print is the program's.
-/
namespace Go.Proofs.YtooefecjkgdpbaaDoor.Pure
set_option linter.unusedVariables false
set_option linter.unusedSimpArgs false
open Go.RowKit Go.Proofs.YtooefecjkgdpbaaDoor.PA Go.Proofs.YtooefecjkgdpbaaDoorW.PrintWords Go.Proofs.YtooefecjkgdpbaaDoorW.PrintLast Go.Proofs.YtooefecjkgdpbaaDoorW.PrintMore Go.Proofs.YtooefecjkgdpbaaDoorH

def bs (l : List UInt8) : ByteArray := ⟨l.toArray⟩
theorem bs_app (a b : List UInt8) : bs a ++ bs b = bs (a ++ b) := by
  unfold bs
  apply ByteArray.ext
  simp [ByteArray.data_append]
theorem bs_size (a : List UInt8) : (bs a).size = a.length := by simp [bs, ByteArray.size]
theorem digit_eq (d : Nat) (h : d < 10) : (⟨#[48, 49, 50, 51, 52, 53, 54, 55, 56, 57]⟩ : ByteArray).extract d (d + 1) = bs [UInt8.ofNat (48 + d)] := by
  obtain rfl | rfl | rfl | rfl | rfl | rfl | rfl | rfl | rfl | rfl : d = 0 ∨ d = 1 ∨ d = 2 ∨ d = 3 ∨ d = 4 ∨ d = 5 ∨ d = 6 ∨ d = 7 ∨ d = 8 ∨ d = 9 := by omega
  all_goals decide +kernel
theorem dec_small (u : Nat) (h : u < 10) : Lib.decDigits u = [UInt8.ofNat (48 + u)] := by
  rw [Lib.decDigits, dif_pos h]
theorem dec_big (u : Nat) (h : ¬ u < 10) : Lib.decDigits u = Lib.decDigits (u / 10) ++ [UInt8.ofNat (48 + u % 10)] := by
  rw [Lib.decDigits, dif_neg h]
theorem natural_eq : ∀ (m k u : Nat), u < 10 ^ (m + 1) → u < 18446744073709551616 → m < k → treillageref06_natural.f k (u : Int) = some (bs (Lib.decDigits u)) ∧ (Lib.decDigits u).length ≤ m + 1
  | m, 0, u, _, _, hk => by omega
  | m, k + 1, u, hu, hb, hk => by
    rw [treillageref06_natural.f]
    by_cases h : u < 10
    · have e : IntKind.u64.wrap ((u : Int) + 1) = ((u + 1 : Nat) : Int) := by rw [IntKind.wrap_u64]; omega
      rw [if_pos (by omega), if_pos (by omega), e, if_pos (by omega), if_pos (by omega), Int.toNat_natCast, Int.toNat_natCast, digit_eq u h, dec_small u h]
      exact ⟨rfl, by simp⟩
    · obtain ⟨m, rfl⟩ : ∃ n, m = n + 1 := by
        rcases m with _ | m
        · omega
        · exact ⟨m, rfl⟩
      have e1 : IntKind.u64.wrap (Int.tdiv (u : Int) 10) = ((u / 10 : Nat) : Int) := by
        rw [Int.tdiv_eq_ediv_of_nonneg (by omega), IntKind.wrap_u64]
        omega
      have e2 : Int.tmod (u : Int) 10 = ((u % 10 : Nat) : Int) := by
        rw [Int.tmod_eq_emod_of_nonneg (by omega)]
        omega
      have e3 : IntKind.u64.wrap (((u % 10 : Nat) : Int) + 1) = ((u % 10 + 1 : Nat) : Int) := by rw [IntKind.wrap_u64]; omega
      obtain ⟨ih, il⟩ := natural_eq m k (u / 10) (by rw [Nat.pow_succ] at hu; omega) (by omega) (by omega)
      have hm := Nat.mod_lt u (show 0 < 10 by decide)
      rw [if_neg (by omega), e1, ih, Option.bind_some, e2, e3, if_pos (by omega), if_pos (by omega), if_pos (by omega), Int.toNat_natCast, Int.toNat_natCast, digit_eq (u % 10) hm]
      rw [bs_app, bs_size, bs_size, dec_big u h]
      have hm20 : m ≤ 100000 ∨ 100000 < m := by omega
      have hl : (Lib.decDigits (u / 10)).length ≤ 100 := by
        have := Lib.decDigits_length (u / 10)
        have h2 := Lib.itoa_length_le ((u / 10 : Nat) : Int) (by omega) (by omega)
        rw [Lib.itoa_nonneg] at h2
        omega
      rw [if_pos (by simp; omega)]
      exact ⟨rfl, by rw [List.length_append]; simp; omega⟩
theorem digits_eq {k : Nat} (hk : 30 ≤ k) {n : Int} (hn : I64 n) : treillageref06_Digits.f k n = some (itoaB n) := by
  unfold treillageref06_Digits.f itoaB Lib.itoa
  by_cases h : n < 0
  · rw [if_pos h, if_pos h]
    have e : IntKind.u64.wrap (IntKind.u64.wrap (wrap64 (-(wrap64 (n + 1)))) + 1) = ((n.natAbs : Nat) : Int) := by
      simp only [IntKind.wrap_u64, wrap64]
      omega
    obtain ⟨h1, h2⟩ := natural_eq 19 k n.natAbs (by have : (10 : Nat) ^ 20 = 100000000000000000000 := by decide
                                                    omega) (by omega) (by omega)
    rw [e, h1, Option.bind_some, bs_size, if_pos (by omega)]
    show some (bs [45] ++ bs _) = _
    rw [bs_app]
    rfl
  · rw [if_neg h, if_neg h]
    have e : IntKind.u64.wrap n = ((n.toNat : Nat) : Int) := by
      rw [IntKind.wrap_u64]
      omega
    obtain ⟨h1, h2⟩ := natural_eq 19 k n.toNat (by have : (10 : Nat) ^ 20 = 100000000000000000000 := by decide
                                                   omega) (by omega) (by omega)
    rw [e, h1, Option.bind_some]
    rfl
/-! ### Print -/
def stepP (a b c : Int) (s t : ByteArray) (acc : ByteArray) (x : Int) : ByteArray :=
  if x = 105 then (acc ++ (⟨#[32]⟩ : ByteArray)) ++ itoaB a else if x = 116 then (acc ++ (⟨#[32]⟩ : ByteArray)) ++ itoaB b else if x = 97 then (acc ++ (⟨#[32]⟩ : ByteArray)) ++ itoaB c
  else if x = 110 then ((acc ++ (⟨#[32, 91]⟩ : ByteArray)) ++ s) ++ (⟨#[93]⟩ : ByteArray) else if x = 120 then ((acc ++ (⟨#[32, 91]⟩ : ByteArray)) ++ t) ++ (⟨#[93]⟩ : ByteArray) else acc
theorem sz1 : (⟨#[32]⟩ : ByteArray).size = 1 := rfl
theorem sz2 : (⟨#[32, 91]⟩ : ByteArray).size = 2 := rfl
theorem sz3 : (⟨#[93]⟩ : ByteArray).size = 1 := rfl
theorem print_loop (n a b c : Int) (s t : ByteArray) (ha : I64 a) (hb : I64 b) (hc : I64 c) (hs : s.size ≤ 255) (ht : t.size ≤ 255) (cs : List Int) (hcs : Bts cs) : ∀ (m i k : Nat) (acc : ByteArray), i + m = cs.length → m + 40 ≤ k → acc.size + 300 * m ≤ 100000 → cs.length ≤ 100 →
    treillageref06_Print.l0 k acc (strOfNums cs) (i : Int) n a b c s t = some ((cs.drop i).foldl (stepP a b c s t) acc)
  | m, i, 0, acc, _, hk, _, _ => by omega
  | m, i, k + 1, acc, hm, hk, hz, hl => by
    rw [treillageref06_Print.l0]
    by_cases hi : i < cs.length
    · rw [if_pos (by rw [strOfNums_size]; omega), if_pos (by omega), bt_strOfNums hcs]
      have e : rd cs (i : Int) = cs[i] := by
        unfold rd
        rw [Int.toNat_natCast, List.getD_eq_getElem?_getD, List.getElem?_eq_getElem hi]
        rfl
      have hd : cs.drop i = cs[i] :: cs.drop (i + 1) := List.drop_eq_getElem_cons hi
      have za := itoaB_size a (by omega) (by omega)
      have zb := itoaB_size b (by omega) (by omega)
      have zc := itoaB_size c (by omega) (by omega)
      rw [e, hd, List.foldl_cons, show wrap64 ((i : Int) + 1) = ((i + 1 : Nat) : Int) by unfold wrap64; omega]
      have go : ∀ acc2 : ByteArray, acc2.size ≤ acc.size + 300 → treillageref06_Print.l0 k acc2 (strOfNums cs) ((i + 1 : Nat) : Int) n a b c s t = some ((cs.drop (i + 1)).foldl (stepP a b c s t) acc2) := fun acc2 h2 =>
        print_loop n a b c s t ha hb hc hs ht cs hcs (m - 1) (i + 1) k acc2 (by omega) (by omega) (by omega) hl
      by_cases h1 : cs[i] = 105
      · rw [if_pos h1, if_pos (by omega), digits_eq (by omega) ha, Option.bind_some, if_pos (by rw [ByteArray.size_append, sz1]; omega), go _ (by rw [ByteArray.size_append, ByteArray.size_append, sz1]; omega)]
        unfold stepP
        rw [if_pos h1]
      · rw [if_neg h1]
        by_cases h2 : cs[i] = 116
        · rw [if_pos h2, if_pos (by omega), digits_eq (by omega) hb, Option.bind_some, if_pos (by rw [ByteArray.size_append, sz1]; omega), go _ (by rw [ByteArray.size_append, ByteArray.size_append, sz1]; omega)]
          unfold stepP
          rw [if_neg h1, if_pos h2]
        · rw [if_neg h2]
          by_cases h3 : cs[i] = 97
          · rw [if_pos h3, if_pos (by omega), digits_eq (by omega) hc, Option.bind_some, if_pos (by rw [ByteArray.size_append, sz1]; omega), go _ (by rw [ByteArray.size_append, ByteArray.size_append, sz1]; omega)]
            unfold stepP
            rw [if_neg h1, if_neg h2, if_pos h3]
          · rw [if_neg h3]
            by_cases h4 : cs[i] = 110
            · rw [if_pos h4, if_pos (by omega), if_pos (by rw [ByteArray.size_append, sz2]; omega), if_pos (by rw [ByteArray.size_append, ByteArray.size_append, sz2]; omega), go _ (by rw [ByteArray.size_append, ByteArray.size_append, ByteArray.size_append, sz2, sz3]; omega)]
              unfold stepP
              rw [if_neg h1, if_neg h2, if_neg h3, if_pos h4]
            · rw [if_neg h4]
              by_cases h5 : cs[i] = 120
              · rw [if_pos h5, if_pos (by omega), if_pos (by rw [ByteArray.size_append, sz2]; omega), if_pos (by rw [ByteArray.size_append, ByteArray.size_append, sz2]; omega), go _ (by rw [ByteArray.size_append, ByteArray.size_append, ByteArray.size_append, sz2, sz3]; omega)]
                unfold stepP
                rw [if_neg h1, if_neg h2, if_neg h3, if_neg h4, if_pos h5]
              · rw [if_neg h5, go _ (by omega)]
                unfold stepP
                rw [if_neg h1, if_neg h2, if_neg h3, if_neg h4, if_neg h5]
    · rw [if_neg (by rw [strOfNums_size]; omega), List.drop_eq_nil_of_le (by omega)]
      rfl
theorem app3 (a b c : ByteArray) : (a ++ b) ++ c = a ++ (b ++ c) := ByteArray.append_assoc
theorem refprint_eq {k : Nat} (hk : 100 ≤ k) (n a b c : Int) (s t : ByteArray) (ha : I64 a) (hb : I64 b) (hc : I64 c) : treillageref06_Print.f k n a b c s t = op_Print.f n a b c s t := by
  unfold treillageref06_Print.f op_Print.f
  rw [refmay_eq (by omega), Option.bind_some]
  by_cases hm : opMay n a b c s t = true
  · obtain ⟨h1, h8, hs, ht⟩ := opMay_kind n a b c s t hm
    rw [if_pos hm, if_pos hm, Option.bind_some, if_pos (by omega : (-9223372036854775808 ≤ a ∧ a ≤ 9223372036854775807) ∧ (-9223372036854775808 ≤ b ∧ b ≤ 9223372036854775807) ∧ (-9223372036854775808 ≤ c ∧ c ≤ 9223372036854775807))]
    clear hm
    obtain rfl | rfl | rfl | rfl | rfl | rfl | rfl | rfl : n = 1 ∨ n = 2 ∨ n = 3 ∨ n = 4 ∨ n = 5 ∨ n = 6 ∨ n = 7 ∨ n = 8 := by omega
    · rw [show wrap64 ((1 : Int) - 1) = 0 from by decide +kernel, if_pos (by decide), if_pos (by decide +kernel), has_1 (by omega), Option.bind_some]
      have e := print_loop 1 a b c s t ha hb hc hs ht [110] (by intro x hx; simp at hx; omega) 1 0 k (⟨#[101, 108, 101, 109, 101, 110, 116]⟩ : ByteArray) (by rfl) (by omega) (by decide) (by decide)
      have e0 : treillageref06_Print.l0 k (rdOf ByteArray.empty [(⟨#[101, 108, 101, 109, 101, 110, 116]⟩ : ByteArray), (⟨#[116, 101, 120, 116]⟩ : ByteArray), (⟨#[99, 111, 109, 109, 101, 110, 116]⟩ : ByteArray), (⟨#[105, 110, 115, 101, 114, 116]⟩ : ByteArray), (⟨#[114, 101, 109, 111, 118, 101]⟩ : ByteArray), (⟨#[115, 101, 116]⟩ : ByteArray), (⟨#[117, 110, 115, 101, 116]⟩ : ByteArray), (⟨#[99, 104, 97, 110, 103, 101]⟩ : ByteArray)] 0) (⟨#[110]⟩ : ByteArray) 0 1 a b c s t = treillageref06_Print.l0 k (⟨#[101, 108, 101, 109, 101, 110, 116]⟩ : ByteArray) (strOfNums [110]) ((0 : Nat) : Int) 1 a b c s t := by kernel_rfl
      refine e0.trans (e.trans ?_)
      unfold opPrint
      rw [show shpW 1 = (⟨#[101, 108, 101, 109, 101, 110, 116]⟩ : ByteArray) by decide +kernel, show shpN 1 = 0 by decide, show shpS 1 = true by decide, show shpT 1 = false by decide]
      simp only [List.drop_zero, List.foldl_cons, List.foldl_nil, stepP, addNum, addText, app3]
      simp [app3]
    · rw [show wrap64 ((2 : Int) - 1) = 1 from by decide +kernel, if_pos (by decide), if_pos (by decide +kernel), has_2 (by omega), Option.bind_some]
      have e := print_loop 2 a b c s t ha hb hc hs ht [120] (by intro x hx; simp at hx; omega) 1 0 k (⟨#[116, 101, 120, 116]⟩ : ByteArray) (by rfl) (by omega) (by decide) (by decide)
      have e0 : treillageref06_Print.l0 k (rdOf ByteArray.empty [(⟨#[101, 108, 101, 109, 101, 110, 116]⟩ : ByteArray), (⟨#[116, 101, 120, 116]⟩ : ByteArray), (⟨#[99, 111, 109, 109, 101, 110, 116]⟩ : ByteArray), (⟨#[105, 110, 115, 101, 114, 116]⟩ : ByteArray), (⟨#[114, 101, 109, 111, 118, 101]⟩ : ByteArray), (⟨#[115, 101, 116]⟩ : ByteArray), (⟨#[117, 110, 115, 101, 116]⟩ : ByteArray), (⟨#[99, 104, 97, 110, 103, 101]⟩ : ByteArray)] 1) (⟨#[120]⟩ : ByteArray) 0 2 a b c s t = treillageref06_Print.l0 k (⟨#[116, 101, 120, 116]⟩ : ByteArray) (strOfNums [120]) ((0 : Nat) : Int) 2 a b c s t := by kernel_rfl
      refine e0.trans (e.trans ?_)
      unfold opPrint
      rw [show shpW 2 = (⟨#[116, 101, 120, 116]⟩ : ByteArray) by decide +kernel, show shpN 2 = 0 by decide, show shpS 2 = false by decide, show shpT 2 = true by decide]
      simp only [List.drop_zero, List.foldl_cons, List.foldl_nil, stepP, addNum, addText, app3]
      simp [app3]
    · rw [show wrap64 ((3 : Int) - 1) = 2 from by decide +kernel, if_pos (by decide), if_pos (by decide +kernel), has_3 (by omega), Option.bind_some]
      have e := print_loop 3 a b c s t ha hb hc hs ht [120] (by intro x hx; simp at hx; omega) 1 0 k (⟨#[99, 111, 109, 109, 101, 110, 116]⟩ : ByteArray) (by rfl) (by omega) (by decide) (by decide)
      have e0 : treillageref06_Print.l0 k (rdOf ByteArray.empty [(⟨#[101, 108, 101, 109, 101, 110, 116]⟩ : ByteArray), (⟨#[116, 101, 120, 116]⟩ : ByteArray), (⟨#[99, 111, 109, 109, 101, 110, 116]⟩ : ByteArray), (⟨#[105, 110, 115, 101, 114, 116]⟩ : ByteArray), (⟨#[114, 101, 109, 111, 118, 101]⟩ : ByteArray), (⟨#[115, 101, 116]⟩ : ByteArray), (⟨#[117, 110, 115, 101, 116]⟩ : ByteArray), (⟨#[99, 104, 97, 110, 103, 101]⟩ : ByteArray)] 2) (⟨#[120]⟩ : ByteArray) 0 3 a b c s t = treillageref06_Print.l0 k (⟨#[99, 111, 109, 109, 101, 110, 116]⟩ : ByteArray) (strOfNums [120]) ((0 : Nat) : Int) 3 a b c s t := by kernel_rfl
      refine e0.trans (e.trans ?_)
      unfold opPrint
      rw [show shpW 3 = (⟨#[99, 111, 109, 109, 101, 110, 116]⟩ : ByteArray) by decide +kernel, show shpN 3 = 0 by decide, show shpS 3 = false by decide, show shpT 3 = true by decide]
      simp only [List.drop_zero, List.foldl_cons, List.foldl_nil, stepP, addNum, addText, app3]
      simp [app3]
    · rw [show wrap64 ((4 : Int) - 1) = 3 from by decide +kernel, if_pos (by decide), if_pos (by decide +kernel), has_4 (by omega), Option.bind_some]
      have e := print_loop 4 a b c s t ha hb hc hs ht [105, 116, 97] (by intro x hx; simp at hx; omega) 3 0 k (⟨#[105, 110, 115, 101, 114, 116]⟩ : ByteArray) (by rfl) (by omega) (by decide) (by decide)
      have e0 : treillageref06_Print.l0 k (rdOf ByteArray.empty [(⟨#[101, 108, 101, 109, 101, 110, 116]⟩ : ByteArray), (⟨#[116, 101, 120, 116]⟩ : ByteArray), (⟨#[99, 111, 109, 109, 101, 110, 116]⟩ : ByteArray), (⟨#[105, 110, 115, 101, 114, 116]⟩ : ByteArray), (⟨#[114, 101, 109, 111, 118, 101]⟩ : ByteArray), (⟨#[115, 101, 116]⟩ : ByteArray), (⟨#[117, 110, 115, 101, 116]⟩ : ByteArray), (⟨#[99, 104, 97, 110, 103, 101]⟩ : ByteArray)] 3) (⟨#[105, 116, 97]⟩ : ByteArray) 0 4 a b c s t = treillageref06_Print.l0 k (⟨#[105, 110, 115, 101, 114, 116]⟩ : ByteArray) (strOfNums [105, 116, 97]) ((0 : Nat) : Int) 4 a b c s t := by kernel_rfl
      refine e0.trans (e.trans ?_)
      unfold opPrint
      rw [show shpW 4 = (⟨#[105, 110, 115, 101, 114, 116]⟩ : ByteArray) by decide +kernel, show shpN 4 = 3 by decide, show shpS 4 = false by decide, show shpT 4 = false by decide]
      simp only [List.drop_zero, List.foldl_cons, List.foldl_nil, stepP, addNum, addText, app3]
      simp [app3]
    · rw [show wrap64 ((5 : Int) - 1) = 4 from by decide +kernel, if_pos (by decide), if_pos (by decide +kernel), has_5 (by omega), Option.bind_some]
      have e := print_loop 5 a b c s t ha hb hc hs ht [105] (by intro x hx; simp at hx; omega) 1 0 k (⟨#[114, 101, 109, 111, 118, 101]⟩ : ByteArray) (by rfl) (by omega) (by decide) (by decide)
      have e0 : treillageref06_Print.l0 k (rdOf ByteArray.empty [(⟨#[101, 108, 101, 109, 101, 110, 116]⟩ : ByteArray), (⟨#[116, 101, 120, 116]⟩ : ByteArray), (⟨#[99, 111, 109, 109, 101, 110, 116]⟩ : ByteArray), (⟨#[105, 110, 115, 101, 114, 116]⟩ : ByteArray), (⟨#[114, 101, 109, 111, 118, 101]⟩ : ByteArray), (⟨#[115, 101, 116]⟩ : ByteArray), (⟨#[117, 110, 115, 101, 116]⟩ : ByteArray), (⟨#[99, 104, 97, 110, 103, 101]⟩ : ByteArray)] 4) (⟨#[105]⟩ : ByteArray) 0 5 a b c s t = treillageref06_Print.l0 k (⟨#[114, 101, 109, 111, 118, 101]⟩ : ByteArray) (strOfNums [105]) ((0 : Nat) : Int) 5 a b c s t := by kernel_rfl
      refine e0.trans (e.trans ?_)
      unfold opPrint
      rw [show shpW 5 = (⟨#[114, 101, 109, 111, 118, 101]⟩ : ByteArray) by decide +kernel, show shpN 5 = 1 by decide, show shpS 5 = false by decide, show shpT 5 = false by decide]
      simp only [List.drop_zero, List.foldl_cons, List.foldl_nil, stepP, addNum, addText, app3]
      simp [app3]
    · rw [show wrap64 ((6 : Int) - 1) = 5 from by decide +kernel, if_pos (by decide), if_pos (by decide +kernel), has_6 (by omega), Option.bind_some]
      have e := print_loop 6 a b c s t ha hb hc hs ht [105, 110, 120] (by intro x hx; simp at hx; omega) 3 0 k (⟨#[115, 101, 116]⟩ : ByteArray) (by rfl) (by omega) (by decide) (by decide)
      have e0 : treillageref06_Print.l0 k (rdOf ByteArray.empty [(⟨#[101, 108, 101, 109, 101, 110, 116]⟩ : ByteArray), (⟨#[116, 101, 120, 116]⟩ : ByteArray), (⟨#[99, 111, 109, 109, 101, 110, 116]⟩ : ByteArray), (⟨#[105, 110, 115, 101, 114, 116]⟩ : ByteArray), (⟨#[114, 101, 109, 111, 118, 101]⟩ : ByteArray), (⟨#[115, 101, 116]⟩ : ByteArray), (⟨#[117, 110, 115, 101, 116]⟩ : ByteArray), (⟨#[99, 104, 97, 110, 103, 101]⟩ : ByteArray)] 5) (⟨#[105, 110, 120]⟩ : ByteArray) 0 6 a b c s t = treillageref06_Print.l0 k (⟨#[115, 101, 116]⟩ : ByteArray) (strOfNums [105, 110, 120]) ((0 : Nat) : Int) 6 a b c s t := by kernel_rfl
      refine e0.trans (e.trans ?_)
      unfold opPrint
      rw [show shpW 6 = (⟨#[115, 101, 116]⟩ : ByteArray) by decide +kernel, show shpN 6 = 1 by decide, show shpS 6 = true by decide, show shpT 6 = true by decide]
      simp only [List.drop_zero, List.foldl_cons, List.foldl_nil, stepP, addNum, addText, app3]
      simp [app3]
    · rw [show wrap64 ((7 : Int) - 1) = 6 from by decide +kernel, if_pos (by decide), if_pos (by decide +kernel), has_7 (by omega), Option.bind_some]
      have e := print_loop 7 a b c s t ha hb hc hs ht [105, 110] (by intro x hx; simp at hx; omega) 2 0 k (⟨#[117, 110, 115, 101, 116]⟩ : ByteArray) (by rfl) (by omega) (by decide) (by decide)
      have e0 : treillageref06_Print.l0 k (rdOf ByteArray.empty [(⟨#[101, 108, 101, 109, 101, 110, 116]⟩ : ByteArray), (⟨#[116, 101, 120, 116]⟩ : ByteArray), (⟨#[99, 111, 109, 109, 101, 110, 116]⟩ : ByteArray), (⟨#[105, 110, 115, 101, 114, 116]⟩ : ByteArray), (⟨#[114, 101, 109, 111, 118, 101]⟩ : ByteArray), (⟨#[115, 101, 116]⟩ : ByteArray), (⟨#[117, 110, 115, 101, 116]⟩ : ByteArray), (⟨#[99, 104, 97, 110, 103, 101]⟩ : ByteArray)] 6) (⟨#[105, 110]⟩ : ByteArray) 0 7 a b c s t = treillageref06_Print.l0 k (⟨#[117, 110, 115, 101, 116]⟩ : ByteArray) (strOfNums [105, 110]) ((0 : Nat) : Int) 7 a b c s t := by kernel_rfl
      refine e0.trans (e.trans ?_)
      unfold opPrint
      rw [show shpW 7 = (⟨#[117, 110, 115, 101, 116]⟩ : ByteArray) by decide +kernel, show shpN 7 = 1 by decide, show shpS 7 = true by decide, show shpT 7 = false by decide]
      simp only [List.drop_zero, List.foldl_cons, List.foldl_nil, stepP, addNum, addText, app3]
      simp [app3]
    · rw [show wrap64 ((8 : Int) - 1) = 7 from by decide +kernel, if_pos (by decide), if_pos (by decide +kernel), has_8 (by omega), Option.bind_some]
      have e := print_loop 8 a b c s t ha hb hc hs ht [105, 120] (by intro x hx; simp at hx; omega) 2 0 k (⟨#[99, 104, 97, 110, 103, 101]⟩ : ByteArray) (by rfl) (by omega) (by decide) (by decide)
      have e0 : treillageref06_Print.l0 k (rdOf ByteArray.empty [(⟨#[101, 108, 101, 109, 101, 110, 116]⟩ : ByteArray), (⟨#[116, 101, 120, 116]⟩ : ByteArray), (⟨#[99, 111, 109, 109, 101, 110, 116]⟩ : ByteArray), (⟨#[105, 110, 115, 101, 114, 116]⟩ : ByteArray), (⟨#[114, 101, 109, 111, 118, 101]⟩ : ByteArray), (⟨#[115, 101, 116]⟩ : ByteArray), (⟨#[117, 110, 115, 101, 116]⟩ : ByteArray), (⟨#[99, 104, 97, 110, 103, 101]⟩ : ByteArray)] 7) (⟨#[105, 120]⟩ : ByteArray) 0 8 a b c s t = treillageref06_Print.l0 k (⟨#[99, 104, 97, 110, 103, 101]⟩ : ByteArray) (strOfNums [105, 120]) ((0 : Nat) : Int) 8 a b c s t := by kernel_rfl
      refine e0.trans (e.trans ?_)
      unfold opPrint
      rw [show shpW 8 = (⟨#[99, 104, 97, 110, 103, 101]⟩ : ByteArray) by decide +kernel, show shpN 8 = 1 by decide, show shpS 8 = false by decide, show shpT 8 = true by decide]
      simp only [List.drop_zero, List.foldl_cons, List.foldl_nil, stepP, addNum, addText, app3]
      simp [app3]
  · rw [if_neg hm, if_neg hm]
end Go.Proofs.YtooefecjkgdpbaaDoor.Pure
