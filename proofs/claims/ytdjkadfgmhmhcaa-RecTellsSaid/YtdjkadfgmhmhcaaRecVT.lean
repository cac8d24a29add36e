/-
  The reference's Unpack: what it answers, on any words and on a rec's own.
-/
import Derived.Test.YtdjkadfgmhmhcaaRecUT
import Derived.Test.YtdjkadfgmhmhcaaPTx10
namespace Go.Proofs.Ytdjkadfgmhmhcaa.PureT
set_option linter.unusedVariables false
set_option linter.unusedSimpArgs false
open Go.RowKit Go.Proofs.Ytdjkadfgmhmhcaa.PT Go.Proofs.YtdjkadfgmhmhcaaW.PrintWords Go.Proofs.YtdjkadfgmhmhcaaW.PrintLast Go.Proofs.YtdjkadfgmhmhcaaW.PrintMore Go.Proofs.YtdjkadfgmhmhcaaH

abbrev R8 := Int × Int × ByteArray × ByteArray × List ByteArray × Int × Int × Int
def errR : R8 := (0, 0, (⟨#[]⟩ : ByteArray), (⟨#[]⟩ : ByteArray), ([] : List ByteArray), 0, 0, 4)
theorem u64Take {l : List Int} (h : U64s l) (n : Nat) : U64s (l.take n) := fun x hx => h x (List.mem_of_mem_take hx)
theorem u64Drop {l : List Int} (h : U64s l) (n : Nat) : U64s (l.drop n) := fun x hx => h x (List.mem_of_mem_drop hx)
def takeR (l : List Int) (n : Int) : ByteArray × List Int × Bool := if (n + 7) / 8 > (l.length : Int) then ((⟨#[]⟩ : ByteArray), [], false) else ((recText (l.take ((n + 7) / 8).toNat) n).1, l.drop ((n + 7) / 8).toNat, (recText (l.take ((n + 7) / 8).toNat) n).2)
theorem take_eq {l : List Int} (h : U64s l) (hl : l.length ≤ 1000) (n : Int) (hn : 0 ≤ n ∧ n < 64) (k : Nat) (hk : 2000 ≤ k) : treillageref11_take.f k l n = some (takeR l n) := by
  have e : wrap64 (Int.tdiv (wrap64 (n + 7)) 8) = (n + 7) / 8 := by
    rw [show wrap64 (n + 7) = n + 7 by unfold wrap64; omega, Int.tdiv_eq_ediv_of_nonneg (by omega)]
    unfold wrap64
    omega
  unfold treillageref11_take.f takeR
  rw [e]
  by_cases c : (n + 7) / 8 > (l.length : Int)
  · rw [if_pos c, if_pos c]
  · rw [if_neg c, if_neg c, if_pos (by omega), if_pos (by omega), refText_eq (u64Take h _) (by rw [List.length_take]; omega) n k (by rw [List.length_take]; omega), Option.bind_some]
theorem takeR_u64 {l : List Int} (h : U64s l) (n : Int) : U64s (takeR l n).2.1 := by
  unfold takeR
  split
  · exact fun x hx => by cases hx
  · exact u64Drop h _
theorem takeR_len (l : List Int) (n : Int) : (takeR l n).2.1.length ≤ l.length := by
  unfold takeR
  split
  · exact Nat.zero_le _
  · rw [List.length_drop]; omega
theorem takeR_words (s : ByteArray) (hs : s.size ≤ 60) (R : List Int) : takeR (wds s ++ R) (s.size : Int) = (s, R, true) := by
  have hK : (((s.size : Int) + 7) / 8).toNat = (wds s).length := by rw [wds_len]; omega
  unfold takeR
  rw [if_neg (by rw [List.length_append, wds_len]; omega), hK, List.take_left, List.drop_left, show recText (wds s) (s.size : Int) = (s, true) from recText_back s (by omega)]
theorem p64_pos (i : Nat) : (0 : Int) < 64 ^ i := Int.pow_pos (by decide)
theorem div_six {w : Int} (h0 : 0 ≤ w) (h1 : w < 18446744073709551616) (j : Nat) : IntKind.u64.wrap (Int.tdiv (w / 64 ^ j) 64) = w / 64 ^ (j + 1) := by
  have hp := p64_pos j
  have h2 : 0 ≤ w / 64 ^ j := Int.ediv_nonneg h0 (by omega)
  have h3 : w / 64 ^ j ≤ w := Int.ediv_le_self _ h0
  rw [Int.tdiv_eq_ediv_of_nonneg h2, wraps_u64 _ (by omega) (by omega), Int.ediv_ediv_of_nonneg (by omega), Int.pow_succ]
def lenR (rest : List Int) (i : Nat) : Int := rest.getD (i / 8) 0 / 64 ^ (i % 8) % 64
section
variable {x6 : List Int} (h : U64s x6) (x0 : List Int) (x4 : Int) (p : Nat) (hp : p ≤ 8) (a b : Int) (n t : ByteArray) (c d : Int) (R : R8) (K : Nat)
include h
theorem lens_in (q : Int) (i : Nat) (hi : i < 16) (x8 : List Int) (h8 : x8.length ≤ 1000) (H : ∀ k, K ≤ k → treillageref11_Unpack.l0 k x0 x4 x6 q (x8 ++ [lenR x6 i]) ((i + 1 : Nat) : Int) a b n t c d = some R) :
    ∀ m j k, j + m = i % 8 → K + m + 1 ≤ k → treillageref11_Unpack.l1 k x0 x4 x6 q x8 (i : Int) (x6.getD (i / 8) 0 / 64 ^ j) (j : Int) a b n t c d = some R := by
  have hw := u64s_getD h (i / 8)
  intro m
  induction m with
  | zero =>
    intro j k hj hk
    obtain ⟨k, rfl⟩ : ∃ x, k = x + 1 := ⟨k - 1, by omega⟩
    have h2 : 0 ≤ x6.getD (i / 8) 0 / 64 ^ j := Int.ediv_nonneg hw.1 (by have := p64_pos j; omega)
    have hb : wrap64 (Int.tmod (x6.getD (i / 8) 0 / 64 ^ j) 64) = lenR x6 i := by
      rw [Int.tmod_eq_emod_of_nonneg h2, lenR, show i % 8 = j by omega]
      unfold wrap64
      omega
    rw [treillageref11_Unpack.l1, if_neg (by rw [Int.tmod_eq_emod_of_nonneg (by omega)]; omega), if_pos (by omega), hb, show wrap64 ((i : Int) + 1) = ((i + 1 : Nat) : Int) by unfold wrap64; omega]
    exact H k (by omega)
  | succ m ih =>
    intro j k hj hk
    obtain ⟨k, rfl⟩ : ∃ x, k = x + 1 := ⟨k - 1, by omega⟩
    rw [treillageref11_Unpack.l1, if_pos (by rw [Int.tmod_eq_emod_of_nonneg (by omega)]; omega), div_six hw.1 hw.2, show wrap64 ((j : Int) + 1) = ((j + 1 : Nat) : Int) by unfold wrap64; omega]
    exact ih (j + 1) k (by omega) (by omega)
include hp
theorem lens_loop (h2 : 2 ≤ x6.length) (H : ∀ k, K ≤ k → treillageref11_Unpack.j3 k x0 x4 (x6.drop 2) ((List.range (2 * p)).map (lenR x6)) a b n t c d = some R) :
    ∀ m i k, i + m = 2 * p → K + 10 * m + 1 ≤ k → treillageref11_Unpack.l0 k x0 x4 x6 (p : Int) ((List.range i).map (lenR x6)) (i : Int) a b n t c d = some R := by
  intro m
  induction m with
  | zero =>
    intro i k hi hk
    obtain ⟨k, rfl⟩ : ∃ x, k = x + 1 := ⟨k - 1, by omega⟩
    obtain rfl : i = 2 * p := by omega
    rw [treillageref11_Unpack.l0, show wrap64 (2 * (p : Int)) = ((2 * p : Nat) : Int) by unfold wrap64; omega, if_neg (by omega), if_pos (by omega)]
    exact H k (by omega)
  | succ m ih =>
    intro i k hi hk
    obtain ⟨k, rfl⟩ : ∃ x, k = x + 1 := ⟨k - 1, by omega⟩
    have hd : wrap64 (Int.tdiv (i : Int) 8) = ((i / 8 : Nat) : Int) := by
      rw [Int.tdiv_eq_ediv_of_nonneg (by omega)]; unfold wrap64; omega
    rw [treillageref11_Unpack.l0, show wrap64 (2 * (p : Int)) = ((2 * p : Nat) : Int) by unfold wrap64; omega, if_pos (by omega), hd, if_pos (by omega), if_pos (by omega)]
    have h3 := lens_in h x0 x4 a b n t c d R (K + 10 * m + 1) (p : Int) i (by omega) ((List.range i).map (lenR x6)) (by simp; omega) (fun k hk => by rw [range_snoc]; exact ih (i + 1) k (by omega) hk) (i % 8) 0 k (by omega) (by omega)
    rw [Int.pow_zero, Int.ediv_one] at h3
    exact h3
end
def goR : List Int → List Int → Bool → List ByteArray → List ByteArray × Bool
  | [], _, g, A => (A, g)
  | n :: ns, rest, g, A => if g = true then goR ns (takeR rest n).2.1 (takeR rest n).2.2 (A ++ [(takeR rest n).1]) else (A, g)
theorem goR_len : ∀ (ns rest : List Int) (g : Bool) (A : List ByteArray), (goR ns rest g A).1.length ≤ A.length + ns.length := by
  intro ns
  induction ns with
  | nil => intro rest g A; exact Nat.le_refl _
  | cons n ns ih =>
    intro rest g A
    rw [goR]
    split
    · have := ih (takeR rest n).2.1 (takeR rest n).2.2 (A ++ [(takeR rest n).1])
      rw [List.length_append] at this
      simp only [List.length_cons, List.length_nil] at this ⊢
      omega
    · simp
theorem l2_eq (x0 x8 : List Int) (hx8 : ∀ x ∈ x8, 0 ≤ x ∧ x < 64) (h8 : x8.length ≤ 16) (a b : Int) (n t : ByteArray) (c d : Int) (R : R8) (K : Nat) (hK : 2000 ≤ K) :
    ∀ m i rest g A, i + m = x8.length → U64s rest → rest.length ≤ 1000 → A.length ≤ i → (∀ k, K ≤ k → treillageref11_Unpack.j5 k x0 (goR (x8.drop i) rest g A).2 a b n t (goR (x8.drop i) rest g A).1 c d = some R) →
      ∀ k, K + m + 1 ≤ k → treillageref11_Unpack.l2 k x0 rest x8 g (i : Int) a b n t A c d = some R := by
  intro m
  induction m with
  | zero =>
    intro i rest g A hi hu hl hA H k hk
    obtain ⟨k, rfl⟩ : ∃ x, k = x + 1 := ⟨k - 1, by omega⟩
    rw [List.drop_of_length_le (by omega), goR] at H
    rw [treillageref11_Unpack.l2, if_neg (by omega)]
    exact H k (by omega)
  | succ m ih =>
    intro i rest g A hi hu hl hA H k hk
    obtain ⟨k, rfl⟩ : ∃ x, k = x + 1 := ⟨k - 1, by omega⟩
    have hx := hx8 _ (List.getElem_mem (show i < x8.length by omega))
    rw [List.drop_eq_getElem_cons (show i < x8.length by omega), goR] at H
    rw [treillageref11_Unpack.l2, if_pos (by omega)]
    cases g with
    | false => exact H k (by omega)
    | true =>
      rw [if_pos rfl] at H
      rw [if_pos rfl, if_pos (by omega), rd_getElem (show i < x8.length by omega), take_eq hu hl _ hx k (by omega), Option.bind_some, if_pos (by omega), show wrap64 ((i : Int) + 1) = ((i + 1 : Nat) : Int) by unfold wrap64; omega]
      exact ih (i + 1) _ _ _ (by omega) (takeR_u64 hu _) (by have := takeR_len rest x8[i]; omega) (by rw [List.length_append]; simp; omega) H k (by omega)
open Classical in
noncomputable def answer (x0 : List Int) (g : Bool) (a b : Int) (n t : ByteArray) (A : List ByteArray) (c d : Int) : R8 := if g = true ∧ MayR a b n t A d ∧ packL a b n t A c d = x0 then (a, b, n, t, A, c, d, 0) else errR
theorem j5_eq (x0 : List Int) (hx : x0.length ≤ 1000) (g : Bool) (a b : Int) (n t : ByteArray) (A : List ByteArray) (c d : Int) (hA : A.length ≤ 1000) (k : Nat) (hk : 2001 ≤ k) : treillageref11_Unpack.j5 k x0 g a b n t A c d = some (answer x0 g a b n t A c d) := by
  obtain ⟨k, rfl⟩ : ∃ x, k = x + 1 := ⟨k - 1, by omega⟩
  rw [treillageref11_Unpack.j5]
  unfold answer
  by_cases hm : MayR a b n t A d
  · rw [refPack_yes hm k (by omega), Option.bind_some]
    cases g with
    | false => rw [if_neg (by decide), if_neg (fun e => absurd e.1 (by decide))]; rfl
    | true =>
      rw [if_pos rfl, if_pos rfl, same_eq _ _ (by omega) k (by omega), Option.bind_some]
      by_cases e : packL a b n t A c d = x0
      · rw [if_pos (decide_eq_true e), if_pos ⟨rfl, hm, e⟩]
      · rw [if_neg (by simpa using e), if_neg (fun q => e q.2.2)]; rfl
  · rw [refPack_no hm (by omega) k (by omega), Option.bind_some]
    cases g with
    | false => rw [if_neg (by decide), if_neg (fun e => absurd e.1 (by decide))]; rfl
    | true => rw [if_pos rfl, if_neg (by decide), if_neg (fun e => hm e.2.1)]; rfl
theorem part_eq (x4 : Int) (h : 0 ≤ x4 ∧ x4 < 18446744073709551616) (m q : Int) (hm : 0 < m) (hq : 0 < q ∧ q ≤ 1000) : wrap64 (Int.tmod (IntKind.u64.wrap (Int.tdiv x4 m)) q) = x4 / m % q := by
  have h2 : 0 ≤ x4 / m := Int.ediv_nonneg h.1 (by omega)
  have h3 : x4 / m ≤ x4 := Int.ediv_le_self _ h.1
  have h4 := Int.emod_nonneg (x4 / m) (show q ≠ 0 by omega)
  have h5 := Int.emod_lt_of_pos (x4 / m) hq.1
  rw [Int.tdiv_eq_ediv_of_nonneg h.1, wraps_u64 _ (by omega) (by omega), Int.tmod_eq_emod_of_nonneg h2]
  unfold wrap64
  omega
/-- What j3 answers. -/
noncomputable def ans3 (x0 : List Int) (x4 : Int) (rest x8 : List Int) (a b c d : Int) : R8 := if (takeR rest (x4 / 1024 % 32)).2.2 = true then answer x0 (goR x8 (takeR (takeR rest (x4 / 1024 % 32)).2.1 (x4 / 32768 % 64)).2.1 (takeR (takeR rest (x4 / 1024 % 32)).2.1 (x4 / 32768 % 64)).2.2 []).2 a b (takeR rest (x4 / 1024 % 32)).1 (takeR (takeR rest (x4 / 1024 % 32)).2.1 (x4 / 32768 % 64)).1 (goR x8 (takeR (takeR rest (x4 / 1024 % 32)).2.1 (x4 / 32768 % 64)).2.1 (takeR (takeR rest (x4 / 1024 % 32)).2.1 (x4 / 32768 % 64)).2.2 []).1 c d else errR
theorem j3_eq (x0 : List Int) (hx : x0.length ≤ 1000) (x4 : Int) (h4 : 0 ≤ x4 ∧ x4 < 18446744073709551616) (rest : List Int) (hu : U64s rest) (hl : rest.length ≤ 1000) (x8 : List Int) (hx8 : ∀ x ∈ x8, 0 ≤ x ∧ x < 64) (h8 : x8.length ≤ 16) (a b : Int) (n t : ByteArray) (c d : Int) (k : Nat) (hk : 2100 ≤ k) : treillageref11_Unpack.j3 k x0 x4 rest x8 a b n t c d = some (ans3 x0 x4 rest x8 a b c d) := by
  obtain ⟨k, rfl⟩ : ∃ x, k = x + 1 := ⟨k - 1, by omega⟩
  unfold ans3
  rw [treillageref11_Unpack.j3, part_eq x4 h4 1024 32 (by omega) (by omega), part_eq x4 h4 32768 64 (by omega) (by omega), take_eq hu hl _ (by omega) k (by omega), Option.bind_some]
  have hl1 := takeR_len rest (x4 / 1024 % 32)
  have hu1 := takeR_u64 hu (x4 / 1024 % 32)
  generalize takeR rest (x4 / 1024 % 32) = T1 at *
  by_cases c1 : T1.2.2 = true
  · rw [if_pos c1, if_pos c1, take_eq hu1 (by omega) _ (by omega) k (by omega), Option.bind_some]
    have hl2 := takeR_len T1.2.1 (x4 / 32768 % 64)
    have hu2 := takeR_u64 hu1 (x4 / 32768 % 64)
    generalize takeR T1.2.1 (x4 / 32768 % 64) = T2 at *
    have hg := goR_len x8 T2.2.1 T2.2.2 []
    exact l2_eq x0 x8 hx8 h8 a b T1.1 T2.1 c d _ 2001 (by omega) x8.length 0 T2.2.1 T2.2.2 [] (by omega) hu2 (by omega) (Nat.le_refl _) (fun k hk => by
      rw [List.drop_zero]
      exact j5_eq x0 hx _ a b T1.1 T2.1 _ c d (by simp only [List.length_nil] at hg; omega) k hk) k (by omega)
  · rw [if_neg c1, if_neg c1]
    rfl

end Go.Proofs.Ytdjkadfgmhmhcaa.PureT
