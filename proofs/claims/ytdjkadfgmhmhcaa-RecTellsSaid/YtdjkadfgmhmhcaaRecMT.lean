/-
  Texts in words of eight bytes, as plain lists: the words of bytes, the bytes of words, and that they go back and forth.
-/
import Derived.Test.YtdjkadfgmhmhcaaPTx4
import Derived.Test.YtdjkadfgmhmhcaaPTx5
import Derived.Test.YtdjkadfgmhmhcaaPTx6
import Derived.Test.YtdjkadfgmhmhcaaPTx9
import Derived.Test.YtdjkadfgmhmhcaaPTx11
import Derived.Test.YtdjkadfgmhmhcaaBytesM
namespace Go.Proofs.Ytdjkadfgmhmhcaa.PureT
set_option linter.unusedVariables false
set_option linter.unusedSimpArgs false
open Go.RowKit Go.Proofs.Ytdjkadfgmhmhcaa.PT Go.Proofs.YtdjkadfgmhmhcaaW.PrintWords Go.Proofs.YtdjkadfgmhmhcaaW.PrintLast Go.Proofs.YtdjkadfgmhmhcaaW.PrintMore Go.Proofs.YtdjkadfgmhmhcaaH

theorem p256 (i : Nat) : (256 : Int) ^ i = 2 ^ (8 * i) := by rw [Int.pow_mul]; rfl
theorem p256_pos (i : Nat) : (0 : Int) < 256 ^ i := Int.pow_pos (by decide)
theorem val_get {l : List Int} (h : Bts l) (i : Nat) : val l / 256 ^ i % 256 = l.getD i 0 := by
  induction l generalizing i with
  | nil => simp [val]
  | cons x l ih =>
    have hx := h.head
    cases i with
    | zero => simp only [val, Int.pow_zero, Int.ediv_one, List.getD_cons_zero]; omega
    | succ i =>
      rw [List.getD_cons_succ, ← ih h.tail i]
      simp only [val]
      rw [Int.pow_succ, Int.mul_comm (256 ^ i) 256, ← Int.ediv_ediv_of_nonneg (by decide), show (x + 256 * val l) / 256 = val l by omega]
theorem val_snoc (l : List Int) (x : Int) : val (l ++ [x]) = val l + x * 256 ^ l.length := by
  induction l with
  | nil => simp [val]
  | cons y l ih => simp only [List.cons_append, val, ih, List.length_cons, Int.pow_succ, Int.mul_add]; rw [Int.mul_comm (256 ^ l.length) 256, Int.mul_left_comm x 256, Int.add_assoc]
theorem val_ext : ∀ {l m : List Int}, (∀ i, l.getD i 0 = m.getD i 0) → val l = val m
  | [], [], _ => rfl
  | x :: l, [], h => by
    have h0 := h 0
    have h1 := val_ext (l := l) (m := []) (fun i => by have := h (i + 1); simpa using this)
    simp only [val] at h1 ⊢
    simp at h0
    rw [h0, h1]
    rfl
  | [], y :: m, h => by
    have h0 := h 0
    have h1 := val_ext (l := []) (m := m) (fun i => by have := h (i + 1); simpa using this)
    simp only [val] at h1 ⊢
    simp at h0
    rw [← h0, ← h1]
    rfl
  | x :: l, y :: m, h => by
    have h0 := h 0
    have h1 := val_ext (l := l) (m := m) (fun i => by have := h (i + 1); simpa using this)
    simp only [val]
    simp only [List.getD_cons_zero] at h0
    rw [h0, h1]
theorem btsTake {l : List Int} (h : Bts l) (n : Nat) : Bts (l.take n) := fun x hx => h x (List.mem_of_mem_take hx)
theorem btsDrop {l : List Int} (h : Bts l) (n : Nat) : Bts (l.drop n) := fun x hx => h x (List.mem_of_mem_drop hx)
theorem btsGetD {l : List Int} (h : Bts l) (i : Nat) : 0 ≤ l.getD i 0 ∧ l.getD i 0 < 256 := by
  rw [List.getD_eq_getElem?_getD]
  cases e : l[i]? with
  | none => simp
  | some x => exact h x (List.mem_of_getElem? e)
theorem val_lt_pow {l : List Int} (h : Bts l) {n : Nat} (hn : l.length ≤ n) : val l < 256 ^ n := Int.lt_of_lt_of_le (val_lt h) (by
  have : ((256 ^ l.length : Nat) : Int) ≤ ((256 ^ n : Nat) : Int) := Int.ofNat_le.2 (Nat.pow_le_pow_right (by decide) hn)
  rwa [Int.natCast_pow, Int.natCast_pow] at this)
theorem take_succ_getD (l : List Int) (m : Nat) (h : m < l.length) : l.take (m + 1) = l.take m ++ [l.getD m 0] := by
  rw [List.take_add_one, List.getD_eq_getElem?_getD, List.getElem?_eq_getElem h]
  rfl
theorem val_take_succ (l : List Int) (m : Nat) (h : m < l.length) : val (l.take (m + 1)) = val (l.take m) + l.getD m 0 * 256 ^ m := by
  rw [take_succ_getD l m h, val_snoc, List.length_take, Nat.min_eq_left (by omega)]
/-- The digits of a number, n of them. -/
theorem val_digits (x : Int) (n : Nat) (h0 : 0 ≤ x) : val ((List.range n).map (fun i => x / 256 ^ i % 256)) = x % 256 ^ n := by
  induction n generalizing x with
  | zero => simp [val, Int.emod_one]
  | succ n ih =>
    rw [List.range_succ_eq_map, List.map_cons, List.map_map]
    have e : (List.range n).map ((fun i => x / 256 ^ i % 256) ∘ Nat.succ) = (List.range n).map (fun i => x / 256 / 256 ^ i % 256) := by
      refine List.map_congr_left fun i _ => ?_
      simp only [Function.comp, Nat.succ_eq_add_one]
      rw [Int.pow_succ, Int.mul_comm, Int.ediv_ediv_of_nonneg (by decide)]
    rw [e]
    simp only [val]
    rw [ih (x / 256) (by omega), Int.pow_zero, Int.ediv_one, Int.pow_succ, Int.mul_comm (256 ^ n) 256]
    have hp := p256_pos n
    have h1 := Int.emod_add_mul_ediv (x / 256) (256 ^ n)
    have h4 := Int.emod_nonneg (x / 256) (Int.ne_of_gt hp)
    have h5 := Int.emod_lt_of_pos (x / 256) hp
    have h3 := Int.emod_add_mul_ediv x 256
    generalize x / 256 % 256 ^ n = r at h1 h4 h5 ⊢
    generalize x / 256 / 256 ^ n = q at h1 ⊢
    generalize x / 256 = d at h1 h3
    generalize (256 : Int) ^ n = P at hp h1 h5 ⊢
    have h6 := Int.emod_nonneg x (show (256 : Int) ≠ 0 by decide)
    have h7 := Int.emod_lt_of_pos x (show (0 : Int) < 256 by decide)
    generalize x % 256 = e at h3 h6 h7 ⊢
    have h8 : x = e + 256 * r + 256 * P * q := by rw [Int.mul_assoc]; omega
    rw [h8, Int.add_mul_emod_self_left, Int.emod_eq_of_lt (by omega) (by omega)]

/-- The words of bytes. -/
def chunkW (l : List Int) (j : Nat) : Int := val ((l.drop (8 * j)).take 8)
def wordsL (l : List Int) : List Int := (List.range ((l.length + 7) / 8)).map (chunkW l)
def wsAt (l : List Int) (i : Nat) : List Int := (List.range ((l.length + 7) / 8)).map fun j => val ((l.drop (8 * j)).take (min (i - 8 * j) 8))
theorem wordsL_len (l : List Int) : (wordsL l).length = (l.length + 7) / 8 := by simp [wordsL]
theorem wsAt_len (l : List Int) (i : Nat) : (wsAt l i).length = (l.length + 7) / 8 := by simp [wsAt]
theorem wsAt_zero (l : List Int) : wsAt l 0 = List.replicate ((l.length + 7) / 8) 0 := by
  rw [List.eq_replicate_iff]
  refine ⟨wsAt_len l 0, fun x hx => ?_⟩
  unfold wsAt at hx
  obtain ⟨j, _, rfl⟩ := List.mem_map.1 hx
  simp [val]
theorem wsAt_all (l : List Int) : wsAt l l.length = wordsL l := by
  refine List.map_congr_left fun j _ => ?_
  unfold chunkW
  rw [← List.take_take, List.take_of_length_le (by rw [List.length_take, List.length_drop]; omega)]
theorem wsAt_get (l : List Int) (i j : Nat) (hj : j < (l.length + 7) / 8) : (wsAt l i).getD j 0 = val ((l.drop (8 * j)).take (min (i - 8 * j) 8)) := by
  rw [List.getD_eq_getElem?_getD, wsAt, List.getElem?_map, List.getElem?_range hj]
  rfl
theorem wsAt_step (l : List Int) (i : Nat) (hi : i < l.length) : (wsAt l i).set (i / 8) (val ((l.drop (8 * (i / 8))).take (i % 8)) + l.getD i 0 * 256 ^ (i % 8)) = wsAt l (i + 1) := by
  refine List.ext_getElem? fun j => ?_
  rw [List.getElem?_set]
  by_cases hj : j < (l.length + 7) / 8
  · by_cases e : i / 8 = j
    · rw [if_pos e, if_pos (by rw [wsAt_len]; omega), wsAt, List.getElem?_map, List.getElem?_range hj]
      simp only [Option.map_some, Option.some.injEq]
      rw [← e, show min (i + 1 - 8 * (i / 8)) 8 = i % 8 + 1 by omega, val_take_succ _ _ (by rw [List.length_drop]; omega)]
      congr 2
      rw [List.getD_eq_getElem?_getD, List.getD_eq_getElem?_getD, List.getElem?_drop, show 8 * (i / 8) + i % 8 = i by omega]
    · rw [if_neg e, wsAt, wsAt, List.getElem?_map, List.getElem?_map, List.getElem?_range hj]
      simp only [Option.map_some, Option.some.injEq]
      rw [show min (i - 8 * j) 8 = min (i + 1 - 8 * j) 8 by omega]
  · rw [if_neg (by omega), List.getElem?_eq_none (by rw [wsAt_len]; omega), List.getElem?_eq_none (by rw [wsAt_len]; omega)]
theorem chunkW_rng {l : List Int} (h : Bts l) (j : Nat) : 0 ≤ chunkW l j ∧ chunkW l j < 18446744073709551616 := by
  refine ⟨val_nonneg (btsTake (btsDrop h _) 8), ?_⟩
  have h2 := val_lt_pow (btsTake (btsDrop h (8 * j)) 8) (n := 8) (by rw [List.length_take]; omega)
  exact h2
theorem rd_set_ne {l : List Int} : True := trivial
/-- rec.Words. -/
theorem words_loop {s : ByteArray} (hs : s.size ≤ 1099511627776) : ∀ m i k, i + m = s.size → m < k → rec_Words.l0 k s (wsAt (bytesOf s) i) (s.size : Int) (i : Int) = some (wordsL (bytesOf s)) := by
  have hb := bts_bytesOf s
  have hl : (bytesOf s).length = s.size := bytesOf_length s
  intro m
  induction m with
  | zero =>
    intro i k hi hk
    obtain ⟨k, rfl⟩ : ∃ q, k = q + 1 := ⟨k - 1, by omega⟩
    rw [rec_Words.l0, if_neg (by omega), show i = (bytesOf s).length by omega, wsAt_all]
  | succ m ih =>
    intro i k hi hk
    obtain ⟨k, rfl⟩ : ∃ q, k = q + 1 := ⟨k - 1, by omega⟩
    have h8 : ((i : Int) / 8) = ((i / 8 : Nat) : Int) := by omega
    have hsh := byteOf_sh i (by omega)
    have hw : wrap64 ((i : Int) + 1) = ((i + 1 : Nat) : Int) := by unfold wrap64; omega
    have hg := btsGetD hb i
    have hbt : bt s (i : Int) = (bytesOf s).getD i 0 := by rw [← rd_bytesOf]; rfl
    have hq : (wsAt (bytesOf s) i).getD (i / 8) 0 = val (((bytesOf s).drop (8 * (i / 8))).take (i % 8)) := by
      rw [wsAt_get _ _ _ (by omega), show min (i - 8 * (i / 8)) 8 = i % 8 by omega]
    have hv0 := val_nonneg (btsTake (btsDrop hb (8 * (i / 8))) (i % 8))
    have hv1 := val_lt_pow (btsTake (btsDrop hb (8 * (i / 8))) (i % 8)) (n := i % 8) (by rw [List.length_take]; omega)
    have hor : Go.bits .or .u64 (rd (wsAt (bytesOf s) i) ((i / 8 : Nat) : Int)) (shl .u64 (IntKind.u64.wrap (bt s (i : Int))) ((i % 8 * 8 : Nat) : Int)) = val (((bytesOf s).drop (8 * (i / 8))).take (i % 8)) + (bytesOf s).getD i 0 * 256 ^ (i % 8) := by
      have h7 : i % 8 = 0 ∨ i % 8 = 1 ∨ i % 8 = 2 ∨ i % 8 = 3 ∨ i % 8 = 4 ∨ i % 8 = 5 ∨ i % 8 = 6 ∨ i % 8 = 7 := by omega
      rw [show rd (wsAt (bytesOf s) i) ((i / 8 : Nat) : Int) = (wsAt (bytesOf s) i).getD (i / 8) 0 from rfl, hq, hbt, wraps_u64 _ hg.1 (by omega)]
      unfold shl
      rw [Int.toNat_natCast, show IntKind.u64.bits = 64 from rfl, Nat.min_eq_left (show i % 8 * 8 ≤ 64 by omega), or_comm_u64, Int.add_comm]
      generalize val (((bytesOf s).drop (8 * (i / 8))).take (i % 8)) = v at hv0 hv1 ⊢
      generalize (bytesOf s).getD i 0 = x at hg ⊢
      rw [p256] at hv1 ⊢
      rw [Nat.mul_comm 8] at hv1 ⊢
      have hlt : x * 2 ^ (i % 8 * 8) < 18446744073709551616 := by rcases h7 with h | h | h | h | h | h | h | h <;> rw [h] <;> simp only [Nat.reduceMul, Int.reducePow] <;> omega
      have hp : (0 : Int) < 2 ^ (i % 8 * 8) := Int.pow_pos (by decide)
      have hnn : 0 ≤ x * 2 ^ (i % 8 * 8) := Int.mul_nonneg hg.1 (by omega)
      rw [wraps_u64 _ hnn (by omega), join_u64 (i % 8 * 8) (by omega) _ v hnn (Int.mul_emod_left _ _) hlt hv0 hv1]
    rw [rec_Words.l0, if_pos (by omega), h8, if_pos (by omega), if_pos (by rw [wsAt_len]; omega), if_pos (by omega), if_pos (by omega), hsh, if_pos (by omega), hor, hw, Int.toNat_natCast, wsAt_step _ _ (by omega)]
    exact ih (i + 1) k (by omega) (by omega)
theorem words_eq (s : ByteArray) (hs : s.size ≤ 1099511627776) (k : Nat) (hk : s.size < k) : rec_Words.f k s = some (wordsL (bytesOf s)) := by
  have hl : (bytesOf s).length = s.size := bytesOf_length s
  have e : wrap64 (Int.tdiv (wrap64 ((wrap64 ((s.size : Int) + 8)) - 1)) 8) = (((s.size + 7) / 8 : Nat) : Int) := by
    rw [show wrap64 ((s.size : Int) + 8) = (s.size : Int) + 8 by unfold wrap64; omega, show wrap64 ((s.size : Int) + 8 - 1) = (s.size : Int) + 7 by unfold wrap64; omega, Int.tdiv_eq_ediv_of_nonneg (by omega)]
    unfold wrap64
    omega
  unfold rec_Words.f
  rw [e, if_pos (by omega), Int.toNat_natCast, if_pos (by omega)]
  have h := words_loop hs s.size 0 k (by omega) hk
  rw [wsAt_zero, hl] at h
  exact h

theorem takeq (l : List Int) (c : Nat) : (l.drop (8 * c)).take (min 8 (l.length - 8 * c)) = (l.drop (8 * c)).take 8 := by
  rw [Nat.min_comm, ← List.take_take, List.take_of_length_le (by rw [List.length_take, List.length_drop]; omega)]
/-- The reference's Words. -/
theorem refWords_in {s : ByteArray} (hs : s.size ≤ 1099511627776) (c : Nat) (hc : 8 * c < s.size) (x3 R : List Int) (K : Nat) (h3 : x3.length < 17592186044416) (H : ∀ k, K ≤ k → treillageref11_Words.l0 k s (x3 ++ [chunkW (bytesOf s) c]) ((8 * (c + 1) : Nat) : Int) = some R) :
    ∀ m k, m ≤ min 8 (s.size - 8 * c) → K + m + 1 ≤ k → treillageref11_Words.l1 k s x3 ((8 * c : Nat) : Int) (val (((bytesOf s).drop (8 * c + m)).take (min 8 (s.size - 8 * c) - m))) (((8 * c + m : Nat) : Int) - 1) = some R := by
  have hb := bts_bytesOf s
  have hl : (bytesOf s).length = s.size := bytesOf_length s
  intro m
  induction m with
  | zero =>
    intro k _ hk
    obtain ⟨k, rfl⟩ : ∃ q, k = q + 1 := ⟨k - 1, by omega⟩
    have hw : wrap64 (((8 * c : Nat) : Int) + 8) = ((8 * (c + 1) : Nat) : Int) := by unfold wrap64; omega
    rw [treillageref11_Words.l1, if_neg (by omega), if_pos h3, Nat.sub_zero, Nat.add_zero, ← hl, takeq, hw]
    exact H k (by omega)
  | succ m ih =>
    intro k hm hk
    obtain ⟨k, rfl⟩ : ∃ q, k = q + 1 := ⟨k - 1, by omega⟩
    have hw : wrap64 (((8 * c + (m + 1) : Nat) : Int) - 1 - 1) = ((8 * c + m : Nat) : Int) - 1 := by unfold wrap64; omega
    have hg := btsGetD hb (8 * c + m)
    have hbt : bt s (((8 * c + (m + 1) : Nat) : Int) - 1) = (bytesOf s).getD (8 * c + m) 0 := by
      rw [show ((8 * c + (m + 1) : Nat) : Int) - 1 = ((8 * c + m : Nat) : Int) by omega, ← rd_bytesOf]; rfl
    have hb2 := btsTake (btsDrop hb (8 * c + (m + 1))) (min 8 (s.size - 8 * c) - (m + 1))
    have hv0 := val_nonneg hb2
    have hv1 := val_lt_pow hb2 (n := 7) (by rw [List.length_take]; omega)
    have hcons : ((bytesOf s).drop (8 * c + m)).take (min 8 (s.size - 8 * c) - m) = (bytesOf s).getD (8 * c + m) 0 :: ((bytesOf s).drop (8 * c + (m + 1))).take (min 8 (s.size - 8 * c) - (m + 1)) := by
      rw [List.drop_eq_getElem_cons (show 8 * c + m < (bytesOf s).length by omega), show min 8 (s.size - 8 * c) - m = (min 8 (s.size - 8 * c) - (m + 1)) + 1 by omega, List.take_succ_cons, List.getD_eq_getElem?_getD, List.getElem?_eq_getElem (show 8 * c + m < (bytesOf s).length by omega)]
      rfl
    have hacc : IntKind.u64.wrap ((IntKind.u64.wrap (val (((bytesOf s).drop (8 * c + (m + 1))).take (min 8 (s.size - 8 * c) - (m + 1))) * 256)) + (IntKind.u64.wrap ((bytesOf s).getD (8 * c + m) 0))) = val (((bytesOf s).drop (8 * c + m)).take (min 8 (s.size - 8 * c) - m)) := by
      rw [hcons]
      simp only [val]
      generalize val (((bytesOf s).drop (8 * c + (m + 1))).take (min 8 (s.size - 8 * c) - (m + 1))) = v at hv0 hv1
      simp only [Int.reducePow] at hv1
      rw [wraps_u64 (v * 256) (by omega) (by omega), wraps_u64 ((bytesOf s).getD (8 * c + m) 0) hg.1 (by omega), wraps_u64 _ (by omega) (by omega)]
      omega
    rw [treillageref11_Words.l1, if_pos (by omega), if_pos (by omega), if_pos (by omega), hbt, hacc, hw]
    exact ih k (by omega) (by omega)
theorem range_snoc (f : Nat → Int) (c : Nat) : (List.range c).map f ++ [f c] = (List.range (c + 1)).map f := by
  rw [List.range_succ, List.map_append]
  rfl
theorem refWords_loop {s : ByteArray} (hs : s.size ≤ 1099511627776) : ∀ r c k, c + r = (s.size + 7) / 8 → 10 * r < k → treillageref11_Words.l0 k s ((List.range c).map (chunkW (bytesOf s))) ((8 * c : Nat) : Int) = some (wordsL (bytesOf s)) := by
  have hl : (bytesOf s).length = s.size := bytesOf_length s
  intro r
  induction r with
  | zero =>
    intro c k hc hk
    obtain ⟨k, rfl⟩ : ∃ q, k = q + 1 := ⟨k - 1, by omega⟩
    rw [treillageref11_Words.l0, if_neg (by omega), wordsL, hl, show c = (s.size + 7) / 8 by omega]
  | succ r ih =>
    intro c k hc hk
    obtain ⟨k, rfl⟩ : ∃ q, k = q + 1 := ⟨k - 1, by omega⟩
    have hm : mn (wrap64 (((8 * c : Nat) : Int) + 7)) (wrap64 ((s.size : Int) - 1)) = ((8 * c + min 8 (s.size - 8 * c) : Nat) : Int) - 1 := by
      rw [show wrap64 (((8 * c : Nat) : Int) + 7) = ((8 * c : Nat) : Int) + 7 by unfold wrap64; omega, show wrap64 ((s.size : Int) - 1) = (s.size : Int) - 1 by unfold wrap64; omega]
      unfold mn
      split <;> omega
    have h := refWords_in hs c (by omega) ((List.range c).map (chunkW (bytesOf s))) (wordsL (bytesOf s)) (10 * r + 1) (by simp; omega) (fun k hk => by rw [range_snoc]; exact ih (c + 1) k (by omega) (by omega)) (min 8 (s.size - 8 * c)) k (Nat.le_refl _) (by omega)
    rw [Nat.sub_self, List.take_zero] at h
    rw [treillageref11_Words.l0, if_pos (by omega), hm]
    exact h
theorem refWords_eq (s : ByteArray) (hs : s.size ≤ 1099511627776) (k : Nat) (hk : 2 * s.size + 20 ≤ k) : treillageref11_Words.f k s = some (wordsL (bytesOf s)) := by
  unfold treillageref11_Words.f
  exact refWords_loop hs ((s.size + 7) / 8) 0 k (by omega) (by omega)
theorem rd_getElem {a : List Int} {i : Nat} (h : i < a.length) : rd a (i : Int) = a[i] := by
  unfold rd
  rw [Int.toNat_natCast, List.getD_eq_getElem?_getD, List.getElem?_eq_getElem h]
  rfl
theorem same_loop (a b : List Int) (hab : a.length = b.length) (hl : a.length ≤ 1099511627776) : ∀ m i k, i + m = a.length → m < k → treillageref11_same.l0 k a b (i : Int) = some (decide (a.drop i = b.drop i)) := by
  intro m
  induction m with
  | zero =>
    intro i k hi hk
    obtain ⟨k, rfl⟩ : ∃ q, k = q + 1 := ⟨k - 1, by omega⟩
    rw [treillageref11_same.l0, if_neg (by omega), List.drop_eq_nil_of_le (by omega), List.drop_eq_nil_of_le (by omega), decide_eq_true rfl]
  | succ m ih =>
    intro i k hi hk
    obtain ⟨k, rfl⟩ : ∃ q, k = q + 1 := ⟨k - 1, by omega⟩
    have hw : wrap64 ((i : Int) + 1) = ((i + 1 : Nat) : Int) := by unfold wrap64; omega
    have ha : i < a.length := by omega
    have hb : i < b.length := by omega
    rw [treillageref11_same.l0, if_pos (by omega), if_pos (by omega), if_pos (by omega), hw, rd_getElem ha, rd_getElem hb, List.drop_eq_getElem_cons ha, List.drop_eq_getElem_cons hb]
    by_cases e : a[i] = b[i]
    · rw [if_pos e, ih (i + 1) k (by omega) (by omega), e]
      simp only [List.cons.injEq, true_and]
    · rw [if_neg e, decide_eq_false (by intro h; injection h with h1 _; exact e h1)]
theorem same_eq (a b : List Int) (hl : b.length ≤ 1099511627776) (k : Nat) (hk : b.length < k) : treillageref11_same.f k a b = some (decide (a = b)) := by
  unfold treillageref11_same.f
  by_cases h : a.length = b.length
  · rw [if_pos (by omega)]
    have h2 := same_loop a b h (by omega) a.length 0 k (by omega) (by omega)
    rw [List.drop_zero, List.drop_zero] at h2
    exact h2
  · rw [if_neg (by omega), decide_eq_false (by intro e; exact h (by rw [e]))]
theorem handles_loop (a b : List Int) (hab : a.length = b.length) (hl : a.length ≤ 1099511627776) : ∀ m i k, i + m = a.length → m < k → treillageref03_Handles.l0 k a b (i : Int) = some (decide (a.drop i = b.drop i)) := by
  intro m
  induction m with
  | zero =>
    intro i k hi hk
    obtain ⟨k, rfl⟩ : ∃ q, k = q + 1 := ⟨k - 1, by omega⟩
    rw [treillageref03_Handles.l0, if_neg (by omega), List.drop_eq_nil_of_le (by omega), List.drop_eq_nil_of_le (by omega), decide_eq_true rfl]
  | succ m ih =>
    intro i k hi hk
    obtain ⟨k, rfl⟩ : ∃ q, k = q + 1 := ⟨k - 1, by omega⟩
    have hw : wrap64 ((i : Int) + 1) = ((i + 1 : Nat) : Int) := by unfold wrap64; omega
    have ha : i < a.length := by omega
    have hb : i < b.length := by omega
    rw [treillageref03_Handles.l0, if_pos (by omega), if_pos (by omega), if_pos (by omega), hw, rd_getElem ha, rd_getElem hb, List.drop_eq_getElem_cons ha, List.drop_eq_getElem_cons hb]
    by_cases e : a[i] = b[i]
    · rw [if_pos e, ih (i + 1) k (by omega) (by omega), e]
      simp only [List.cons.injEq, true_and]
    · rw [if_neg e, decide_eq_false (by intro h; injection h with h1 _; exact e h1)]
theorem handles_eq (a b : List Int) (hl : b.length ≤ 1099511627776) (k : Nat) (hk : b.length < k) : treillageref03_Handles.f k a b = some (decide (a = b)) := by
  unfold treillageref03_Handles.f
  by_cases h : a.length = b.length
  · rw [if_pos (by omega)]
    have h2 := handles_loop a b h (by omega) a.length 0 k (by omega) (by omega)
    rw [List.drop_zero, List.drop_zero] at h2
    exact h2
  · rw [if_neg (by omega), decide_eq_false (by intro e; exact h (by rw [e]))]

/-! ### the bytes of words -/
def U64s (l : List Int) : Prop := ∀ x ∈ l, 0 ≤ x ∧ x < 18446744073709551616
theorem u64s_getD {l : List Int} (h : U64s l) (i : Nat) : 0 ≤ l.getD i 0 ∧ l.getD i 0 < 18446744073709551616 := by
  rw [List.getD_eq_getElem?_getD]
  cases e : l[i]? with
  | none => simp
  | some x => exact h x (List.mem_of_getElem? e)
theorem byteOf_eq (l : List Int) (i : Nat) (hi : i ≤ 9223372036854775807) : PT.byteOf l i = l.getD (i / 8) 0 / 256 ^ (i % 8) % 256 := by
  unfold PT.byteOf
  rw [byteOf_sh i hi]
  unfold shr
  rw [Int.toNat_natCast, show IntKind.u64.bits = 64 from rfl, Nat.min_eq_left (show i % 8 * 8 ≤ 64 by omega), p256, Nat.mul_comm 8]
  unfold rd
  rw [show ((i : Int) / 8).toNat = i / 8 by omega]
def bytesW (l : List Int) : List Int := (List.range (8 * l.length)).map (PT.byteOf l)
theorem byteOf_rng (l : List Int) (i : Nat) : 0 ≤ PT.byteOf l i ∧ PT.byteOf l i < 256 := by
  unfold PT.byteOf
  omega
theorem bts_range (l : List Int) (n : Nat) : Bts ((List.range n).map (PT.byteOf l)) := fun x hx => by
  obtain ⟨i, _, rfl⟩ := List.mem_map.1 hx
  exact byteOf_rng l i
theorem wordsL_get (b : List Int) (j : Nat) (hj : j < (b.length + 7) / 8) : (wordsL b).getD j 0 = chunkW b j := by
  rw [List.getD_eq_getElem?_getD, wordsL, List.getElem?_map, List.getElem?_range hj]
  rfl
theorem u64s_words {b : List Int} (h : Bts b) : U64s (wordsL b) := fun x hx => by
  unfold wordsL at hx
  obtain ⟨j, _, rfl⟩ := List.mem_map.1 hx
  exact chunkW_rng h j
theorem getD_drop_take (b : List Int) (c i : Nat) (hi : i < 8) : ((b.drop (8 * c)).take 8).getD i 0 = b.getD (8 * c + i) 0 := by
  rw [List.getD_eq_getElem?_getD, List.getD_eq_getElem?_getD, List.getElem?_take, if_pos hi, List.getElem?_drop]
/-- The bytes of a text's words are its own, and 0 behind them. -/
theorem byteOf_words {b : List Int} (h : Bts b) (hb : b.length ≤ 1152921504606846976) (i : Nat) (hi : i < 8 * ((b.length + 7) / 8)) : PT.byteOf (wordsL b) i = b.getD i 0 := by
  rw [byteOf_eq _ _ (by omega), wordsL_get _ _ (by omega), chunkW, val_get (btsTake (btsDrop h _) 8), getD_drop_take _ _ _ (by omega), show 8 * (i / 8) + i % 8 = i by omega]
theorem getD_range (f : Nat → Int) (n i : Nat) : ((List.range n).map f).getD i 0 = if i < n then f i else 0 := by
  rw [List.getD_eq_getElem?_getD, List.getElem?_map]
  by_cases h : i < n
  · rw [if_pos h, List.getElem?_range h]; rfl
  · rw [if_neg h, List.getElem?_eq_none (by simp; omega)]; rfl
/-- The words of the first n bytes of words are these, just if n needs so many, and the bytes behind are 0. -/
theorem words_take {l : List Int} (h : U64s l) (hl : l.length ≤ 1099511627776) (n : Nat) (hn : n ≤ 8 * l.length) : wordsL ((List.range n).map (PT.byteOf l)) = l ↔ ((n + 7) / 8 = l.length ∧ ∀ j, n ≤ j → j < 8 * l.length → PT.byteOf l j = 0) := by
  have hb := bts_range l n
  have hlen : ((List.range n).map (PT.byteOf l)).length = n := by simp
  constructor
  · intro e
    have e1 := wordsL_len ((List.range n).map (PT.byteOf l))
    rw [e, hlen] at e1
    refine ⟨e1.symm, fun j h1 h2 => ?_⟩
    have h3 := byteOf_words hb (by simp only [hlen]; omega) j (by simp only [hlen]; omega)
    rw [e, getD_range, if_neg (by omega)] at h3
    exact h3
  · rintro ⟨h1, h2⟩
    refine List.ext_getElem (by rw [wordsL_len, hlen]; exact h1) fun j hj1 hj2 => ?_
    have e1 := wordsL_get ((List.range n).map (PT.byteOf l)) j (by rw [hlen]; omega)
    rw [List.getD_eq_getElem?_getD, List.getElem?_eq_getElem hj1] at e1
    rw [show (wordsL ((List.range n).map (PT.byteOf l)))[j] = chunkW ((List.range n).map (PT.byteOf l)) j from e1]
    have h3 := h l[j] (List.getElem_mem hj2)
    have h4 := val_digits l[j] 8 h3.1
    rw [Int.emod_eq_of_lt h3.1 (by have := h3.2; simp only [Int.reducePow]; omega)] at h4
    rw [← h4]
    unfold chunkW
    refine val_ext fun i => ?_
    rw [getD_range]
    by_cases hi : i < 8
    · rw [if_pos hi, getD_drop_take _ _ _ hi, getD_range]
      have h5 : PT.byteOf l (8 * j + i) = l[j] / 256 ^ i % 256 := by
        rw [byteOf_eq _ _ (by omega), show (8 * j + i) / 8 = j by omega, show (8 * j + i) % 8 = i by omega, List.getD_eq_getElem?_getD, List.getElem?_eq_getElem hj2]
        rfl
      split
      · exact h5
      · rw [← h5, h2 (8 * j + i) (by omega) (by omega)]
    · rw [if_neg hi, List.getD_eq_getElem?_getD, List.getElem?_eq_none (by rw [List.length_take]; omega)]
      rfl
theorem noMore_iff (l : List Int) (n : Nat) : noMore l n 0 = true ↔ ∀ j, n ≤ j → j < 8 * l.length → PT.byteOf l j = 0 := by
  simp only [noMore, List.all_eq_true, decide_eq_true_eq, List.mem_range]
  constructor
  · intro h j h1 h2
    exact h j h2 (Nat.zero_le _) (by omega)
  · intro h j h1 _ h2
    exact h j (by omega) h1
theorem recText_words {l : List Int} (h : U64s l) (hl : l.length ≤ 1099511627776) (n : Int) : recText l n = if 0 ≤ n ∧ n ≤ 8 * (l.length : Int) ∧ wordsL ((List.range n.toNat).map (PT.byteOf l)) = l then (strOfNums ((List.range n.toNat).map (PT.byteOf l)), true) else ((⟨#[]⟩ : ByteArray), false) := by
  unfold recText
  by_cases c : n < 0 ∨ 8 * (l.length : Int) < n
  · rw [if_pos (by omega), if_neg (by omega)]
  · obtain ⟨m, rfl⟩ : ∃ m : Nat, n = m := ⟨n.toNat, by omega⟩
    have hw := words_take h hl m (by omega)
    rw [Int.toNat_natCast]
    by_cases c2 : (m : Int) ≤ 8 * ((l.length : Int) - 1)
    · rw [if_pos (by omega), if_neg (by rintro ⟨_, _, e⟩; have := (hw.1 e).1; omega)]
    · rw [if_neg (by omega)]
      by_cases c3 : noMore l m 0 = true
      · rw [if_pos c3, if_pos ⟨by omega, by omega, hw.2 ⟨by omega, (noMore_iff l m).1 c3⟩⟩, ← List.map_take, List.take_range, Nat.min_eq_left (by omega)]
      · rw [if_neg c3, if_neg (by rintro ⟨_, _, e⟩; exact c3 ((noMore_iff l m).2 (hw.1 e).2))]
theorem bytesRange_words {b : List Int} (h : Bts b) (hb : b.length ≤ 1099511627776) : (List.range b.length).map (PT.byteOf (wordsL b)) = b := by
  refine List.ext_getElem (by simp) fun i h1 h2 => ?_
  rw [List.getElem_map, List.getElem_range, byteOf_words h (by omega) i (by omega), List.getD_eq_getElem?_getD, List.getElem?_eq_getElem h2]
  rfl
/-- A text comes back. -/
theorem recText_back (s : ByteArray) (hs : s.size ≤ 1099511627776) : recText (wordsL (bytesOf s)) (s.size : Int) = (s, true) := by
  have hl : (bytesOf s).length = s.size := bytesOf_length s
  have hb := bts_bytesOf s
  have e := bytesRange_words hb (by omega)
  rw [hl] at e
  rw [recText_words (u64s_words hb) (by rw [wordsL_len]; omega), Int.toNat_natCast, e, if_pos ⟨by omega, by rw [wordsL_len]; omega, rfl⟩, strOfNums_bytesOf]

end Go.Proofs.Ytdjkadfgmhmhcaa.PureT
