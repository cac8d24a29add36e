/-
  The queue in plain numbers: what one that puts wants and becomes, what the taker wants and becomes, and what holds whoever goes when.
-/
import Derived.Test.YtcjkjlopbjijaaaPQx7
import Derived.Test.YtcjkjlopbjijaaaMemLQ
namespace Go.Proofs.Ytcjkjlopbjijaaa.PQ
set_option linter.unusedVariables false
set_option linter.unusedSimpArgs false
open Go.RowKit Go.Proofs.YtcjkjlopbjijaaaW.PrintWords Go.Proofs.YtcjkjlopbjijaaaW.PrintLast Go.Proofs.YtcjkjlopbjijaaaW.PrintMore Go.Proofs.YtcjkjlopbjijaaaH

abbrev Putter := S54
abbrev rdP (l : List Putter) (j : Int) : Putter := rd_T54 l j
theorem shown_at {k : Nat} (hk : 20 ≤ k) : treillagelaw16_shown.f k = some true := at_rounds treillagelaw16_shown.mono hk (by decide +kernel)
/-! ### Each function -/
def gotS (st pos v : Int) (b : Bool) : Int := if st = 0 then 1 else if st = 1 then (if v < pos then 6 else if v > pos then 0 else 2) else if st = 2 then (if b = true then 3 else 0) else if st = 3 then 4 else if st = 4 then 5 else st
theorem w3 : wrap64 3 = 3 := by unfold wrap64; omega
theorem w4 : wrap64 4 = 4 := by unfold wrap64; omega
theorem w5 : wrap64 5 = 5 := by unfold wrap64; omega
theorem w11 : wrap64 (1 + 1) = 2 := by unfold wrap64; omega
theorem w21 : wrap64 (2 + 1) = 3 := by unfold wrap64; omega
theorem w31 : wrap64 (3 + 1) = 4 := by unfold wrap64; omega
theorem w41 : wrap64 (4 + 1) = 5 := by unfold wrap64; omega
theorem got_ok {k : Nat} (hk : 4 ≤ k) (st pos it v : Int) (b : Bool) : queue_Got.f k st pos it v b = some (gotS st pos v b, if st = 0 then v else pos, it) := by
  obtain ⟨k, rfl⟩ : ∃ k', k = k' + 4 := ⟨k - 4, by omega⟩
  unfold queue_Got.f gotS
  by_cases h0 : st = 0
  · rw [if_pos h0, if_pos h0, if_pos h0]
  rw [if_neg h0, if_neg h0, if_neg h0]
  by_cases h1 : st = 1
  · subst h1
    rw [if_pos rfl, if_pos rfl, queue_Got.j0]
    by_cases h2 : v < pos
    · rw [if_pos (by simpa using h2), if_pos h2]
    rw [if_neg (by simpa using h2), if_neg h2, if_pos rfl, queue_Got.j1]
    by_cases h3 : v > pos
    · rw [if_pos (by simpa using h3), if_pos h3, queue_Got.j2, if_pos (by simpa using h3)]
    rw [if_neg (by simpa using h3), if_neg h3, if_neg (by decide), queue_Got.j2, if_neg (by simp), if_pos (by decide), if_pos (by decide), w11]
  rw [if_neg h1, if_neg h1, queue_Got.j0, if_neg (by simp), if_neg h1, queue_Got.j1, if_neg (by simp)]
  by_cases h2 : st = 2
  · subst h2
    rw [if_pos rfl, if_pos rfl, queue_Got.j2]
    cases b <;> simp [w3]
  rw [if_neg h2, if_neg h2, queue_Got.j2, if_neg (by simp)]
  by_cases h3 : st = 3
  · subst h3; simp [w4]
  rw [if_neg h3]
  by_cases h4 : st = 4
  · subst h4; simp [w5]
  rw [if_neg h4]
  (repeat' split) <;> first | rfl | omega
def givenS (st h it v : Int) : Int × Int × Int × Bool := if st = 0 then (if v = IntKind.u64.wrap (h + 1) then (1, h, it, false) else (0, h, it, false)) else if st = 1 then (2, h, v, false) else (0, IntKind.u64.wrap (h + 1), it, true)
theorem given_ok {k : Nat} (hk : 1 ≤ k) (c s st h it v : Int) : queue_Given.f k c s st h it v = some (givenS st h it v) := by
  obtain ⟨k, rfl⟩ : ∃ k', k = k' + 1 := ⟨k - 1, by omega⟩
  unfold queue_Given.f givenS
  by_cases h0 : st = 0
  · subst h0
    rw [if_pos rfl, if_pos rfl, queue_Given.j0]
    by_cases h1 : v = IntKind.u64.wrap (h + 1)
    · rw [if_pos h1, if_neg (by simp [h1]), if_pos rfl]
    · rw [if_neg h1, if_pos (by simpa using h1)]
  rw [if_neg h0, if_neg h0, queue_Given.j0, if_neg (by simp), if_neg h0]
  split <;> rfl
theorem want_0 {c s : Int} (h : Lay c s) (pos it : Int) : queue_Want.f c s 0 pos it = some (1, 2 + 2 * c, 0, 0, true) := by
  unfold queue_Want.f; rw [if_neg (by omega), if_pos rfl, tail_ok h]; rfl
theorem want_1 {c s : Int} (h : Lay c s) {pos : Int} (it : Int) (h0 : 0 ≤ pos) (h1 : pos < 18446744073709551616) : queue_Want.f c s 1 pos it = some (1, 3 + 2 * c + 2 * (pos % pw s), 0, 0, true) := by
  unfold queue_Want.f; rw [if_neg (by omega), if_neg (by omega), if_pos rfl, seq_ok h h0 h1]; rfl
theorem want_2 {c s : Int} (h : Lay c s) (pos it : Int) : queue_Want.f c s 2 pos it = some (3, 2 + 2 * c, pos, IntKind.u64.wrap (pos + 1), true) := by
  unfold queue_Want.f; rw [if_neg (by omega), if_neg (by omega), if_neg (by omega), if_pos rfl, tail_ok h]; rfl
theorem want_3 {c s : Int} (h : Lay c s) {pos : Int} (it : Int) (h0 : 0 ≤ pos) (h1 : pos < 18446744073709551616) : queue_Want.f c s 3 pos it = some (2, 3 + 2 * c + 2 * (pos % pw s) + 1, 0, it, true) := by
  unfold queue_Want.f; rw [if_neg (by omega), if_neg (by omega), if_neg (by omega), if_neg (by omega), if_pos rfl, item_ok h h0 h1]; rfl
theorem want_4 {c s : Int} (h : Lay c s) {pos : Int} (it : Int) (h0 : 0 ≤ pos) (h1 : pos < 18446744073709551616) : queue_Want.f c s 4 pos it = some (2, 3 + 2 * c + 2 * (pos % pw s), 0, IntKind.u64.wrap (pos + 1), true) := by
  unfold queue_Want.f; rw [if_neg (by omega), if_neg (by omega), if_neg (by omega), if_neg (by omega), if_neg (by omega), seq_ok h h0 h1]; rfl
theorem next_0 {c s : Int} (h : Lay c s) {p : Int} (it : Int) (h0 : 0 ≤ p) (h1 : p < 18446744073709551616) : queue_Next.f c s 0 p it = some (1, 3 + 2 * c + 2 * (p % pw s), 0, 0) := by
  unfold queue_Next.f; rw [if_pos rfl, seq_ok h h0 h1]; rfl
theorem next_1 {c s : Int} (h : Lay c s) {p : Int} (it : Int) (h0 : 0 ≤ p) (h1 : p < 18446744073709551616) : queue_Next.f c s 1 p it = some (1, 3 + 2 * c + 2 * (p % pw s) + 1, 0, 0) := by
  unfold queue_Next.f; rw [if_neg (by omega), if_pos rfl, item_ok h h0 h1]; rfl
theorem next_2 {c s : Int} (h : Lay c s) {st p : Int} (it : Int) (hst : st ≠ 0 ∧ st ≠ 1) (h0 : 0 ≤ p) (h1 : p < 18446744073709551616) : queue_Next.f c s st p it = some (2, 3 + 2 * c + 2 * (p % pw s), 0, IntKind.u64.wrap (p + pw s)) := by
  have := h.2.1
  unfold queue_Next.f; rw [if_neg hst.1, if_neg hst.2, seq_ok h h0 h1]; simp only [Option.bind_some]; rw [if_pos (by omega), shl_one h]; rfl
theorem want_no {c s st pos it : Int} (h : st < 0 ∨ 5 ≤ st) : queue_Want.f c s st pos it = some (0, 0, 0, 0, false) := by
  unfold queue_Want.f; rw [if_pos h]
/-! ### Cells -/
theorem rd_set_self {l : List Int} {i : Int} (h0 : 0 ≤ i) (h1 : i < l.length) (x : Int) : rd (l.set i.toNat x) i = x := by
  unfold rd
  rw [List.getD_eq_getElem?_getD, List.getElem?_set_self (by omega)]
  rfl
theorem rd_set_ne {l : List Int} {i j : Int} (h0 : 0 ≤ i) (hj : 0 ≤ j) (hne : j ≠ i) (x : Int) : rd (l.set i.toNat x) j = rd l j := by
  unfold rd
  rw [List.getD_eq_getElem?_getD, List.getD_eq_getElem?_getD, List.getElem?_set_ne (by omega)]
theorem do_load {l : List Int} {i o n : Int} (h0 : 0 ≤ i) (h1 : i < l.length) : mem_Do.f l 1 i o n = some (l, rd l i, true) := by
  unfold mem_Do.f
  rw [if_neg (by omega), if_pos rfl]
theorem do_store {l : List Int} {i o n : Int} (h0 : 0 ≤ i) (h1 : i < l.length) (hl : l.length ≤ 100) : mem_Do.f l 2 i o n = some (l.set i.toNat n, rd l i, true) := by
  unfold mem_Do.f
  rw [if_neg (by omega), if_neg (by decide), if_neg (by omega), if_pos (.inl rfl), if_pos (by omega)]
theorem do_cas {l : List Int} {i o n : Int} (h0 : 0 ≤ i) (h1 : i < l.length) (hl : l.length ≤ 100) : mem_Do.f l 3 i o n = if rd l i = o then some (l.set i.toNat n, rd l i, true) else some (l, rd l i, false) := by
  unfold mem_Do.f
  rw [if_neg (by omega), if_neg (by decide)]
  by_cases h : rd l i = o
  · rw [if_neg (fun hh => hh.2 h), if_pos (.inr rfl), if_pos (by omega), if_pos h]
  · rw [if_pos ⟨rfl, h⟩, if_neg h]
/-! ### Places: of a layout of one client -/
def sq (m : List Int) (N p : Nat) : Int := rd m (5 + 2 * ((p % N : Nat) : Int))
def im (m : List Int) (N p : Nat) : Int := rd m (6 + 2 * ((p % N : Nat) : Int))
theorem sq_tail {m : List Int} {N : Nat} (hm : m.length = 5 + 2 * N) (hN : 2 ≤ N) (x : Int) (q : Nat) : sq (m.set 4 x) N q = sq m N q := by
  unfold sq; rw [show (4 : Nat) = (4 : Int).toNat from rfl, rd_set_ne (by omega) (by omega) (by omega)]
theorem im_tail {m : List Int} {N : Nat} (hm : m.length = 5 + 2 * N) (hN : 2 ≤ N) (x : Int) (q : Nat) : im (m.set 4 x) N q = im m N q := by
  unfold im; rw [show (4 : Nat) = (4 : Int).toNat from rfl, rd_set_ne (by omega) (by omega) (by omega)]
theorem tail_tail {m : List Int} {N : Nat} (hm : m.length = 5 + 2 * N) (hN : 2 ≤ N) (x : Int) : rd (m.set 4 x) 4 = x := by
  rw [show (4 : Nat) = (4 : Int).toNat from rfl, rd_set_self (by omega) (by omega)]
theorem sq_seq {m : List Int} {N : Nat} (hm : m.length = 5 + 2 * N) (hN : 2 ≤ N) (p : Nat) (x : Int) (q : Nat) : sq (m.set (5 + 2 * ((p % N : Nat) : Int)).toNat x) N q = if q % N = p % N then x else sq m N q := by
  have hp := Nat.mod_lt p (show 0 < N by omega)
  unfold sq
  split
  · rename_i h
    rw [h, rd_set_self (by omega) (by omega)]
  · rw [rd_set_ne (by omega) (by omega) (by omega)]
theorem im_seq {m : List Int} {N : Nat} (hm : m.length = 5 + 2 * N) (hN : 2 ≤ N) (p : Nat) (x : Int) (q : Nat) : im (m.set (5 + 2 * ((p % N : Nat) : Int)).toNat x) N q = im m N q := by
  unfold im; rw [rd_set_ne (by omega) (by omega) (by omega)]
theorem tail_seq {m : List Int} {N : Nat} (hm : m.length = 5 + 2 * N) (hN : 2 ≤ N) (p : Nat) (x : Int) : rd (m.set (5 + 2 * ((p % N : Nat) : Int)).toNat x) 4 = rd m 4 := rd_set_ne (by omega) (by omega) (by omega) x
theorem im_item {m : List Int} {N : Nat} (hm : m.length = 5 + 2 * N) (hN : 2 ≤ N) (p : Nat) (x : Int) (q : Nat) : im (m.set (6 + 2 * ((p % N : Nat) : Int)).toNat x) N q = if q % N = p % N then x else im m N q := by
  have hp := Nat.mod_lt p (show 0 < N by omega)
  unfold im
  split
  · rename_i h
    rw [h, rd_set_self (by omega) (by omega)]
  · rw [rd_set_ne (by omega) (by omega) (by omega)]
theorem sq_item {m : List Int} {N : Nat} (hm : m.length = 5 + 2 * N) (hN : 2 ≤ N) (p : Nat) (x : Int) (q : Nat) : sq (m.set (6 + 2 * ((p % N : Nat) : Int)).toNat x) N q = sq m N q := by
  unfold sq; rw [rd_set_ne (by omega) (by omega) (by omega)]
theorem tail_item {m : List Int} {N : Nat} (hm : m.length = 5 + 2 * N) (hN : 2 ≤ N) (p : Nat) (x : Int) : rd (m.set (6 + 2 * ((p % N : Nat) : Int)).toNat x) 4 = rd m 4 := rd_set_ne (by omega) (by omega) (by omega) x
theorem mod_inj {N H p q : Nat} (hp : H ≤ p) (hp2 : p < H + N) (hq : H ≤ q) (hq2 : q < H + N) (h : p % N = q % N) : p = q := by
  rcases Nat.le_total p q with hle | hle
  · have h1 := Nat.sub_mod_eq_zero_of_mod_eq h.symm
    rw [Nat.mod_eq_of_lt (by omega)] at h1
    omega
  · have h1 := Nat.sub_mod_eq_zero_of_mod_eq h
    rw [Nat.mod_eq_of_lt (by omega)] at h1
    omega
theorem mod_up {N H p : Nat} (hN : 0 < N) (hp : p < H) : ∃ q, H ≤ q ∧ q < H + N ∧ q % N = p % N ∧ p < q := by
  refine ⟨p + N * ((H - p + N - 1) / N), ?_, ?_, ?_, ?_⟩
  all_goals have h1 := Nat.div_add_mod (H - p + N - 1) N
  all_goals have h2 := Nat.mod_lt (H - p + N - 1) hN
  · omega
  · omega
  · rw [Nat.add_mul_mod_self_left]
  · omega

end Go.Proofs.Ytcjkjlopbjijaaa.PQ
