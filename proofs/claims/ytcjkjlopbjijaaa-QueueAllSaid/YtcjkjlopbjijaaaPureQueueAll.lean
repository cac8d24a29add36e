/-
  If all have done with putting, and the taker goes on, it takes all that was claimed.
-/
import Derived.Test.YtcjkjlopbjijaaaPQx10
import Derived.Test.YtcjkjlopbjijaaaQueueS
namespace Go.Proofs.Ytcjkjlopbjijaaa.Pure
set_option linter.unusedVariables false
set_option linter.unusedSimpArgs false
open Go.RowKit Go.Proofs.Ytcjkjlopbjijaaa.PQ Go.Proofs.YtcjkjlopbjijaaaW.PrintWords Go.Proofs.YtcjkjlopbjijaaaW.PrintLast Go.Proofs.YtcjkjlopbjijaaaW.PrintMore Go.Proofs.YtcjkjlopbjijaaaH

def itmA (j : Nat) : Int := j
def psi (n : Nat) (x : Putter) (T : Nat) : Nat := phi x T + 3 * (n - T)
theorem phi_zero {x : Putter} {T : Nat} (h : phi x T = 0) (T' : Nat) : phi x T' = 0 := by
  unfold phi at h ⊢
  (repeat' split at h) <;> first | omega | simp [*]
theorem phi_le (x : Putter) (T : Nat) : phi x T ≤ 7 := by unfold phi; (repeat' split) <;> omega
theorem phi_up (x : Putter) (T : Nat) : phi x (T + 1) ≤ phi x T + 3 := by unfold phi; (repeat' split) <;> omega
theorem phi_end {x : Putter} {T : Nat} (h : phi x T = 0) : ¬(x.f0 = 0 ∨ x.f0 = 1 ∨ x.f0 = 2 ∨ x.f0 = 3 ∨ x.f0 = 4) := by
  unfold phi at h
  intro hh
  rcases hh with e | e | e | e | e <;> simp [e] at h <;> (split at h <;> cases h)
section
variable {s : Int} (hs : Lay 1 s) {N n : Nat} (hN : pw s = N) (hN2 : 2 ≤ N) (hN3 : N ≤ 16) (hn1 : 1 ≤ n) (hn : n ≤ 12)
include hs hN hN2 hN3 hn1 hn
theorem turn {picks : List Int} (k i q : Nat) (hi : i ≤ 2000) (hq : q ≤ n) {m : List Int} {l : List Putter} {C : List Nat} {ts : Int} {H : Nat} {ti : Int} (I : Inv N n itmA m l ts H ti C) (hk : 6 ≤ k) :
    ∃ (m' : List Int) (l' : List Putter) (ts' : Int) (H' : Nat) (ti' : Int) (C' : List Nat), treillagelaw16_QueueAll.j3 (k + 1) picks n m l H i q 1 s ts H ti = treillagelaw16_QueueAll.l1 k picks n m' l' H' (i + 1 : Nat) 1 s ts' H' ti' ∧ Inv N n itmA m' l' ts' H' ti' C' ∧
      ∀ j, j < n → psi n (rdP l' j) C'.length ≤ psi n (rdP l j) C.length ∧ (phi (rdP l j) C.length = 0 → phi (rdP l' j) C'.length = 0) ∧ (j = q → phi (rdP l j) C.length ≠ 0 → psi n (rdP l' j) C'.length + 1 ≤ psi n (rdP l j) C.length) := by
  have hw1 : wrap64 ((i : Int) + 1) = (i + 1 : Nat) := w64k (by omega) (by omega)
  have hcn := I.cn
  have hlo := I.lo
  have hll := I.hl
  rw [treillagelaw16_QueueAll.j3]
  by_cases hqe : (q : Int) = n
  · rw [if_pos hqe]
    obtain ⟨kd, cell, o, nw, v, b, m', ts', H', ti', tk, e1, e2, e3, I', hr, _, _⟩ := I.take hs hN hN2 hN3 (by omega)
    refine ⟨m', l, ts', H', ti', C, ?_, I', fun j hj => ⟨Nat.le_refl _, fun h => h, fun h => by omega⟩⟩
    rw [e1]
    simp only [Option.bind_some]
    rw [e2]
    simp only [Option.bind_some]
    rw [given_ok (by omega), e3]
    simp only [Option.bind_some]
    rcases hr with ⟨rfl, rfl⟩ | ⟨rfl, rfl, _⟩
    · rw [if_neg (by decide), hw1]
    · rw [if_pos rfl, hw1, w64k (i := (H : Int) + 1) (by omega) (by omega)]
      rfl
  · have hqlt : q < n := by omega
    rw [if_neg hqe, if_pos (by omega), if_pos (by omega)]
    by_cases hw : (rdP l q).f0 ≠ 5 ∧ (rdP l q).f0 ≠ 6
    · obtain ⟨kd, cell, o, nw, v, b, m', C', e1, e2, I', hC', _, hphi⟩ := (I.step hs hN hN2 hN3 (by omega) hqlt hw).go
      refine ⟨m', _, ts, H, ti, C', ?_, I', fun j hj => ?_⟩
      · rw [e1]
        simp only [Option.bind_some]
        rw [if_pos (by trivial), e2]
        simp only [Option.bind_some]
        rw [got_ok (by omega)]
        simp only [Option.bind_some]
        rw [hw1]
        rfl
      · by_cases e : j = q
        · subst e
          rw [rdP_set_self (by omega)]
          refine ⟨by unfold psi; omega, fun h => ?_, fun _ _ => by unfold psi; omega⟩
          exfalso
          have := phi_end h
          have h2 := I.out j hj
          rcases h2 with ⟨_, h2⟩ | ⟨_, h2⟩ <;> omega
        · rw [rdP_set_ne e]
          refine ⟨?_, fun h => phi_zero h _, fun h => (e h).elim⟩
          have hcn' := I'.cn
          rcases hC' with ⟨rfl, _⟩ | ⟨rfl, _⟩
          · exact Nat.le_refl _
          · rw [List.length_append, List.length_singleton] at hcn' ⊢
            have := phi_up (rdP l j) C.length
            unfold psi
            omega
    · have h56 : (rdP l q).f0 < 0 ∨ 5 ≤ (rdP l q).f0 := by
        by_cases h5 : (rdP l q).f0 = 5
        · omega
        · by_cases h6 : (rdP l q).f0 = 6
          · omega
          · exact (hw ⟨h5, h6⟩).elim
      refine ⟨m, l, ts, H, ti, C, ?_, I, fun j hj => ⟨Nat.le_refl _, fun h => h, fun e h => ?_⟩⟩
      · rw [want_no h56]
        simp only [Option.bind_some]
        rw [if_neg (by decide), hw1]
      · subst e
        exfalso
        apply h
        unfold phi
        rw [if_neg (by omega), if_neg (by omega), if_neg (by omega), if_neg (by omega), if_neg (by omega)]
def away (n r j : Nat) : Nat := if r ≤ j then j - r else j + n + 1 - r
/-- Each putter's steps end before the rounds do. -/
def Bound (n R r : Nat) (l : List Putter) (T : Nat) : Prop := ∀ j, j < n → phi (rdP l j) T = 0 ∨ away n r j + (psi n (rdP l j) T - 1) * (n + 1) < R
omit hs hN hN2 hN3 in
theorem bound_first {l : List Putter} {T r : Nat} (hT : T ≤ n) (hr : r ≤ n) : Bound n (60 * n) r l T := by
  intro j hj
  right
  have h1 := phi_le (rdP l j) T
  have h2 : psi n (rdP l j) T - 1 ≤ 6 + 3 * n := by unfold psi; omega
  have h3 := Nat.mul_le_mul_right (n + 1) h2
  have h4 : away n r j ≤ n := by unfold away; split <;> omega
  have h5 : (6 + 3 * n) * (n + 1) + n < 60 * n := by
    have : n = 1 ∨ n = 2 ∨ n = 3 ∨ n = 4 ∨ n = 5 ∨ n = 6 ∨ n = 7 ∨ n = 8 ∨ n = 9 ∨ n = 10 ∨ n = 11 ∨ n = 12 := by omega
    rcases this with rfl | rfl | rfl | rfl | rfl | rfl | rfl | rfl | rfl | rfl | rfl | rfl <;> decide
  omega
omit hs hN hN2 hN3 hn1 hn in
theorem bound_next {l l' : List Putter} {T T' R r : Nat} (hr : r ≤ n) (hB : Bound n (R + 1) r l T)
    (hh : ∀ j, j < n → psi n (rdP l' j) T' ≤ psi n (rdP l j) T ∧ (phi (rdP l j) T = 0 → phi (rdP l' j) T' = 0) ∧ (j = r → phi (rdP l j) T ≠ 0 → psi n (rdP l' j) T' + 1 ≤ psi n (rdP l j) T)) :
    Bound n R (if r = n then 0 else r + 1) l' T' := by
  intro j hj
  obtain ⟨h1, h2, h3⟩ := hh j hj
  by_cases hz : phi (rdP l' j) T' = 0
  · exact .inl hz
  right
  have hnz : phi (rdP l j) T ≠ 0 := fun h => hz (h2 h)
  have hb : away n r j + (psi n (rdP l j) T - 1) * (n + 1) < R + 1 := (hB j hj).resolve_left hnz
  have hp : 1 ≤ psi n (rdP l' j) T' := by unfold psi; omega
  by_cases e : j = r
  · have h4 := h3 e hnz
    have h5 := Nat.mul_le_mul_right (n + 1) (show psi n (rdP l' j) T' - 1 ≤ psi n (rdP l j) T - 2 by omega)
    have h6 : (psi n (rdP l j) T - 1) * (n + 1) = (psi n (rdP l j) T - 2) * (n + 1) + (n + 1) := by
      rw [show psi n (rdP l j) T - 1 = (psi n (rdP l j) T - 2) + 1 from by omega, Nat.succ_mul]
    have h7 : away n (if r = n then 0 else r + 1) j ≤ n := by unfold away; (repeat' split) <;> omega
    omega
  · have h5 := Nat.mul_le_mul_right (n + 1) (show psi n (rdP l' j) T' - 1 ≤ psi n (rdP l j) T - 1 by omega)
    have h7 : away n (if r = n then 0 else r + 1) j + 1 ≤ away n r j := by unfold away; (repeat' split) <;> omega
    omega
/-- The taker alone. -/
theorem takes (l : List Putter) (C : List Nat) (hd : ∀ j, j < n → (rdP l j).f0 = 5 ∨ (rdP l j).f0 = 6) : ∀ (d k i : Nat) (m : List Int) (ts : Int) (H : Nat) (ti : Int), i + d = 3 * n + 3 → d + 4 ≤ k → Inv N n itmA m l ts H ti C → 3 * ((C.length : Int) - H) - ts ≤ d →
    treillagelaw16_QueueAll.l3 k n m H C.length i 1 s ts H ti = some true := by
  intro d
  induction d with
  | zero =>
    intro k i m ts H ti he hk I hm
    obtain ⟨k, rfl⟩ : ∃ k', k = k' + 1 := ⟨k - 1, by omega⟩
    have hlo := I.lo
    have hts : ts ≤ 2 := by rcases I.tk with h | ⟨h, _⟩ | ⟨h, _⟩ <;> omega
    rw [treillagelaw16_QueueAll.l3, w64k (i := 3 * (n : Int)) (by omega) (by omega), w64k (by omega) (by omega), if_neg (by omega)]
    have : H = C.length := by omega
    simp [this]
  | succ d ih =>
    intro k i m ts H ti he hk I hm
    obtain ⟨k, rfl⟩ : ∃ k', k = k' + 1 := ⟨k - 1, by omega⟩
    have hlo := I.lo
    have hcn := I.cn
    rw [treillagelaw16_QueueAll.l3, w64k (i := 3 * (n : Int)) (by omega) (by omega), w64k (i := 3 * (n : Int) + 3) (by omega) (by omega), if_pos (by omega)]
    obtain ⟨kd, cell, o, nw, v, b, m', ts', H', ti', tk, e1, e2, e3, I', hr, hprog, hstay⟩ := I.take hs hN hN2 hN3 (by omega)
    have hts : 0 ≤ ts' := by rcases I'.tk with h | ⟨h, _⟩ | ⟨h, _⟩ <;> omega
    rw [e1]
    simp only [Option.bind_some]
    rw [e2]
    simp only [Option.bind_some]
    rw [given_ok (by omega), e3]
    simp only [Option.bind_some]
    have hle : 3 * ((C.length : Int) - H') - ts' ≤ d := by
      rcases Nat.lt_or_ge H C.length with h | h
      · have := hprog hd h; omega
      · have := hstay (by omega); omega
    have next := ih k (i + 1) m' ts' H' ti' (by omega) (by omega) I' hle
    rw [w64k (i := (i : Int) + 1) (by omega) (by omega)]
    rcases hr with ⟨rfl, rfl⟩ | ⟨rfl, rfl, _⟩
    · rw [if_neg (by decide)]; exact next
    · rw [if_pos rfl, w64k (i := (H : Int) + 1) (by omega) (by omega)]; exact next
omit hs hN hN2 hN3 hn1 hn in
theorem sub_length {A B : List Nat} (hA : A.Nodup) (h : ∀ a ∈ A, a ∈ B) : A.length ≤ B.length := by
  induction A generalizing B with
  | nil => exact Nat.zero_le _
  | cons a A ih =>
    have h1 := List.nodup_cons.1 hA
    have ha := h a List.mem_cons_self
    have h2 := ih (B := B.erase a) h1.2 (fun b hb => (List.mem_erase_of_ne (fun e => by subst e; exact h1.1 hb)).2 (h b (List.mem_cons_of_mem _ hb)))
    rw [List.length_erase, if_pos ha] at h2
    have := List.length_pos_of_mem ha
    rw [List.length_cons]
    omega
def doneTo (l : List Putter) (i : Nat) : List Nat := (List.range i).filter (fun j => decide ((rdP l j).f0 = 5))
omit hs hN hN2 hN3 hn1 in
theorem counts {m : List Int} (l : List Putter) (x : Int) (hl : l.length = n) (y z u : Int) : ∀ (d k i : Nat), i + d = n → treillagelaw16_QueueAll.l2 (k + d + 1) n m l x (doneTo l i).length i 1 s y z u = treillagelaw16_QueueAll.l3 k n m x (doneTo l n).length 0 1 s y z u := by
  intro d
  induction d with
  | zero =>
    intro k i he
    obtain rfl : i = n := by omega
    rw [treillagelaw16_QueueAll.l2, if_neg (by omega)]
  | succ d ih =>
    intro k i he
    have hlen : (doneTo l i).length ≤ i := by have := List.length_filter_le (fun j : Nat => decide ((rdP l j).f0 = 5)) (List.range i); rw [List.length_range] at this; exact this
    have hs1 : doneTo l (i + 1) = doneTo l i ++ if (rdP l i).f0 = 5 then [i] else [] := by
      unfold doneTo
      rw [List.range_succ, List.filter_append]
      congr 1
      by_cases h : (rdP l i).f0 = 5 <;> simp [h]
    have next := ih k (i + 1) (by omega)
    rw [show k + (d + 1) + 1 = (k + d + 1) + 1 from by omega, treillagelaw16_QueueAll.l2, if_pos (by omega), if_pos (by omega), if_pos (by omega), w64k (i := (i : Int) + 1) (by omega) (by omega)]
    by_cases h : (rdP l i).f0 = 5
    · rw [if_pos h, w64k (by omega) (by omega)]
      rw [hs1, if_pos h, List.length_append, List.length_singleton] at next
      exact next
    · rw [if_neg h]
      rw [hs1, if_neg h, List.append_nil] at next
      exact next
theorem goes {picks : List Int} (hp : picks.length ≤ 300) (hb : ∀ x ∈ picks, (Lit.int .u8 x).wf = true) : ∀ (d k i : Nat) (m : List Int) (l : List Putter) (C : List Nat) (ts : Int) (H : Nat) (ti : Int), i + d = picks.length + 60 * n → 2 * d + 200 ≤ k → Inv N n itmA m l ts H ti C → (picks.length ≤ i → Bound n d (i % (n + 1)) l C.length) →
    treillagelaw16_QueueAll.l1 k picks n m l H i 1 s ts H ti = some true := by
  intro d
  induction d with
  | zero =>
    intro k i m l C ts H ti he hk I hB
    obtain ⟨k, rfl⟩ : ∃ k', k = k' + n + 1 + 1 := ⟨k - n - 2, by omega⟩
    have hB := hB (by omega)
    rw [treillagelaw16_QueueAll.l1, w64k (i := 60 * (n : Int)) (by omega) (by omega), w64k (by omega) (by omega), if_neg (by omega)]
    have hdone : ∀ j, j < n → (rdP l j).f0 = 5 ∨ (rdP l j).f0 = 6 := by
      intro j hj
      have h1 : phi (rdP l j) C.length = 0 := by
        rcases hB j hj with h | h
        · exact h
        · omega
      have h2 := phi_end h1
      rcases I.out j hj with ⟨_, h3⟩ | ⟨_, h3⟩ <;> omega
    have hcnt := counts (s := s) (m := m) hn l H I.hl ts H ti n k 0 (by omega)
    have hmem : ∀ j, j ∈ doneTo l n ↔ j ∈ C := by
      intro j
      unfold doneTo
      rw [List.mem_filter, List.mem_range, decide_eq_true_eq]
      constructor
      · rintro ⟨h1, h2⟩
        rcases I.out j h1 with ⟨_, h3⟩ | ⟨h3, _⟩
        · omega
        · exact h3
      · intro h
        have h1 := I.lt j h
        refine ⟨h1, ?_⟩
        rcases I.out j h1 with ⟨h3, _⟩ | ⟨_, h3⟩
        · exact (h3 h).elim
        · have := hdone j h1; omega
    have hnd : (doneTo l n).Nodup := (List.nodup_range).filter _
    have hlen : (doneTo l n).length = C.length := Nat.le_antisymm (sub_length hnd (fun a h => (hmem a).1 h)) (sub_length I.nd (fun a h => (hmem a).2 h))
    rw [hlen] at hcnt
    refine hcnt.trans ?_
    have hcn := I.cn
    have hlo := I.lo
    have hts : 0 ≤ ts := by rcases I.tk with h | ⟨h, _⟩ | ⟨h, _⟩ <;> omega
    exact takes hs hN hN2 hN3 hn1 hn l C hdone (3 * n + 3) k 0 m ts H ti (by omega) (by omega) I (by omega)
  | succ d ih =>
    intro k i m l C ts H ti he hk I hB
    obtain ⟨k, rfl⟩ : ∃ k', k = k' + 1 + 1 := ⟨k - 2, by omega⟩
    have hn1' : wrap64 ((n : Int) + 1) = (n + 1 : Nat) := w64k (by omega) (by omega)
    have hmod := Nat.mod_lt i (show 0 < n + 1 by omega)
    rw [treillagelaw16_QueueAll.l1, w64k (i := 60 * (n : Int)) (by omega) (by omega), w64k (i := (picks.length : Int) + 60 * (n : Int)) (by omega) (by omega), if_pos (by omega), if_neg (by rw [hn1']; omega)]
    by_cases hi : (i : Int) < picks.length
    · rw [if_pos hi, if_pos (by omega)]
      have hrd : 0 ≤ rd picks i ∧ rd picks i < 256 := by
        refine wf_u8 (hb _ ?_)
        unfold rd
        rw [Int.toNat_natCast, List.getD_eq_getElem?_getD, List.getElem?_eq_getElem (by omega)]
        exact List.getElem_mem _
      obtain ⟨q, hq, hqn⟩ : ∃ q : Nat, Int.tmod (wrap64 (rd picks i)) (wrap64 ((n : Int) + 1)) = (q : Int) ∧ q ≤ n := by
        rw [w64k hrd.1 (by omega), hn1', Int.tmod_eq_emod_of_nonneg hrd.1]
        have h1 := Int.emod_nonneg (rd picks i) (show ((n + 1 : Nat) : Int) ≠ 0 by omega)
        have h2 := Int.emod_lt_of_pos (rd picks i) (show (0 : Int) < ((n + 1 : Nat) : Int) by omega)
        exact ⟨(rd picks i % ((n + 1 : Nat) : Int)).toNat, by omega, by omega⟩
      rw [hq]
      obtain ⟨m', l', ts', H', ti', C', e, I', _⟩ := turn hs hN hN2 hN3 hn1 hn (picks := picks) k i q (by omega) hqn I (by omega)
      rw [e]
      refine ih k (i + 1) m' l' C' ts' H' ti' (by omega) (by omega) I' (fun hle => ?_)
      have hd : d = 60 * n := by omega
      rw [hd]
      exact bound_first hn1 hn I'.cn (by have := Nat.mod_lt (i + 1) (show 0 < n + 1 by omega); omega)
    · rw [if_neg hi]
      have hq : Int.tmod (i : Int) (wrap64 ((n : Int) + 1)) = ((i % (n + 1) : Nat) : Int) := by
        rw [hn1', Int.tmod_eq_emod_of_nonneg (by omega)]
        rfl
      rw [hq]
      obtain ⟨m', l', ts', H', ti', C', e, I', hh⟩ := turn hs hN hN2 hN3 hn1 hn (picks := picks) k i (i % (n + 1)) (by omega) (by omega) I (by omega)
      rw [e]
      refine ih k (i + 1) m' l' C' ts' H' ti' (by omega) (by omega) I' (fun _ => ?_)
      have hb2 := bound_next (n := n) (r := i % (n + 1)) (R := d) (by omega) (hB (by omega)) hh
      have hm1 : (i + 1) % (n + 1) = if i % (n + 1) = n then 0 else i % (n + 1) + 1 := by
        rw [Nat.add_mod]
        by_cases h1 : i % (n + 1) = n
        · rw [if_pos h1, h1]
          rcases Nat.eq_zero_or_pos n with h0 | h0
          · omega
          · rw [Nat.mod_eq_of_lt (show 1 < n + 1 by omega), Nat.mod_self]
        · rw [if_neg h1, Nat.mod_eq_of_lt (show 1 < n + 1 by omega), Nat.mod_eq_of_lt (by omega)]
      rw [hm1]
      exact hb2
end
theorem fill_loopA {s : Int} {x2 m : List Int} {n : Nat} (hn : n ≤ 12) : ∀ (d k i : Nat), i + d = n → treillagelaw16_QueueAll.l0 (k + d + 1) x2 n m (begin_ itmA i) i 1 s = treillagelaw16_QueueAll.l1 k x2 n m (begin_ itmA n) 0 0 1 s 0 0 0 := by
  intro d
  induction d with
  | zero =>
    intro k i he
    obtain rfl : i = n := by omega
    rw [treillagelaw16_QueueAll.l0, if_neg (by omega)]
  | succ d ih =>
    intro k i he
    rw [show k + (d + 1) + 1 = (k + d + 1) + 1 from by omega, treillagelaw16_QueueAll.l0, if_pos (by omega), begin_length, if_pos (by omega), wraps_u64 (i : Int) (by omega) (by omega), w64k (i := (i : Int) + 1) (by omega) (by omega)]
    have := ih k (i + 1) (by omega)
    rw [begin_succ] at this
    exact this
theorem QueueAll : treillagelaw16_QueueAll.Pure := by
  intro a0 a1 picks h0 h1 _ _ hb
  have h0 := wf_u8 h0
  have h1 := wf_u8 h1
  refine ⟨2 * picks.length + 2000, ?_⟩
  unfold treillagelaw16_QueueAll.f
  have hsh : ∀ k, 20 ≤ k → treillagelaw16_shown.f k = some true := fun k hk => shown_at hk
  by_cases hl : (picks.length : Int) > 300
  · rw [if_pos hl, show 2 * picks.length + 2000 = (2 * picks.length + 1999) + 1 from rfl, treillagelaw16_QueueAll.j0, if_pos rfl, hsh _ (by omega)]
    rfl
  rw [if_neg hl, hsh _ (by omega)]
  simp only [Option.bind_some, Bool.not_true]
  rw [show 2 * picks.length + 2000 = (2 * picks.length + 1999) + 1 from rfl, treillagelaw16_QueueAll.j0, if_neg (by decide)]
  obtain ⟨s, hse⟩ : ∃ s, s = wrap64 (1 + Int.tmod (wrap64 a0) 4) := ⟨_, rfl⟩
  have hs1 : s = 1 + a0 % 4 := by
    have e1 : wrap64 a0 = a0 := w64k h0.1 (by omega)
    rw [hse, e1, Int.tmod_eq_emod_of_nonneg h0.1, w64k (by omega) (by omega)]
  have hs : Lay 1 s := by unfold Lay; omega
  rw [← hse]
  obtain ⟨n, hn, hn1, hn2⟩ : ∃ n : Nat, wrap64 (1 + Int.tmod (wrap64 a1) 12) = (n : Int) ∧ 1 ≤ n ∧ n ≤ 12 := by
    have e1 : wrap64 a1 = a1 := w64k h1.1 (by omega)
    rw [e1, Int.tmod_eq_emod_of_nonneg h1.1, w64k (by omega) (by omega)]
    exact ⟨(1 + a1 % 12).toNat, by omega, by omega, by omega⟩
  obtain ⟨N, hN⟩ : ∃ N : Nat, pw s = N := ⟨(pw s).toNat, by have := pw_bd s; omega⟩
  have hpb := pw_bd s
  obtain ⟨m, e2, m1, m2, m3⟩ := news hs (k := 2 * picks.length + 1999) (by omega)
  rw [e2]
  simp only [Option.bind_some]
  rw [if_pos (by decide), hn]
  have hfill := fill_loopA (s := s) (x2 := picks) (m := m) hn2 n (2 * picks.length + 1998 - n) 0 (by omega)
  rw [show 2 * picks.length + 1998 - n + n + 1 = 2 * picks.length + 1999 from by omega] at hfill
  refine hfill.trans ?_
  refine goes hs hN (by omega) (by omega) hn1 hn2 (by omega) hb (picks.length + 60 * n) _ 0 m _ [] 0 0 0 (by omega) (by omega) (Inv.start hN itmA m1 m2 m3) (fun hle => ?_)
  have hd : picks.length + 60 * n = 60 * n := by omega
  rw [hd]
  exact bound_first hn1 hn2 (Nat.zero_le _) (by rw [Nat.zero_mod]; omega)

end Go.Proofs.Ytcjkjlopbjijaaa.Pure
