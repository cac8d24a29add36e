/-
  Items are taken in the order in which their putters claimed, each once, none before its putter is done with it; no more are claimed and not taken than there are places; who is Full found as many.
-/
import Derived.Test.YtcjkjlopbjijaaaPQx9
import Derived.Test.YtcjkjlopbjijaaaQueueS
namespace Go.Proofs.Ytcjkjlopbjijaaa.Pure
set_option linter.unusedVariables false
set_option linter.unusedSimpArgs false
open Go.RowKit Go.Proofs.Ytcjkjlopbjijaaa.PQ Go.Proofs.YtcjkjlopbjijaaaW.PrintWords Go.Proofs.YtcjkjlopbjijaaaW.PrintLast Go.Proofs.YtcjkjlopbjijaaaW.PrintMore Go.Proofs.YtcjkjlopbjijaaaH

theorem pick_at {picks : List Int} {n i : Nat} (hb : ∀ x ∈ picks, (Lit.int .u8 x).wf = true) (hn : n ≤ 100) (hi : i < picks.length) : ∃ q : Nat, Int.tmod (wrap64 (rd picks i)) (wrap64 ((n : Int) + 1)) = (q : Int) ∧ q ≤ n := by
  have hrd : 0 ≤ rd picks i ∧ rd picks i < 256 := by
    refine wf_u8 (hb _ ?_)
    unfold rd
    rw [Int.toNat_natCast, List.getD_eq_getElem?_getD, List.getElem?_eq_getElem (by omega)]
    exact List.getElem_mem _
  rw [w64k hrd.1 (by omega), w64k (i := (n : Int) + 1) (by omega) (by omega), Int.tmod_eq_emod_of_nonneg hrd.1]
  have h1 := Int.emod_nonneg (rd picks i) (show ((n : Int) + 1) ≠ 0 by omega)
  have h2 := Int.emod_lt_of_pos (rd picks i) (show (0 : Int) < ((n : Int) + 1) by omega)
  exact ⟨(rd picks i % ((n : Int) + 1)).toNat, by omega, by omega⟩
def itm (j : Nat) : Int := 100 + j
theorem order_loop {picks : List Int} (hp : picks.length ≤ 400) (hb : ∀ x ∈ picks, (Lit.int .u8 x).wf = true) {s : Int} (hs : Lay 1 s) {N n : Nat} (hN : pw s = N) (hN2 : 2 ≤ N) (hN3 : N ≤ 16) (hn1 : 1 ≤ n) (hn : n ≤ 12) :
    ∀ (d k i : Nat) (m : List Int) (l : List Putter) (C : List Nat) (ts : Int) (H : Nat) (ti : Int), i + d = picks.length → 2 * d + 8 ≤ k → Inv N n itm m l ts H ti C →
      treillagelaw16_QueueOrder.l2 k picks (pw s) n m l (C.map itm) H i 1 s ts H ti = some true := by
  intro d
  induction d with
  | zero =>
    intro k i m l C ts H ti he hk I
    obtain ⟨k, rfl⟩ : ∃ k', k = k' + 1 := ⟨k - 1, by omega⟩
    rw [treillagelaw16_QueueOrder.l2, if_neg (by omega)]
  | succ d ih =>
    intro k i m l C ts H ti he hk I
    obtain ⟨k, rfl⟩ : ∃ k', k = k' + 1 := ⟨k - 1, by omega⟩
    have hcn := I.cn
    have hlo := I.lo
    have hhi := I.hi
    have hw1_ : wrap64 (i + 1) = (i + 1 : Nat) := w64k (by omega) (by omega)
    have HW1 := Aside0.mk hw1_
    clear hw1_
    have hn1_ : wrap64 ((n : Int) + 1) = (n + 1 : Nat) := w64k (by omega) (by omega)
    have HN1 := Aside0.mk hn1_
    clear hn1_
    obtain ⟨q, hq, hqn⟩ := pick_at (n := n) hb (by omega) (show i < picks.length by omega)
    rw [treillagelaw16_QueueOrder.l2, if_pos (by omega), if_pos (by omega), if_neg (by rw [HN1.out]; omega), hq]
    by_cases hqe : (q : Int) = n
    · rw [if_pos hqe]
      obtain ⟨kd, cell, o, nw, v, b, m', ts', H', ti', tk, e1, e2, e3, I', hr, _, _⟩ := I.take hs hN hN2 hN3 (by omega)
      rw [e1]
      simp only [Option.bind_some]
      rw [e2]
      simp only [Option.bind_some]
      rw [given_ok (by omega), e3]
      simp only [Option.bind_some]
      rcases hr with ⟨rfl, rfl⟩ | ⟨rfl, rfl, j, hj, rfl, hst⟩
      · rw [if_neg (by decide), HW1.out]
        exact ih k (i + 1) m' l C ts' H' ti' (by omega) (by omega) I'
      · have hHC : H < C.length := (List.getElem?_eq_some_iff.1 hj).1
        have hjn := I.lt j (List.mem_of_getElem? hj)
        have hw2 : IntKind.u64.wrap (itm j - 100) = (j : Int) := by unfold itm; rw [wraps_u64 _ (by omega) (by omega)]; omega
        have hw3 : IntKind.u64.wrap (n : Int) = n := wraps_u64 _ (by omega) (by omega)
        have hrc : rd (C.map itm) H = itm j := by
          unfold rd
          rw [Int.toNat_natCast, List.getD_eq_getElem?_getD, List.getElem?_map, hj]
          rfl
        have hll := I.hl
        rw [if_pos rfl, List.length_map, if_neg (by omega), if_pos (by omega), if_pos (by omega), if_pos hrc, if_neg (by unfold itm; omega), hw2, hw3, if_neg (by omega), if_pos (by omega), if_pos (by omega), if_pos hst, HW1.out, w64k (i := (H : Int) + 1) (by omega) (by omega)]
        exact ih k (i + 1) m' l C ts' (H + 1) (itm j) (by omega) (by omega) I'
    · have hqlt : q < n := by omega
      have hll := I.hl
      rw [if_neg hqe, if_pos (by omega), if_pos (by omega)]
      by_cases hw : (rdP l q).f0 ≠ 5 ∧ (rdP l q).f0 ≠ 6
      · obtain ⟨kd, cell, o, nw, v, b, m', C', e1, e2, I', hC', hfull, _⟩ := (I.step hs hN hN2 hN3 (by omega) hqlt hw).go
        rw [e1]
        simp only [Option.bind_some]
        rw [if_pos (by trivial), e2]
        simp only [Option.bind_some]
        rw [got_ok (by omega)]
        simp only [Option.bind_some]
        have hcn' := I'.cn
        have hhi' := I'.hi
        have hlo' := I'.lo
        have hll' := I'.hl
        have hself := rdP_set_self (l := l) (k := q) (by omega) ⟨gotS (rdP l q).f0 (rdP l q).f1 v b, if (rdP l q).f0 = 0 then v else (rdP l q).f1, (rdP l q).f2⟩
        rw [Int.toNat_natCast]
        obtain ⟨y, hy⟩ : ∃ y, y = l.set q ⟨gotS (rdP l q).f0 (rdP l q).f1 v b, if (rdP l q).f0 = 0 then v else (rdP l q).f1, (rdP l q).f2⟩ := ⟨_, rfl⟩
        rw [← hy] at I' hself hll' ⊢
        obtain ⟨k, rfl⟩ : ∃ k', k = k' + 1 := ⟨k - 1, by omega⟩
        have next := ih k (i + 1) m' y C' ts H ti (by omega) (by omega) I'
        have hits := I.its q hqlt
        rcases hC' with ⟨rfl, hno⟩ | ⟨rfl, hs2, hs3⟩
        · have hj : treillagelaw16_QueueOrder.j4 (k + 1) picks (pw s) n m' y (C'.map itm) H i q (rdP l q).f0 false 1 s ts H ti = some true := by
            rw [treillagelaw16_QueueOrder.j4, if_neg (by decide), List.length_map, w64k (i := (C'.length : Int) - H) (by omega) (by omega), if_neg (by omega), if_neg hw.2, if_pos (by omega), if_pos (by omega), HW1.out]
            by_cases h6 : (rdP y q).f0 = 6
            · rw [if_pos h6, if_neg (by rw [hself] at h6; have := hfull h6; omega)]; exact next
            · rw [if_neg h6]; exact next
          by_cases h2 : (rdP l q).f0 = 2
          · rw [if_pos h2]
            have : ((rdP y q).f0 == 3) = false := by rw [hself]; simp; exact fun h => hno ⟨h2, h⟩
            rw [this]; exact hj
          · rw [if_neg h2]; exact hj
        · rw [if_pos hs2]
          have : ((rdP y q).f0 == 3) = true := by rw [hself]; simpa using hs3
          have hitm : (rdP y q).f2 = itm q := I'.its q hqlt
          rw [List.length_append, List.length_singleton] at hcn' hhi' hlo'
          rw [this, treillagelaw16_QueueOrder.j4, if_pos rfl, if_pos (by omega), if_pos (by omega), List.length_map, if_pos (by omega), hitm]
          simp only [Option.bind_some]
          rw [show C.map itm ++ [itm q] = (C ++ [q]).map itm from by simp, List.length_map, List.length_append, List.length_singleton, w64k (i := ((C.length + 1 : Nat) : Int) - H) (by omega) (by omega), if_neg (by omega), if_neg hw.2, HW1.out]
          rw [if_neg (show ¬ (rdP y q).f0 = 6 by rw [hself]; show ¬ gotS _ _ _ _ = 6; rw [hs3]; decide)]
          exact next
      · have h56 : (rdP l q).f0 < 0 ∨ 5 ≤ (rdP l q).f0 := by
          by_cases h5 : (rdP l q).f0 = 5
          · omega
          · by_cases h6 : (rdP l q).f0 = 6
            · omega
            · exact (hw ⟨h5, h6⟩).elim
        rw [want_no h56]
        simp only [Option.bind_some]
        rw [if_neg (by decide), HW1.out]
        exact ih k (i + 1) m l C ts H ti (by omega) (by omega) I
theorem places_loop {s : Int} (hs : Lay 1 s) (k : Nat) (x1 : Int) (x2 : List Int) : ∃ k', k ≤ k' ∧ treillagelaw16_QueueOrder.l0 (k + 5) x1 x2 1 0 1 s = (mem_New.f k' 1 s).bind fun t => if 0 ≤ 11728124029610 then treillagelaw16_QueueOrder.l1 k' x2 (pw s) (wrap64 (1 + (Int.tmod (wrap64 x1) 12))) t (List.replicate 0 z54) 0 1 s else none := by
  have a1 : wrap64 (1 * 2) = 2 := w64k (by decide) (by decide)
  have a2 : wrap64 (2 * 2) = 4 := w64k (by decide) (by decide)
  have a3 : wrap64 (4 * 2) = 8 := w64k (by decide) (by decide)
  have a4 : wrap64 (8 * 2) = 16 := w64k (by decide) (by decide)
  have b0 : wrap64 (0 + 1) = 1 := w64k (by decide) (by decide)
  have b1 : wrap64 (1 + 1) = 2 := w64k (by decide) (by decide)
  have b2 : wrap64 (2 + 1) = 3 := w64k (by decide) (by decide)
  have b3 : wrap64 (3 + 1) = 4 := w64k (by decide) (by decide)
  rcases hs.cases with rfl | rfl | rfl | rfl
  · refine ⟨k + 3, by omega, ?_⟩
    rw [show k + 5 = (k + 3) + 1 + 1 from rfl, treillagelaw16_QueueOrder.l0, if_pos (by decide), a1, b0, treillagelaw16_QueueOrder.l0, if_neg (by decide)]
    rfl
  · refine ⟨k + 2, by omega, ?_⟩
    rw [show k + 5 = (k + 2) + 1 + 1 + 1 from rfl, treillagelaw16_QueueOrder.l0, if_pos (by decide), a1, b0, treillagelaw16_QueueOrder.l0, if_pos (by decide), a2, b1, treillagelaw16_QueueOrder.l0, if_neg (by decide)]
    rfl
  · refine ⟨k + 1, by omega, ?_⟩
    rw [show k + 5 = (k + 1) + 1 + 1 + 1 + 1 from rfl, treillagelaw16_QueueOrder.l0, if_pos (by decide), a1, b0, treillagelaw16_QueueOrder.l0, if_pos (by decide), a2, b1, treillagelaw16_QueueOrder.l0, if_pos (by decide), a3, b2, treillagelaw16_QueueOrder.l0, if_neg (by decide)]
    rfl
  · refine ⟨k, by omega, ?_⟩
    rw [show k + 5 = k + 1 + 1 + 1 + 1 + 1 from rfl, treillagelaw16_QueueOrder.l0, if_pos (by decide), a1, b0, treillagelaw16_QueueOrder.l0, if_pos (by decide), a2, b1, treillagelaw16_QueueOrder.l0, if_pos (by decide), a3, b2, treillagelaw16_QueueOrder.l0, if_pos (by decide), a4, b3, treillagelaw16_QueueOrder.l0, if_neg (by decide)]
    rfl
theorem fill_loop {s x8 : Int} {x2 m : List Int} {n : Nat} (hn : n ≤ 12) : ∀ (d k i : Nat), i + d = n → treillagelaw16_QueueOrder.l1 (k + d + 1) x2 x8 n m (begin_ itm i) i 1 s = treillagelaw16_QueueOrder.l2 k x2 x8 n m (begin_ itm n) [] 0 0 1 s 0 0 0 := by
  intro d
  induction d with
  | zero =>
    intro k i he
    obtain rfl : i = n := by omega
    rw [treillagelaw16_QueueOrder.l1, if_neg (by omega)]
  | succ d ih =>
    intro k i he
    rw [show k + (d + 1) + 1 = (k + d + 1) + 1 from by omega, treillagelaw16_QueueOrder.l1, if_pos (by omega), begin_length, if_pos (by omega), w64k (i := 100 + (i : Int)) (by omega) (by omega), wraps_u64 (100 + (i : Int)) (by omega) (by omega), w64k (i := (i : Int) + 1) (by omega) (by omega)]
    have := ih k (i + 1) (by omega)
    rw [begin_succ] at this
    exact this
theorem QueueOrder : treillagelaw16_QueueOrder.Pure := by
  intro a0 a1 picks h0 h1 _ _ hb
  have h0 := wf_u8 h0
  have h1 := wf_u8 h1
  refine ⟨2 * picks.length + 100, ?_⟩
  unfold treillagelaw16_QueueOrder.f
  have hsh : ∀ k, 20 ≤ k → treillagelaw16_shown.f k = some true := fun k hk => shown_at hk
  by_cases hl : (picks.length : Int) > 400
  · rw [if_pos hl, show 2 * picks.length + 100 = (2 * picks.length + 99) + 1 from rfl, treillagelaw16_QueueOrder.j0, if_pos rfl, hsh _ (by omega)]
    rfl
  rw [if_neg hl, hsh _ (by omega)]
  simp only [Option.bind_some, Bool.not_true]
  rw [show 2 * picks.length + 100 = (2 * picks.length + 94 + 5) + 1 from rfl, treillagelaw16_QueueOrder.j0, if_neg (by decide)]
  obtain ⟨s, hse⟩ : ∃ s, s = wrap64 (1 + Int.tmod (wrap64 a0) 4) := ⟨_, rfl⟩
  have hs1 : s = 1 + a0 % 4 := by
    have e1 : wrap64 a0 = a0 := w64k h0.1 (by omega)
    rw [hse, e1, Int.tmod_eq_emod_of_nonneg h0.1, w64k (by omega) (by omega)]
  have hs : Lay 1 s := by unfold Lay; omega
  rw [← hse]
  obtain ⟨n, hn, hn1, hn2⟩ : ∃ n : Nat, wrap64 (1 + Int.tmod (wrap64 a1) 12) = (n : Int) ∧ 1 ≤ n ∧ n ≤ 12 := by
    have e1 : wrap64 a1 = a1 := w64k h1.1 (by omega)
    rw [e1, Int.tmod_eq_emod_of_nonneg h1.1, w64k (by omega) (by omega)]
    exact ⟨(1 + a1 % 12).toNat, by omega, by omega, by omega⟩
  obtain ⟨N, hN⟩ : ∃ N : Nat, pw s = N := ⟨(pw s).toNat, by have := pw_bd s; omega⟩
  have hpb := pw_bd s
  obtain ⟨k', hk', e⟩ := places_loop hs (2 * picks.length + 94) a1 picks
  obtain ⟨m, e2, m1, m2, m3⟩ := news hs (k := k') (by omega)
  rw [e, e2]
  simp only [Option.bind_some]
  rw [if_pos (by decide), hn]
  obtain ⟨kk, rfl⟩ : ∃ kk, k' = kk + n + 1 := ⟨k' - n - 1, by omega⟩
  have := fill_loop (s := s) (x8 := pw s) (x2 := picks) (m := m) hn2 n kk 0 (by omega)
  refine this.trans ?_
  exact order_loop (by omega) hb hs hN (by omega) (by omega) hn1 hn2 picks.length kk 0 m _ [] 0 0 0 (by omega) (by omega) (Inv.start hN itm m1 m2 m3)

end Go.Proofs.Ytcjkjlopbjijaaa.Pure
