-- Written by wip/hprint/hprint.py (a program of this session, over the print): not typed by hand
import Derived.Test.YtecfbacgaahlhaaPAx0
namespace Go.Proofs.Ytecfbacgaahlhaa.PA
open Go.RowKit Go.Proofs.YtecfbacgaahlhaaW.PrintWords Go.Proofs.YtecfbacgaahlhaaW.PrintLast Go.Proofs.YtecfbacgaahlhaaW.PrintMore
attribute [local go_sem] max2_int min2_int max_two min_two max_three min_three max_four min_four   -- for this text's walks alone
open Go.Proofs.YtecfbacgaahlhaaH
set_option linter.unusedVariables false
set_option linter.unusedSimpArgs false

/-- The generations, and what is free, behind k rounds. -/
def gensAt (n : Nat) : Nat → List Int
 | 0 => List.replicate n 0
 | k + 1 => (gensAt n k).set k 1
def freeAt (n : Nat) : Nat → List Int
 | 0 => List.replicate n 0
 | k + 1 => (freeAt n k).set (n - 1 - k) k
theorem gensAt_len (n k : Nat) : (gensAt n k).length = n := by
 induction k with
 | zero => simp [gensAt]
 | succ k ih => simp [gensAt, ih]
theorem freeAt_len (n k : Nat) : (freeAt n k).length = n := by
 induction k with
 | zero => simp [freeAt]
 | succ k ih => simp [freeAt, ih]
theorem gensAt_get (n k i : Nat) (hk : k ≤ n) (hi : i < n) : (gensAt n k)[i]? = some (if i < k then 1 else 0) := by
 induction k with
 | zero => simp [gensAt, hi]
 | succ k ih =>
  simp only [gensAt]; rw [List.getElem?_set, ih (by omega), gensAt_len]; by_cases h : k = i
  ·subst h; simp [hi]
  ·rw [if_neg h]; congr 1; by_cases h2 : i < k
   ·rw [if_pos h2, if_pos (by omega)]
   ·rw [if_neg h2, if_neg (by omega)]
theorem gensAt_all (n : Nat) : gensAt n n = List.replicate n 1 := by
 apply List.ext_getElem?
 intro i
 by_cases hi : i < n
 ·rw [gensAt_get n n i (Nat.le_refl _) hi, if_pos hi]; simp [hi]
 ·rw [List.getElem?_eq_none (by rw [gensAt_len]; omega), List.getElem?_eq_none (by simp; omega)]
theorem freeAt_get (n k i : Nat) (hk : k ≤ n) (hi : i < n) : (freeAt n k)[i]? = some (if n - 1 - i < k then ((n - 1 - i : Nat) : Int) else 0) := by
 induction k with
 | zero => simp [freeAt, hi]
 | succ k ih =>
  simp only [freeAt]; rw [List.getElem?_set, ih (by omega), freeAt_len]; by_cases h : n - 1 - k = i
  ·rw [if_pos h, if_pos (show n - 1 - k < n by omega), if_pos (show n - 1 - i < k + 1 by omega), show n - 1 - i = k from by omega]
  ·rw [if_neg h]; congr 1; by_cases h2 : n - 1 - i < k
   ·rw [if_pos h2, if_pos (by omega)]
   ·rw [if_neg h2, if_neg (by omega)]
theorem freeAt_all (n : Nat) : freeAt n n = (List.range n).reverse.map Int.ofNat := by
 apply List.ext_getElem?
 intro i
 by_cases hi : i < n
 ·rw [freeAt_get n n i (Nat.le_refl _) hi, if_pos (by omega)]; rw [List.getElem?_map, List.getElem?_reverse (by simpa using hi), List.length_range, List.getElem?_range (by omega)]; rfl
 ·rw [List.getElem?_eq_none (by rw [freeAt_len]; omega), List.getElem?_eq_none (by simp; omega)]
set_option maxHeartbeats 6400000 in
set_option maxRecDepth 100000 in
theorem slots_New_walk (n : Nat) (hn : n ≤ 500) (w : World) :
  Calls Try.prog 15 #[.int .i64 n] w fun e w' => ∃ gm0 gm1 gm2 : Nat, e = .returned (.tuple #[.agg #[.slice (some ⟨gm0, 0, none⟩) n n, .slice (some ⟨gm1, 0, none⟩) n n, .slice (some ⟨gm2, 0, none⟩) n n], .int .i64 0]) ∧ w.heap.size ≤ gm0 ∧ w.heap.size ≤ gm1 ∧ w.heap.size ≤ gm2 ∧ w'.heap[gm0]? = some (.cells ((List.replicate n 1).map (Value.int .u64)).toArray 34 (0, 0)) ∧ w'.heap[gm1]? = some (.cells ((List.replicate n false).map Value.bool).toArray 4 (0, 0)) ∧ w'.heap[gm2]? = some (.cells (((List.range n).reverse.map Int.ofNat).map (Value.int .i64)).toArray 3 (0, 0)) ∧ Below w.heap.size w w' := by
 have hu := Try.underlying28; have HB := Below.refl w.heap.size w; have hn0 : ¬ (n : Int) < 0 := by omega
 have hn1 : ¬ (500 : Int) < (n : Int) := by omega
 have hmk0 := make_run (P := Try.prog) (t := 24) (e := 34) n Try.underlying24 (.int .u64 0) 8 (by kernel_rfl) rfl (by decide) (by omega); have hmk1 := make_run (P := Try.prog) (t := 25) (e := 4) n Try.underlying25 (.bool false) 1 (by kernel_rfl) rfl (by decide) (by omega); have hmk2 := make_run (P := Try.prog) (t := 26) (e := 3) n Try.underlying26 (.int .i64 0) 8 (by kernel_rfl) rfl (by decide) (by omega); go_enter Try.func15, Try.ntmps15
 go_wp2_with (first
  | ((with_reducible refine gate_dst (N := 2) rfl ?_); (with_reducible refine gate_ (.alloc 28) rfl ?_); refine box_event (N := 2) rfl rfl (cs := #[.slice none 0 0, .slice none 0 0, .slice none 0 0]) (t := 28) (by first | (go_simp; done) | (go_simp; rfl)) ?_; intro go hg_ wo_ hbo hbl_; have HGo : w.heap.size ≤ go := (by rw [hg_]; exact Nat.le_trans (by first | exact Nat.le_refl _ | exact HB.size) (Nat.le_refl _)); replace HB := below_step (blw HB) hbl_; clear hg_ hbl_; have hqo_0 : wo_.cell? ⟨go, 0, none⟩ = some (.slice none 0 0) := (blk_cell hbo 0).trans rfl; have hqo_1 : wo_.cell? ⟨go, 1, none⟩ = some (.slice none 0 0) := (blk_cell hbo 1).trans rfl; have hqo_2 : wo_.cell? ⟨go, 2, none⟩ = some (.slice none 0 0) := (blk_cell hbo 2).trans rfl))
 try (simp only [Act.put, List.setIfInBounds_toArray, List.set_cons_zero, List.set_cons_succ])
 have hlo := blk_lt hbo; have HB0 := HB; go_cut [4] from 13 (fun s4 w' => ∃ gs gm0 gm1 gm2 : Nat, s4 = .pointer (some ⟨gs, 0, none⟩) ∧ w'.heap[gs]? = some (.cells #[.slice (some ⟨gm0, 0, none⟩) n n, .slice (some ⟨gm1, 0, none⟩) n n, .slice (some ⟨gm2, 0, none⟩) n n] 28 (0, 0)) ∧ wo_.heap.size ≤ gs ∧ wo_.heap.size ≤ gm0 ∧ wo_.heap.size ≤ gm1 ∧ wo_.heap.size ≤ gm2 ∧ gs ≠ gm0 ∧ gs ≠ gm1 ∧ gs ≠ gm2 ∧ gm1 ≠ gm0 ∧ gm2 ≠ gm0 ∧ gm2 ≠ gm1 ∧ w'.heap[gm0]? = some (.cells (Array.replicate n (Value.int .u64 0)) 34 (0, 0)) ∧ w'.heap[gm1]? = some (.cells (Array.replicate n (Value.bool false)) 4 (0, 0)) ∧ w'.heap[gm2]? = some (.cells (Array.replicate n (Value.int .i64 0)) 3 (0, 0)) ∧ w'.heap[go]? = some (.cells #[.slice none 0 0, .slice none 0 0, .slice none 0 0] 28 (0, 0)) ∧ Below w.heap.size w w')
 case first =>
  go_region_held3 (fun w' => True) (first | trivial | go_keep) (fail)
  all_goals (go_wp2_with fail)
  all_goals go_meet
  all_goals (first
   | exact ⟨_, _, _, _, rfl, (four_new _ _ _ _ _).1, by omega, by omega, by omega, by omega, by omega, by omega, by omega, by omega, by omega, by omega, (by first | exact (four_new _ _ _ _ _).1 | exact (four_new _ _ _ _ _).2.1 | exact (four_new _ _ _ _ _).2.2.1 | exact (four_new _ _ _ _ _).2.2.2), (by first | exact (four_new _ _ _ _ _).1 | exact (four_new _ _ _ _ _).2.1 | exact (four_new _ _ _ _ _).2.2.1 | exact (four_new _ _ _ _ _).2.2.2), (by first | exact (four_new _ _ _ _ _).1 | exact (four_new _ _ _ _ _).2.1 | exact (four_new _ _ _ _ _).2.2.1 | exact (four_new _ _ _ _ _).2.2.2), bku hbo, blw HB⟩
   | exact ⟨_, _, _, _, rfl, (four_new _ _ _ _ _).2.1, by omega, by omega, by omega, by omega, by omega, by omega, by omega, by omega, by omega, by omega, (by first | exact (four_new _ _ _ _ _).1 | exact (four_new _ _ _ _ _).2.1 | exact (four_new _ _ _ _ _).2.2.1 | exact (four_new _ _ _ _ _).2.2.2), (by first | exact (four_new _ _ _ _ _).1 | exact (four_new _ _ _ _ _).2.1 | exact (four_new _ _ _ _ _).2.2.1 | exact (four_new _ _ _ _ _).2.2.2), (by first | exact (four_new _ _ _ _ _).1 | exact (four_new _ _ _ _ _).2.1 | exact (four_new _ _ _ _ _).2.2.1 | exact (four_new _ _ _ _ _).2.2.2), bku hbo, blw HB⟩
   | exact ⟨_, _, _, _, rfl, (four_new _ _ _ _ _).2.2.1, by omega, by omega, by omega, by omega, by omega, by omega, by omega, by omega, by omega, by omega, (by first | exact (four_new _ _ _ _ _).1 | exact (four_new _ _ _ _ _).2.1 | exact (four_new _ _ _ _ _).2.2.1 | exact (four_new _ _ _ _ _).2.2.2), (by first | exact (four_new _ _ _ _ _).1 | exact (four_new _ _ _ _ _).2.1 | exact (four_new _ _ _ _ _).2.2.1 | exact (four_new _ _ _ _ _).2.2.2), (by first | exact (four_new _ _ _ _ _).1 | exact (four_new _ _ _ _ _).2.1 | exact (four_new _ _ _ _ _).2.2.1 | exact (four_new _ _ _ _ _).2.2.2), bku hbo, blw HB⟩
   | exact ⟨_, _, _, _, rfl, (four_new _ _ _ _ _).2.2.2, by omega, by omega, by omega, by omega, by omega, by omega, by omega, by omega, by omega, by omega, (by first | exact (four_new _ _ _ _ _).1 | exact (four_new _ _ _ _ _).2.1 | exact (four_new _ _ _ _ _).2.2.1 | exact (four_new _ _ _ _ _).2.2.2), (by first | exact (four_new _ _ _ _ _).1 | exact (four_new _ _ _ _ _).2.1 | exact (four_new _ _ _ _ _).2.2.1 | exact (four_new _ _ _ _ _).2.2.2), (by first | exact (four_new _ _ _ _ _).1 | exact (four_new _ _ _ _ _).2.1 | exact (four_new _ _ _ _ _).2.2.1 | exact (four_new _ _ _ _ _).2.2.2), bku hbo, blw HB⟩)
 case rest =>
  obtain ⟨gs, gm0, gm1, gm2, rfl, hbs, hGs, hG0, hG1, hG2, hNs0, hNs1, hNs2, hN10, hN20, hN21, hb0, hb1, hb2, hbo, HB⟩ := hcut; have hsz := HB0.size; have hbm0 := hb0; rw [rep_arr (Value.int .u64) n (0 : Int)] at hbm0; clear hb0; have HGm0 : w.heap.size ≤ gm0 := Nat.le_trans hsz hG0; have HNm0_o : gm0 ≠ go := by omega
  have hbm1 := hb1; rw [rep_arr Value.bool n false] at hbm1; clear hb1; have HGm1 : w.heap.size ≤ gm1 := Nat.le_trans hsz hG1; have HNm1_o : gm1 ≠ go := by omega
  have hbm2 := hb2; rw [rep_arr (Value.int .i64) n (0 : Int)] at hbm2; clear hb2; have HGm2 : w.heap.size ≤ gm2 := Nat.le_trans hsz hG2; have HNm2_o : gm2 ≠ go := by omega
  have HGs : w.heap.size ≤ gs := Nat.le_trans hsz hGs; have HNs_o : gs ≠ go := by omega
  clear hG0 hG1 hG2 hGs hlo hsz HB0 hmk0 hmk1 hmk2 hqo_0 hqo_1 hqo_2; go_wp2; go_loopw [21] (fun v wr => ∃ k : Nat, k ≤ n ∧ v = .int .i64 k ∧ wr.heap[gm0]? = some (.cells ((gensAt n k).map (Value.int .u64)).toArray 34 (0, 0)) ∧ wr.heap[gm1]? = some (.cells ((List.replicate n false).map Value.bool).toArray 4 (0, 0)) ∧ wr.heap[gm2]? = some (.cells ((freeAt n k).map (Value.int .i64)).toArray 3 (0, 0)) ∧ wr.heap[gs]? = some (.cells #[.slice (some ⟨gm0, 0, none⟩) n n, .slice (some ⟨gm1, 0, none⟩) n n, .slice (some ⟨gm2, 0, none⟩) n n] 28 (0, 0)) ∧ wr.heap[go]? = some (.cells #[.slice none 0 0, .slice none 0 0, .slice none 0 0] 28 (0, 0)) ∧ Below w.heap.size w wr) (fun v _ => n - (intOf v).toNat)
  case atStart => exact ⟨0, Nat.zero_le _, rfl, hbm0, hbm1, hbm2, hbs, hbo, HB⟩
  case round =>
   clear hbm0 hbm1 hbm2 hbs hbo HB; obtain ⟨k, hk, rfl, hbm0, hbm1, hbm2, hbs, hbo, HB⟩ := hrel; by_cases hlt : (k : Int) < n
   ·obtain ⟨j, hj⟩ : ∃ j : Nat, (n : Int) - 1 - (k : Int) = j := ⟨n - 1 - k, by omega⟩; have hj2 : (j : Int) < n := by omega
    have hj3 : j = n - 1 - k := by omega
    have hw : wrap64 (wrap64 ((n : Int) - 1) - (k : Int)) = (j : Int) := by unfold wrap64; omega
    have Hj3 := aA hj3; clear hj3; go_wp2; refine start_ (n := 14) (S := fun w' => w'.cell? ⟨gs, 0, none⟩ = some (.slice (some ⟨gm0, 0, none⟩) n n) ∧ w'.cell? ⟨gs, 2, none⟩ = some (.slice (some ⟨gm2, 0, none⟩) n n)) (ds := [13]) #[false, false, false, false, false, false, false, false, false, false, false, false, false, false] (by kernel_rfl) rfl rfl ⟨(blk_cell (blk_drew hbs) 0).trans rfl, (blk_cell (blk_drew hbs) 2).trans rfl⟩ (fun hHeld => ?_); replace hbm0 := blk_drew hbm0; replace hbm1 := blk_drew hbm1; replace hbm2 := blk_drew hbm2; replace hbs := blk_drew hbs; replace hbo := blk_drew hbo; have HB1 := below_drew1 HB; clear HB; generalize wr.drew = wd at hbm0 hbm1 hbm2 hbs hbo HB1 hHeld ⊢; refine pure_ (i := 0) (N := some 24) (v := ?_) (a' := ?_) #[true, false, false, false, false, false, false, false, false, false, false, false, false, false] rfl rfl (by kernel_rfl) (fun _ _ _ h => h) (Or.inl ⟨by rfl, ?_⟩) ?_ ?_; rotate_left
    ·intro w'
     go_simp
     with_reducible rfl
    rotate_left
    ·simp only [Act.put, List.setIfInBounds_toArray, List.set_cons_zero, List.set_cons_succ, i64_w, i32_w]; rfl
    refine take_ (i := 1) (N := some 25) (v := ?_) (a' := ?_) #[true, true, false, false, false, false, false, false, false, false, false, false, false, false] rfl rfl (by kernel_rfl) (fun _ _ _ h => h) (Or.inl ⟨by rfl, ?_⟩) hHeld ?_ ?_; rotate_left
    ·rintro w' ⟨s0, s1⟩
     go_simp
     with_reducible rfl
    rotate_left
    ·simp only [Act.put, List.setIfInBounds_toArray, List.set_cons_zero, List.set_cons_succ, i64_w, i32_w]; rfl
    refine pure_ (i := 2) (N := some 26) (v := ?_) (a' := ?_) #[true, true, true, false, false, false, false, false, false, false, false, false, false, false] rfl rfl (by kernel_rfl) (fun _ _ _ h => h) (Or.inl ⟨by rfl, ?_⟩) ?_ ?_; rotate_left
    ·intro w'
     go_simp
     with_reducible rfl
    rotate_left
    ·simp only [Act.put, List.setIfInBounds_toArray, List.set_cons_zero, List.set_cons_succ, i64_w, i32_w]; rfl
    refine pure_ (i := 3) (N := some 27) (v := ?_) (a' := ?_) #[true, true, true, true, false, false, false, false, false, false, false, false, false, false] rfl rfl (by kernel_rfl) (fun _ _ _ h => h) (Or.inl ⟨by rfl, ?_⟩) ?_ ?_; rotate_left
    ·intro w'
     go_simp
     with_reducible rfl
    rotate_left
    ·simp only [Act.put, List.setIfInBounds_toArray, List.set_cons_zero, List.set_cons_succ, i64_w, i32_w]; rfl
    refine pure_ (i := 5) (N := some 29) (v := ?_) (a' := ?_) #[true, true, true, true, false, true, false, false, false, false, false, false, false, false] rfl rfl (by kernel_rfl) (fun _ _ _ h => h) (Or.inl ⟨by rfl, ?_⟩) ?_ ?_; rotate_left
    ·intro w'
     go_simp
     with_reducible rfl
    rotate_left
    ·simp only [Act.put, List.setIfInBounds_toArray, List.set_cons_zero, List.set_cons_succ, i64_w, i32_w]; rfl
    refine pure_ (i := 6) (N := some 30) (v := ?_) (a' := ?_) #[true, true, true, true, false, true, true, false, false, false, false, false, false, false] rfl rfl (by kernel_rfl) (fun _ _ _ h => h) (Or.inl ⟨by rfl, ?_⟩) ?_ ?_; rotate_left
    ·intro w'
     go_simp
     with_reducible rfl
    rotate_left
    ·simp only [Act.put, List.setIfInBounds_toArray, List.set_cons_zero, List.set_cons_succ, i64_w, i32_w]; rfl
    refine pure_ (i := 7) (N := some 31) (v := ?_) (a' := ?_) #[true, true, true, true, false, true, true, true, false, false, false, false, false, false] rfl rfl (by kernel_rfl) (fun _ _ _ h => h) (Or.inl ⟨by rfl, ?_⟩) ?_ ?_; rotate_left
    ·intro w'
     go_simp
     with_reducible rfl
    rotate_left
    ·simp only [Act.put, List.setIfInBounds_toArray, List.set_cons_zero, List.set_cons_succ, i64_w, i32_w]; rfl
    refine pure_ (i := 8) (N := some 32) (v := ?_) (a' := ?_) #[true, true, true, true, false, true, true, true, true, false, false, false, false, false] rfl rfl (by kernel_rfl) (fun _ _ _ h => h) (Or.inl ⟨by rfl, ?_⟩) ?_ ?_; rotate_left
    ·intro w'
     go_simp
     with_reducible rfl
    rotate_left
    ·simp only [Act.put, List.setIfInBounds_toArray, List.set_cons_zero, List.set_cons_succ, i64_w, i32_w]; rfl
    refine pure_ (i := 9) (N := some 33) (v := ?_) (a' := ?_) #[true, true, true, true, false, true, true, true, true, true, false, false, false, false] rfl rfl (by kernel_rfl) (fun _ _ _ h => h) (Or.inl ⟨by rfl, ?_⟩) ?_ ?_; rotate_left
    ·intro w'
     go_simp
     with_reducible rfl
    rotate_left
    ·simp only [Act.put, List.setIfInBounds_toArray, List.set_cons_zero, List.set_cons_succ, i64_w, i32_w]; rfl
    refine pure_ (i := 10) (N := some 34) (v := ?_) (a' := ?_) #[true, true, true, true, false, true, true, true, true, true, true, false, false, false] rfl rfl (by kernel_rfl) (fun _ _ _ h => h) (Or.inl ⟨by rfl, ?_⟩) ?_ ?_; rotate_left
    ·intro w'
     go_simp
     with_reducible rfl
    rotate_left
    ·simp only [Act.put, List.setIfInBounds_toArray, List.set_cons_zero, List.set_cons_succ, i64_w, i32_w]; rfl
    refine two_ (i := 4) (j := 11) (Ni := some 28) (Nj := none) #[true, true, true, true, true, true, true, true, true, true, true, false, false, false] #[true, true, true, true, false, true, true, true, true, true, true, true, false, false] rfl rfl rfl rfl (by kernel_rfl) (by decide) (by decide) (fun K hK => ?_) (fun K hK => ?_)
    ·skip
     refine event_step (w1 := wd) (v := .slice (some ⟨gm2, 0, none⟩) n n) (by rfl) ?_ ?_
     ·obtain ⟨q1, q2⟩ := hHeld; go_simp <;> rfl
     refine hK.out _ _ ⟨(blk_cell hbs 0).trans rfl, (blk_cell hbs 2).trans rfl⟩ (fun hHeld => ?_); clear hK K; refine norm_ (a' := ?_) ?_ ?_; rotate_left
     ·show Act.put _ (some 28) _ = _
      simp only [Act.put, List.setIfInBounds_toArray, List.set_cons_zero, List.set_cons_succ, i64_w, i32_w]; rfl
     refine one_ (i := 11) (N := none) #[true, true, true, true, true, true, true, true, true, true, true, true, false, false] rfl rfl (by kernel_rfl) (by decide) (fun K hK => ?_); have hs_ := blk_at (Value.int .u64) (gensAt n k) (0 : Int) hbm0 (k := k) (by rw [gensAt_len]; omega); have hfs_ := blk_frozen hbm0 k; refine skip_ (w1 := ?_) (by rfl) rfl ?_ ?_; rotate_left
     ·go_simp
      rfl
     clear hs_ hfs_; have hbn_ := blk_set hbm0 k ((Value.int .u64) 1); rw [map_setIf] at hbn_; have hbnm1 := blk_far hbm1 (p := ⟨gm0, k, none⟩) (by first | assumption | exact Ne.symm (by assumption)) ((Value.int .u64) 1); have hbnm2 := blk_far hbm2 (p := ⟨gm0, k, none⟩) (by first | assumption | exact Ne.symm (by assumption)) ((Value.int .u64) 1); have hbns := blk_far hbs (p := ⟨gm0, k, none⟩) (by first | assumption | exact Ne.symm (by assumption)) ((Value.int .u64) 1); have hbno := blk_far hbo (p := ⟨gm0, k, none⟩) (by first | assumption | exact Ne.symm (by assumption)) ((Value.int .u64) 1); have HBn := below_set (j := k) (v := ((Value.int .u64) 1)) HB1 HGm0; have hfa : wd.setCell ⟨gm0, k, none⟩ ((Value.int .u64) 1) = wd.setCell ⟨gm0, k, none⟩ ((Value.int .u64) 1) := rfl; clear hfa; refine hK.out _ _ ⟨(blk_cell hbns 0).trans rfl, (blk_cell hbns 2).trans rfl⟩ (fun hHeld => ?_); clear hK K hbm0 hbm1 hbm2 hbs hbo HB1; have hbm0 := hbn_; have HB1 := HBn; clear hbn_ HBn; have hbm1 := hbnm1; clear hbnm1; have hbm2 := hbnm2; clear hbnm2; have hbs := hbns; clear hbns; have hbo := hbno; clear hbno; generalize wd.setCell ⟨gm0, k, none⟩ ((Value.int .u64) 1) = wd2 at hbm0 hbm1 hbm2 hbs hbo HB1 hHeld ⊢; refine pure_ (i := 12) (N := some 35) (v := ?_) (a' := ?_) #[true, true, true, true, true, true, true, true, true, true, true, true, true, false] rfl rfl (by kernel_rfl) (fun _ _ _ h => h) (Or.inl ⟨by rfl, ?_⟩) ?_ ?_; rotate_left
     ·intro w'
      go_simp
      with_reducible rfl
     rotate_left
     ·simp only [Act.put, List.setIfInBounds_toArray, List.set_cons_zero, List.set_cons_succ, i64_w, i32_w]; rfl
     refine last_ (i := 13) (N := none) #[true, true, true, true, true, true, true, true, true, true, true, true, true, true] rfl rfl (by kernel_rfl) (by decide) (fun K hK => ?_); have hs_ := blk_at (Value.int .i64) (freeAt n k) (0 : Int) hbm2 (k := j) (by rw [freeAt_len]; omega); have hfs_ := blk_frozen hbm2 j; refine skip_ (w1 := ?_) (by rfl) rfl ?_ ?_; rotate_left
     ·go_simp
      rfl
     clear hs_ hfs_; have hbn_ := blk_set hbm2 j ((Value.int .i64) (k : Int)); rw [map_setIf] at hbn_; have hbnm0 := blk_far hbm0 (p := ⟨gm2, j, none⟩) (by first | assumption | exact Ne.symm (by assumption)) ((Value.int .i64) (k : Int)); have hbnm1 := blk_far hbm1 (p := ⟨gm2, j, none⟩) (by first | assumption | exact Ne.symm (by assumption)) ((Value.int .i64) (k : Int)); have hbns := blk_far hbs (p := ⟨gm2, j, none⟩) (by first | assumption | exact Ne.symm (by assumption)) ((Value.int .i64) (k : Int)); have hbno := blk_far hbo (p := ⟨gm2, j, none⟩) (by first | assumption | exact Ne.symm (by assumption)) ((Value.int .i64) (k : Int)); have HBn := below_set (j := j) (v := ((Value.int .i64) (k : Int))) HB1 HGm2; refine hK.out _ _ ?_; clear hK K hbm2 hbm0 hbm1 hbs hbo HB1; have hbm2 := hbn_; have HB1 := HBn; clear hbn_ HBn; have hbm0 := hbnm0; clear hbnm0; have hbm1 := hbnm1; clear hbnm1; have hbs := hbns; clear hbns; have hbo := hbno; clear hbno; generalize _root_.Go.World.setCell _ ⟨gm2, j, none⟩ ((Value.int .i64) (k : Int)) = wd3 at hbm2 hbm0 hbm1 hbs hbo HB1 ⊢; refine done_ (by kernel_rfl) ?_; go_wp2; go_roundw
     case rel => exact ⟨k + 1, by omega, by go_num, hbm0, hbm1, (by rw [Hj3.out] at hbm2; exact hbm2), hbs, hbo, HB1⟩
     case measure => simp [intOf]; omega
    ·skip
     have hs_ := blk_at (Value.int .u64) (gensAt n k) (0 : Int) hbm0 (k := k) (by rw [gensAt_len]; omega); have hfs_ := blk_frozen hbm0 k; refine skip_ (w1 := ?_) (by rfl) rfl ?_ ?_; rotate_left
     ·go_simp
      rfl
     clear hs_ hfs_; have hbn_ := blk_set hbm0 k ((Value.int .u64) 1); rw [map_setIf] at hbn_; have hbnm1 := blk_far hbm1 (p := ⟨gm0, k, none⟩) (by first | assumption | exact Ne.symm (by assumption)) ((Value.int .u64) 1); have hbnm2 := blk_far hbm2 (p := ⟨gm0, k, none⟩) (by first | assumption | exact Ne.symm (by assumption)) ((Value.int .u64) 1); have hbns := blk_far hbs (p := ⟨gm0, k, none⟩) (by first | assumption | exact Ne.symm (by assumption)) ((Value.int .u64) 1); have hbno := blk_far hbo (p := ⟨gm0, k, none⟩) (by first | assumption | exact Ne.symm (by assumption)) ((Value.int .u64) 1); have HBn := below_set (j := k) (v := ((Value.int .u64) 1)) HB1 HGm0; have hfa : wd.setCell ⟨gm0, k, none⟩ ((Value.int .u64) 1) = wd.setCell ⟨gm0, k, none⟩ ((Value.int .u64) 1) := rfl; clear hfa; refine hK.out _ _ ⟨(blk_cell hbns 0).trans rfl, (blk_cell hbns 2).trans rfl⟩ (fun hHeld => ?_); clear hK K hbm0 hbm1 hbm2 hbs hbo HB1; have hbm0 := hbn_; have HB1 := HBn; clear hbn_ HBn; have hbm1 := hbnm1; clear hbnm1; have hbm2 := hbnm2; clear hbnm2; have hbs := hbns; clear hbns; have hbo := hbno; clear hbno; generalize wd.setCell ⟨gm0, k, none⟩ ((Value.int .u64) 1) = wd2 at hbm0 hbm1 hbm2 hbs hbo HB1 hHeld ⊢; refine take_ (i := 4) (N := some 28) (v := ?_) (a' := ?_) #[true, true, true, true, true, true, true, true, true, true, true, true, false, false] rfl rfl (by kernel_rfl) (fun _ _ _ h => h) (Or.inl ⟨by rfl, ?_⟩) hHeld ?_ ?_; rotate_left
     ·rintro w' ⟨s0, s1⟩
      go_simp
      with_reducible rfl
     rotate_left
     ·simp only [Act.put, List.setIfInBounds_toArray, List.set_cons_zero, List.set_cons_succ, i64_w, i32_w]; rfl
     refine pure_ (i := 12) (N := some 35) (v := ?_) (a' := ?_) #[true, true, true, true, true, true, true, true, true, true, true, true, true, false] rfl rfl (by kernel_rfl) (fun _ _ _ h => h) (Or.inl ⟨by rfl, ?_⟩) ?_ ?_; rotate_left
     ·intro w'
      go_simp
      with_reducible rfl
     rotate_left
     ·simp only [Act.put, List.setIfInBounds_toArray, List.set_cons_zero, List.set_cons_succ, i64_w, i32_w]; rfl
     refine last_ (i := 13) (N := none) #[true, true, true, true, true, true, true, true, true, true, true, true, true, true] rfl rfl (by kernel_rfl) (by decide) (fun K hK => ?_); have hs_ := blk_at (Value.int .i64) (freeAt n k) (0 : Int) hbm2 (k := j) (by rw [freeAt_len]; omega); have hfs_ := blk_frozen hbm2 j; refine skip_ (w1 := ?_) (by rfl) rfl ?_ ?_; rotate_left
     ·go_simp
      rfl
     clear hs_ hfs_; have hbn_ := blk_set hbm2 j ((Value.int .i64) (k : Int)); rw [map_setIf] at hbn_; have hbnm0 := blk_far hbm0 (p := ⟨gm2, j, none⟩) (by first | assumption | exact Ne.symm (by assumption)) ((Value.int .i64) (k : Int)); have hbnm1 := blk_far hbm1 (p := ⟨gm2, j, none⟩) (by first | assumption | exact Ne.symm (by assumption)) ((Value.int .i64) (k : Int)); have hbns := blk_far hbs (p := ⟨gm2, j, none⟩) (by first | assumption | exact Ne.symm (by assumption)) ((Value.int .i64) (k : Int)); have hbno := blk_far hbo (p := ⟨gm2, j, none⟩) (by first | assumption | exact Ne.symm (by assumption)) ((Value.int .i64) (k : Int)); have HBn := below_set (j := j) (v := ((Value.int .i64) (k : Int))) HB1 HGm2; refine hK.out _ _ ?_; clear hK K hbm2 hbm0 hbm1 hbs hbo HB1; have hbm2 := hbn_; have HB1 := HBn; clear hbn_ HBn; have hbm0 := hbnm0; clear hbnm0; have hbm1 := hbnm1; clear hbnm1; have hbs := hbns; clear hbns; have hbo := hbno; clear hbno; generalize _root_.Go.World.setCell _ ⟨gm2, j, none⟩ ((Value.int .i64) (k : Int)) = wd3 at hbm2 hbm0 hbm1 hbs hbo HB1 ⊢; refine done_ (by kernel_rfl) ?_; go_wp2; go_roundw
     case rel => exact ⟨k + 1, by omega, by go_num, hbm0, hbm1, (by rw [Hj3.out] at hbm2; exact hbm2), hbs, hbo, HB1⟩
     case measure => simp [intOf]; omega
   ·have hkn : k = n := by omega
    subst hkn; have HNo_m0 : go ≠ gm0 := Ne.symm HNm0_o; have HNo_m1 : go ≠ gm1 := Ne.symm HNm1_o; have HNo_m2 : go ≠ gm2 := Ne.symm HNm2_o; have hqo_0 : wr.cell? ⟨go, 0, none⟩ = some (.slice none 0 0) := (blk_cell hbo 0).trans rfl; have hqo_1 : wr.cell? ⟨go, 1, none⟩ = some (.slice none 0 0) := (blk_cell hbo 1).trans rfl; have hqo_2 : wr.cell? ⟨go, 2, none⟩ = some (.slice none 0 0) := (blk_cell hbo 2).trans rfl; have hqs_0 : wr.cell? ⟨gs, 0, none⟩ = some (.slice (some ⟨gm0, 0, none⟩) k k) := (blk_cell hbs 0).trans rfl; have hqs_1 : wr.cell? ⟨gs, 1, none⟩ = some (.slice (some ⟨gm1, 0, none⟩) k k) := (blk_cell hbs 1).trans rfl; have hqs_2 : wr.cell? ⟨gs, 2, none⟩ = some (.slice (some ⟨gm2, 0, none⟩) k k) := (blk_cell hbs 2).trans rfl; go_wp2_with (first
  | ((with_reducible refine gate_ (.store 28 (.tmp 2) (.tmp 37)) rfl ?_); refine blk_store_all (w0 := w) (base := w.heap.size) (u := .agg #[.slice (some ⟨gm0, 0, none⟩) k k, .slice (some ⟨gm1, 0, none⟩) k k, .slice (some ⟨gm2, 0, none⟩) k k]) (seg := [.slice (some ⟨gm0, 0, none⟩) k k, .slice (some ⟨gm1, 0, none⟩) k k, .slice (some ⟨gm2, 0, none⟩) k k]) rfl rfl rfl rfl rfl rfl ?h1_ ?ht_ (by exact hbo) (by rfl) (blw HB) HGo ?_; (case ht_ => kernel_rfl); (case h1_ => intro q_ hq_; simp only [List.mem_cons, List.not_mem_nil, or_false] at hq_; rcases hq_ with rfl | rfl | rfl <;> rfl); intro wo_1 hb2_ HB2_ hgr_; replace hbm0 := blk_grown (by exact hbm0) hgr_ (fun e_ => by injection e_ with e_; exact HNo_m0.symm e_); replace hbm1 := blk_grown (by exact hbm1) hgr_ (fun e_ => by injection e_ with e_; exact HNo_m1.symm e_); replace hbm2 := blk_grown (by exact hbm2) hgr_ (fun e_ => by injection e_ with e_; exact HNo_m2.symm e_); clear hqo_0 hqo_1 hqo_2; replace hbo := hb2_; clear hqs_0 hqs_1 hqs_2; replace hbs := blk_grown (by exact hbs) hgr_ (fun e_ => by injection e_ with e_; exact HNs_o e_); replace HB := HB2_; clear hb2_ HB2_ hgr_; have hqo_0 : wo_1.cell? ⟨go, 0, none⟩ = some (.slice (some ⟨gm0, 0, none⟩) k k) := (blk_cell hbo 0).trans rfl; have hqo_1 : wo_1.cell? ⟨go, 1, none⟩ = some (.slice (some ⟨gm1, 0, none⟩) k k) := (blk_cell hbo 1).trans rfl; have hqo_2 : wo_1.cell? ⟨go, 2, none⟩ = some (.slice (some ⟨gm2, 0, none⟩) k k) := (blk_cell hbo 2).trans rfl; have hqs_0 : wo_1.cell? ⟨gs, 0, none⟩ = some (.slice (some ⟨gm0, 0, none⟩) k k) := (blk_cell hbs 0).trans rfl; have hqs_1 : wo_1.cell? ⟨gs, 1, none⟩ = some (.slice (some ⟨gm1, 0, none⟩) k k) := (blk_cell hbs 1).trans rfl; have hqs_2 : wo_1.cell? ⟨gs, 2, none⟩ = some (.slice (some ⟨gm2, 0, none⟩) k k) := (blk_cell hbs 2).trans rfl))
    refine bodyPost_ret (v := .tuple #[.agg #[.slice (some ⟨gm0, 0, none⟩) k k, .slice (some ⟨gm1, 0, none⟩) k k, .slice (some ⟨gm2, 0, none⟩) k k], .int .i64 0]) (by simp [results, Try.results15, go_sem, hqo_0, hqo_1, hqo_2]) rfl ?_; rw [gensAt_all] at hbm0; rw [freeAt_all] at hbm2; exact ⟨gm0, gm1, gm2, rfl, HGm0, HGm1, HGm2, by simpa using hbm0, by simpa using hbm1, by simpa using hbm2, HB⟩
set_option maxHeartbeats 6400000 in
set_option maxRecDepth 100000 in
theorem slots_New_no (a0 : Int) (ha : a0 < 0 ∨ 500 < a0) (w : World) :
  Calls Try.prog 15 #[.int .i64 a0] w fun e w' => e = .returned (.tuple #[.agg #[.slice none 0 0, .slice none 0 0, .slice none 0 0], .int .i64 1]) ∧ Below w.heap.size w w' := by
 have hu := Try.underlying28; have HB := Below.refl w.heap.size w; by_cases h0 : a0 < 0
 ·clear ha; go_enter Try.func15, Try.ntmps15; go_wp2_with (first
  | ((with_reducible refine gate_dst (N := 2) rfl ?_); (with_reducible refine gate_ (.alloc 28) rfl ?_); refine box_event (N := 2) rfl rfl (cs := #[.slice none 0 0, .slice none 0 0, .slice none 0 0]) (t := 28) (by first | (go_simp; done) | (go_simp; rfl)) ?_; intro go hg_ wo_ hbo hbl_; have HGo : w.heap.size ≤ go := (by rw [hg_]; exact Nat.le_trans (by first | exact Nat.le_refl _ | exact HB.size) (Nat.le_refl _)); replace HB := below_step (blw HB) hbl_; clear hg_ hbl_; have hqo_0 : wo_.cell? ⟨go, 0, none⟩ = some (.slice none 0 0) := (blk_cell hbo 0).trans rfl; have hqo_1 : wo_.cell? ⟨go, 1, none⟩ = some (.slice none 0 0) := (blk_cell hbo 1).trans rfl; have hqo_2 : wo_.cell? ⟨go, 2, none⟩ = some (.slice none 0 0) := (blk_cell hbo 2).trans rfl)
  | ((with_reducible refine gate_ (.store 28 (.tmp 2) (.tmp 12)) rfl ?_); refine blk_store_all (w0 := w) (base := w.heap.size) (u := .agg #[.slice none 0 0, .slice none 0 0, .slice none 0 0]) (seg := [.slice none 0 0, .slice none 0 0, .slice none 0 0]) rfl rfl rfl rfl rfl rfl ?h1_ ?ht_ (by exact hbo) (by rfl) (blw HB) HGo ?_; (case ht_ => kernel_rfl); (case h1_ => intro q_ hq_; simp only [List.mem_cons, List.not_mem_nil, or_false] at hq_; rcases hq_ with rfl | rfl | rfl <;> rfl); intro wo_2 hb2_ HB2_ hgr_; clear hqo_0 hqo_1 hqo_2; replace hbo := hb2_; replace HB := HB2_; clear hb2_ HB2_ hgr_; have hqo_0 : wo_2.cell? ⟨go, 0, none⟩ = some (.slice none 0 0) := (blk_cell hbo 0).trans rfl; have hqo_1 : wo_2.cell? ⟨go, 1, none⟩ = some (.slice none 0 0) := (blk_cell hbo 1).trans rfl; have hqo_2 : wo_2.cell? ⟨go, 2, none⟩ = some (.slice none 0 0) := (blk_cell hbo 2).trans rfl))
  refine bodyPost_ret (v := .tuple #[.agg #[.slice none 0 0, .slice none 0 0, .slice none 0 0], .int .i64 1]) (by simp [results, Try.results15, go_sem, hqo_0, hqo_1, hqo_2]) rfl ?_; exact ⟨rfl, HB⟩
 ·have h1 : (500 : Int) < a0 := by omega
  clear ha; go_enter Try.func15, Try.ntmps15; go_wp2_with (first
  | ((with_reducible refine gate_dst (N := 2) rfl ?_); (with_reducible refine gate_ (.alloc 28) rfl ?_); refine box_event (N := 2) rfl rfl (cs := #[.slice none 0 0, .slice none 0 0, .slice none 0 0]) (t := 28) (by first | (go_simp; done) | (go_simp; rfl)) ?_; intro go hg_ wo_ hbo hbl_; have HGo : w.heap.size ≤ go := (by rw [hg_]; exact Nat.le_trans (by first | exact Nat.le_refl _ | exact HB.size) (Nat.le_refl _)); replace HB := below_step (blw HB) hbl_; clear hg_ hbl_; have hqo_0 : wo_.cell? ⟨go, 0, none⟩ = some (.slice none 0 0) := (blk_cell hbo 0).trans rfl; have hqo_1 : wo_.cell? ⟨go, 1, none⟩ = some (.slice none 0 0) := (blk_cell hbo 1).trans rfl; have hqo_2 : wo_.cell? ⟨go, 2, none⟩ = some (.slice none 0 0) := (blk_cell hbo 2).trans rfl)
  | ((with_reducible refine gate_ (.store 28 (.tmp 2) (.tmp 12)) rfl ?_); refine blk_store_all (w0 := w) (base := w.heap.size) (u := .agg #[.slice none 0 0, .slice none 0 0, .slice none 0 0]) (seg := [.slice none 0 0, .slice none 0 0, .slice none 0 0]) rfl rfl rfl rfl rfl rfl ?h1_ ?ht_ (by exact hbo) (by rfl) (blw HB) HGo ?_; (case ht_ => kernel_rfl); (case h1_ => intro q_ hq_; simp only [List.mem_cons, List.not_mem_nil, or_false] at hq_; rcases hq_ with rfl | rfl | rfl <;> rfl); intro wo_2 hb2_ HB2_ hgr_; clear hqo_0 hqo_1 hqo_2; replace hbo := hb2_; replace HB := HB2_; clear hb2_ HB2_ hgr_; have hqo_0 : wo_2.cell? ⟨go, 0, none⟩ = some (.slice none 0 0) := (blk_cell hbo 0).trans rfl; have hqo_1 : wo_2.cell? ⟨go, 1, none⟩ = some (.slice none 0 0) := (blk_cell hbo 1).trans rfl; have hqo_2 : wo_2.cell? ⟨go, 2, none⟩ = some (.slice none 0 0) := (blk_cell hbo 2).trans rfl))
  refine bodyPost_ret (v := .tuple #[.agg #[.slice none 0 0, .slice none 0 0, .slice none 0 0], .int .i64 1]) (by simp [results, Try.results15, go_sem, hqo_0, hqo_1, hqo_2]) rfl ?_; exact ⟨rfl, HB⟩
def slots_New.f (a0 : Int) : Option (List Int × List Bool × List Int × Int) := if a0 < 0 ∨ 500 < a0 then some ([], [], [], 1) else some (List.replicate a0.toNat 1, List.replicate a0.toNat false, (List.range a0.toNat).reverse.map Int.ofNat, 0)
theorem slots_New.calls (a0 : Int) (r1 : List Int) (r2 : List Bool) (r3 : List Int) (r4 : Int) (w : World) (h : slots_New.f a0 = some (r1, r2, r3, r4)) :
  Calls Try.prog 15 #[.int .i64 a0] w fun e w' => ∃ v0_ v1_ v2_ : Value, e = .returned (.tuple #[.agg #[v0_, v1_, v2_], .int .i64 r4]) ∧ Kd.V (Kd.int .u64) 34 w' w.heap.size (fun k_ => (w.heap.size ≤ k_)) v0_ r1 ∧ Kd.V Kd.bool 4 w' w.heap.size (fun k_ => (w.heap.size ≤ k_)) v1_ r2 ∧ Kd.V (Kd.int .i64) 3 w' w.heap.size (fun k_ => (w.heap.size ≤ k_)) v2_ r3 ∧ Below w.heap.size w w' := by
 unfold slots_New.f at h; split at h
 ·rename_i ha
  simp only [Option.some.injEq, Prod.mk.injEq] at h; obtain ⟨rfl, rfl, rfl, rfl⟩ := h; refine (slots_New_no a0 ha w).mono ?_; rintro e w' ⟨he, hb⟩
  exact ⟨_, _, _, he, Kd.V_mk (Nat.le_refl _) (Kd.F_nil _ _ _), Kd.V_mk (Nat.le_refl _) (Kd.F_nil _ _ _), Kd.V_mk (Nat.le_refl _) (Kd.F_nil _ _ _), hb⟩
 ·rename_i ha
  simp only [Option.some.injEq, Prod.mk.injEq] at h; obtain ⟨rfl, rfl, rfl, rfl⟩ := h; obtain ⟨n, rfl⟩ : ∃ n : Nat, a0 = n := ⟨a0.toNat, by omega⟩; refine (slots_New_walk n (by omega) w).mono ?_; rintro e w' ⟨g0, g1, g2, he, h0, h1, h2, b0, b1, b2, hb⟩
  rw [Int.toNat_natCast]; refine ⟨_, _, _, he, ?_, ?_, ?_, hb⟩
  ·have hv := blk_V (enc := Value.int .u64) (h1 := fun _ => rfl) (e := 34) (b := w.heap.size) (ok := fun k_ => w.heap.size ≤ k_) _ 0 b0 (by simp; omega) h0 (c := n) (by simp); rw [List.length_replicate] at hv; exact hv
  ·have hv := blk_V (enc := Value.bool) (h1 := fun _ => rfl) (e := 4) (b := w.heap.size) (ok := fun k_ => w.heap.size ≤ k_) _ false b1 (by simp; omega) h1 (c := n) (by simp); rw [List.length_replicate] at hv; exact hv
  ·have hv := blk_V (enc := Value.int .i64) (h1 := fun _ => rfl) (e := 3) (b := w.heap.size) (ok := fun k_ => w.heap.size ≤ k_) _ 0 b2 (by simp; omega) h2 (c := n) (by simp); simp only [List.length_map, List.length_reverse, List.length_range] at hv; exact hv

set_option maxHeartbeats 6400000 in
set_option maxRecDepth 100000 in
theorem slots_own_walk (A0_0 : Option Addr) (c0_0 : Nat) (l0_0 : List Int) (A0_1 : Option Addr) (c0_1 : Nat) (l0_1 : List Bool) (A0_2 : Option Addr) (c0_2 : Nat) (l0_2 : List Int) (w : World) (hr0_0 : Kd.C (Kd.int .u64) w A0_0 l0_0.length l0_0) (hc0_0 : l0_0.length ≤ c0_0) (hr0_1 : Kd.C Kd.bool w A0_1 l0_1.length l0_1) (hc0_1 : l0_1.length ≤ c0_1) (hr0_2 : Kd.C (Kd.int .i64) w A0_2 l0_2.length l0_2) (hc0_2 : l0_2.length ≤ c0_2) (hz0 : l0_0.length * 8 ≤ 140737488351232) (hz1 : l0_1.length ≤ 140737488351232) (hz2 : l0_2.length * 8 ≤ 140737488351232) :
  Calls Try.prog 45 #[.agg #[.slice A0_0 l0_0.length c0_0, .slice A0_1 l0_1.length c0_1, .slice A0_2 l0_2.length c0_2]] w fun e w' => ∃ gm0 gm1 gm2 : Nat, e = .returned (.agg #[.slice (some ⟨gm0, 0, none⟩) l0_0.length l0_0.length, .slice (some ⟨gm1, 0, none⟩) l0_1.length l0_1.length, .slice (some ⟨gm2, 0, none⟩) l0_2.length l0_2.length]) ∧ gm1 ≠ gm0 ∧ gm2 ≠ gm0 ∧ gm2 ≠ gm1 ∧ w.heap.size ≤ gm0 ∧ w.heap.size ≤ gm1 ∧ w.heap.size ≤ gm2 ∧ w'.heap[gm0]? = some (.cells (l0_0.map (Value.int .u64)).toArray 34 (0, 0)) ∧ w'.heap[gm1]? = some (.cells (l0_1.map Value.bool).toArray 4 (0, 0)) ∧ w'.heap[gm2]? = some (.cells (l0_2.map (Value.int .i64)).toArray 3 (0, 0)) ∧ Below w.heap.size w w' := by
 have hu := Try.underlying28; have HB := Below.refl w.heap.size w; have HR0 := aA hr0_0; have hm0 := HR0.out.2.1; clear hr0_0; have HR1 := aA hr0_1; have hm1 := HR1.out.2.1; clear hr0_1; have HR2 := aA hr0_2; have hm2 := HR2.out.2.1; clear hr0_2; have hmk0 := make_run (P := Try.prog) (t := 24) (e := 34) l0_0.length Try.underlying24 (.int .u64 0) 8 (by kernel_rfl) rfl (by decide) (by omega); have hmk1 := make_run (P := Try.prog) (t := 25) (e := 4) l0_1.length Try.underlying25 (.bool false) 1 (by kernel_rfl) rfl (by decide) (by omega); have hmk2 := make_run (P := Try.prog) (t := 26) (e := 3) l0_2.length Try.underlying26 (.int .i64 0) 8 (by kernel_rfl) rfl (by decide) (by omega); go_enter Try.func45, Try.ntmps45
 go_wp2_with (first
  | ((with_reducible refine gate_dst (N := 1) rfl ?_); (with_reducible refine gate_ (.box 28 (.tmp 0)) rfl ?_); refine box_event (N := 1) rfl rfl (cs := #[.slice A0_0 l0_0.length c0_0, .slice A0_1 l0_1.length c0_1, .slice A0_2 l0_2.length c0_2]) (t := 28) (by first | (go_simp; done) | (go_simp; rfl)) ?_; intro ga hg_ wa_ hba hbl_; have HGa : w.heap.size ≤ ga := (by rw [hg_]; exact Nat.le_trans (by first | exact Nat.le_refl _ | exact HB.size) (Nat.le_refl _)); replace HB := below_step (blw HB) hbl_; clear hg_ hbl_; have hqa_0 : wa_.cell? ⟨ga, 0, none⟩ = some (.slice A0_0 l0_0.length c0_0) := (blk_cell hba 0).trans rfl; have hqa_1 : wa_.cell? ⟨ga, 1, none⟩ = some (.slice A0_1 l0_1.length c0_1) := (blk_cell hba 1).trans rfl; have hqa_2 : wa_.cell? ⟨ga, 2, none⟩ = some (.slice A0_2 l0_2.length c0_2) := (blk_cell hba 2).trans rfl)
  | ((with_reducible refine gate_dst (N := 2) rfl ?_); (with_reducible refine gate_ (.alloc 28) rfl ?_); refine box_event (N := 2) rfl rfl (cs := #[.slice none 0 0, .slice none 0 0, .slice none 0 0]) (t := 28) (by first | (go_simp; done) | (go_simp; rfl)) ?_; intro go hg_ wo_ hbo hbl_; have HGo : w.heap.size ≤ go := (by rw [hg_]; exact Nat.le_trans (by first | exact Nat.le_refl _ | exact HB.size) (Nat.le_refl _)); have HNo_a : go ≠ ga := (by rw [hg_]; exact Nat.ne_of_gt (blk_lt (by exact hba))); clear hqa_0 hqa_1 hqa_2; replace hba := blk_below (by exact hba) hbl_; have hqa_0 : wo_.cell? ⟨ga, 0, none⟩ = some (.slice A0_0 l0_0.length c0_0) := (blk_cell hba 0).trans rfl; have hqa_1 : wo_.cell? ⟨ga, 1, none⟩ = some (.slice A0_1 l0_1.length c0_1) := (blk_cell hba 1).trans rfl; have hqa_2 : wo_.cell? ⟨ga, 2, none⟩ = some (.slice A0_2 l0_2.length c0_2) := (blk_cell hba 2).trans rfl; replace HB := below_step (blw HB) hbl_; clear hg_ hbl_; have hqo_0 : wo_.cell? ⟨go, 0, none⟩ = some (.slice none 0 0) := (blk_cell hbo 0).trans rfl; have hqo_1 : wo_.cell? ⟨go, 1, none⟩ = some (.slice none 0 0) := (blk_cell hbo 1).trans rfl; have hqo_2 : wo_.cell? ⟨go, 2, none⟩ = some (.slice none 0 0) := (blk_cell hbo 2).trans rfl))
 simp only [Act.put, List.setIfInBounds_toArray, List.set_cons_zero, List.set_cons_succ]; have hla := blk_lt hba; have hlo := blk_lt hbo; have HB0 := HB; go_cut [3, 4, 5] from 6 (fun s3 s4 s5 w' => ∃ gm0 gm1 gm2 : Nat, s3 = .slice (some ⟨gm0, 0, none⟩) l0_0.length l0_0.length ∧ s4 = .slice (some ⟨gm1, 0, none⟩) l0_1.length l0_1.length ∧ s5 = .slice (some ⟨gm2, 0, none⟩) l0_2.length l0_2.length ∧ wo_.heap.size ≤ gm0 ∧ wo_.heap.size ≤ gm1 ∧ wo_.heap.size ≤ gm2 ∧ gm1 ≠ gm0 ∧ gm2 ≠ gm0 ∧ gm2 ≠ gm1 ∧ w'.heap[gm0]? = some (.cells (Array.replicate l0_0.length (Value.int .u64 0)) 34 (0, 0)) ∧ w'.heap[gm1]? = some (.cells (Array.replicate l0_1.length (Value.bool false)) 4 (0, 0)) ∧ w'.heap[gm2]? = some (.cells (Array.replicate l0_2.length (Value.int .i64 0)) 3 (0, 0)) ∧ w'.heap[ga]? = some (.cells #[.slice A0_0 l0_0.length c0_0, .slice A0_1 l0_1.length c0_1, .slice A0_2 l0_2.length c0_2] 28 (0, 0)) ∧ w'.heap[go]? = some (.cells #[.slice none 0 0, .slice none 0 0, .slice none 0 0] 28 (0, 0)) ∧ Below w.heap.size w w')
 case first =>
  go_region_held3 (fun w' => w'.cell? ⟨ga, 0, none⟩ = some (.slice A0_0 l0_0.length c0_0) ∧ w'.cell? ⟨ga, 1, none⟩ = some (.slice A0_1 l0_1.length c0_1) ∧ w'.cell? ⟨ga, 2, none⟩ = some (.slice A0_2 l0_2.length c0_2)) (first | with_reducible exact ⟨hqa_0, hqa_1, hqa_2⟩ | exact ⟨(blk_cell (bku hba) 0).trans rfl, (blk_cell (bku hba) 1).trans rfl, (blk_cell (bku hba) 2).trans rfl⟩ | go_keep) (fail)
  all_goals (go_wp2_with fail)
  all_goals go_meet
  all_goals (first
   | exact ⟨_, _, _, rfl, rfl, rfl, by omega, by omega, by omega, by omega, by omega, by omega, (three_new _ _ _ _).1, (three_new _ _ _ _).2.1, (three_new _ _ _ _).2.2, bku hba, bku hbo, blw HB⟩
   | exact ⟨_, _, _, rfl, rfl, rfl, by omega, by omega, by omega, by omega, by omega, by omega, (three_new _ _ _ _).1, (three_new _ _ _ _).2.2, (three_new _ _ _ _).2.1, bku hba, bku hbo, blw HB⟩
   | exact ⟨_, _, _, rfl, rfl, rfl, by omega, by omega, by omega, by omega, by omega, by omega, (three_new _ _ _ _).2.1, (three_new _ _ _ _).1, (three_new _ _ _ _).2.2, bku hba, bku hbo, blw HB⟩
   | exact ⟨_, _, _, rfl, rfl, rfl, by omega, by omega, by omega, by omega, by omega, by omega, (three_new _ _ _ _).2.2, (three_new _ _ _ _).1, (three_new _ _ _ _).2.1, bku hba, bku hbo, blw HB⟩
   | exact ⟨_, _, _, rfl, rfl, rfl, by omega, by omega, by omega, by omega, by omega, by omega, (three_new _ _ _ _).2.1, (three_new _ _ _ _).2.2, (three_new _ _ _ _).1, bku hba, bku hbo, blw HB⟩
   | exact ⟨_, _, _, rfl, rfl, rfl, by omega, by omega, by omega, by omega, by omega, by omega, (three_new _ _ _ _).2.2, (three_new _ _ _ _).2.1, (three_new _ _ _ _).1, bku hba, bku hbo, blw HB⟩)
 case rest =>
  obtain ⟨gm0, gm1, gm2, rfl, rfl, rfl, hG0, hG1, hG2, hN10, hN20, hN21, hb0, hb1, hb2, hba, hbo, HB⟩ := hcut; have hsz := HB0.size; have hbm0 := hb0; rw [rep_arr (Value.int .u64) l0_0.length (0 : Int)] at hbm0; clear hb0; have HGm0 : w.heap.size ≤ gm0 := Nat.le_trans hsz hG0; have HNm0_a : gm0 ≠ ga := by omega
  have HNm0_o : gm0 ≠ go := by omega
  have hbm1 := hb1; rw [rep_arr Value.bool l0_1.length false] at hbm1; clear hb1; have HGm1 : w.heap.size ≤ gm1 := Nat.le_trans hsz hG1; have HNm1_a : gm1 ≠ ga := by omega
  have HNm1_o : gm1 ≠ go := by omega
  have hbm2 := hb2; rw [rep_arr (Value.int .i64) l0_2.length (0 : Int)] at hbm2; clear hb2; have HGm2 : w.heap.size ≤ gm2 := Nat.le_trans hsz hG2; have HNm2_a : gm2 ≠ ga := by omega
  have HNm2_o : gm2 ≠ go := by omega
  have HNm1_m0 := hN10; have HNm2_m0 := hN20; have HNm2_m1 := hN21; clear hN10 hN20 hN21 hG0 hG1 hG2 hla hlo hsz HB0 hmk0 hmk1 hmk2; clear hqa_0 hqa_1 hqa_2 hqo_0 hqo_1 hqo_2; have hqa_0 : wc.cell? ⟨ga, 0, none⟩ = some (.slice A0_0 l0_0.length c0_0) := (blk_cell hba 0).trans rfl; have hqa_1 : wc.cell? ⟨ga, 1, none⟩ = some (.slice A0_1 l0_1.length c0_1) := (blk_cell hba 1).trans rfl; have hqa_2 : wc.cell? ⟨ga, 2, none⟩ = some (.slice A0_2 l0_2.length c0_2) := (blk_cell hba 2).trans rfl; have hqo_0 : wc.cell? ⟨go, 0, none⟩ = some (.slice none 0 0) := (blk_cell hbo 0).trans rfl; have hqo_1 : wc.cell? ⟨go, 1, none⟩ = some (.slice none 0 0) := (blk_cell hbo 1).trans rfl; have hqo_2 : wc.cell? ⟨go, 2, none⟩ = some (.slice none 0 0) := (blk_cell hbo 2).trans rfl; go_wp2_with (first
  | ((with_reducible refine gate_ (.call { callee := .builtin .copy, args := #[.tmp 18, .tmp 20], argTypes := #[24, 24] }) rfl ?_); refine blk_copy (w0 := w) (base := w.heap.size) (enc := (Value.int .u64)) (h1 := fun _ => rfl) rfl rfl Try.underlying24 (by kernel_rfl) (n := l0_0.length) l0_0 rfl rfl (by exact hbm0) rfl (by simp) (Kd.C_below HR0.out (blw HB)) (0 : Int) (blw HB) HGm0 ?_; intro wm0_1 hb2_ HB2_ hgr_; clear hqa_0 hqa_1 hqa_2; replace hba := blk_grown (by exact hba) hgr_ (fun e_ => by injection e_ with e_; exact HNm0_a.symm e_); clear hqo_0 hqo_1 hqo_2; replace hbo := blk_grown (by exact hbo) hgr_ (fun e_ => by injection e_ with e_; exact HNm0_o.symm e_); replace hbm0 := hb2_; replace hbm1 := blk_grown (by exact hbm1) hgr_ (fun e_ => by injection e_ with e_; exact HNm1_m0 e_); replace hbm2 := blk_grown (by exact hbm2) hgr_ (fun e_ => by injection e_ with e_; exact HNm2_m0 e_); replace HB := HB2_; clear hb2_ HB2_ hgr_; have hqa_0 : wm0_1.cell? ⟨ga, 0, none⟩ = some (.slice A0_0 l0_0.length c0_0) := (blk_cell hba 0).trans rfl; have hqa_1 : wm0_1.cell? ⟨ga, 1, none⟩ = some (.slice A0_1 l0_1.length c0_1) := (blk_cell hba 1).trans rfl; have hqa_2 : wm0_1.cell? ⟨ga, 2, none⟩ = some (.slice A0_2 l0_2.length c0_2) := (blk_cell hba 2).trans rfl; have hqo_0 : wm0_1.cell? ⟨go, 0, none⟩ = some (.slice none 0 0) := (blk_cell hbo 0).trans rfl; have hqo_1 : wm0_1.cell? ⟨go, 1, none⟩ = some (.slice none 0 0) := (blk_cell hbo 1).trans rfl; have hqo_2 : wm0_1.cell? ⟨go, 2, none⟩ = some (.slice none 0 0) := (blk_cell hbo 2).trans rfl)
  | ((with_reducible refine gate_ (.call { callee := .builtin .copy, args := #[.tmp 22, .tmp 24], argTypes := #[25, 25] }) rfl ?_); refine blk_copy (w0 := w) (base := w.heap.size) (enc := Value.bool) (h1 := fun _ => rfl) rfl rfl Try.underlying25 (by kernel_rfl) (n := l0_1.length) l0_1 rfl rfl (by exact hbm1) rfl (by simp) (Kd.C_below HR1.out (blw HB)) false (blw HB) HGm1 ?_; intro wm1_2 hb2_ HB2_ hgr_; clear hqa_0 hqa_1 hqa_2; replace hba := blk_grown (by exact hba) hgr_ (fun e_ => by injection e_ with e_; exact HNm1_a.symm e_); clear hqo_0 hqo_1 hqo_2; replace hbo := blk_grown (by exact hbo) hgr_ (fun e_ => by injection e_ with e_; exact HNm1_o.symm e_); replace hbm0 := blk_grown (by exact hbm0) hgr_ (fun e_ => by injection e_ with e_; exact HNm1_m0.symm e_); replace hbm1 := hb2_; replace hbm2 := blk_grown (by exact hbm2) hgr_ (fun e_ => by injection e_ with e_; exact HNm2_m1 e_); replace HB := HB2_; clear hb2_ HB2_ hgr_; have hqa_0 : wm1_2.cell? ⟨ga, 0, none⟩ = some (.slice A0_0 l0_0.length c0_0) := (blk_cell hba 0).trans rfl; have hqa_1 : wm1_2.cell? ⟨ga, 1, none⟩ = some (.slice A0_1 l0_1.length c0_1) := (blk_cell hba 1).trans rfl; have hqa_2 : wm1_2.cell? ⟨ga, 2, none⟩ = some (.slice A0_2 l0_2.length c0_2) := (blk_cell hba 2).trans rfl; have hqo_0 : wm1_2.cell? ⟨go, 0, none⟩ = some (.slice none 0 0) := (blk_cell hbo 0).trans rfl; have hqo_1 : wm1_2.cell? ⟨go, 1, none⟩ = some (.slice none 0 0) := (blk_cell hbo 1).trans rfl; have hqo_2 : wm1_2.cell? ⟨go, 2, none⟩ = some (.slice none 0 0) := (blk_cell hbo 2).trans rfl)
  | ((with_reducible refine gate_ (.call { callee := .builtin .copy, args := #[.tmp 26, .tmp 28], argTypes := #[26, 26] }) rfl ?_); refine blk_copy (w0 := w) (base := w.heap.size) (enc := (Value.int .i64)) (h1 := fun _ => rfl) rfl rfl Try.underlying26 (by kernel_rfl) (n := l0_2.length) l0_2 rfl rfl (by exact hbm2) rfl (by simp) (Kd.C_below HR2.out (blw HB)) (0 : Int) (blw HB) HGm2 ?_; intro wm2_3 hb2_ HB2_ hgr_; clear hqa_0 hqa_1 hqa_2; replace hba := blk_grown (by exact hba) hgr_ (fun e_ => by injection e_ with e_; exact HNm2_a.symm e_); clear hqo_0 hqo_1 hqo_2; replace hbo := blk_grown (by exact hbo) hgr_ (fun e_ => by injection e_ with e_; exact HNm2_o.symm e_); replace hbm0 := blk_grown (by exact hbm0) hgr_ (fun e_ => by injection e_ with e_; exact HNm2_m0.symm e_); replace hbm1 := blk_grown (by exact hbm1) hgr_ (fun e_ => by injection e_ with e_; exact HNm2_m1.symm e_); replace hbm2 := hb2_; replace HB := HB2_; clear hb2_ HB2_ hgr_; have hqa_0 : wm2_3.cell? ⟨ga, 0, none⟩ = some (.slice A0_0 l0_0.length c0_0) := (blk_cell hba 0).trans rfl; have hqa_1 : wm2_3.cell? ⟨ga, 1, none⟩ = some (.slice A0_1 l0_1.length c0_1) := (blk_cell hba 1).trans rfl; have hqa_2 : wm2_3.cell? ⟨ga, 2, none⟩ = some (.slice A0_2 l0_2.length c0_2) := (blk_cell hba 2).trans rfl; have hqo_0 : wm2_3.cell? ⟨go, 0, none⟩ = some (.slice none 0 0) := (blk_cell hbo 0).trans rfl; have hqo_1 : wm2_3.cell? ⟨go, 1, none⟩ = some (.slice none 0 0) := (blk_cell hbo 1).trans rfl; have hqo_2 : wm2_3.cell? ⟨go, 2, none⟩ = some (.slice none 0 0) := (blk_cell hbo 2).trans rfl)
  | ((with_reducible refine gate_ (.store 28 (.tmp 2) (.tmp 33)) rfl ?_); refine blk_store_all (w0 := w) (base := w.heap.size) (u := .agg #[.slice (some ⟨gm0, 0, none⟩) l0_0.length l0_0.length, .slice (some ⟨gm1, 0, none⟩) l0_1.length l0_1.length, .slice (some ⟨gm2, 0, none⟩) l0_2.length l0_2.length]) (seg := [.slice (some ⟨gm0, 0, none⟩) l0_0.length l0_0.length, .slice (some ⟨gm1, 0, none⟩) l0_1.length l0_1.length, .slice (some ⟨gm2, 0, none⟩) l0_2.length l0_2.length]) rfl rfl rfl rfl rfl rfl ?h1_ ?ht_ (by exact hbo) (by rfl) (blw HB) HGo ?_; (case ht_ => kernel_rfl); (case h1_ => intro q_ hq_; simp only [List.mem_cons, List.not_mem_nil, or_false] at hq_; rcases hq_ with rfl | rfl | rfl <;> rfl); intro wo_4 hb2_ HB2_ hgr_; clear hqa_0 hqa_1 hqa_2; replace hba := blk_grown (by exact hba) hgr_ (fun e_ => by injection e_ with e_; exact HNo_a.symm e_); clear hqo_0 hqo_1 hqo_2; replace hbo := hb2_; replace hbm0 := blk_grown (by exact hbm0) hgr_ (fun e_ => by injection e_ with e_; exact HNm0_o e_); replace hbm1 := blk_grown (by exact hbm1) hgr_ (fun e_ => by injection e_ with e_; exact HNm1_o e_); replace hbm2 := blk_grown (by exact hbm2) hgr_ (fun e_ => by injection e_ with e_; exact HNm2_o e_); replace HB := HB2_; clear hb2_ HB2_ hgr_; have hqa_0 : wo_4.cell? ⟨ga, 0, none⟩ = some (.slice A0_0 l0_0.length c0_0) := (blk_cell hba 0).trans rfl; have hqa_1 : wo_4.cell? ⟨ga, 1, none⟩ = some (.slice A0_1 l0_1.length c0_1) := (blk_cell hba 1).trans rfl; have hqa_2 : wo_4.cell? ⟨ga, 2, none⟩ = some (.slice A0_2 l0_2.length c0_2) := (blk_cell hba 2).trans rfl; have hqo_0 : wo_4.cell? ⟨go, 0, none⟩ = some (.slice (some ⟨gm0, 0, none⟩) l0_0.length l0_0.length) := (blk_cell hbo 0).trans rfl; have hqo_1 : wo_4.cell? ⟨go, 1, none⟩ = some (.slice (some ⟨gm1, 0, none⟩) l0_1.length l0_1.length) := (blk_cell hbo 1).trans rfl; have hqo_2 : wo_4.cell? ⟨go, 2, none⟩ = some (.slice (some ⟨gm2, 0, none⟩) l0_2.length l0_2.length) := (blk_cell hbo 2).trans rfl))
  refine bodyPost_ret (v := .agg #[.slice (some ⟨gm0, 0, none⟩) l0_0.length l0_0.length, .slice (some ⟨gm1, 0, none⟩) l0_1.length l0_1.length, .slice (some ⟨gm2, 0, none⟩) l0_2.length l0_2.length]) (by simp [results, Try.results45, go_sem, hqo_0, hqo_1, hqo_2]) rfl ?_; exact ⟨gm0, gm1, gm2, rfl, HNm1_m0, HNm2_m0, HNm2_m1, HGm0, HGm1, HGm2, hbm0, hbm1, hbm2, HB⟩
def slots_State_own.f (l0_0 : List Int) (l0_1 : List Bool) (l0_2 : List Int) : Option (List Int × List Bool × List Int) := if l0_0.length * 8 ≤ 140737488351232 ∧ l0_1.length ≤ 140737488351232 ∧ l0_2.length * 8 ≤ 140737488351232 then some (l0_0, l0_1, l0_2) else none
theorem slots_State_own.calls (A0_0 : Option Addr) (c0_0 : Nat) (l0_0 : List Int) (A0_1 : Option Addr) (c0_1 : Nat) (l0_1 : List Bool) (A0_2 : Option Addr) (c0_2 : Nat) (l0_2 : List Int) (r1 : List Int) (r2 : List Bool) (r3 : List Int) (w : World) (hr0_0 : Kd.C (Kd.int .u64) w A0_0 l0_0.length l0_0) (hc0_0 : l0_0.length ≤ c0_0) (hr0_1 : Kd.C Kd.bool w A0_1 l0_1.length l0_1) (hc0_1 : l0_1.length ≤ c0_1) (hr0_2 : Kd.C (Kd.int .i64) w A0_2 l0_2.length l0_2) (hc0_2 : l0_2.length ≤ c0_2) (h : slots_State_own.f l0_0 l0_1 l0_2 = some (r1, r2, r3)) :
  Calls Try.prog 45 #[.agg #[.slice A0_0 l0_0.length c0_0, .slice A0_1 l0_1.length c0_1, .slice A0_2 l0_2.length c0_2]] w fun e w' => ∃ v0_ v1_ v2_ : Value, e = .returned (.agg #[v0_, v1_, v2_]) ∧ Kd.R (Kd.int .u64) 34 w' w.heap.size (fun _ => True) v0_ r1 ∧ Kd.R Kd.bool 4 w' w.heap.size (fun _ => True) v1_ r2 ∧ Kd.R (Kd.int .i64) 3 w' w.heap.size (fun _ => True) v2_ r3 ∧ Below w.heap.size w w' := by
 unfold slots_State_own.f at h; split at h
 ·rename_i hz
  injection h with h; injection h with e1 e2; injection e2 with e2 e3; subst e1 e2 e3; have m0 := hr0_0.2.1; have m1 := hr0_1.2.1; have m2 := hr0_2.2.1; refine (slots_own_walk A0_0 c0_0 l0_0 A0_1 c0_1 l0_1 A0_2 c0_2 l0_2 w hr0_0 hc0_0 hr0_1 hc0_1 hr0_2 hc0_2 hz.1 hz.2.1 hz.2.2).mono ?_; rintro e w' ⟨g0, g1, g2, he, _, _, _, h0, h1, h2, b0, b1, b2, hb⟩
  exact ⟨_, _, _, he, blk_R (enc := Value.int .u64) (h1 := fun _ => rfl) l0_0 b0 h0 m0 trivial, blk_R (enc := Value.bool) (h1 := fun _ => rfl) l0_1 b1 h1 m1 trivial, blk_R (enc := Value.int .i64) (h1 := fun _ => rfl) l0_2 b2 h2 m2 trivial, hb⟩
 ·cases h

/-! ### pack_Of: function 80 -/
def pack_Of.f (a0 : Int) (a1 : Int) : Option (Int × Bool) := if (Go.bits .andNot .u64 (IntKind.u64.wrap (a0)) 16777215) = 0 then (if (a1 / 1099511627776) = 0 then (some (Go.bits .or .u64 (IntKind.u64.wrap (a1 * 16777216)) (IntKind.u64.wrap (a0)), true)) else (some (0, false))) else (some (0, false))
set_option maxHeartbeats 8000000 in
set_option maxRecDepth 100000 in
theorem pack_Of.calls (a0 : Int) (a1 : Int) (r1 : Int) (r2 : Bool) (w : World) (h : pack_Of.f a0 a1 = some (r1, r2)) :
  Calls Try.prog 80 #[.int .i64 a0, .int .u64 a1] w fun e w' => e = .returned (.tuple #[.int .u64 r1, .bool r2]) ∧ Drawn0 w w' := by
 have H : (if (Go.bits .andNot .u64 (IntKind.u64.wrap (a0)) 16777215) = 0 then (if (a1 / 1099511627776) = 0 then (some (Go.bits .or .u64 (IntKind.u64.wrap (a1 * 16777216)) (IntKind.u64.wrap (a0)), true)) else (some (0, false))) else (some (0, false))) = some (r1, r2) := h; clear h; by_cases c3 : (Go.bits .andNot .u64 (IntKind.u64.wrap (a0)) 16777215) = 0
 ·rw [if_pos c3] at H; have c3b0 : ((Go.bits .andNot .u64 (IntKind.u64.wrap (a0)) 16777215) == 0) = true := beq_iff_eq.mpr c3; have c3b1 : ((Go.bits .andNot .u64 (IntKind.u64.wrap (a0)) 16777215) != 0) = false := bne_eq_false_iff_eq.mpr c3; clear c3; by_cases c4 : (a1 / 1099511627776) = 0
  ·rw [if_pos c4] at H; have c4b0 : ((a1 / 1099511627776) == 0) = true := beq_iff_eq.mpr c4; have c4b1 : ((a1 / 1099511627776) != 0) = false := bne_eq_false_iff_eq.mpr c4; clear c4; simp only [Option.some.injEq, Prod.mk.injEq] at H; obtain ⟨rfl, rfl⟩ := H; go_enter Try.func80, Try.ntmps80; go_wp2; go_ret2
   exact ⟨by first | rfl | (simp; done) | (simp [*]; done), by repeat (first | exact Drawn0.refl _ | apply Drawn0.step)⟩
  ·rw [if_neg c4] at H; have c4b0 : ((a1 / 1099511627776) == 0) = false := beq_eq_false_iff_ne.mpr c4; have c4b1 : ((a1 / 1099511627776) != 0) = true := bne_iff_ne.mpr c4; simp only [Option.some.injEq, Prod.mk.injEq] at H; obtain ⟨rfl, rfl⟩ := H; go_enter Try.func80, Try.ntmps80; go_wp2; go_ret2
   exact ⟨by first | rfl | (simp; done) | (simp [*]; done), by repeat (first | exact Drawn0.refl _ | apply Drawn0.step)⟩
 ·rw [if_neg c3] at H; have c3b0 : ((Go.bits .andNot .u64 (IntKind.u64.wrap (a0)) 16777215) == 0) = false := beq_eq_false_iff_ne.mpr c3; have c3b1 : ((Go.bits .andNot .u64 (IntKind.u64.wrap (a0)) 16777215) != 0) = true := bne_iff_ne.mpr c3; simp only [Option.some.injEq, Prod.mk.injEq] at H; obtain ⟨rfl, rfl⟩ := H; go_enter Try.func80, Try.ntmps80; go_wp2; go_ret2
  exact ⟨by first | rfl | (simp; done) | (simp [*]; done), by repeat (first | exact Drawn0.refl _ | apply Drawn0.step)⟩

/-! ### slots_State_handle: function 46 -/
def slots_State_handle.f (l0_0 : List Int) (l0_1 : List Bool) (l0_2 : List Int) (a1 : Int) : Option (Int) := if 0 ≤ a1 then (if a1 < (l0_0.length : Int) then ((pack_Of.f a1 (rd l0_0 a1)).bind fun bt103 => (some bt103.1)) else (none)) else (none)
set_option maxHeartbeats 8000000 in
set_option maxRecDepth 100000 in
theorem slots_State_handle.calls (A0_0 : Option Addr) (c0_0 : Nat) (l0_0 : List Int) (A0_1 : Option Addr) (c0_1 : Nat) (l0_1 : List Bool) (A0_2 : Option Addr) (c0_2 : Nat) (l0_2 : List Int) (a1 : Int) (r : Int) (w : World) (hr0_0 : Kd.C (Kd.int .u64) w A0_0 l0_0.length l0_0) (hc0_0 : l0_0.length ≤ c0_0) (hr0_1 : Kd.C Kd.bool w A0_1 l0_1.length l0_1) (hc0_1 : l0_1.length ≤ c0_1) (hr0_2 : Kd.C (Kd.int .i64) w A0_2 l0_2.length l0_2) (hc0_2 : l0_2.length ≤ c0_2) (h : slots_State_handle.f l0_0 l0_1 l0_2 a1 = some r) :
  Calls Try.prog 46 #[.agg #[.slice A0_0 l0_0.length c0_0, .slice A0_1 l0_1.length c0_1, .slice A0_2 l0_2.length c0_2], .int .i64 a1] w fun e w' => e = .returned (.int .u64 r) ∧ Below w.heap.size w w' := by
 have hu28 := Try.underlying28; have HR0_0 := aA hr0_0; have HC0_0 := aA hc0_0; clear hr0_0 hc0_0; have HR0_1 := aA hr0_1; have HC0_1 := aA hc0_1; clear hr0_1 hc0_1; have HR0_2 := aA hr0_2; have HC0_2 := aA hc0_2; clear hr0_2 hc0_2; have HB := aA (Below.refl w.heap.size w); have H : (if 0 ≤ a1 then (if a1 < (l0_0.length : Int) then ((pack_Of.f a1 (rd l0_0 a1)).bind fun bt103 => (some bt103.1)) else (none)) else (none)) = some r := h; clear h; by_cases c3 : 0 ≤ a1
 rotate_left
 ·rw [if_neg c3] at H; exact absurd H (by simp)

 rw [if_pos c3] at H; have c3b0 : decide (0 ≤ a1) = true := decide_eq_true c3; clear c3; by_cases c4 : a1 < (l0_0.length : Int)
 rotate_left
 ·rw [if_neg c4] at H; exact absurd H (by simp)
 rw [if_pos c4] at H; have c4b0 : decide (a1 < (l0_0.length : Int)) = true := decide_eq_true c4; clear c4; replace H := Option.bind_eq_some_iff.mp H; obtain ⟨⟨t103, t104⟩, A50, H⟩ := H; replace H : (some t103) = some r := H; have A5 := aA A50; clear A50; obtain rfl := Option.some.inj H; go_enter Try.func46, Try.ntmps46; go_wp2_with (first | ((with_reducible refine gate_dst (N := 2) rfl ?_); refine box_event ?hg (N := 2) ?hd (cs := #[.slice A0_0 l0_0.length c0_0, .slice A0_1 l0_1.length c0_1, .slice A0_2 l0_2.length c0_2]) (t := 28) ?hr ?_; (case hd => rfl); (case hg => rfl); (case hr => first | (go_simp; done) | (go_simp; rfl)); intro gb101 hg w6 hbox hb; have n0_ := aA (below_step (blw HB.out) hb); have n1_ := aA (hbox); have n2_ := aA ((by rw [hg]; exact (below_size (blw HB.out)) : w.heap.size ≤ gb101)); have n3_ := aA ((by rw [hg]; exact (below_size (blw HB.out)) : w.heap.size ≤ gb101)); clear HB; have HB := n0_; have BK101 := n1_; have GW101 := n2_; have GE101 := n3_; clear n0_ n1_ n2_ n3_ hb hbox hg; have hcz7_0 : w6.cell? ⟨gb101, 0, none⟩ = some (.slice A0_0 l0_0.length c0_0) := (blk_cell BK101.out 0).trans rfl; have hcz7_1 : w6.cell? ⟨gb101, 1, none⟩ = some (.slice A0_1 l0_1.length c0_1) := (blk_cell BK101.out 1).trans rfl; have hcz7_2 : w6.cell? ⟨gb101, 2, none⟩ = some (.slice A0_2 l0_2.length c0_2) := (blk_cell BK101.out 2).trans rfl; have hfz7_0 := blk_frozen BK101.out 0; have hfz7_1 := blk_frozen BK101.out 1; have hfz7_2 := blk_frozen BK101.out 2; have p102 : 0 ≤ (a1 : Int) := of_decide_eq_true (by first | (with_reducible assumption) | assumption); have q102 : a1 < (l0_0.length : Int) := of_decide_eq_true (by first | (with_reducible assumption) | assumption); obtain ⟨ad102, e102, hx102_0⟩ := Kd.at_int HR0_0.out a1 p102 q102; cases e102; replace hx102_0 := (HB.out.cell (World.block_lt_of_cell? w _ hx102_0)).trans hx102_0; replace p102 := eq_true p102; replace q102 := eq_true q102) | ((with_reducible refine gate_callee (f := 80) rfl ?_); refine goesL_ (some 14) rfl rfl Try.func80 (by kernel_rfl) rfl #[.int .i64 a1, .int .u64 (rd l0_0 a1)] rfl (by (try simp only [List.map_toArray, List.map_cons, List.map_nil]); first | done | rfl | (simp only [List.length_drop, List.length_take]; rfl)) ?_; (with_reducible refine (pack_Of.calls a1 (rd l0_0 a1) t103 t104 _ A5.out).mono ?_); rintro e w' ⟨rfl, ⟨nd, rfl⟩⟩; refine ⟨_, rfl, ?_⟩))
 go_ret
 exact ⟨by first | rfl | (simp [errW_none, errW_some] <;> rfl) | (simp [*, errW_none, errW_some] <;> rfl), by repeat (first | (with_reducible first | exact HB.out | apply below_alloc | apply pw_below_drewN | apply below_drew1 | refine below_set ?_ GE101.out) | exact HB.out)⟩
end Go.Proofs.Ytecfbacgaahlhaa.PA
