-- Written by wip/hprint/hprint.py (a program of this session, over the print): not typed by hand
import Derived.Test.YtdjkadfgmhmhcaaPTx0
namespace Go.Proofs.Ytdjkadfgmhmhcaa.PT
open Go.RowKit Go.Proofs.YtdjkadfgmhmhcaaW.PrintWords Go.Proofs.YtdjkadfgmhmhcaaW.PrintLast Go.Proofs.YtdjkadfgmhmhcaaW.PrintMore
attribute [local go_sem] max2_int min2_int max_two min_two max_three min_three max_four min_four   -- for this text's walks alone
open Go.Proofs.YtdjkadfgmhmhcaaH
set_option linter.unusedVariables false
set_option linter.unusedSimpArgs false

/-! ### rec_Words: function 22 -/
def rec_Words.l0 : Nat → ByteArray → List Int → Int → Int → Option (List Int)
 | 0, _, _, _, _ => none
 | k + 1, x0, x3, x12, x13 => if x13 < x12 then (if 0 ≤ (x13 / 8) then (if (x13 / 8) < (x3.length : Int) then (if 0 ≤ x13 then (if x13 < (x0.size : Int) then (if 0 ≤ (wrap64 ((Go.bits .and .i64 x13 7) * 8)) then (rec_Words.l0 k x0 (x3.set ((x13 / 8) : Int).toNat (Go.bits .or .u64 (rd x3 (x13 / 8)) (shl .u64 (IntKind.u64.wrap (bt x0 x13)) (wrap64 ((Go.bits .and .i64 x13 7) * 8))))) x12 (wrap64 (x13 + 1))) else (none)) else (none)) else (none)) else (none)) else (none)) else (some x3)
def rec_Words.f (k : Nat) (a0 : ByteArray) : Option (List Int) := if 0 ≤ (wrap64 (Int.tdiv (wrap64 ((wrap64 ((a0.size : Int) + 8)) - 1)) 8)) then (if (wrap64 (Int.tdiv (wrap64 ((wrap64 ((a0.size : Int) + 8)) - 1)) 8) : Int).toNat ≤ 35184372088832 then (rec_Words.l0 k a0 (List.replicate (wrap64 (Int.tdiv (wrap64 ((wrap64 ((a0.size : Int) + 8)) - 1)) 8) : Int).toNat 0) (a0.size : Int) 0) else (none)) else (none)
theorem rec_Words.mono_l : ∀ k, (∀ y0 y1 y2 y3, LeO (rec_Words.l0 k y0 y1 y2 y3) (rec_Words.l0 (k + 1) y0 y1 y2 y3))
 | 0 => fun _ _ _ _ r h => by simp [rec_Words.l0] at h
 | k + 1 => by
  have ih0 := rec_Words.mono_l k
  ·intro y0 y1 y2 y3
   unfold rec_Words.l0; repeat' first
   | (with_reducible exact ih0 _ _ _ _)
   | (with_reducible exact LeO.refl _)
   | (with_reducible exact LeO.none _)
   | (with_reducible refine LeO.ite ?_ ?_)
   | (with_reducible refine LeO.bind ?_ (fun _ => ?_))
   | exact ih0 _ _ _ _
   | exact LeO.none _
   | refine LeO.ite ?_ ?_
   | refine LeO.bind ?_ (fun _ => ?_)
theorem rec_Words.mono : ∀ a0 k, LeO (rec_Words.f k a0) (rec_Words.f (k + 1) a0) := by
 intro a0 k
 have ih0 := rec_Words.mono_l k; unfold rec_Words.f
 repeat' first
   | (with_reducible exact ih0 _ _ _ _)
   | (with_reducible exact LeO.refl _)
   | (with_reducible exact LeO.none _)
   | (with_reducible refine LeO.ite ?_ ?_)
   | (with_reducible refine LeO.bind ?_ (fun _ => ?_))
   | exact ih0 _ _ _ _
   | exact LeO.none _
   | refine LeO.ite ?_ ?_
   | refine LeO.bind ?_ (fun _ => ?_)
def rec_Words.T5 : Bool × List (List Nat × List Nat) := (true, [([], []), ([], []), ([1], [1]), ([0, 2], [0, 2]), ([3], [3]), ([], []), ([], []), ([5, 6], [5, 6]), ([7], [7]), ([], []), ([9], [9]), ([10], [10]), ([8, 11], [8, 11]), ([4, 12], [4, 12]), ([0, 2, 0, 1, 2, 3, 4, 5, 6, 7, 8, 9, 10, 11, 12, 13], [0, 2]), ([14, 13, 0, 1, 2, 3, 4, 5, 6, 7, 8, 9, 10, 11, 12, 13], [13, 14])])
def rec_Words.B5 : List Nat := [0, 0, 2, 7, 15, 0, 0, 96, 224, 0, 512, 1536, 4064, 8191, 16383, 32767]
theorem rec_Words.tab5 : rtab .any (opsOf Try.f22 5) = rec_Words.T5 := by kernel_rfl
theorem rec_Words.bits5 : waitsOk rec_Words.T5.2 rec_Words.B5 = true := by kernel_rfl
set_option maxHeartbeats 8000000 in
set_option maxRecDepth 100000 in
theorem rec_Words.calls (k : Nat) (a0 : ByteArray) (r : List Int) (w : World) (h : rec_Words.f k a0 = some r) :
  Calls Try.prog 22 #[.string a0] w fun e w' => ∃ v0_ : Value, e = .returned (v0_) ∧ Kd.R (Kd.int .u64) 23 w' w.heap.size (fun _ => True) v0_ r ∧ Below w.heap.size w w' := by
 have HB := aA (Below.refl w.heap.size w); have H : (if 0 ≤ (wrap64 (Int.tdiv (wrap64 ((wrap64 ((a0.size : Int) + 8)) - 1)) 8)) then (if (wrap64 (Int.tdiv (wrap64 ((wrap64 ((a0.size : Int) + 8)) - 1)) 8) : Int).toNat ≤ 35184372088832 then (rec_Words.l0 k a0 (List.replicate (wrap64 (Int.tdiv (wrap64 ((wrap64 ((a0.size : Int) + 8)) - 1)) 8) : Int).toNat 0) (a0.size : Int) 0) else (none)) else (none)) = some r := h; clear h; obtain ⟨ji2, hji2⟩ : ∃ j_ : Int, (wrap64 (Int.tdiv (wrap64 ((wrap64 ((a0.size : Int) + 8)) - 1)) 8)) = j_ := ⟨_, rfl⟩; replace H : (if 0 ≤ (ji2) then (if (ji2 : Int).toNat ≤ 35184372088832 then (rec_Words.l0 k a0 (List.replicate (ji2 : Int).toNat 0) (a0.size : Int) 0) else (none)) else (none)) = some r := by first | (rw [hji2] at H; exact H) | (simp only [hji2] at H ⊢; exact H)
 have hji2w : (IntKind.i64.wrap (Int.tdiv (wrap64 ((wrap64 ((a0.size : Int) + 8)) - 1)) 8)) = ji2 := (i64_w _).trans hji2; by_cases c3 : 0 ≤ (ji2)
 rotate_left
 ·rw [if_neg c3] at H; exact absurd H (by simp)

 rw [if_pos c3] at H; have c3b0 := eq_true c3; have c3b1 : decide (0 ≤ (ji2)) = true := decide_eq_true c3; clear c3; by_cases c4 : (ji2 : Int).toNat ≤ 35184372088832
 rotate_left
 ·rw [if_neg c4] at H; exact absurd H (by simp)
 rw [if_pos c4] at H; have c4b0 := eq_true c4; have c4b1 : decide ((ji2 : Int).toNat ≤ 35184372088832) = true := decide_eq_true c4; clear c4; obtain ⟨y113, hy113⟩ : ∃ y_ : List Int, y_ = (List.replicate (ji2 : Int).toNat 0) := ⟨_, rfl⟩; replace H : (rec_Words.l0 k a0 y113 (a0.size : Int) 0) = some r := by first | (rw [hy113]; with_reducible exact H) | (have H2_ := (Option.bind_some _ _).symm.trans H; rw [hy113]; with_reducible exact H2_) | (have H2_ := (Option.bind_some _ _).symm.trans H; with_reducible exact H2_) | with_reducible exact H | (rw [hy113]; exact H) | exact H
 have Ny113 := aA hy113; clear hy113; have H' := aA H; clear H; go_enter Try.func22, Try.ntmps22; go_wp2_with (first | ((with_reducible refine gate_dst (N := 10) rfl ?_); refine Kd.R_make (Kd.int .u64) _ 23 rfl (N := 10) rfl 28 _ _ rfl ji2 rfl rfl Try.underlying28 (.int .u64 0) 8 info23 rfl (by decide) (by omega) 0 (ok := fun _ => True) (okp := fun _ => True) rfl (fun _ hk => hk) trivial (of_decide_eq_true (by first | (with_reducible assumption) | assumption)) (Nat.le_trans (Nat.mul_le_mul_right _ (of_decide_eq_true (by first | (with_reducible assumption) | assumption) : ji2.toNat ≤ 35184372088832)) (by omega)) (Below.refl _ _) (Nat.le_refl _) ?_; intro v114 w5 ho6 hb hg_ hnew_; clear hg_ hnew_; (first | rw [← Ny113.out] at ho6 | (simp only [Int.reduceToNat] at ho6; rw [← Ny113.out] at ho6)); have n0_ := aA (Kd.R_lower ho6 (below_size (blw HB.out))); have n1_ := aA (below_step (blw HB.out) hb); clear HB; have HO115 := n0_; have HB := n1_; clear n0_ n1_ hb ho6))
 go_loopg [13] k (fun kq v13 w' => ∃ (x3_1 : List Int) (x13_1 : Int), v13 = .int .i64 x13_1 ∧ Aside0 (rec_Words.l0 kq a0 x3_1 (a0.size : Int) x13_1 = some r) ∧ Aside0 (kq ≤ k) ∧ Aside0 (Kd.R (Kd.int .u64) 23 w' w.heap.size (fun _ => True) v114 x3_1) ∧ Aside0 (Below w.heap.size w w'))
 case atStart => exact ⟨(y113), (0), (by first | rfl | (simp; done) | (simp [*]; done)), H', ⟨Nat.le_refl _⟩, ⟨by (with_reducible repeat (first | apply Kd.R_alloc | apply Kd.R_drewN | apply Kd.R_drew)); exact HO115.out⟩, ⟨by repeat (first | (with_reducible first | exact HB.out | apply below_alloc | apply pw_below_drewN | apply below_drew1) | exact HB.out)⟩⟩
 case round =>
  clear H'; try clear c2
  try clear p2
  try clear c3
  try clear c3b0
  try clear c3b1
  try clear c4
  try clear c4b0
  try clear c4b1
  try clear p6
  obtain ⟨x3_1, x13_1, rfl, HA, HK1, HO_3, HB⟩ := hrel; cases gk with
  | zero => exact absurd HA.out (by simp [rec_Words.l0])
  | succ k1 =>
   have H := HA.out; clear HA; simp only [rec_Words.l0] at H; by_cases c7 : x13_1 < (a0.size : Int)
   ·rw [if_pos c7] at H; have c7b0 : decide (x13_1 < (a0.size : Int)) = true := decide_eq_true c7; clear c7; obtain ⟨ji8, hji8⟩ : ∃ j_ : Int, (x13_1 / 8) = j_ := ⟨_, rfl⟩; replace H : (if 0 ≤ (ji8) then (if (ji8) < (x3_1.length : Int) then (if 0 ≤ x13_1 then (if x13_1 < (a0.size : Int) then (if 0 ≤ (wrap64 ((Go.bits .and .i64 x13_1 7) * 8)) then (rec_Words.l0 k1 a0 (x3_1.set ((ji8) : Int).toNat (Go.bits .or .u64 (rd x3_1 (ji8)) (shl .u64 (IntKind.u64.wrap (bt a0 x13_1)) (wrap64 ((Go.bits .and .i64 x13_1 7) * 8))))) (a0.size : Int) (wrap64 (x13_1 + 1))) else (none)) else (none)) else (none)) else (none)) else (none)) = some r := by first | (rw [hji8] at H; exact H) | (simp only [hji8] at H ⊢; exact H)
    by_cases c9 : 0 ≤ (ji8)
    rotate_left
    ·rw [if_neg c9] at H; exact absurd H (by simp)
    rw [if_pos c9] at H; have c9b0 : decide (0 ≤ (ji8)) = true := decide_eq_true c9; clear c9; by_cases c10 : (ji8) < (x3_1.length : Int)
    rotate_left
    ·rw [if_neg c10] at H; exact absurd H (by simp)
    rw [if_pos c10] at H; have c10b0 : decide ((ji8) < (x3_1.length : Int)) = true := decide_eq_true c10; clear c10; by_cases c11 : 0 ≤ x13_1
    rotate_left
    ·rw [if_neg c11] at H; exact absurd H (by simp)
    rw [if_pos c11] at H; have c11b0 : decide (0 ≤ x13_1) = true := decide_eq_true c11; clear c11; by_cases c12 : x13_1 < (a0.size : Int)
    rotate_left
    ·rw [if_neg c12] at H; exact absurd H (by simp)
    rw [if_pos c12] at H; have c12b0 : decide (x13_1 < (a0.size : Int)) = true := decide_eq_true c12; clear c12; obtain ⟨ji14, hji14⟩ : ∃ j_ : Int, (wrap64 ((Go.bits .and .i64 x13_1 7) * 8)) = j_ := ⟨_, rfl⟩; replace H : (if 0 ≤ (ji14) then (rec_Words.l0 k1 a0 (x3_1.set ((ji8) : Int).toNat (Go.bits .or .u64 (rd x3_1 (ji8)) (shl .u64 (IntKind.u64.wrap (bt a0 x13_1)) (ji14)))) (a0.size : Int) (wrap64 (x13_1 + 1))) else (none)) = some r := by first | (rw [hji14] at H; exact H) | (simp only [hji14] at H ⊢; exact H)
    have hji14w : (IntKind.i64.wrap ((Go.bits .and .i64 x13_1 7) * 8)) = ji14 := (i64_w _).trans hji14; by_cases c15 : 0 ≤ (ji14)
    rotate_left
    ·rw [if_neg c15] at H; exact absurd H (by simp)
    rw [if_pos c15] at H; have c15b0 := eq_true c15; have c15b1 : decide (0 ≤ (ji14)) = true := decide_eq_true c15; clear c15; obtain ⟨ji16, hji16⟩ : ∃ j_ : Int, (shl .u64 (IntKind.u64.wrap (bt a0 x13_1)) (ji14)) = j_ := ⟨_, rfl⟩; replace H : (rec_Words.l0 k1 a0 (x3_1.set ((ji8) : Int).toNat (Go.bits .or .u64 (rd x3_1 (ji8)) (ji16))) (a0.size : Int) (wrap64 (x13_1 + 1))) = some r := by first | (rw [hji16] at H; exact H) | (simp only [hji16] at H ⊢; exact H)
    have hji16_ : (IntKind.u64.wrap ((IntKind.u64.wrap (bt a0 x13_1)) * 2 ^ min (ji14).toNat 64)) = ji16 := hji16; have hji16z : (ji14) ≤ 64 → (IntKind.u64.wrap ((IntKind.u64.wrap (bt a0 x13_1)) * 2 ^ (ji14).toNat)) = ji16 := shl_small hji16; obtain ⟨y117, hy117⟩ : ∃ y_ : List Int, y_ = (x3_1.set ((ji8) : Int).toNat (Go.bits .or .u64 (rd x3_1 (ji8)) (ji16))) := ⟨_, rfl⟩; replace H : (rec_Words.l0 k1 a0 y117 (a0.size : Int) (wrap64 (x13_1 + 1))) = some r := by first | (rw [hy117]; with_reducible exact H) | (have H2_ := (Option.bind_some _ _).symm.trans H; rw [hy117]; with_reducible exact H2_) | (have H2_ := (Option.bind_some _ _).symm.trans H; with_reducible exact H2_) | with_reducible exact H | (rw [hy117]; exact H) | exact H
    have Ny117 := aA hy117; clear hy117; have H' := aA H; clear H; try go_wp2
    have n0_ := aA (Kd.R_drew HO_3.out); have n1_ := aA (below_drew1 HB.out); clear HO_3; clear HB; have HO_3 := n0_; have HB := n1_; clear n0_ n1_; obtain ⟨Ao19, co19, eo19⟩ := Kd.R_slice HO_3.out; (first | subst eo19 | (injection eo19 with f1_ f2_ f3_; have f4_ := f1_.symm; have f5_ := f3_.symm; clear f1_ f2_ f3_; subst f4_; subst f5_))
    have p116 : 0 ≤ ((ji8) : Int) := of_decide_eq_true (by first | (with_reducible assumption) | assumption); have q116 : (ji8) < (x3_1.length : Int) := of_decide_eq_true (by first | (with_reducible assumption) | assumption); obtain ⟨ad116, e116, hx116_0⟩ := Kd.at_int (Kd.R_reads' HO_3.out).2.2 (ji8) p116 q116; cases e116
    replace p116 := eq_true p116; replace q116 := eq_true q116; have p13 : 0 ≤ (x13_1 : Int) := of_decide_eq_true (by first | (with_reducible assumption) | assumption); have q13 : x13_1 < (a0.size : Int) := of_decide_eq_true (by first | (with_reducible assumption) | assumption); have hx13 := bt_at a0 x13_1; replace p13 := eq_true p13; replace q13 := eq_true q13; have p17 : 0 ≤ ((ji8) : Int) := of_decide_eq_true (by first | (with_reducible assumption) | assumption); have q17 : ((ji8) : Int) < ((x3_1.length : Int) : Int) := of_decide_eq_true (by first | (with_reducible assumption) | assumption); obtain ⟨go17, co17, eo17, gb17, gl17, cl17, HG17⟩ := Kd.R_form HO_3.out (by omega); (first | cases eo17 | (injection eo17 with ea_ en_ ec_; (first | subst ea_ | (injection ea_ with ea_; subst ea_)); subst ec_; clear en_))
    have GB17 := aA gb17; have GG17 := aA HG17; clear gb17 gl17 HG17; (first | simp only [add_plain] at hx116_0 | skip)
    obtain ⟨hx17_0, hf17_0⟩ := Kd.R_celln 0 HO_3.out ((ji8) : Int) p17 q17; replace p17 := eq_true p17; replace q17 := eq_true q17; have HP20 := Kd.R_putn HO_3.out ((ji8) : Int) (Go.bits .or .u64 (rd x3_1 (ji8)) (ji16)); rw [← Ny117.out] at HP20; have HQ20 := aA HP20; clear HP20; refine start_ (n := 16) (S := fun w' => w'.cell? ⟨go17, ((ji8)).toNat, none⟩ = some (.int .u64 (rd x3_1 (ji8)))) (ds := [15]) #[false, false, false, false, false, false, false, false, false, false, false, false, false, false, false, false] (by kernel_rfl) rfl rfl (hx116_0) (fun hHeld => ?_); refine with_tabW rec_Words.tab5 rec_Words.bits5 (fun HT_ HW_ => ?_); generalize wr.drew = w18 at HO_3 HB GG17 HQ20 hf17_0 hx116_0 hx17_0 hHeld ⊢; refine pure_ (i := 0) (N := some 16) (v := ?_) (a' := ?_) #[true, false, false, false, false, false, false, false, false, false, false, false, false, false, false, false] rfl rfl (any_of HT_.out (by kernel_rfl)) (fun _ _ _ h => h) (Or.inl ⟨by rfl, ?_⟩) ?_ ?_; rotate_left
    ·intro w'
     go_simp
     with_reducible rfl
    rotate_left
    ·simp only [Act.put, List.setIfInBounds_toArray, List.set_cons_zero, List.set_cons_succ, i64_w, i32_w]; rfl
    refine pure_ (i := 1) (N := some 17) (v := ?_) (a' := ?_) #[true, true, false, false, false, false, false, false, false, false, false, false, false, false, false, false] rfl rfl (any_of HT_.out (by kernel_rfl)) (fun _ _ _ h => h) (Or.inl ⟨by rfl, ?_⟩) ?_ ?_; rotate_left
    ·intro w'
     go_simp
     with_reducible rfl
    rotate_left
    ·simp only [Act.put, List.setIfInBounds_toArray, List.set_cons_zero, List.set_cons_succ, i64_w, i32_w]; rfl
    refine pure_ (i := 2) (N := some 18) (v := ?_) (a' := ?_) #[true, true, true, false, false, false, false, false, false, false, false, false, false, false, false, false] rfl rfl (any_of HT_.out (by kernel_rfl)) (fun _ _ _ h => h) (Or.inl ⟨by rfl, ?_⟩) ?_ ?_; rotate_left
    ·intro w'
     go_simp
     with_reducible rfl
    rotate_left
    ·simp only [Act.put, List.setIfInBounds_toArray, List.set_cons_zero, List.set_cons_succ, i64_w, i32_w]; rfl
    refine pure_ (i := 3) (N := some 19) (v := ?_) (a' := ?_) #[true, true, true, true, false, false, false, false, false, false, false, false, false, false, false, false] rfl rfl (any_of HT_.out (by kernel_rfl)) (fun _ _ _ h => h) (Or.inl ⟨by rfl, ?_⟩) ?_ ?_; rotate_left
    ·intro w'
     go_simp
     with_reducible rfl
    rotate_left
    ·simp only [Act.put, List.setIfInBounds_toArray, List.set_cons_zero, List.set_cons_succ, i64_w, i32_w]; rfl
    refine pure_ (i := 5) (N := some 21) (v := ?_) (a' := ?_) #[true, true, true, true, false, true, false, false, false, false, false, false, false, false, false, false] rfl rfl (any_of HT_.out (by kernel_rfl)) (fun _ _ _ h => h) (Or.inl ⟨by rfl, ?_⟩) ?_ ?_; rotate_left
    ·intro w'
     go_simp
     with_reducible rfl
    rotate_left
    ·simp only [Act.put, List.setIfInBounds_toArray, List.set_cons_zero, List.set_cons_succ, i64_w, i32_w]; rfl
    refine pure_ (i := 6) (N := some 22) (v := ?_) (a' := ?_) #[true, true, true, true, false, true, true, false, false, false, false, false, false, false, false, false] rfl rfl (any_of HT_.out (by kernel_rfl)) (fun _ _ _ h => h) (Or.inl ⟨by rfl, ?_⟩) ?_ ?_; rotate_left
    ·intro w'
     go_simp
     with_reducible rfl
    rotate_left
    ·simp only [Act.put, List.setIfInBounds_toArray, List.set_cons_zero, List.set_cons_succ, i64_w, i32_w]; rfl
    refine pure_ (i := 9) (N := some 25) (v := ?_) (a' := ?_) #[true, true, true, true, false, true, true, false, false, true, false, false, false, false, false, false] rfl rfl (any_of HT_.out (by kernel_rfl)) (fun _ _ _ h => h) (Or.inl ⟨by rfl, ?_⟩) ?_ ?_; rotate_left
    ·intro w'
     go_simp
     with_reducible rfl
    rotate_left
    ·simp only [Act.put, List.setIfInBounds_toArray, List.set_cons_zero, List.set_cons_succ, i64_w, i32_w]; rfl
    refine pure_ (i := 10) (N := some 26) (v := ?_) (a' := ?_) #[true, true, true, true, false, true, true, false, false, true, true, false, false, false, false, false] rfl rfl (any_of HT_.out (by kernel_rfl)) (fun _ _ _ h => h) (Or.inl ⟨by rfl, ?_⟩) ?_ ?_; rotate_left
    ·intro w'
     go_simp
     with_reducible rfl
    rotate_left
    ·simp only [Act.put, List.setIfInBounds_toArray, List.set_cons_zero, List.set_cons_succ, i64_w, i32_w]; rfl
    refine pure_ (i := 11) (N := some 27) (v := ?_) (a' := ?_) #[true, true, true, true, false, true, true, false, false, true, true, true, false, false, false, false] rfl rfl (any_of HT_.out (by kernel_rfl)) (fun _ _ _ h => h) (Or.inl ⟨by rfl, ?_⟩) ?_ ?_; rotate_left
    ·intro w'
     go_simp
     with_reducible rfl
    rotate_left
    ·simp only [Act.put, List.setIfInBounds_toArray, List.set_cons_zero, List.set_cons_succ, i64_w, i32_w]; rfl
    refine take_ (i := 4) (N := some 20) (v := ?_) (a' := ?_) #[true, true, true, true, true, true, true, false, false, true, true, true, false, false, false, false] rfl rfl (take_ofW HT_.out HW_.out (by kernel_rfl)) (fun _ _ _ h => h) (Or.inl ⟨by rfl, ?_⟩) hHeld ?_ ?_; rotate_left
    ·intro w' s0
     go_simp
     with_reducible rfl
    rotate_left
    ·simp only [Act.put, List.setIfInBounds_toArray, List.set_cons_zero, List.set_cons_succ, i64_w, i32_w]; rfl
    refine take_ (i := 7) (N := some 23) (v := ?_) (a' := ?_) #[true, true, true, true, true, true, true, true, false, true, true, true, false, false, false, false] rfl rfl (take_ofW HT_.out HW_.out (by kernel_rfl)) (fun _ _ _ h => h) (Or.inl ⟨by rfl, ?_⟩) hHeld ?_ ?_; rotate_left
    ·intro w' s0
     go_simp
     with_reducible rfl
    rotate_left
    ·simp only [Act.put, List.setIfInBounds_toArray, List.set_cons_zero, List.set_cons_succ, i64_w, i32_w]; rfl
    refine pure_ (i := 8) (N := some 24) (v := ?_) (a' := ?_) #[true, true, true, true, true, true, true, true, true, true, true, true, false, false, false, false] rfl rfl (any_of HT_.out (by kernel_rfl)) (fun _ _ _ h => h) (Or.inl ⟨by rfl, ?_⟩) ?_ ?_; rotate_left
    ·intro w'
     go_simp
     with_reducible rfl
    rotate_left
    ·simp only [Act.put, List.setIfInBounds_toArray, List.set_cons_zero, List.set_cons_succ, i64_w, i32_w]; rfl
    refine pure_ (i := 12) (N := some 28) (v := ?_) (a' := ?_) #[true, true, true, true, true, true, true, true, true, true, true, true, true, false, false, false] rfl rfl (any_of HT_.out (by kernel_rfl)) (fun _ _ _ h => h) (Or.inl ⟨by rfl, ?_⟩) ?_ ?_; rotate_left
    ·intro w'
     go_simp
     with_reducible rfl
    rotate_left
    ·simp only [Act.put, List.setIfInBounds_toArray, List.set_cons_zero, List.set_cons_succ, i64_w, i32_w]; rfl
    refine pure_ (i := 13) (N := some 29) (v := ?_) (a' := ?_) #[true, true, true, true, true, true, true, true, true, true, true, true, true, true, false, false] rfl rfl (any_of HT_.out (by kernel_rfl)) (fun _ _ _ h => h) (Or.inl ⟨by rfl, ?_⟩) ?_ ?_; rotate_left
    ·intro w'
     go_simp
     with_reducible rfl
    rotate_left
    ·simp only [Act.put, List.setIfInBounds_toArray, List.set_cons_zero, List.set_cons_succ, i64_w, i32_w]; rfl
    refine pure_ (i := 14) (N := some 30) (v := ?_) (a' := ?_) #[true, true, true, true, true, true, true, true, true, true, true, true, true, true, true, false] rfl rfl (any_of HT_.out (by kernel_rfl)) (fun _ _ _ h => h) (Or.inl ⟨by rfl, ?_⟩) ?_ ?_; rotate_left
    ·intro w'
     go_simp
     with_reducible rfl
    rotate_left
    ·simp only [Act.put, List.setIfInBounds_toArray, List.set_cons_zero, List.set_cons_succ, i64_w, i32_w]; rfl
    refine last_ (i := 15) (N := none) #[true, true, true, true, true, true, true, true, true, true, true, true, true, true, true, true] rfl rfl (one_of HT_.out (by kernel_rfl)) (by decide) (fun K hK => ?_); refine skip_ (w1 := ?_) (by rfl) rfl ?_ ?_; rotate_left
    ·go_simp
     rfl
    refine hK.out _ _ ?_; clear hK K; refine done_ (done_of HT_.out (by kernel_rfl)) ?_; try go_wp2
    go_roundg k1
    case measure => have := HK1.out; omega
    case rel => exact ⟨(y117), (wrap64 (x13_1 + 1)), (by first | rfl | (simp; done) | (simp [*]; done)), H', ⟨by have := HK1.out; omega⟩, ⟨by (with_reducible repeat (first | apply Kd.R_alloc | apply Kd.R_drewN | apply Kd.R_drew)); exact HQ20.out⟩, ⟨by repeat (first | (with_reducible first | exact HB.out | apply below_alloc | apply pw_below_drewN | apply below_drew1 | refine below_set ?_ GB17.out) | exact HB.out)⟩⟩
   ·rw [if_neg c7] at H; have c7b0 : decide (x13_1 < (a0.size : Int)) = false := decide_eq_false c7; clear c7; obtain rfl := Option.some.inj H; go_wp2; go_ret
    exact ⟨_, by first | rfl | (simp [errW_none, errW_some] <;> rfl) | (simp only [← hji2]; first | rfl | (simp [errW_none, errW_some] <;> rfl)) | (simp [*, errW_none, errW_some] <;> rfl), by (with_reducible repeat (first | apply Kd.R_alloc | apply Kd.R_drewN | apply Kd.R_drew)); exact HO_3.out, by repeat (first | (with_reducible first | exact HB.out | apply below_alloc | apply pw_below_drewN | apply below_drew1) | exact HB.out)⟩
-- NOT PRINTED: function 24 (rec_widths)

set_option maxHeartbeats 3200000 in
set_option maxRecDepth 100000 in
theorem rec_widths_walk (w : World) : Calls Try.prog 24 #[] w fun e w' => e = .returned (.agg #[.int .i64 2, .int .i64 8, .int .i64 5, .int .i64 6, .int .i64 4, .int .i64 8]) ∧ Below w.heap.size w w' := by
 have hu := Try.underlying53; have HB := Below.refl w.heap.size w; go_enter Try.func24, Try.ntmps24
 go_wp2_with (first
  | ((with_reducible refine gate_dst (N := 0) rfl ?_); (with_reducible refine gate_ (.alloc 53) rfl ?_); refine box_event (N := 0) rfl rfl (cs := #[.int .i64 0, .int .i64 0, .int .i64 0, .int .i64 0, .int .i64 0, .int .i64 0]) (t := 53) (by first | (go_simp; done) | (go_simp; rfl)) ?_; intro go hg_ wo_ hbo hbl_; have HGo : w.heap.size ≤ go := (by rw [hg_]; exact Nat.le_trans (by first | exact Nat.le_refl _ | exact HB.size) (Nat.le_refl _)); replace HB := below_step (blw HB) hbl_; clear hg_ hbl_; have hqo_0 : wo_.cell? ⟨go, 0, none⟩ = some (.int .i64 0) := (blk_cell hbo 0).trans rfl; have hqo_1 : wo_.cell? ⟨go, 1, none⟩ = some (.int .i64 0) := (blk_cell hbo 1).trans rfl; have hqo_2 : wo_.cell? ⟨go, 2, none⟩ = some (.int .i64 0) := (blk_cell hbo 2).trans rfl; have hqo_3 : wo_.cell? ⟨go, 3, none⟩ = some (.int .i64 0) := (blk_cell hbo 3).trans rfl; have hqo_4 : wo_.cell? ⟨go, 4, none⟩ = some (.int .i64 0) := (blk_cell hbo 4).trans rfl; have hqo_5 : wo_.cell? ⟨go, 5, none⟩ = some (.int .i64 0) := (blk_cell hbo 5).trans rfl)
  | ((with_reducible refine gate_ (.store 53 (.tmp 0) (.tmp 1)) rfl ?_); refine blk_store_all (w0 := w) (base := w.heap.size) (u := .agg #[.int .i64 2, .int .i64 8, .int .i64 5, .int .i64 6, .int .i64 4, .int .i64 8]) (seg := [.int .i64 2, .int .i64 8, .int .i64 5, .int .i64 6, .int .i64 4, .int .i64 8]) rfl rfl rfl rfl rfl rfl ?h1_ ?ht_ (by exact hbo) (by rfl) (blw HB) HGo ?_; (case ht_ => kernel_rfl); (case h1_ => intro q_ hq_; simp only [List.mem_cons, List.not_mem_nil, or_false] at hq_; rcases hq_ with rfl | rfl | rfl | rfl | rfl | rfl <;> rfl); intro wo_2 hb2_ HB2_ hgr_; clear hqo_0 hqo_1 hqo_2 hqo_3 hqo_4 hqo_5; replace hbo := hb2_; replace HB := HB2_; clear hb2_ HB2_ hgr_; have hqo_0 : wo_2.cell? ⟨go, 0, none⟩ = some (.int .i64 2) := (blk_cell hbo 0).trans rfl; have hqo_1 : wo_2.cell? ⟨go, 1, none⟩ = some (.int .i64 8) := (blk_cell hbo 1).trans rfl; have hqo_2 : wo_2.cell? ⟨go, 2, none⟩ = some (.int .i64 5) := (blk_cell hbo 2).trans rfl; have hqo_3 : wo_2.cell? ⟨go, 3, none⟩ = some (.int .i64 6) := (blk_cell hbo 3).trans rfl; have hqo_4 : wo_2.cell? ⟨go, 4, none⟩ = some (.int .i64 4) := (blk_cell hbo 4).trans rfl; have hqo_5 : wo_2.cell? ⟨go, 5, none⟩ = some (.int .i64 8) := (blk_cell hbo 5).trans rfl))
 refine bodyPost_ret (v := .agg #[.int .i64 2, .int .i64 8, .int .i64 5, .int .i64 6, .int .i64 4, .int .i64 8]) (by simp [results, Try.results24, go_sem, hqo_0, hqo_1, hqo_2, hqo_3, hqo_4, hqo_5]) rfl ?_; exact ⟨rfl, HB⟩
theorem and_7_i64 (n : Nat) (hn : n ≤ 9223372036854775807) : Go.bits .and .i64 (n : Int) 7 = ((n % 8 : Nat) : Int) := by
 show IntKind.i64.wrap ((BitVec.ofInt 64 (n : Int) &&& BitVec.ofInt 64 7).toNat : Int) = _
 rw [BitVec.ofInt_natCast, show BitVec.ofInt 64 7 = BitVec.ofNat 64 7 from rfl, BitVec.toNat_and, BitVec.toNat_ofNat, BitVec.toNat_ofNat, Nat.mod_eq_of_lt (show n < 2 ^ 64 by omega), show (7 : Nat) % 2 ^ 64 = 2 ^ 3 - 1 from rfl, Nat.and_two_pow_sub_one_eq_mod]; rw [IntKind.wrap_i64]; omega
/-- The lengths of texts, six bits each, in two words. -/
def lenBits (i n : Int) : Int := IntKind.u64.wrap (IntKind.u64.wrap n * 2 ^ min (wrap64 (Go.bits .and .i64 i 7 * 6)).toNat 64)
def lensAt (l : List ByteArray) : Nat → Int × Int
 | 0 => (0, 0)
 | k + 1 => if k < 8 then (Go.bits .or .u64 (lensAt l k).1 (lenBits k (rdOf ByteArray.empty l k).size), (lensAt l k).2) else ((lensAt l k).1, Go.bits .or .u64 (lensAt l k).2 (lenBits k (rdOf ByteArray.empty l k).size))
set_option maxHeartbeats 3200000 in
set_option maxRecDepth 100000 in
theorem rec_lengths_walk (A : Option Addr) (c : Nat) (l : List ByteArray) (w : World) (hr : Kd.C Kd.string w A l.length l) (hl : l.length ≤ 16) :
  Calls Try.prog 25 #[.slice A l.length c] w fun e w' => e = .returned (.agg #[.int .u64 (lensAt l l.length).1, .int .u64 (lensAt l l.length).2]) ∧ Below w.heap.size w w' := by
 have hu := Try.underlying55; have HB := Below.refl w.heap.size w; have HR := aA hr; clear hr; go_enter Try.func25, Try.ntmps25
 go_wp2_with (first
  | ((with_reducible refine gate_dst (N := 2) rfl ?_); (with_reducible refine gate_ (.alloc 55) rfl ?_); refine box_event (N := 2) rfl rfl (cs := #[.int .u64 0, .int .u64 0]) (t := 55) (by first | (go_simp; done) | (go_simp; rfl)) ?_; intro go hg_ wo_ hbo hbl_; have HGo : w.heap.size ≤ go := (by rw [hg_]; exact Nat.le_trans (by first | exact Nat.le_refl _ | exact HB.size) (Nat.le_refl _)); replace HB := below_step (blw HB) hbl_; clear hg_ hbl_; have hqo_0 : wo_.cell? ⟨go, 0, none⟩ = some (.int .u64 0) := (blk_cell hbo 0).trans rfl; have hqo_1 : wo_.cell? ⟨go, 1, none⟩ = some (.int .u64 0) := (blk_cell hbo 1).trans rfl))
 clear hqo_0 hqo_1; go_loopw [7] (fun v wr => ∃ (k : Nat) (p q : Int), k ≤ l.length ∧ v = .int .i64 k ∧ lensAt l k = (p, q) ∧ wr.heap[go]? = some (.cells #[.int .u64 p, .int .u64 q] 55 (0, 0)) ∧ Below w.heap.size w wr) (fun v _ => l.length - (intOf v).toNat)
 case atStart => exact ⟨0, 0, 0, Nat.zero_le _, rfl, rfl, hbo, HB⟩
 case round =>
  clear hbo HB; obtain ⟨k, p, q, hk, rfl, hpq, hbo, HB⟩ := hrel; have HPQ := aA hpq; clear hpq; have hqo_0 : wr.cell? ⟨go, 0, none⟩ = some (.int .u64 p) := (blk_cell hbo 0).trans rfl; have hqo_1 : wr.cell? ⟨go, 1, none⟩ = some (.int .u64 q) := (blk_cell hbo 1).trans rfl; by_cases hlt : k < l.length
  ·obtain ⟨ad, rfl, hx⟩ := Kd.at_string HR.out (k : Int) (by omega) (by omega); replace hx := (HB.cell (World.block_lt_of_cell? w _ hx)).trans hx; rw [Int.toNat_natCast] at hx; obtain ⟨x, hxe⟩ : ∃ x, x = rdOf ByteArray.empty l k := ⟨_, rfl⟩; rw [← hxe] at hx; have Hx := aA hxe; clear hxe; have hlt' : (k : Int) < (l.length : Int) := by omega
   have hsh : 0 ≤ wrap64 (Go.bits .and .i64 (k : Int) 7 * 6) := (by rw [and_7_i64 k (by omega)]; have h_ := Nat.mod_lt k (show 8 > 0 by decide); generalize k % 8 = q_ at h_; (have h2_ : q_ = 0 ∨ q_ = 1 ∨ q_ = 2 ∨ q_ = 3 ∨ q_ = 4 ∨ q_ = 5 ∨ q_ = 6 ∨ q_ = 7 := by omega); rcases h2_ with rfl | rfl | rfl | rfl | rfl | rfl | rfl | rfl <;> decide +kernel); by_cases h8 : k < 8
   ·have hd8 : (k : Int) / 8 = 0 := by omega
    go_wp2; refine start_ (n := 14) (S := fun w' => w'.cell? ⟨go, 0, none⟩ = some (.int .u64 p) ∧ w'.cell? ⟨go, 1, none⟩ = some (.int .u64 q)) (ds := [13]) #[false, false, false, false, false, false, false, false, false, false, false, false, false, false] (by kernel_rfl) rfl rfl ⟨(blk_cell (blk_drew hbo) 0).trans rfl, (blk_cell (blk_drew hbo) 1).trans rfl⟩ (fun hHeld => ?_); replace hbo := blk_drew hbo; have HB1 := below_drew1 HB; clear HB hqo_0 hqo_1 hx; generalize wr.drew = wd at hbo HB1 hHeld ⊢; refine pure_ (i := 0) (N := some 12) (v := ?_) (a' := ?_) #[true, false, false, false, false, false, false, false, false, false, false, false, false, false] rfl rfl (by kernel_rfl) (fun _ _ _ h => h) (Or.inl ⟨by rfl, ?_⟩) ?_ ?_; rotate_left
    ·intro w'
     go_simp
     with_reducible rfl
    rotate_left
    ·simp only [Act.put, List.setIfInBounds_toArray, List.set_cons_zero, List.set_cons_succ, i64_w, i32_w]; rfl
    refine pure_ (i := 1) (N := some 13) (v := ?_) (a' := ?_) #[true, true, false, false, false, false, false, false, false, false, false, false, false, false] rfl rfl (by kernel_rfl) (fun _ _ _ h => h) (Or.inl ⟨by rfl, ?_⟩) ?_ ?_; rotate_left
    ·intro w'
     go_simp
     with_reducible rfl
    rotate_left
    ·simp only [Act.put, List.setIfInBounds_toArray, List.set_cons_zero, List.set_cons_succ, i64_w, i32_w]; rfl
    refine pure_ (i := 2) (N := some 14) (v := ?_) (a' := ?_) #[true, true, true, false, false, false, false, false, false, false, false, false, false, false] rfl rfl (by kernel_rfl) (fun _ _ _ h => h) (Or.inl ⟨by rfl, ?_⟩) ?_ ?_; rotate_left
    ·intro w'
     go_simp
     with_reducible rfl
    rotate_left
    ·simp only [Act.put, List.setIfInBounds_toArray, List.set_cons_zero, List.set_cons_succ, i64_w, i32_w]; rfl
    refine take_ (i := 3) (N := some 15) (v := ?_) (a' := ?_) #[true, true, true, true, false, false, false, false, false, false, false, false, false, false] rfl rfl (by kernel_rfl) (fun _ _ _ h => h) (Or.inl ⟨by rfl, ?_⟩) hHeld ?_ ?_; rotate_left
    ·rintro w' ⟨s0, s1⟩
     go_simp
     with_reducible rfl
    rotate_left
    ·simp only [Act.put, List.setIfInBounds_toArray, List.set_cons_zero, List.set_cons_succ, i64_w, i32_w]; rfl
    refine pure_ (i := 4) (N := some 16) (v := ?_) (a' := ?_) #[true, true, true, true, true, false, false, false, false, false, false, false, false, false] rfl rfl (by kernel_rfl) (fun _ _ _ h => h) (Or.inl ⟨by rfl, ?_⟩) ?_ ?_; rotate_left
    ·intro w'
     go_simp
     with_reducible rfl
    rotate_left
    ·simp only [Act.put, List.setIfInBounds_toArray, List.set_cons_zero, List.set_cons_succ, i64_w, i32_w]; rfl
    refine pure_ (i := 5) (N := some 17) (v := ?_) (a' := ?_) #[true, true, true, true, true, true, false, false, false, false, false, false, false, false] rfl rfl (by kernel_rfl) (fun _ _ _ h => h) (Or.inl ⟨by rfl, ?_⟩) ?_ ?_; rotate_left
    ·intro w'
     go_simp
     with_reducible rfl
    rotate_left
    ·simp only [Act.put, List.setIfInBounds_toArray, List.set_cons_zero, List.set_cons_succ, i64_w, i32_w]; rfl
    refine pure_ (i := 6) (N := some 18) (v := ?_) (a' := ?_) #[true, true, true, true, true, true, true, false, false, false, false, false, false, false] rfl rfl (by kernel_rfl) (fun _ _ _ h => h) (Or.inl ⟨by rfl, ?_⟩) ?_ ?_; rotate_left
    ·intro w'
     go_simp
     with_reducible rfl
    rotate_left
    ·simp only [Act.put, List.setIfInBounds_toArray, List.set_cons_zero, List.set_cons_succ, i64_w, i32_w]; rfl
    refine pure_ (i := 7) (N := some 19) (v := ?_) (a' := ?_) #[true, true, true, true, true, true, true, true, false, false, false, false, false, false] rfl rfl (by kernel_rfl) (fun _ _ _ h => h) (Or.inl ⟨by rfl, ?_⟩) ?_ ?_; rotate_left
    ·intro w'
     go_simp
     with_reducible rfl
    rotate_left
    ·simp only [Act.put, List.setIfInBounds_toArray, List.set_cons_zero, List.set_cons_succ, i64_w, i32_w]; rfl
    refine pure_ (i := 8) (N := some 20) (v := ?_) (a' := ?_) #[true, true, true, true, true, true, true, true, true, false, false, false, false, false] rfl rfl (by kernel_rfl) (fun _ _ _ h => h) (Or.inl ⟨by rfl, ?_⟩) ?_ ?_; rotate_left
    ·intro w'
     go_simp
     with_reducible rfl
    rotate_left
    ·simp only [Act.put, List.setIfInBounds_toArray, List.set_cons_zero, List.set_cons_succ, i64_w, i32_w]; rfl
    refine pure_ (i := 9) (N := some 21) (v := ?_) (a' := ?_) #[true, true, true, true, true, true, true, true, true, true, false, false, false, false] rfl rfl (by kernel_rfl) (fun _ _ _ h => h) (Or.inl ⟨by rfl, ?_⟩) ?_ ?_; rotate_left
    ·intro w'
     go_simp
     with_reducible rfl
    rotate_left
    ·simp only [Act.put, List.setIfInBounds_toArray, List.set_cons_zero, List.set_cons_succ, i64_w, i32_w]; rfl
    refine pure_ (i := 10) (N := some 22) (v := ?_) (a' := ?_) #[true, true, true, true, true, true, true, true, true, true, true, false, false, false] rfl rfl (by kernel_rfl) (fun _ _ _ h => h) (Or.inl ⟨by rfl, ?_⟩) ?_ ?_; rotate_left
    ·intro w'
     go_simp
     with_reducible rfl
    rotate_left
    ·simp only [Act.put, List.setIfInBounds_toArray, List.set_cons_zero, List.set_cons_succ, i64_w, i32_w]; rfl
    refine pure_ (i := 11) (N := some 23) (v := ?_) (a' := ?_) #[true, true, true, true, true, true, true, true, true, true, true, true, false, false] rfl rfl (by kernel_rfl) (fun _ _ _ h => h) (Or.inl ⟨by rfl, ?_⟩) ?_ ?_; rotate_left
    ·intro w'
     go_simp
     with_reducible rfl
    rotate_left
    ·simp only [Act.put, List.setIfInBounds_toArray, List.set_cons_zero, List.set_cons_succ, i64_w, i32_w]; rfl
    refine pure_ (i := 12) (N := some 24) (v := ?_) (a' := ?_) #[true, true, true, true, true, true, true, true, true, true, true, true, true, false] rfl rfl (by kernel_rfl) (fun _ _ _ h => h) (Or.inl ⟨by rfl, ?_⟩) ?_ ?_; rotate_left
    ·intro w'
     go_simp
     with_reducible rfl
    rotate_left
    ·simp only [Act.put, List.setIfInBounds_toArray, List.set_cons_zero, List.set_cons_succ, i64_w, i32_w]; rfl
    refine last_ (i := 13) (N := none) #[true, true, true, true, true, true, true, true, true, true, true, true, true, true] rfl rfl (by kernel_rfl) (by decide) (fun K hK => ?_); have hs_ := (blk_cell hbo 0).trans rfl; have hfs_ := blk_frozen hbo 0; refine skip_ (w1 := ?_) (by rfl) rfl ?_ ?_; rotate_left
    ·go_simp
     rfl
    clear hs_ hfs_; have hbn_ := blk_set hbo 0 (.int .u64 (Go.bits .or .u64 p (lenBits k x.size))); simp only [List.setIfInBounds_toArray, List.set_cons_zero, List.set_cons_succ] at hbn_; have HBn := below_set (j := 0) (v := .int .u64 (Go.bits .or .u64 p (lenBits k x.size))) HB1 HGo; refine hK.out _ _ ?_; rw [show IntKind.u64.wrap (IntKind.u64.wrap (x.size : Int) * 2 ^ min (wrap64 (Go.bits .and .i64 (k : Int) 7 * 6)).toNat 64) = lenBits k x.size from rfl]; clear hK K hbo HB1 hHeld; generalize wd.setCell ⟨go, 0, none⟩ (.int .u64 (Go.bits .or .u64 p (lenBits k x.size))) = wz at hbn_ HBn ⊢; refine done_ (by kernel_rfl) ?_; go_wp2; go_roundw
    case rel => exact ⟨k + 1, _, _, by omega, by go_num, (by unfold lensAt; rw [HPQ.out, ← Hx.out]; rw [if_pos h8]), hbn_, HBn⟩
    case measure => simp [intOf]; omega
   ·have hd8 : (k : Int) / 8 = 1 := by omega
    go_wp2; refine start_ (n := 14) (S := fun w' => w'.cell? ⟨go, 0, none⟩ = some (.int .u64 p) ∧ w'.cell? ⟨go, 1, none⟩ = some (.int .u64 q)) (ds := [13]) #[false, false, false, false, false, false, false, false, false, false, false, false, false, false] (by kernel_rfl) rfl rfl ⟨(blk_cell (blk_drew hbo) 0).trans rfl, (blk_cell (blk_drew hbo) 1).trans rfl⟩ (fun hHeld => ?_); replace hbo := blk_drew hbo; have HB1 := below_drew1 HB; clear HB hqo_0 hqo_1 hx; generalize wr.drew = wd at hbo HB1 hHeld ⊢; refine pure_ (i := 0) (N := some 12) (v := ?_) (a' := ?_) #[true, false, false, false, false, false, false, false, false, false, false, false, false, false] rfl rfl (by kernel_rfl) (fun _ _ _ h => h) (Or.inl ⟨by rfl, ?_⟩) ?_ ?_; rotate_left
    ·intro w'
     go_simp
     with_reducible rfl
    rotate_left
    ·simp only [Act.put, List.setIfInBounds_toArray, List.set_cons_zero, List.set_cons_succ, i64_w, i32_w]; rfl
    refine pure_ (i := 1) (N := some 13) (v := ?_) (a' := ?_) #[true, true, false, false, false, false, false, false, false, false, false, false, false, false] rfl rfl (by kernel_rfl) (fun _ _ _ h => h) (Or.inl ⟨by rfl, ?_⟩) ?_ ?_; rotate_left
    ·intro w'
     go_simp
     with_reducible rfl
    rotate_left
    ·simp only [Act.put, List.setIfInBounds_toArray, List.set_cons_zero, List.set_cons_succ, i64_w, i32_w]; rfl
    refine pure_ (i := 2) (N := some 14) (v := ?_) (a' := ?_) #[true, true, true, false, false, false, false, false, false, false, false, false, false, false] rfl rfl (by kernel_rfl) (fun _ _ _ h => h) (Or.inl ⟨by rfl, ?_⟩) ?_ ?_; rotate_left
    ·intro w'
     go_simp
     with_reducible rfl
    rotate_left
    ·simp only [Act.put, List.setIfInBounds_toArray, List.set_cons_zero, List.set_cons_succ, i64_w, i32_w]; rfl
    refine take_ (i := 3) (N := some 15) (v := ?_) (a' := ?_) #[true, true, true, true, false, false, false, false, false, false, false, false, false, false] rfl rfl (by kernel_rfl) (fun _ _ _ h => h) (Or.inl ⟨by rfl, ?_⟩) hHeld ?_ ?_; rotate_left
    ·rintro w' ⟨s0, s1⟩
     go_simp
     with_reducible rfl
    rotate_left
    ·simp only [Act.put, List.setIfInBounds_toArray, List.set_cons_zero, List.set_cons_succ, i64_w, i32_w]; rfl
    refine pure_ (i := 4) (N := some 16) (v := ?_) (a' := ?_) #[true, true, true, true, true, false, false, false, false, false, false, false, false, false] rfl rfl (by kernel_rfl) (fun _ _ _ h => h) (Or.inl ⟨by rfl, ?_⟩) ?_ ?_; rotate_left
    ·intro w'
     go_simp
     with_reducible rfl
    rotate_left
    ·simp only [Act.put, List.setIfInBounds_toArray, List.set_cons_zero, List.set_cons_succ, i64_w, i32_w]; rfl
    refine pure_ (i := 5) (N := some 17) (v := ?_) (a' := ?_) #[true, true, true, true, true, true, false, false, false, false, false, false, false, false] rfl rfl (by kernel_rfl) (fun _ _ _ h => h) (Or.inl ⟨by rfl, ?_⟩) ?_ ?_; rotate_left
    ·intro w'
     go_simp
     with_reducible rfl
    rotate_left
    ·simp only [Act.put, List.setIfInBounds_toArray, List.set_cons_zero, List.set_cons_succ, i64_w, i32_w]; rfl
    refine pure_ (i := 6) (N := some 18) (v := ?_) (a' := ?_) #[true, true, true, true, true, true, true, false, false, false, false, false, false, false] rfl rfl (by kernel_rfl) (fun _ _ _ h => h) (Or.inl ⟨by rfl, ?_⟩) ?_ ?_; rotate_left
    ·intro w'
     go_simp
     with_reducible rfl
    rotate_left
    ·simp only [Act.put, List.setIfInBounds_toArray, List.set_cons_zero, List.set_cons_succ, i64_w, i32_w]; rfl
    refine pure_ (i := 7) (N := some 19) (v := ?_) (a' := ?_) #[true, true, true, true, true, true, true, true, false, false, false, false, false, false] rfl rfl (by kernel_rfl) (fun _ _ _ h => h) (Or.inl ⟨by rfl, ?_⟩) ?_ ?_; rotate_left
    ·intro w'
     go_simp
     with_reducible rfl
    rotate_left
    ·simp only [Act.put, List.setIfInBounds_toArray, List.set_cons_zero, List.set_cons_succ, i64_w, i32_w]; rfl
    refine pure_ (i := 8) (N := some 20) (v := ?_) (a' := ?_) #[true, true, true, true, true, true, true, true, true, false, false, false, false, false] rfl rfl (by kernel_rfl) (fun _ _ _ h => h) (Or.inl ⟨by rfl, ?_⟩) ?_ ?_; rotate_left
    ·intro w'
     go_simp
     with_reducible rfl
    rotate_left
    ·simp only [Act.put, List.setIfInBounds_toArray, List.set_cons_zero, List.set_cons_succ, i64_w, i32_w]; rfl
    refine pure_ (i := 9) (N := some 21) (v := ?_) (a' := ?_) #[true, true, true, true, true, true, true, true, true, true, false, false, false, false] rfl rfl (by kernel_rfl) (fun _ _ _ h => h) (Or.inl ⟨by rfl, ?_⟩) ?_ ?_; rotate_left
    ·intro w'
     go_simp
     with_reducible rfl
    rotate_left
    ·simp only [Act.put, List.setIfInBounds_toArray, List.set_cons_zero, List.set_cons_succ, i64_w, i32_w]; rfl
    refine pure_ (i := 10) (N := some 22) (v := ?_) (a' := ?_) #[true, true, true, true, true, true, true, true, true, true, true, false, false, false] rfl rfl (by kernel_rfl) (fun _ _ _ h => h) (Or.inl ⟨by rfl, ?_⟩) ?_ ?_; rotate_left
    ·intro w'
     go_simp
     with_reducible rfl
    rotate_left
    ·simp only [Act.put, List.setIfInBounds_toArray, List.set_cons_zero, List.set_cons_succ, i64_w, i32_w]; rfl
    refine pure_ (i := 11) (N := some 23) (v := ?_) (a' := ?_) #[true, true, true, true, true, true, true, true, true, true, true, true, false, false] rfl rfl (by kernel_rfl) (fun _ _ _ h => h) (Or.inl ⟨by rfl, ?_⟩) ?_ ?_; rotate_left
    ·intro w'
     go_simp
     with_reducible rfl
    rotate_left
    ·simp only [Act.put, List.setIfInBounds_toArray, List.set_cons_zero, List.set_cons_succ, i64_w, i32_w]; rfl
    refine pure_ (i := 12) (N := some 24) (v := ?_) (a' := ?_) #[true, true, true, true, true, true, true, true, true, true, true, true, true, false] rfl rfl (by kernel_rfl) (fun _ _ _ h => h) (Or.inl ⟨by rfl, ?_⟩) ?_ ?_; rotate_left
    ·intro w'
     go_simp
     with_reducible rfl
    rotate_left
    ·simp only [Act.put, List.setIfInBounds_toArray, List.set_cons_zero, List.set_cons_succ, i64_w, i32_w]; rfl
    refine last_ (i := 13) (N := none) #[true, true, true, true, true, true, true, true, true, true, true, true, true, true] rfl rfl (by kernel_rfl) (by decide) (fun K hK => ?_); have hs_ := (blk_cell hbo 1).trans rfl; have hfs_ := blk_frozen hbo 1; refine skip_ (w1 := ?_) (by rfl) rfl ?_ ?_; rotate_left
    ·go_simp
     rfl
    clear hs_ hfs_; have hbn_ := blk_set hbo 1 (.int .u64 (Go.bits .or .u64 q (lenBits k x.size))); simp only [List.setIfInBounds_toArray, List.set_cons_zero, List.set_cons_succ] at hbn_; have HBn := below_set (j := 1) (v := .int .u64 (Go.bits .or .u64 q (lenBits k x.size))) HB1 HGo; refine hK.out _ _ ?_; rw [show IntKind.u64.wrap (IntKind.u64.wrap (x.size : Int) * 2 ^ min (wrap64 (Go.bits .and .i64 (k : Int) 7 * 6)).toNat 64) = lenBits k x.size from rfl]; clear hK K hbo HB1 hHeld; generalize wd.setCell ⟨go, 1, none⟩ (.int .u64 (Go.bits .or .u64 q (lenBits k x.size))) = wz at hbn_ HBn ⊢; refine done_ (by kernel_rfl) ?_; go_wp2; go_roundw
    case rel => exact ⟨k + 1, _, _, by omega, by go_num, (by unfold lensAt; rw [HPQ.out, ← Hx.out]; rw [if_neg h8]), hbn_, HBn⟩
    case measure => simp [intOf]; omega
  ·have hkl : k = l.length := by omega
   subst hkl; go_wp2_with (first
  | ((with_reducible refine gate_ (.store 55 (.tmp 2) (.tmp 26)) rfl ?_); refine blk_store_all (w0 := w) (base := w.heap.size) (u := .agg #[.int .u64 p, .int .u64 q]) (seg := [.int .u64 p, .int .u64 q]) rfl rfl rfl rfl rfl rfl ?h1_ ?ht_ (by exact hbo) (by rfl) (blw HB) HGo ?_; (case ht_ => kernel_rfl); (case h1_ => intro q_ hq_; simp only [List.mem_cons, List.not_mem_nil, or_false] at hq_; rcases hq_ with rfl | rfl <;> rfl); intro wo_1 hb2_ HB2_ hgr_; clear hqo_0 hqo_1; replace hbo := hb2_; replace HB := HB2_; clear hb2_ HB2_ hgr_; have hqo_0 : wo_1.cell? ⟨go, 0, none⟩ = some (.int .u64 p) := (blk_cell hbo 0).trans rfl; have hqo_1 : wo_1.cell? ⟨go, 1, none⟩ = some (.int .u64 q) := (blk_cell hbo 1).trans rfl))
   refine bodyPost_ret (v := .agg #[.int .u64 p, .int .u64 q]) (by simp [results, Try.results25, go_sem, hqo_0, hqo_1]) rfl ?_; rw [HPQ.out]; exact ⟨rfl, HB⟩

-- NOT PRINTED: function 37 (slices_Grow_string_string)

set_option maxHeartbeats 3200000 in
set_option maxRecDepth 100000 in
theorem rec_grow_walk (n : Nat) (hn : n * 16 ≤ 140737488355328) (w : World) :
  Calls Try.prog 37 #[.slice none 0 0, .int .i64 n] w fun e w' => ∃ v1 : Value, e = .returned v1 ∧ Kd.R Kd.string 9 w' w.heap.size (fun _ => True) v1 [] ∧ Below w.heap.size w w' := by
 have HB := Below.refl w.heap.size w; obtain ⟨i0_, hi0_, _, hsz0_, _⟩ := info_parts (show (Try.prog.info? 9).map (fun i => (i.zero, i.size, i.bytes)) = some (some (.string ⟨#[]⟩), 1, 16) from by kernel_rfl); have hcut1 := cut_to (P := Try.prog) 22 9 .i64 Try.underlying22 hi0_ none 0 0 0 (by omega) (by omega) (by omega); have hn0 : ¬ (n : Int) < 0 := by omega
 rcases Nat.eq_zero_or_pos n with h0 | hp
 ·subst h0; go_enter Try.func37, Try.ntmps37; go_wp2; go_ret
  exact ⟨_, rfl, Kd.R_nil _ _ _ _ _, HB⟩
 ·have hp' : (0 : Int) < (n : Int) := by omega
  go_enter Try.func37, Try.ntmps37; go_wp2_with ((with_reducible refine gate_dst (N := 22) rfl ?_); refine Kd.R_append_zeros Kd.string (w0 := w) w.heap.size rfl (.tmp 20) (.tmp 21) 22 3 9 (.string ⟨#[]⟩) 16 rfl Try.underlying22 Try.underlying3 (by kernel_rfl) rfl (by decide) (by omega) (.slice none 0 0) [] ⟨#[]⟩ (n : Int) (fun _ => True) rfl rfl rfl (fun _ _ => trivial) (Kd.R_nil _ _ _ _ _) (by omega) HB HB.size (by simp only [List.length_nil, Int.toNat_natCast]; omega) ?_; intro v1 w1 HR hb_ hg_ hat_; rw [List.nil_append, Int.toNat_natCast] at HR; obtain ⟨A1, c1, e_⟩ := Kd.R_slice HR; subst e_; rw [List.length_replicate] at HR; have hc1 := (Kd.R_reads' HR).2.1; have hcut2 := cut_to (P := Try.prog) 22 9 .i64 Try.underlying22 hi0_ A1 (List.replicate n (⟨#[]⟩ : ByteArray)).length c1 0 (by omega) (by omega) (by first | exact hc1 | (rw [List.length_replicate]; exact hc1)); replace HB := hb_; clear hb_ hg_ hat_)
  go_ret
  have h0_ := Kd.R_take (m := 0) HR (Nat.zero_le _); rw [List.take_zero] at h0_; exact ⟨_, rfl, h0_, HB⟩
set_option maxHeartbeats 3200000 in
set_option maxRecDepth 100000 in
theorem rec_concat_walk (gx : Nat) (X Y : Option Addr) (cx cy : Nat) (xs ys : List ByteArray) (w : World) (hbx : w.heap[gx]? = some (.cells #[.slice X xs.length cx, .slice Y ys.length cy] 22 (0, 0))) (hX : Kd.C Kd.string w X xs.length xs) (hY : Kd.C Kd.string w Y ys.length ys) (hl : (xs.length + ys.length) * 16 ≤ 140737488355328) :
  Calls Try.prog 26 #[.slice (some ⟨gx, 0, none⟩) 2 2] w fun e w' => ∃ v1 : Value, e = .returned v1 ∧ Kd.R Kd.string 9 w' w.heap.size (fun _ => True) v1 (xs ++ ys) ∧ Below w.heap.size w w' := by
 have HX := aA hX; have HY := aA hY; have HBX := aA hbx; have HL := aA hl; clear hX hY; have HB := Below.refl w.heap.size w; have hq0 : w.cell? ⟨gx, 0, none⟩ = some (.slice X xs.length cx) := (blk_cell hbx 0).trans rfl; have hq1 : w.cell? ⟨gx, 1, none⟩ = some (.slice Y ys.length cy) := (blk_cell hbx 1).trans rfl; have hlt := blk_lt hbx; clear hbx; go_enter Try.func26, Try.ntmps26; go_wp2; go_loopw [11, 3] (fun i s wr => w = wr ∧ ((i = .int .i64 0 ∧ s = .int .i64 0) ∨ (i = .int .i64 1 ∧ s = .int .i64 xs.length) ∨ (i = .int .i64 2 ∧ s = .int .i64 ((xs.length + ys.length : Nat) : Int)))) (fun i _ _ => 2 - (intOf i).toNat)
 case atStart => exact ⟨rfl, .inl ⟨rfl, rfl⟩⟩
 case round =>
  obtain ⟨hwr, hrel⟩ := hrel; subst hwr; have hl2 := HL.out; have w1_ : wrap64 ((xs.length : Int) + (ys.length : Int)) = ((xs.length + ys.length : Nat) : Int) := by unfold wrap64; omega
  have n1_ : ¬ ((xs.length + ys.length : Nat) : Int) < 0 := by omega
  have W1 := aA w1_; clear w1_ hl2; rcases hrel with ⟨rfl, rfl⟩ | ⟨rfl, rfl⟩ | ⟨rfl, rfl⟩
  ·go_wp2; go_roundw
   case rel => exact ⟨(by first | rfl | trivial), .inr (.inl ⟨by go_num, by first | rfl | (congr 1; omega)⟩)⟩
   case measure => simp [intOf]
  ·have w1_ := W1.out; go_wp2; go_roundw
   case rel => exact ⟨(by first | rfl | trivial), .inr (.inr ⟨by go_num, by first | rfl | (congr 1; omega)⟩)⟩
   case measure => simp [intOf]
  ·go_wp2_with (go_at_call 37; refine (rec_grow_walk (xs.length + ys.length) HL.out _).mono ?_; rintro e wg ⟨v0, rfl, HR, hb_⟩; replace HB := below_step HB hb_; clear hb_)
   go_loopw [27, 6] (fun i s wr => ∃ zs : List ByteArray, Kd.R Kd.string 9 wr w.heap.size (fun _ => True) s zs ∧ Below w.heap.size w wr ∧ ((i = .int .i64 0 ∧ zs = []) ∨ (i = .int .i64 1 ∧ zs = xs) ∨ (i = .int .i64 2 ∧ zs = xs ++ ys))) (fun i _ _ => 2 - (intOf i).toNat)
   case atStart => exact ⟨[], Kd.R_lower HR (Nat.le_refl _), HB, .inl ⟨rfl, rfl⟩⟩
   case round =>
    clear HR HB; obtain ⟨zs, HR, HB, hrel⟩ := hrel; have hq0_ := (HB.cell (p := ⟨gx, 0, none⟩) hlt).trans hq0; have hq1_ := (HB.cell (p := ⟨gx, 1, none⟩) hlt).trans hq1; rcases hrel with ⟨rfl, rfl⟩ | ⟨rfl, rfl⟩ | ⟨rfl, rfl⟩
    ·go_wp2_with ((with_reducible refine gate_dst (N := 33) rfl ?_); refine Kd.R_append_rows Kd.string (w0 := w) w.heap.size rfl (.tmp 31) (.tmp 32) 22 9 (.string ⟨#[]⟩) 16 rfl Try.underlying22 (by kernel_rfl) rfl (by decide) (by omega) _ [] xs _ _ _ (fun _ => True) (fun _ => False) rfl rfl HR (Kd.C_below HX.out HB) (fun _ _ h => h) (fun _ h => h.elim) (fun _ _ => trivial) HB HB.size (by have h_ := HL.out; (try simp only [List.length_nil]); omega) ?_; intro v1 w1 HR1 hb_ hg_ hat_; clear hq0_ hq1_ HR HB hg_ hat_; have HR := HR1; have HB := hb_; clear HR1 hb_)
     rw [List.nil_append] at HR; go_roundw
     case rel => exact ⟨_, HR, HB, .inr (.inl ⟨by go_num, rfl⟩)⟩
     case measure => simp [intOf]
    ·go_wp2_with ((with_reducible refine gate_dst (N := 33) rfl ?_); refine Kd.R_append_rows Kd.string (w0 := w) w.heap.size rfl (.tmp 31) (.tmp 32) 22 9 (.string ⟨#[]⟩) 16 rfl Try.underlying22 (by kernel_rfl) rfl (by decide) (by omega) _ zs ys _ _ _ (fun _ => True) (fun _ => False) rfl rfl HR (Kd.C_below HY.out HB) (fun _ _ h => h) (fun _ h => h.elim) (fun _ _ => trivial) HB HB.size (by have h_ := HL.out; (try simp only [List.length_nil]); omega) ?_; intro v1 w1 HR1 hb_ hg_ hat_; clear hq0_ hq1_ HR HB hg_ hat_; have HR := HR1; have HB := hb_; clear HR1 hb_)
     go_roundw
     case rel => exact ⟨_, HR, HB, .inr (.inr ⟨by go_num, rfl⟩)⟩
     case measure => simp [intOf]
    ·go_wp2; go_ret
     exact ⟨_, rfl, HR, HB⟩

end Go.Proofs.Ytdjkadfgmhmhcaa.PT
