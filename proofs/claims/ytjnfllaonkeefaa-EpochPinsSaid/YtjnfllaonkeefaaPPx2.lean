-- Written by wip/hprint/hprint.py (a program of this session, over the print): not typed by hand
import Derived.Test.YtjnfllaonkeefaaPPx0
import Derived.Test.YtjnfllaonkeefaaPPx1
namespace Go.Proofs.Ytjnfllaonkeefaa.PP
open Go.RowKit Go.Proofs.YtjnfllaonkeefaaW.PrintWords Go.Proofs.YtjnfllaonkeefaaW.PrintLast Go.Proofs.YtjnfllaonkeefaaW.PrintMore
attribute [local go_sem] max2_int min2_int max_two min_two max_three min_three max_four min_four   -- for this text's walks alone
open Go.Proofs.YtjnfllaonkeefaaH
set_option linter.unusedVariables false
set_option linter.unusedSimpArgs false

/-! ### epoch_Advance: function 10 -/
def epoch_Advance.l0 : Nat → Int → Int → List Int → List (S64) → List Int → List Int → Option (Int × List Int × (List (S64)) × List Int × List Int × Bool)
 | 0, _, _, _, _, _, _ => none
 | k + 1, x6, x102000, x102001, x102002, x105000, x105001 => if x6 < (x102002.length : Int) then (if 0 ≤ x6 then (if (IntKind.u64.wrap (x102000 - ((rd_T64 x102002 x6).f0))) ≥ 2 then (if x105000.length + ((rd_T64 x102002 x6).f1.f0).length < 17592186044416 then (if x105001.length + ((rd_T64 x102002 x6).f1.f1).length < 17592186044416 then (epoch_Advance.l0 k (wrap64 (x6 + 1)) x102000 x102001 x102002 (x105000 ++ ((rd_T64 x102002 x6).f1.f0)) (x105001 ++ ((rd_T64 x102002 x6).f1.f1))) else (none)) else (none)) else (if x6 ≤ (x102002.length : Int) then (some (x102000, x102001, (x102002.drop (x6 : Int).toNat), x105000, x105001, true)) else (none))) else (none)) else (if 0 ≤ x6 then (if x6 ≤ (x102002.length : Int) then (some (x102000, x102001, (x102002.drop (x6 : Int).toNat), x105000, x105001, true)) else (none)) else (none))
def epoch_Advance.f (k : Nat) (a0_0 : Int) (l0_1 : List Int) (l0_2 : List (S64)) : Option (Int × List Int × (List (S64)) × List Int × List Int × Bool) := (epoch_May.f a0_0 l0_1 l0_2).bind fun t105 => (if t105 = true then (epoch_Advance.l0 k 0 (IntKind.u64.wrap (a0_0 + 1)) l0_1 l0_2 ([] : List Int) ([] : List Int)) else (some (a0_0, l0_1, l0_2, ([] : List Int), ([] : List Int), false)))
theorem epoch_Advance.mono_l : ∀ k, (∀ y0 y1 y2 y3 y4 y5, LeO (epoch_Advance.l0 k y0 y1 y2 y3 y4 y5) (epoch_Advance.l0 (k + 1) y0 y1 y2 y3 y4 y5))
 | 0 => fun _ _ _ _ _ _ r h => by simp [epoch_Advance.l0] at h
 | k + 1 => by
  have ih0 := epoch_Advance.mono_l k
  ·intro y0 y1 y2 y3 y4 y5
   unfold epoch_Advance.l0
   repeat' first
   | (with_reducible exact ih0 _ _ _ _ _ _)
   | (with_reducible exact LeO.refl _)
   | (with_reducible exact LeO.none _)
   | (with_reducible refine LeO.ite ?_ ?_)
   | (with_reducible refine LeO.bind ?_ (fun _ => ?_))
   | exact ih0 _ _ _ _ _ _
   | exact LeO.none _
   | refine LeO.ite ?_ ?_
   | refine LeO.bind ?_ (fun _ => ?_)
theorem epoch_Advance.mono : ∀ a0 a1 a2 k, LeO (epoch_Advance.f k a0 a1 a2) (epoch_Advance.f (k + 1) a0 a1 a2) := by
 intro a0 a1 a2 k
 have ih0 := epoch_Advance.mono_l k
 unfold epoch_Advance.f
 repeat' first
   | (with_reducible exact ih0 _ _ _ _ _ _)
   | (with_reducible exact LeO.refl _)
   | (with_reducible exact LeO.none _)
   | (with_reducible refine LeO.ite ?_ ?_)
   | (with_reducible refine LeO.bind ?_ (fun _ => ?_))
   | exact ih0 _ _ _ _ _ _
   | exact LeO.none _
   | refine LeO.ite ?_ ?_
   | refine LeO.bind ?_ (fun _ => ?_)
def epoch_Advance.T6 : Bool × List (List Nat × List Nat) := (true, [([], []), ([], []), ([1], [1]), ([2], [2]), ([0, 3], [0, 3]), ([4], [4]), ([5], [5]), ([6, 5], [5, 6]), ([5], [5]), ([8, 5], [5, 8]), ([5], [5]), ([9, 10, 5], [5, 9, 10]), ([11, 5], [5, 11]), ([12, 5], [5, 12]), ([7, 13, 5], [5, 7, 13]), ([14, 5], [5, 14]), ([5, 15], [5, 15])])
def epoch_Advance.B6 : List Nat := [0, 0, 2, 6, 15, 31, 63, 127, 63, 319, 63, 1855, 3903, 7999, 16383, 32767, 65535]
theorem epoch_Advance.tab6 : rtab .any (opsOf Try.f10 6) = epoch_Advance.T6 := by kernel_rfl
theorem epoch_Advance.bits6 : waitsOk epoch_Advance.T6.2 epoch_Advance.B6 = true := by kernel_rfl
def epoch_Advance.T7 : Bool × List (List Nat × List Nat) := (true, [([], []), ([0], [0]), ([], []), ([2], [2]), ([], []), ([3, 4], [3, 4]), ([5], [5]), ([6], [6]), ([7], [7]), ([1, 8], [1, 8]), ([0, 1, 2, 3, 4, 5, 6, 7, 8, 9], []), ([10, 9, 9, 0, 1, 2, 3, 4, 5, 6, 7, 8, 9], [9, 10])])
def epoch_Advance.B7 : List Nat := [0, 1, 0, 4, 0, 28, 60, 124, 252, 511, 1023, 2047]
theorem epoch_Advance.tab7 : rtab .any (opsOf Try.f10 7) = epoch_Advance.T7 := by kernel_rfl
theorem epoch_Advance.bits7 : waitsOk epoch_Advance.T7.2 epoch_Advance.B7 = true := by kernel_rfl
def epoch_Advance.T8 : Bool × List (List Nat × List Nat) := (true, [([], []), ([0], [0]), ([], []), ([2], [2]), ([], []), ([3, 4], [3, 4]), ([5], [5]), ([6], [6]), ([7], [7]), ([1, 8], [1, 8]), ([0, 1, 2, 3, 4, 5, 6, 7, 8, 9], []), ([10, 9, 9, 0, 1, 2, 3, 4, 5, 6, 7, 8, 9], [9, 10])])
def epoch_Advance.B8 : List Nat := [0, 1, 0, 4, 0, 28, 60, 124, 252, 511, 1023, 2047]
theorem epoch_Advance.tab8 : rtab .any (opsOf Try.f10 8) = epoch_Advance.T8 := by kernel_rfl
theorem epoch_Advance.bits8 : waitsOk epoch_Advance.T8.2 epoch_Advance.B8 = true := by kernel_rfl
set_option maxHeartbeats 8000000 in
set_option maxRecDepth 100000 in
theorem epoch_Advance.calls (k : Nat) (a0_0 : Int) (P0_1_ : Nat → Prop) (A0_1 : Option Addr) (c0_1 : Nat) (l0_1 : List Int) (P0_2_ : Nat → Prop) (A0_2 : Option Addr) (c0_2 : Nat) (l0_2 : List (S64)) (r1 : Int) (r2 : List Int) (r3 : List (S64)) (r4 : List Int) (r5 : List Int) (r6 : Bool) (w : World) (hs0_1 : Kd.V (Kd.int .u64) 22 w w.heap.size (fun k_ => P0_1_ k_) (.slice A0_1 l0_1.length c0_1) l0_1) (hs0_2 : Kd.V k64 64 w w.heap.size (fun k_ => P0_2_ k_) (.slice A0_2 l0_2.length c0_2) l0_2) (h : epoch_Advance.f k a0_0 l0_1 l0_2 = some (r1, r2, r3, r4, r5, r6)) :
  Calls Try.prog 10 #[.agg #[.int .u64 a0_0, .slice A0_1 l0_1.length c0_1, .slice A0_2 l0_2.length c0_2]] w fun e w' => ∃ v1_ v2_ v3_ v4_ : Value, e = .returned (.tuple #[.agg #[.int .u64 r1, v1_, v2_], .agg #[v3_, v4_], .bool r6]) ∧ Kd.V (Kd.int .u64) 22 w' w.heap.size (fun k_ => ((P0_1_ k_ ∨ P0_2_ k_) ∨ w.heap.size ≤ k_) ∧ some k_ ≠ (v3_ : Value).ownBlock ∧ some k_ ≠ (v4_ : Value).ownBlock) v1_ r2 ∧ Kd.V k64 64 w' w.heap.size (fun k_ => ((P0_1_ k_ ∨ P0_2_ k_) ∨ w.heap.size ≤ k_) ∧ some k_ ≠ (v3_ : Value).ownBlock ∧ some k_ ≠ (v4_ : Value).ownBlock) v2_ r3 ∧ Kd.R (Kd.int .u64) 22 w' w.heap.size (fun k_ => (w.heap.size ≤ k_) ∧ some k_ ≠ (v4_ : Value).ownBlock) v3_ r4 ∧ Kd.R (Kd.int .u64) 22 w' w.heap.size (fun k_ => (w.heap.size ≤ k_) ∧ some k_ ≠ (v3_ : Value).ownBlock) v4_ r5 ∧ Below w.heap.size w w' := by
 have hu26 := Try.underlying26
 have hu30 := Try.underlying30
 have HO0_1 := aA (show Kd.V (Kd.int .u64) 22 w w.heap.size (fun k_ => ((P0_1_ k_ ∨ P0_2_ k_) ∨ w.heap.size ≤ k_)) (.slice A0_1 l0_1.length c0_1) l0_1 from Kd.V_mono hs0_1 (fun k_ hk => .inl (.inl hk)))
 have HO0_2 := aA (show Kd.V k64 64 w w.heap.size (fun k_ => ((P0_1_ k_ ∨ P0_2_ k_) ∨ w.heap.size ≤ k_)) (.slice A0_2 l0_2.length c0_2) l0_2 from Kd.V_mono hs0_2 (fun k_ hk => .inl (.inr hk)))
 have HB := aA (Below.refl w.heap.size w)
 have H : ((epoch_May.f a0_0 l0_1 l0_2).bind fun t105 => (if t105 = true then (epoch_Advance.l0 k 0 (IntKind.u64.wrap (a0_0 + 1)) l0_1 l0_2 ([] : List Int) ([] : List Int)) else (some (a0_0, l0_1, l0_2, ([] : List Int), ([] : List Int), false)))) = some (r1, r2, r3, r4, r5, r6) := h
 clear h
 replace H := Option.bind_eq_some_iff.mp H
 obtain ⟨t105, A20, H⟩ := H
 replace H : (if t105 = true then (epoch_Advance.l0 k 0 (IntKind.u64.wrap (a0_0 + 1)) l0_1 l0_2 ([] : List Int) ([] : List Int)) else (some (a0_0, l0_1, l0_2, ([] : List Int), ([] : List Int), false))) = some (r1, r2, r3, r4, r5, r6) := H
 have A2 := aA A20
 clear A20
 by_cases c3 : t105 = true
 ·subst c3
  have H1 : (epoch_Advance.l0 k 0 (IntKind.u64.wrap (a0_0 + 1)) l0_1 l0_2 ([] : List Int) ([] : List Int)) = some (r1, r2, r3, r4, r5, r6) := by rw [if_pos rfl] at H; exact H
  clear H
  have H := H1
  clear H1
  have H' := aA H
  clear H
  go_enter Try.func10, Try.ntmps10
  go_wp2_with (first | ((with_reducible refine gate_dst (N := 1) rfl ?_); refine box_event ?hg (N := 1) ?hd (cs := #[.int .u64 a0_0, .slice A0_1 l0_1.length c0_1, .slice A0_2 l0_2.length c0_2]) (t := 26) ?hr ?_; (case hd => rfl); (case hg => rfl); (case hr => first | (go_simp; done) | (go_simp; rfl)); intro gb101 hg w4 hbox hb; have n0_ := aA (Kd.V_below (Kd.V_elderB (vlu HO0_1.out) gb101 (Nat.le_of_eq hg.symm)) hb); have n1_ := aA (Kd.V_below (Kd.V_elderB (vlu HO0_2.out) gb101 (Nat.le_of_eq hg.symm)) hb); have n2_ := aA (below_step (blw HB.out) hb); have n3_ := aA (hbox); have n4_ := aA ((by rw [hg]; exact (below_size (blw HB.out)) : w.heap.size ≤ gb101)); have n5_ := aA ((by rw [hg]; exact (below_size (blw HB.out)) : w.heap.size ≤ gb101)); clear HO0_1 HO0_2 HB; have HO0_1 := n0_; have HO0_2 := n1_; have HB := n2_; have BK101 := n3_; have GW101 := n4_; have GE101 := n5_; clear n0_ n1_ n2_ n3_ n4_ n5_ hb hbox hg) | ((with_reducible refine gate_dst (N := 2) rfl ?_); refine box_event ?hg (N := 2) ?hd (cs := #[.int .u64 0, .slice none 0 0, .slice none 0 0]) (t := 26) ?hr ?_; (case hd => rfl); (case hg => rfl); (case hr => first | (go_simp; done) | (go_simp; rfl)); intro gb102 hg w5 hbox hb; have n0_ := aA (Kd.V_below (Kd.V_elderB (vlu HO0_1.out) gb102 (Nat.le_of_eq hg.symm)) hb); have n1_ := aA (Kd.V_below (Kd.V_elderB (vlu HO0_2.out) gb102 (Nat.le_of_eq hg.symm)) hb); have n2_ := aA (blk_below (g := gb101) (o := .cells #[.int .u64 a0_0, .slice A0_1 l0_1.length c0_1, .slice A0_2 l0_2.length c0_2] 26 (0, 0)) (bku BK101.out) hb); have n3_ := aA (below_step (bls HB.out) hb); have n4_ := aA (hbox); have n5_ := aA ((by rw [hg]; exact (below_size (bls HB.out)) : w.heap.size ≤ gb102)); have n6_ := aA ((by rw [hg]; exact (below_size (bls HB.out)) : w.heap.size ≤ gb102)); have n7_ := aA ((by rw [hg]; exact Nat.ne_of_lt (blk_lt (g := gb101) (o := .cells #[.int .u64 a0_0, .slice A0_1 l0_1.length c0_1, .slice A0_2 l0_2.length c0_2] 26 (0, 0)) (bku BK101.out)) : gb101 ≠ gb102)); have n8_ := aA ((by rw [hg]; exact Nat.ne_of_gt (blk_lt (g := gb101) (o := .cells #[.int .u64 a0_0, .slice A0_1 l0_1.length c0_1, .slice A0_2 l0_2.length c0_2] 26 (0, 0)) (bku BK101.out)) : gb102 ≠ gb101)); clear HO0_1 HO0_2 BK101 HB; have HO0_1 := n0_; have HO0_2 := n1_; have BK101 := n2_; have HB := n3_; have BK102 := n4_; have GW102 := n5_; have GE102 := n6_; have NB101_102 := n7_; have NB102_101 := n8_; clear n0_ n1_ n2_ n3_ n4_ n5_ n6_ n7_ n8_ hb hbox hg) | ((with_reducible refine gate_dst (N := 3) rfl ?_); refine box_event ?hg (N := 3) ?hd (cs := #[.slice none 0 0, .slice none 0 0]) (t := 30) ?hr ?_; (case hd => rfl); (case hg => rfl); (case hr => first | (go_simp; done) | (go_simp; rfl)); intro gb103 hg w6 hbox hb; have n0_ := aA (Kd.V_below (Kd.V_elderB (vlu HO0_1.out) gb103 (Nat.le_of_eq hg.symm)) hb); have n1_ := aA (Kd.V_below (Kd.V_elderB (vlu HO0_2.out) gb103 (Nat.le_of_eq hg.symm)) hb); have n2_ := aA (blk_below (g := gb101) (o := .cells #[.int .u64 a0_0, .slice A0_1 l0_1.length c0_1, .slice A0_2 l0_2.length c0_2] 26 (0, 0)) (bku BK101.out) hb); have n3_ := aA (blk_below (g := gb102) (o := .cells #[.int .u64 0, .slice none 0 0, .slice none 0 0] 26 (0, 0)) (bku BK102.out) hb); have n4_ := aA (below_step (bls HB.out) hb); have n5_ := aA (hbox); have n6_ := aA ((by rw [hg]; exact (below_size (bls HB.out)) : w.heap.size ≤ gb103)); have n7_ := aA ((by rw [hg]; exact (below_size (bls HB.out)) : w.heap.size ≤ gb103)); have n8_ := aA ((by rw [hg]; exact Nat.ne_of_lt (blk_lt (g := gb101) (o := .cells #[.int .u64 a0_0, .slice A0_1 l0_1.length c0_1, .slice A0_2 l0_2.length c0_2] 26 (0, 0)) (bku BK101.out)) : gb101 ≠ gb103)); have n9_ := aA ((by rw [hg]; exact Nat.ne_of_gt (blk_lt (g := gb101) (o := .cells #[.int .u64 a0_0, .slice A0_1 l0_1.length c0_1, .slice A0_2 l0_2.length c0_2] 26 (0, 0)) (bku BK101.out)) : gb103 ≠ gb101)); have n10_ := aA ((by rw [hg]; exact Nat.ne_of_lt (blk_lt (g := gb102) (o := .cells #[.int .u64 0, .slice none 0 0, .slice none 0 0] 26 (0, 0)) (bku BK102.out)) : gb102 ≠ gb103)); have n11_ := aA ((by rw [hg]; exact Nat.ne_of_gt (blk_lt (g := gb102) (o := .cells #[.int .u64 0, .slice none 0 0, .slice none 0 0] 26 (0, 0)) (bku BK102.out)) : gb103 ≠ gb102)); clear HO0_1 HO0_2 BK101 BK102 HB; have HO0_1 := n0_; have HO0_2 := n1_; have BK101 := n2_; have BK102 := n3_; have HB := n4_; have BK103 := n5_; have GW103 := n6_; have GE103 := n7_; have NB101_103 := n8_; have NB103_101 := n9_; have NB102_103 := n10_; have NB103_102 := n11_; clear n0_ n1_ n2_ n3_ n4_ n5_ n6_ n7_ n8_ n9_ n10_ n11_ hb hbox hg) | ((with_reducible refine gate_dst (N := 5) rfl ?_); refine box_event ?hg (N := 5) ?hd (cs := #[.slice none 0 0, .slice none 0 0]) (t := 30) ?hr ?_; (case hd => rfl); (case hg => rfl); (case hr => first | (go_simp; done) | (go_simp; rfl)); intro gb104 hg w7 hbox hb; have n0_ := aA (Kd.V_below (Kd.V_elderB (vlu HO0_1.out) gb104 (Nat.le_of_eq hg.symm)) hb); have n1_ := aA (Kd.V_below (Kd.V_elderB (vlu HO0_2.out) gb104 (Nat.le_of_eq hg.symm)) hb); have n2_ := aA (blk_below (g := gb101) (o := .cells #[.int .u64 a0_0, .slice A0_1 l0_1.length c0_1, .slice A0_2 l0_2.length c0_2] 26 (0, 0)) (bku BK101.out) hb); have n3_ := aA (blk_below (g := gb102) (o := .cells #[.int .u64 0, .slice none 0 0, .slice none 0 0] 26 (0, 0)) (bku BK102.out) hb); have n4_ := aA (blk_below (g := gb103) (o := .cells #[.slice none 0 0, .slice none 0 0] 30 (0, 0)) (bku BK103.out) hb); have n5_ := aA (below_step (bls HB.out) hb); have n6_ := aA (hbox); have n7_ := aA ((by rw [hg]; exact (below_size (bls HB.out)) : w.heap.size ≤ gb104)); have n8_ := aA ((by rw [hg]; exact (below_size (bls HB.out)) : w.heap.size ≤ gb104)); have n9_ := aA ((by rw [hg]; exact Nat.ne_of_lt (blk_lt (g := gb101) (o := .cells #[.int .u64 a0_0, .slice A0_1 l0_1.length c0_1, .slice A0_2 l0_2.length c0_2] 26 (0, 0)) (bku BK101.out)) : gb101 ≠ gb104)); have n10_ := aA ((by rw [hg]; exact Nat.ne_of_gt (blk_lt (g := gb101) (o := .cells #[.int .u64 a0_0, .slice A0_1 l0_1.length c0_1, .slice A0_2 l0_2.length c0_2] 26 (0, 0)) (bku BK101.out)) : gb104 ≠ gb101)); have n11_ := aA ((by rw [hg]; exact Nat.ne_of_lt (blk_lt (g := gb102) (o := .cells #[.int .u64 0, .slice none 0 0, .slice none 0 0] 26 (0, 0)) (bku BK102.out)) : gb102 ≠ gb104)); have n12_ := aA ((by rw [hg]; exact Nat.ne_of_gt (blk_lt (g := gb102) (o := .cells #[.int .u64 0, .slice none 0 0, .slice none 0 0] 26 (0, 0)) (bku BK102.out)) : gb104 ≠ gb102)); have n13_ := aA ((by rw [hg]; exact Nat.ne_of_lt (blk_lt (g := gb103) (o := .cells #[.slice none 0 0, .slice none 0 0] 30 (0, 0)) (bku BK103.out)) : gb103 ≠ gb104)); have n14_ := aA ((by rw [hg]; exact Nat.ne_of_gt (blk_lt (g := gb103) (o := .cells #[.slice none 0 0, .slice none 0 0] 30 (0, 0)) (bku BK103.out)) : gb104 ≠ gb103)); clear HO0_1 HO0_2 BK101 BK102 BK103 HB; have HO0_1 := n0_; have HO0_2 := n1_; have BK101 := n2_; have BK102 := n3_; have BK103 := n4_; have HB := n5_; have BK104 := n6_; have GW104 := n7_; have GE104 := n8_; have NB101_104 := n9_; have NB104_101 := n10_; have NB102_104 := n11_; have NB104_102 := n12_; have NB103_104 := n13_; have NB104_103 := n14_; clear n0_ n1_ n2_ n3_ n4_ n5_ n6_ n7_ n8_ n9_ n10_ n11_ n12_ n13_ n14_ hb hbox hg; have hnb8 := NB101_102.out; have hnc8 := NB102_101.out; have hnb9 := NB101_103.out; have hnc9 := NB103_101.out; have hnb10 := NB101_104.out; have hnc10 := NB104_101.out; have hcz11_0 : w7.cell? ⟨gb101, 0, none⟩ = some (.int .u64 a0_0) := (blk_cell BK101.out 0).trans rfl; have hcz11_1 : w7.cell? ⟨gb101, 1, none⟩ = some (.slice A0_1 l0_1.length c0_1) := (blk_cell BK101.out 1).trans rfl; have hcz11_2 : w7.cell? ⟨gb101, 2, none⟩ = some (.slice A0_2 l0_2.length c0_2) := (blk_cell BK101.out 2).trans rfl; have hfz11_0 := blk_frozen BK101.out 0; have hfz11_1 := blk_frozen BK101.out 1; have hfz11_2 := blk_frozen BK101.out 2) | ((with_reducible refine gate_callee (f := 23) rfl ?_); refine goesL_ (some 8) rfl rfl Try.func23 (by kernel_rfl) rfl #[.agg #[.int .u64 a0_0, .slice A0_1 l0_1.length c0_1, .slice A0_2 l0_2.length c0_2]] rfl (by (try simp only [List.map_toArray, List.map_cons, List.map_nil]); first | done | rfl | (simp only [List.length_drop, List.length_take]; rfl)) ?_; (with_reducible refine (epoch_May.calls a0_0 _ _ l0_1 _ _ l0_2 true _ ?side1 ?side2 ?side3 ?side4 A2.out).mono ?_); (case side1 => repeat (first | exact (Kd.V_reads' HO0_1.out).2.2 | (with_reducible refine Kd.C_alloc ?_ _) | (with_reducible refine Kd.C_drewN ?_ _) | (with_reducible refine Kd.C_drew ?_))); (case side2 => exact (Kd.V_reads' HO0_1.out).2.1); (case side3 => repeat (first | exact (Kd.V_reads' HO0_2.out).2.2 | (with_reducible refine Kd.C_alloc ?_ _) | (with_reducible refine Kd.C_drewN ?_ _) | (with_reducible refine Kd.C_drew ?_))); (case side4 => exact (Kd.V_reads' HO0_2.out).2.1); rintro e w12 ⟨rfl, hb⟩; refine ⟨_, rfl, ?_⟩; have n0_ := aA (Kd.V_below (vlu HO0_1.out) hb); have n1_ := aA (Kd.V_below (vlu HO0_2.out) hb); have n2_ := aA (blk_below (g := gb101) (o := .cells #[.int .u64 a0_0, .slice A0_1 l0_1.length c0_1, .slice A0_2 l0_2.length c0_2] 26 (0, 0)) (bku BK101.out) hb); have n3_ := aA (blk_below (g := gb102) (o := .cells #[.int .u64 0, .slice none 0 0, .slice none 0 0] 26 (0, 0)) (bku BK102.out) hb); have n4_ := aA (blk_below (g := gb103) (o := .cells #[.slice none 0 0, .slice none 0 0] 30 (0, 0)) (bku BK103.out) hb); have n5_ := aA (blk_below (g := gb104) (o := .cells #[.slice none 0 0, .slice none 0 0] 30 (0, 0)) (bku BK104.out) hb); have n6_ := aA (below_step (bls HB.out) hb); clear HO0_1 HO0_2 BK101 BK102 BK103 BK104 HB; have HO0_1 := n0_; have HO0_2 := n1_; have BK101 := n2_; have BK102 := n3_; have BK103 := n4_; have BK104 := n5_; have HB := n6_; clear n0_ n1_ n2_ n3_ n4_ n5_ n6_; (try clear hb); (try clear hb2); (try clear hk); (try clear hi); have hcz13_0 : w12.cell? ⟨gb101, 0, none⟩ = some (.int .u64 a0_0) := (blk_cell BK101.out 0).trans rfl; have hcz13_1 : w12.cell? ⟨gb101, 1, none⟩ = some (.slice A0_1 l0_1.length c0_1) := (blk_cell BK101.out 1).trans rfl; have hcz13_2 : w12.cell? ⟨gb101, 2, none⟩ = some (.slice A0_2 l0_2.length c0_2) := (blk_cell BK101.out 2).trans rfl; have hfz13_0 := blk_frozen BK101.out 0; have hfz13_1 := blk_frozen BK101.out 1; have hfz13_2 := blk_frozen BK101.out 2))
  go_loopg [6] k (fun kq v6 w' => ∃ (x6_1 : Int) (x105000_1 : List Int) (x105001_1 : List Int) (u105000 : Value) (u105001 : Value), v6 = .int .i64 x6_1 ∧ Aside0 (epoch_Advance.l0 kq x6_1 (IntKind.u64.wrap (a0_0 + 1)) l0_1 l0_2 x105000_1 x105001_1 = some (r1, r2, r3, r4, r5, r6)) ∧ Aside0 (kq ≤ k) ∧ Aside0 (Kd.V (Kd.int .u64) 22 w' w.heap.size (fun k_ => ((P0_1_ k_ ∨ P0_2_ k_) ∨ w.heap.size ≤ k_) ∧ some k_ ≠ (u105000 : Value).ownBlock ∧ some k_ ≠ (u105001 : Value).ownBlock ∧ k_ ≠ gb101 ∧ k_ ≠ gb102 ∧ k_ ≠ gb103 ∧ k_ ≠ gb104) (.slice A0_1 l0_1.length c0_1) l0_1) ∧ Aside0 (Kd.V k64 64 w' w.heap.size (fun k_ => ((P0_1_ k_ ∨ P0_2_ k_) ∨ w.heap.size ≤ k_) ∧ some k_ ≠ (u105000 : Value).ownBlock ∧ some k_ ≠ (u105001 : Value).ownBlock ∧ k_ ≠ gb101 ∧ k_ ≠ gb102 ∧ k_ ≠ gb103 ∧ k_ ≠ gb104) (.slice A0_2 l0_2.length c0_2) l0_2) ∧ Aside0 (Kd.R (Kd.int .u64) 22 w' w.heap.size (fun k_ => (w.heap.size ≤ k_) ∧ some k_ ≠ (u105001 : Value).ownBlock) u105000 x105000_1) ∧ Aside0 (Kd.R (Kd.int .u64) 22 w' w.heap.size (fun k_ => (w.heap.size ≤ k_) ∧ some k_ ≠ (u105000 : Value).ownBlock) u105001 x105001_1) ∧ Aside0 (w'.heap[gb101]? = some (.cells #[.int .u64 (IntKind.u64.wrap (a0_0 + 1)), (.slice A0_1 l0_1.length c0_1), (.slice A0_2 l0_2.length c0_2)] 26 (0, 0))) ∧ Aside0 (w'.heap[gb102]? = some (.cells #[.int .u64 0, (.slice none 0 0), (.slice none 0 0)] 26 (0, 0))) ∧ Aside0 (w'.heap[gb103]? = some (.cells #[(.slice none 0 0), (.slice none 0 0)] 30 (0, 0))) ∧ Aside0 (w'.heap[gb104]? = some (.cells #[u105000, u105001] 30 (0, 0))) ∧ Aside0 (Below w.heap.size w w'))
  case atStart => exact ⟨(0), (([] : List Int)), (([] : List Int)), (.slice none 0 0), (.slice none 0 0), (by first | rfl | (simp; done) | (simp [*]; done)), H', ⟨Nat.le_refl _⟩, ⟨by (with_reducible repeat (first | apply Kd.V_alloc | apply Kd.V_drewN | apply Kd.V_drew)); exact Kd.V_mono (Kd.V_far (p := ⟨gb101, 0, none⟩) (Kd.V_mono HO0_1.out (fun k_ hk => (⟨hk, hk.1.1.1.2⟩ : _ ∧ k_ ≠ gb101))) (fun _ hk => hk.2) (.int .u64 (IntKind.u64.wrap (a0_0 + 1)))) (fun _ hk => ⟨hk.1.1.1.1.1, ⟨(by simp [Value.ownBlock]), ⟨(by simp [Value.ownBlock]), ⟨hk.1.1.1.1.2, ⟨hk.1.1.1.2, ⟨hk.1.1.2, hk.1.2⟩⟩⟩⟩⟩⟩)⟩, ⟨by (with_reducible repeat (first | apply Kd.V_alloc | apply Kd.V_drewN | apply Kd.V_drew)); exact Kd.V_mono (Kd.V_far (p := ⟨gb101, 0, none⟩) (Kd.V_mono HO0_2.out (fun k_ hk => (⟨hk, hk.1.1.1.2⟩ : _ ∧ k_ ≠ gb101))) (fun _ hk => hk.2) (.int .u64 (IntKind.u64.wrap (a0_0 + 1)))) (fun _ hk => ⟨hk.1.1.1.1.1, ⟨(by simp [Value.ownBlock]), ⟨(by simp [Value.ownBlock]), ⟨hk.1.1.1.1.2, ⟨hk.1.1.1.2, ⟨hk.1.1.2, hk.1.2⟩⟩⟩⟩⟩⟩)⟩, ⟨by first | exact Kd.R_nil _ _ _ _ _ | exact Kd.N_nil _ _ _ _ _ | exact Kd.V_nil _ _ _ _ _ | exact Kd.Q_nil _ _ _ _ _ | exact Kd.S_nil _ _ _ _ _⟩, ⟨by first | exact Kd.R_nil _ _ _ _ _ | exact Kd.N_nil _ _ _ _ _ | exact Kd.V_nil _ _ _ _ _ | exact Kd.Q_nil _ _ _ _ _ | exact Kd.S_nil _ _ _ _ _⟩, ⟨by refine bku ?_; refine blk_put (cs := #[.int .u64 a0_0, .slice A0_1 l0_1.length c0_1, .slice A0_2 l0_2.length c0_2]) ?_ 0 _ rfl; refine bku ?_; exact BK101.out⟩, ⟨by refine bku ?_; refine blk_far ?_ NB102_101.out _; refine bku ?_; exact BK102.out⟩, ⟨by refine bku ?_; refine blk_far ?_ NB103_101.out _; refine bku ?_; exact BK103.out⟩, ⟨by refine bku ?_; refine blk_far ?_ NB104_101.out _; refine bku ?_; exact BK104.out⟩, ⟨by repeat (first | (with_reducible first | exact HB.out | apply below_alloc | apply pw_below_drewN | apply below_drew1 | refine below_set ?_ GE101.out | refine below_set ?_ GE102.out | refine below_set ?_ GE103.out | refine below_set ?_ GE104.out) | exact HB.out)⟩⟩
  case round =>
   clear H'
   try clear c1
   try clear c2
   try clear p2
   try clear c3
   try clear c8
   try clear c9
   try clear c10
   try clear hcz11_0
   try clear hcz11_1
   try clear hcz11_2
   try clear hcz13_0
   try clear hcz13_1
   try clear hcz13_2
   try clear hfz11_0
   try clear hfz11_1
   try clear hfz11_2
   try clear hfz13_0
   try clear hfz13_1
   try clear hfz13_2
   obtain ⟨x6_1, x105000_1, x105001_1, u105000, u105001, rfl, HA, HK1, HO_102001, HO_102002, HO_105000, HO_105001, BK101, BK102, BK103, BK104, HB⟩ := hrel
   cases gk with
   | zero => exact absurd HA.out (by simp [epoch_Advance.l0])
   | succ k1 =>
    have H := HA.out
    clear HA
    simp only [epoch_Advance.l0] at H
    by_cases c14 : x6_1 < (l0_2.length : Int)
    ·rw [if_pos c14] at H
     have c14b0 : decide (x6_1 < (l0_2.length : Int)) = true := decide_eq_true c14
     clear c14
     by_cases c15 : 0 ≤ x6_1
     ·rw [if_pos c15] at H
      have c15b0 : decide (0 ≤ x6_1) = true := decide_eq_true c15
      clear c15
      by_cases c16 : (IntKind.u64.wrap ((IntKind.u64.wrap (a0_0 + 1)) - ((rd_T64 l0_2 x6_1).f0))) ≥ 2
      ·rw [if_pos c16] at H
       have c16b0 : decide (2 ≤ (IntKind.u64.wrap ((IntKind.u64.wrap (a0_0 + 1)) - ((rd_T64 l0_2 x6_1).f0)))) = true := decide_eq_true c16
       clear c16
       by_cases c17 : x105000_1.length + ((rd_T64 l0_2 x6_1).f1.f0).length < 17592186044416
       ·rw [if_pos c17] at H
        have LMc17 := aA c17
        clear c17
        obtain ⟨y108, hy108⟩ : ∃ y_ : List Int, y_ = (x105000_1 ++ ((rd_T64 l0_2 x6_1).f1.f0)) := ⟨_, rfl⟩
        replace H : (if x105001_1.length + ((rd_T64 l0_2 x6_1).f1.f1).length < 17592186044416 then (epoch_Advance.l0 k1 (wrap64 (x6_1 + 1)) (IntKind.u64.wrap (a0_0 + 1)) l0_1 l0_2 y108 (x105001_1 ++ ((rd_T64 l0_2 x6_1).f1.f1))) else (none)) = some (r1, r2, r3, r4, r5, r6) := by first | (rw [hy108]; with_reducible exact H) | (have H2_ := (Option.bind_some _ _).symm.trans H; rw [hy108]; with_reducible exact H2_) | (have H2_ := (Option.bind_some _ _).symm.trans H; with_reducible exact H2_) | with_reducible exact H | (rw [hy108]; exact H) | exact H
        have Ny108 := aA hy108
        clear hy108
        by_cases c18 : x105001_1.length + ((rd_T64 l0_2 x6_1).f1.f1).length < 17592186044416
        ·rw [if_pos c18] at H
         have LMc18 := aA c18
         clear c18
         obtain ⟨y112, hy112⟩ : ∃ y_ : List Int, y_ = (x105001_1 ++ ((rd_T64 l0_2 x6_1).f1.f1)) := ⟨_, rfl⟩
         replace H : (epoch_Advance.l0 k1 (wrap64 (x6_1 + 1)) (IntKind.u64.wrap (a0_0 + 1)) l0_1 l0_2 y108 y112) = some (r1, r2, r3, r4, r5, r6) := by first | (rw [hy112]; with_reducible exact H) | (have H2_ := (Option.bind_some _ _).symm.trans H; rw [hy112]; with_reducible exact H2_) | (have H2_ := (Option.bind_some _ _).symm.trans H; with_reducible exact H2_) | with_reducible exact H | (rw [hy112]; exact H) | exact H
         have Ny112 := aA hy112
         clear hy112
         have H' := aA H
         clear H
         try go_wp2
         have n0_ := aA (Kd.V_drew HO_102001.out)
         have n1_ := aA (Kd.V_drew HO_102002.out)
         have n2_ := aA (Kd.R_drew HO_105000.out)
         have n3_ := aA (Kd.R_drew HO_105001.out)
         have n4_ := aA (blk_drew BK101.out)
         have n5_ := aA (blk_drew BK102.out)
         have n6_ := aA (blk_drew BK103.out)
         have n7_ := aA (blk_drew BK104.out)
         have n8_ := aA (below_drew1 HB.out)
         clear HO_102001
         clear HO_102002
         clear HO_105000
         clear HO_105001
         clear BK101
         clear BK102
         clear BK103
         clear BK104
         clear HB
         have HO_102001 := n0_
         have HO_102002 := n1_
         have HO_105000 := n2_
         have HO_105001 := n3_
         have BK101 := n4_
         have BK102 := n5_
         have BK103 := n6_
         have BK104 := n7_
         have HB := n8_
         clear n0_ n1_ n2_ n3_ n4_ n5_ n6_ n7_ n8_
         have p106 : 0 ≤ (x6_1 : Int) := of_decide_eq_true (by first | (with_reducible assumption) | assumption)
         have q106 : x6_1 < (l0_2.length : Int) := of_decide_eq_true (by first | (with_reducible assumption) | assumption)
         obtain ⟨ad106, A106_1, c106_1, A106_2, c106_2, e106, hx106_0, hx106_1, hx106_2, hl106_1, hi106_1, hl106_2, hi106_2⟩ := at_T64 (Kd.V_reads' HO_102002.out).2.2 x6_1 p106 q106
         cases e106
         obtain ⟨ce106, hce106, hMe106, hcc106⟩ := Kd.V_get HO_102002.out z64 x6_1 p106 (by first | exact q106 | exact of_decide_eq_true (by first | (with_reducible assumption) | assumption) | (have e_ := (Kd.V_reads' HO_102002.out).1; omega))
         obtain ⟨ua106_1, uc106_1, ua106_2, uc106_2, rfl, ul106_1, ge106_1, ul106_2, ge106_2⟩ := k64_openF hMe106
         have hv106_1 := hcc106 1 _ rfl
         rw [add_field _ _ 1 (by omega)] at hv106_1
         replace hv106_1 := Option.some.inj (hv106_1.symm.trans hx106_1)
         injection hv106_1 with hva_ hvn_ hvc_
         rw [hva_] at ge106_1
         rw [hvc_] at ul106_1
         have HL106_1 := aA (show Kd.V (Kd.int .u64) 22 _ w.heap.size _ _ ((rd_T64 l0_2 x6_1).f1.f0) from Kd.V_mk ul106_1 ge106_1)
         clear hva_ hvn_ hvc_ ge106_1 ul106_1
         have hv106_2 := hcc106 2 _ rfl
         rw [add_field _ _ 2 (by omega)] at hv106_2
         replace hv106_2 := Option.some.inj (hv106_2.symm.trans hx106_2)
         injection hv106_2 with hva_ hvn_ hvc_
         rw [hva_] at ge106_2
         rw [hvc_] at ul106_2
         have HL106_2 := aA (show Kd.V (Kd.int .u64) 22 _ w.heap.size _ _ ((rd_T64 l0_2 x6_1).f1.f1) from Kd.V_mk ul106_2 ge106_2)
         clear hva_ hvn_ hvc_ ge106_2 ul106_2
         clear hcc106 hce106
         have HR106_1 := aA hi106_1
         have HC106_1 := aA hl106_1
         clear hi106_1 hl106_1
         have HR106_2 := aA hi106_2
         have HC106_2 := aA hl106_2
         clear hi106_2 hl106_2
         replace p106 := eq_true p106
         replace q106 := eq_true q106
         refine start_ (n := 17) (S := fun w' => w'.cell? ⟨gb101, 0, none⟩ = some (.int .u64 (IntKind.u64.wrap (a0_0 + 1))) ∧ w'.cell? ⟨gb101, 1, none⟩ = some (.slice A0_1 l0_1.length c0_1) ∧ w'.cell? ⟨gb101, 2, none⟩ = some (.slice (some ad106) l0_2.length c0_2) ∧ w'.cell? (ad106.add ((x6_1).toNat * 3)) = some (.int .u64 ((rd_T64 l0_2 x6_1).f0)) ∧ w'.cell? ⟨(ad106.add ((x6_1).toNat * 3)).block, (ad106.add ((x6_1).toNat * 3)).off + 1, none⟩ = some (.slice A106_1 ((rd_T64 l0_2 x6_1).f1.f0).length c106_1) ∧ w'.cell? ⟨(ad106.add ((x6_1).toNat * 3)).block, (ad106.add ((x6_1).toNat * 3)).off + 2, none⟩ = some (.slice A106_2 ((rd_T64 l0_2 x6_1).f1.f1).length c106_2)) (ds := []) #[false, false, false, false, false, false, false, false, false, false, false, false, false, false, false, false, false] (by kernel_rfl) rfl rfl ⟨(blk_cell BK101.out 0).trans rfl, (blk_cell BK101.out 1).trans rfl, (blk_cell BK101.out 2).trans rfl, hx106_0, hx106_1, hx106_2⟩ (fun hHeld => ?_); refine with_tabW epoch_Advance.tab6 epoch_Advance.bits6 (fun HT_ HW_ => ?_)
         generalize wr.drew = w19 at HO_102001 HO_102002 HO_105000 HO_105001 BK101 BK102 BK103 BK104 HB HL106_1 HL106_2 HR106_1 HR106_2 hx106_0 hx106_1 hx106_2 hHeld ⊢
         refine pure_ (i := 0) (N := some 16) (v := ?_) (a' := ?_) #[true, false, false, false, false, false, false, false, false, false, false, false, false, false, false, false, false] rfl rfl (any_of HT_.out (by kernel_rfl)) (fun _ _ _ h => h) (Or.inl ⟨by rfl, ?_⟩) ?_ ?_
         rotate_left
         ·intro w'
          go_simp
          with_reducible rfl
         rotate_left
         ·simp only [Act.put, List.setIfInBounds_toArray, List.set_cons_zero, List.set_cons_succ, i64_w, i32_w]
          rfl
         refine pure_ (i := 1) (N := some 17) (v := ?_) (a' := ?_) #[true, true, false, false, false, false, false, false, false, false, false, false, false, false, false, false, false] rfl rfl (any_of HT_.out (by kernel_rfl)) (fun _ _ _ h => h) (Or.inl ⟨by rfl, ?_⟩) ?_ ?_
         rotate_left
         ·intro w'
          go_simp
          with_reducible rfl
         rotate_left
         ·simp only [Act.put, List.setIfInBounds_toArray, List.set_cons_zero, List.set_cons_succ, i64_w, i32_w]
          rfl
         refine take_ (i := 2) (N := some 18) (v := ?_) (a' := ?_) #[true, true, true, false, false, false, false, false, false, false, false, false, false, false, false, false, false] rfl rfl (take_ofW HT_.out HW_.out (by kernel_rfl)) (fun _ _ _ h => h) (Or.inl ⟨by rfl, ?_⟩) hHeld ?_ ?_
         rotate_left
         ·rintro w' ⟨s0, s1, s2, s3, s4, s5⟩
          go_simp
          with_reducible rfl
         rotate_left
         ·simp only [Act.put, List.setIfInBounds_toArray, List.set_cons_zero, List.set_cons_succ, i64_w, i32_w]
          rfl
         refine pure_ (i := 3) (N := some 19) (v := ?_) (a' := ?_) #[true, true, true, true, false, false, false, false, false, false, false, false, false, false, false, false, false] rfl rfl (any_of HT_.out (by kernel_rfl)) (fun _ _ _ h => h) (Or.inl ⟨by rfl, ?_⟩) ?_ ?_
         rotate_left
         ·intro w'
          go_simp
          with_reducible rfl
         rotate_left
         ·simp only [Act.put, List.setIfInBounds_toArray, List.set_cons_zero, List.set_cons_succ, i64_w, i32_w]
          rfl
         refine pure_ (i := 4) (N := some 20) (v := ?_) (a' := ?_) #[true, true, true, true, true, false, false, false, false, false, false, false, false, false, false, false, false] rfl rfl (any_of HT_.out (by kernel_rfl)) (fun _ _ _ h => h) (Or.inl ⟨by rfl, ?_⟩) ?_ ?_
         rotate_left
         ·intro w'
          go_simp
          with_reducible rfl
         rotate_left
         ·simp only [Act.put, List.setIfInBounds_toArray, List.set_cons_zero, List.set_cons_succ, i64_w, i32_w]
          rfl
         refine pure_ (i := 5) (N := some 21) (v := ?_) (a' := ?_) #[true, true, true, true, true, true, false, false, false, false, false, false, false, false, false, false, false] rfl rfl (any_of HT_.out (by kernel_rfl)) (fun _ _ _ h => h) (Or.inl ⟨by rfl, ?_⟩) ?_ ?_
         rotate_left
         ·intro w'
          go_simp
          with_reducible rfl
         rotate_left
         ·simp only [Act.put, List.setIfInBounds_toArray, List.set_cons_zero, List.set_cons_succ, i64_w, i32_w]
          rfl
         refine pure_ (i := 6) (N := some 22) (v := ?_) (a' := ?_) #[true, true, true, true, true, true, true, false, false, false, false, false, false, false, false, false, false] rfl rfl (any_of HT_.out (by kernel_rfl)) (fun _ _ _ h => h) (Or.inl ⟨by rfl, ?_⟩) ?_ ?_
         rotate_left
         ·intro w'
          go_simp
          with_reducible rfl
         rotate_left
         ·simp only [Act.put, List.setIfInBounds_toArray, List.set_cons_zero, List.set_cons_succ, i64_w, i32_w]
          rfl
         refine pure_ (i := 8) (N := some 24) (v := ?_) (a' := ?_) #[true, true, true, true, true, true, true, false, true, false, false, false, false, false, false, false, false] rfl rfl (any_of HT_.out (by kernel_rfl)) (fun _ _ _ h => h) (Or.inl ⟨by rfl, ?_⟩) ?_ ?_
         rotate_left
         ·intro w'
          go_simp
          with_reducible rfl
         rotate_left
         ·simp only [Act.put, List.setIfInBounds_toArray, List.set_cons_zero, List.set_cons_succ, i64_w, i32_w]
          rfl
         refine pure_ (i := 10) (N := some 26) (v := ?_) (a' := ?_) #[true, true, true, true, true, true, true, false, true, false, true, false, false, false, false, false, false] rfl rfl (any_of HT_.out (by kernel_rfl)) (fun _ _ _ h => h) (Or.inl ⟨by rfl, ?_⟩) ?_ ?_
         rotate_left
         ·intro w'
          go_simp
          with_reducible rfl
         rotate_left
         ·simp only [Act.put, List.setIfInBounds_toArray, List.set_cons_zero, List.set_cons_succ, i64_w, i32_w]
          rfl
         refine take_ (i := 7) (N := some 23) (v := ?_) (a' := ?_) #[true, true, true, true, true, true, true, true, true, false, true, false, false, false, false, false, false] rfl rfl (take_ofW HT_.out HW_.out (by kernel_rfl)) (fun _ _ _ h => h) (Or.inl ⟨by rfl, ?_⟩) hHeld ?_ ?_
         rotate_left
         ·rintro w' ⟨s0, s1, s2, s3, s4, s5⟩
          go_simp
          with_reducible rfl
         rotate_left
         ·simp only [Act.put, List.setIfInBounds_toArray, List.set_cons_zero, List.set_cons_succ, i64_w, i32_w]
          rfl
         refine take_ (i := 9) (N := some 25) (v := ?_) (a' := ?_) #[true, true, true, true, true, true, true, true, true, true, true, false, false, false, false, false, false] rfl rfl (take_ofW HT_.out HW_.out (by kernel_rfl)) (fun _ _ _ h => h) (Or.inl ⟨by rfl, ?_⟩) hHeld ?_ ?_
         rotate_left
         ·rintro w' ⟨s0, s1, s2, s3, s4, s5⟩
          go_simp
          with_reducible rfl
         rotate_left
         ·simp only [Act.put, List.setIfInBounds_toArray, List.set_cons_zero, List.set_cons_succ, i64_w, i32_w]
          rfl
         refine pure_ (i := 11) (N := some 27) (v := ?_) (a' := ?_) #[true, true, true, true, true, true, true, true, true, true, true, true, false, false, false, false, false] rfl rfl (any_of HT_.out (by kernel_rfl)) (fun _ _ _ h => h) (Or.inl ⟨by rfl, ?_⟩) ?_ ?_
         rotate_left
         ·intro w'
          go_simp
          with_reducible rfl
         rotate_left
         ·simp only [Act.put, List.setIfInBounds_toArray, List.set_cons_zero, List.set_cons_succ, i64_w, i32_w]
          rfl
         refine pure_ (i := 12) (N := some 28) (v := ?_) (a' := ?_) #[true, true, true, true, true, true, true, true, true, true, true, true, true, false, false, false, false] rfl rfl (any_of HT_.out (by kernel_rfl)) (fun _ _ _ h => h) (Or.inl ⟨by rfl, ?_⟩) ?_ ?_
         rotate_left
         ·intro w'
          go_simp
          with_reducible rfl
         rotate_left
         ·simp only [Act.put, List.setIfInBounds_toArray, List.set_cons_zero, List.set_cons_succ, i64_w, i32_w]
          rfl
         refine take_ (i := 13) (N := some 29) (v := ?_) (a' := ?_) #[true, true, true, true, true, true, true, true, true, true, true, true, true, true, false, false, false] rfl rfl (take_ofW HT_.out HW_.out (by kernel_rfl)) (fun _ _ _ h => h) (Or.inl ⟨by rfl, ?_⟩) hHeld ?_ ?_
         rotate_left
         ·rintro w' ⟨s0, s1, s2, s3, s4, s5⟩
          go_simp
          with_reducible rfl
         rotate_left
         ·simp only [Act.put, List.setIfInBounds_toArray, List.set_cons_zero, List.set_cons_succ, i64_w, i32_w]
          rfl
         refine pure_ (i := 14) (N := some 30) (v := ?_) (a' := ?_) #[true, true, true, true, true, true, true, true, true, true, true, true, true, true, true, false, false] rfl rfl (any_of HT_.out (by kernel_rfl)) (fun _ _ _ h => h) (Or.inl ⟨by rfl, ?_⟩) ?_ ?_
         rotate_left
         ·intro w'
          go_simp
          with_reducible rfl
         rotate_left
         ·simp only [Act.put, List.setIfInBounds_toArray, List.set_cons_zero, List.set_cons_succ, i64_w, i32_w]
          rfl
         refine pure_ (i := 15) (N := some 31) (v := ?_) (a' := ?_) #[true, true, true, true, true, true, true, true, true, true, true, true, true, true, true, true, false] rfl rfl (any_of HT_.out (by kernel_rfl)) (fun _ _ _ h => h) (Or.inl ⟨by rfl, ?_⟩) ?_ ?_
         rotate_left
         ·intro w'
          go_simp
          with_reducible rfl
         rotate_left
         ·simp only [Act.put, List.setIfInBounds_toArray, List.set_cons_zero, List.set_cons_succ, i64_w, i32_w]
          rfl
         refine pure_ (i := 16) (N := some 32) (v := ?_) (a' := ?_) #[true, true, true, true, true, true, true, true, true, true, true, true, true, true, true, true, true] rfl rfl (any_of HT_.out (by kernel_rfl)) (fun _ _ _ h => h) (Or.inl ⟨by rfl, ?_⟩) ?_ ?_
         rotate_left
         ·intro w'
          go_simp
          with_reducible rfl
         rotate_left
         ·simp only [Act.put, List.setIfInBounds_toArray, List.set_cons_zero, List.set_cons_succ, i64_w, i32_w]
          rfl
         refine done_ (done_of HT_.out (by kernel_rfl)) ?_
         try go_wp2
         have n0_ := aA (Kd.V_drew HO_102001.out)
         have n1_ := aA (Kd.V_drew HO_102002.out)
         have n2_ := aA (Kd.R_drew HO_105000.out)
         have n3_ := aA (Kd.R_drew HO_105001.out)
         have n4_ := aA (Kd.V_drew HL106_1.out)
         have n5_ := aA (Kd.V_drew HL106_2.out)
         have n6_ := aA (blk_drew BK101.out)
         have n7_ := aA (blk_drew BK102.out)
         have n8_ := aA (blk_drew BK103.out)
         have n9_ := aA (blk_drew BK104.out)
         have n10_ := aA (Kd.C_drew HR106_1.out)
         have n11_ := aA (Kd.C_drew HR106_2.out)
         have n12_ := aA (below_drew1 HB.out)
         clear HO_102001
         clear HO_102002
         clear HO_105000
         clear HO_105001
         clear HL106_1
         clear HL106_2
         clear BK101
         clear BK102
         clear BK103
         clear BK104
         clear HR106_1
         clear HR106_2
         clear HB
         have HO_102001 := n0_
         have HO_102002 := n1_
         have HO_105000 := n2_
         have HO_105001 := n3_
         have HL106_1 := n4_
         have HL106_2 := n5_
         have BK101 := n6_
         have BK102 := n7_
         have BK103 := n8_
         have BK104 := n9_
         have HR106_1 := n10_
         have HR106_2 := n11_
         have HB := n12_
         clear n0_ n1_ n2_ n3_ n4_ n5_ n6_ n7_ n8_ n9_ n10_ n11_ n12_
         have p107 : 0 ≤ (x6_1 : Int) := of_decide_eq_true (by first | (with_reducible assumption) | assumption)
         have q107 : x6_1 < (l0_2.length : Int) := of_decide_eq_true (by first | (with_reducible assumption) | assumption)
         obtain ⟨ad107, A107_1, c107_1, A107_2, c107_2, e107, hx107_0, hx107_1, hx107_2, hl107_1, hi107_1, hl107_2, hi107_2⟩ := at_T64 (Kd.V_reads' HO_102002.out).2.2 x6_1 p107 q107
         obtain rfl : ad106 = ad107 := (by injection e107)
         obtain ⟨ce107, hce107, hMe107, hcc107⟩ := Kd.V_get HO_102002.out z64 x6_1 p107 (by first | exact q107 | exact of_decide_eq_true (by first | (with_reducible assumption) | assumption) | (have e_ := (Kd.V_reads' HO_102002.out).1; omega))
         obtain ⟨ua107_1, uc107_1, ua107_2, uc107_2, rfl, ul107_1, ge107_1, ul107_2, ge107_2⟩ := k64_openF hMe107
         have hv107_1 := hcc107 1 _ rfl
         rw [add_field _ _ 1 (by omega)] at hv107_1
         replace hv107_1 := Option.some.inj (hv107_1.symm.trans hx107_1)
         injection hv107_1 with hva_ hvn_ hvc_
         rw [hva_] at ge107_1
         rw [hvc_] at ul107_1
         have HL107_1 := aA (show Kd.V (Kd.int .u64) 22 _ w.heap.size _ _ ((rd_T64 l0_2 x6_1).f1.f0) from Kd.V_mk ul107_1 ge107_1)
         clear hva_ hvn_ hvc_ ge107_1 ul107_1
         have hv107_2 := hcc107 2 _ rfl
         rw [add_field _ _ 2 (by omega)] at hv107_2
         replace hv107_2 := Option.some.inj (hv107_2.symm.trans hx107_2)
         injection hv107_2 with hva_ hvn_ hvc_
         rw [hva_] at ge107_2
         rw [hvc_] at ul107_2
         have HL107_2 := aA (show Kd.V (Kd.int .u64) 22 _ w.heap.size _ _ ((rd_T64 l0_2 x6_1).f1.f1) from Kd.V_mk ul107_2 ge107_2)
         clear hva_ hvn_ hvc_ ge107_2 ul107_2
         clear hcc107 hce107
         have HR107_1 := aA hi107_1
         have HC107_1 := aA hl107_1
         clear hi107_1 hl107_1
         have HR107_2 := aA hi107_2
         have HC107_2 := aA hl107_2
         clear hi107_2 hl107_2
         replace p107 := eq_true p107
         replace q107 := eq_true q107
         refine start_ (n := 12) (S := fun w' => w'.cell? ⟨gb104, 0, none⟩ = some (u105000) ∧ w'.cell? ⟨gb104, 1, none⟩ = some (u105001) ∧ w'.cell? ⟨gb101, 0, none⟩ = some (.int .u64 (IntKind.u64.wrap (a0_0 + 1))) ∧ w'.cell? ⟨gb101, 1, none⟩ = some (.slice A0_1 l0_1.length c0_1) ∧ w'.cell? ⟨gb101, 2, none⟩ = some (.slice (some ad106) l0_2.length c0_2) ∧ w'.cell? (ad106.add ((x6_1).toNat * 3)) = some (.int .u64 ((rd_T64 l0_2 x6_1).f0)) ∧ w'.cell? ⟨(ad106.add ((x6_1).toNat * 3)).block, (ad106.add ((x6_1).toNat * 3)).off + 1, none⟩ = some (.slice A107_1 ((rd_T64 l0_2 x6_1).f1.f0).length c107_1) ∧ w'.cell? ⟨(ad106.add ((x6_1).toNat * 3)).block, (ad106.add ((x6_1).toNat * 3)).off + 2, none⟩ = some (.slice A107_2 ((rd_T64 l0_2 x6_1).f1.f1).length c107_2)) (ds := [9, 11]) #[false, false, false, false, false, false, false, false, false, false, false, false] (by kernel_rfl) rfl rfl ⟨(blk_cell BK104.out 0).trans rfl, (blk_cell BK104.out 1).trans rfl, (blk_cell BK101.out 0).trans rfl, (blk_cell BK101.out 1).trans rfl, (blk_cell BK101.out 2).trans rfl, hx107_0, hx107_1, hx107_2⟩ (fun hHeld => ?_); refine with_tabW epoch_Advance.tab7 epoch_Advance.bits7 (fun HT_ HW_ => ?_)
         generalize w19.drew = w20 at HO_102001 HO_102002 HO_105000 HO_105001 HL106_1 HL106_2 BK101 BK102 BK103 BK104 HR106_1 HR106_2 HB HL107_1 HL107_2 HR107_1 HR107_2 hx107_0 hx107_1 hx107_2 hHeld ⊢
         refine pure_ (i := 0) (N := some 33) (v := ?_) (a' := ?_) #[true, false, false, false, false, false, false, false, false, false, false, false] rfl rfl (any_of HT_.out (by kernel_rfl)) (fun _ _ _ h => h) (Or.inl ⟨by rfl, ?_⟩) ?_ ?_
         rotate_left
         ·intro w'
          go_simp
          with_reducible rfl
         rotate_left
         ·simp only [Act.put, List.setIfInBounds_toArray, List.set_cons_zero, List.set_cons_succ, i64_w, i32_w]
          rfl
         refine pure_ (i := 2) (N := some 35) (v := ?_) (a' := ?_) #[true, false, true, false, false, false, false, false, false, false, false, false] rfl rfl (any_of HT_.out (by kernel_rfl)) (fun _ _ _ h => h) (Or.inl ⟨by rfl, ?_⟩) ?_ ?_
         rotate_left
         ·intro w'
          go_simp
          with_reducible rfl
         rotate_left
         ·simp only [Act.put, List.setIfInBounds_toArray, List.set_cons_zero, List.set_cons_succ, i64_w, i32_w]
          rfl
         refine pure_ (i := 4) (N := some 37) (v := ?_) (a' := ?_) #[true, false, true, false, true, false, false, false, false, false, false, false] rfl rfl (any_of HT_.out (by kernel_rfl)) (fun _ _ _ h => h) (Or.inl ⟨by rfl, ?_⟩) ?_ ?_
         rotate_left
         ·intro w'
          go_simp
          with_reducible rfl
         rotate_left
         ·simp only [Act.put, List.setIfInBounds_toArray, List.set_cons_zero, List.set_cons_succ, i64_w, i32_w]
          rfl
         refine take_ (i := 1) (N := some 34) (v := ?_) (a' := ?_) #[true, true, true, false, true, false, false, false, false, false, false, false] rfl rfl (take_ofW HT_.out HW_.out (by kernel_rfl)) (fun _ _ _ h => h) (Or.inl ⟨by rfl, ?_⟩) hHeld ?_ ?_
         rotate_left
         ·rintro w' ⟨s0, s1, s2, s3, s4, s5, s6, s7⟩
          go_simp
          with_reducible rfl
         rotate_left
         ·simp only [Act.put, List.setIfInBounds_toArray, List.set_cons_zero, List.set_cons_succ, i64_w, i32_w]
          rfl
         refine take_ (i := 3) (N := some 36) (v := ?_) (a' := ?_) #[true, true, true, true, true, false, false, false, false, false, false, false] rfl rfl (take_ofW HT_.out HW_.out (by kernel_rfl)) (fun _ _ _ h => h) (Or.inl ⟨by rfl, ?_⟩) hHeld ?_ ?_
         rotate_left
         ·rintro w' ⟨s0, s1, s2, s3, s4, s5, s6, s7⟩
          go_simp
          with_reducible rfl
         rotate_left
         ·simp only [Act.put, List.setIfInBounds_toArray, List.set_cons_zero, List.set_cons_succ, i64_w, i32_w]
          rfl
         refine pure_ (i := 5) (N := some 38) (v := ?_) (a' := ?_) #[true, true, true, true, true, true, false, false, false, false, false, false] rfl rfl (any_of HT_.out (by kernel_rfl)) (fun _ _ _ h => h) (Or.inl ⟨by rfl, ?_⟩) ?_ ?_
         rotate_left
         ·intro w'
          go_simp
          with_reducible rfl
         rotate_left
         ·simp only [Act.put, List.setIfInBounds_toArray, List.set_cons_zero, List.set_cons_succ, i64_w, i32_w]
          rfl
         refine pure_ (i := 6) (N := some 39) (v := ?_) (a' := ?_) #[true, true, true, true, true, true, true, false, false, false, false, false] rfl rfl (any_of HT_.out (by kernel_rfl)) (fun _ _ _ h => h) (Or.inl ⟨by rfl, ?_⟩) ?_ ?_
         rotate_left
         ·intro w'
          go_simp
          with_reducible rfl
         rotate_left
         ·simp only [Act.put, List.setIfInBounds_toArray, List.set_cons_zero, List.set_cons_succ, i64_w, i32_w]
          rfl
         refine pure_ (i := 7) (N := some 40) (v := ?_) (a' := ?_) #[true, true, true, true, true, true, true, true, false, false, false, false] rfl rfl (any_of HT_.out (by kernel_rfl)) (fun _ _ _ h => h) (Or.inl ⟨by rfl, ?_⟩) ?_ ?_
         rotate_left
         ·intro w'
          go_simp
          with_reducible rfl
         rotate_left
         ·simp only [Act.put, List.setIfInBounds_toArray, List.set_cons_zero, List.set_cons_succ, i64_w, i32_w]
          rfl
         refine take_ (i := 8) (N := some 41) (v := ?_) (a' := ?_) #[true, true, true, true, true, true, true, true, true, false, false, false] rfl rfl (take_ofW HT_.out HW_.out (by kernel_rfl)) (fun _ _ _ h => h) (Or.inl ⟨by rfl, ?_⟩) hHeld ?_ ?_
         rotate_left
         ·rintro w' ⟨s0, s1, s2, s3, s4, s5, s6, s7⟩
          go_simp
          with_reducible rfl
         rotate_left
         ·simp only [Act.put, List.setIfInBounds_toArray, List.set_cons_zero, List.set_cons_succ, i64_w, i32_w]
          rfl
         refine last_ (i := 9) (N := some 42) #[true, true, true, true, true, true, true, true, true, true, false, false] rfl rfl (one_of HT_.out (by kernel_rfl)) (by decide) (fun K hK => ?_)
         refine Kd.R_append_rows_step (Kd.int .u64) (w0 := w) w.heap.size (by rfl) (.tmp 34) (.tmp 41) 23 22 (.int .u64 0) 8 rfl Try.underlying23 info22 rfl (by decide) (by omega) u105000 x105000_1 ((rd_T64 l0_2 x6_1).f1.f0) _ _ _ (fun k_ => (w.heap.size ≤ k_) ∧ some k_ ≠ (u105001 : Value).ownBlock) (fun _ => False) rfl rfl ?aO ?aR (fun _ _ h => h) (fun _ h => h.elim) ?aF ?aB ?aS ?aL ?_
         (case aR => repeat (first | exact (by repeat (first | (with_reducible exact HR107_1.out) | (with_reducible refine Kd.C_alloc ?_ _) | (with_reducible refine Kd.C_drewN ?_ _) | (with_reducible refine Kd.C_drew ?_) | exact HR107_1.out)) | (with_reducible refine Kd.C_alloc ?_ _) | (with_reducible refine Kd.C_drewN ?_ _) | (with_reducible refine Kd.C_drew ?_)))
         (case aB => exact (bls HB.out))
         (case aF => exact (fun k_ hk => ⟨(Nat.le_trans (below_size (bls HB.out)) hk), Kd.fresh' (Kd.R_lt (rlu HO_105001.out)) k_ hk⟩))
         (case aO => exact (rlu HO_105000.out))
         (case aS => exact (below_size (bls HB.out)))
         (case aL => have := LMc17.out; omega)
         intro v109 w21 ho hb hg hat
         rw [← Ny108.out] at ho
         have n0_ := aA (Kd.V_afterv (ok := (fun k_ => ((P0_1_ k_ ∨ P0_2_ k_) ∨ w.heap.size ≤ k_) ∧ some k_ ≠ (u105001 : Value).ownBlock ∧ k_ ≠ gb101 ∧ k_ ≠ gb102 ∧ k_ ≠ gb103 ∧ k_ ≠ gb104)) (vlu (Kd.V_mono HO_102001.out (fun _ hk => ⟨⟨hk.1, ⟨hk.2.2.1, ⟨hk.2.2.2.1, ⟨hk.2.2.2.2.1, ⟨hk.2.2.2.2.2.1, hk.2.2.2.2.2.2⟩⟩⟩⟩⟩, hk.2.1⟩))) hg hat)
         have n1_ := aA (Kd.V_afterv (ok := (fun k_ => ((P0_1_ k_ ∨ P0_2_ k_) ∨ w.heap.size ≤ k_) ∧ some k_ ≠ (u105001 : Value).ownBlock ∧ k_ ≠ gb101 ∧ k_ ≠ gb102 ∧ k_ ≠ gb103 ∧ k_ ≠ gb104)) (vlu (Kd.V_mono HO_102002.out (fun _ hk => ⟨⟨hk.1, ⟨hk.2.2.1, ⟨hk.2.2.2.1, ⟨hk.2.2.2.2.1, ⟨hk.2.2.2.2.2.1, hk.2.2.2.2.2.2⟩⟩⟩⟩⟩, hk.2.1⟩))) hg hat)
         have n2_ := aA (Kd.R_after (ok := (fun k_ => (w.heap.size ≤ k_))) (rlu HO_105001.out) hg hat)
         have n3_ := aA (blk_grown (g := gb101) (o := .cells #[.int .u64 (IntKind.u64.wrap (a0_0 + 1)), .slice A0_1 l0_1.length c0_1, .slice (some ad106) l0_2.length c0_2] 26 (0, 0)) (bku BK101.out) hg (Kd.R_ne HO_105000.out BK101.out (by decide)))
         have n4_ := aA (blk_grown (g := gb102) (o := .cells #[.int .u64 0, .slice none 0 0, .slice none 0 0] 26 (0, 0)) (bku BK102.out) hg (Kd.R_ne HO_105000.out BK102.out (by decide)))
         have n5_ := aA (blk_grown (g := gb103) (o := .cells #[.slice none 0 0, .slice none 0 0] 30 (0, 0)) (bku BK103.out) hg (Kd.R_ne HO_105000.out BK103.out (by decide)))
         have n6_ := aA (blk_grown (g := gb104) (o := .cells #[u105000, u105001] 30 (0, 0)) (bku BK104.out) hg (Kd.R_ne HO_105000.out BK104.out (by decide)))
         have n7_ := aA (Kd.V_afterv (ok := (fun k_ => ((P0_1_ k_ ∨ P0_2_ k_) ∨ w.heap.size ≤ k_) ∧ some k_ ≠ (u105001 : Value).ownBlock ∧ k_ ≠ gb101 ∧ k_ ≠ gb102 ∧ k_ ≠ gb103 ∧ k_ ≠ gb104)) (vlu (Kd.V_mono HL106_1.out (fun _ hk => ⟨⟨hk.1, ⟨hk.2.2.1, ⟨hk.2.2.2.1, ⟨hk.2.2.2.2.1, ⟨hk.2.2.2.2.2.1, hk.2.2.2.2.2.2⟩⟩⟩⟩⟩, hk.2.1⟩))) hg hat)
         have n8_ := aA (Kd.V_afterv (ok := (fun k_ => ((P0_1_ k_ ∨ P0_2_ k_) ∨ w.heap.size ≤ k_) ∧ some k_ ≠ (u105001 : Value).ownBlock ∧ k_ ≠ gb101 ∧ k_ ≠ gb102 ∧ k_ ≠ gb103 ∧ k_ ≠ gb104)) (vlu (Kd.V_mono HL106_2.out (fun _ hk => ⟨⟨hk.1, ⟨hk.2.2.1, ⟨hk.2.2.2.1, ⟨hk.2.2.2.2.1, ⟨hk.2.2.2.2.2.1, hk.2.2.2.2.2.2⟩⟩⟩⟩⟩, hk.2.1⟩))) hg hat)
         have n9_ := aA (Kd.V_afterv (ok := (fun k_ => ((P0_1_ k_ ∨ P0_2_ k_) ∨ w.heap.size ≤ k_) ∧ some k_ ≠ (u105001 : Value).ownBlock ∧ k_ ≠ gb101 ∧ k_ ≠ gb102 ∧ k_ ≠ gb103 ∧ k_ ≠ gb104)) (vlu (Kd.V_mono HL107_1.out (fun _ hk => ⟨⟨hk.1, ⟨hk.2.2.1, ⟨hk.2.2.2.1, ⟨hk.2.2.2.2.1, ⟨hk.2.2.2.2.2.1, hk.2.2.2.2.2.2⟩⟩⟩⟩⟩, hk.2.1⟩))) hg hat)
         have n10_ := aA (Kd.V_afterv (ok := (fun k_ => ((P0_1_ k_ ∨ P0_2_ k_) ∨ w.heap.size ≤ k_) ∧ some k_ ≠ (u105001 : Value).ownBlock ∧ k_ ≠ gb101 ∧ k_ ≠ gb102 ∧ k_ ≠ gb103 ∧ k_ ≠ gb104)) (vlu (Kd.V_mono HL107_2.out (fun _ hk => ⟨⟨hk.1, ⟨hk.2.2.1, ⟨hk.2.2.2.1, ⟨hk.2.2.2.2.1, ⟨hk.2.2.2.2.2.1, hk.2.2.2.2.2.2⟩⟩⟩⟩⟩, hk.2.1⟩))) hg hat)
         have n11_ := aA (hb)
         have n12_ := aA (ho)
         clear HO_102001
         clear HO_102002
         clear HO_105001
         clear BK101
         clear BK102
         clear BK103
         clear BK104
         clear HL106_1
         clear HL106_2
         clear HL107_1
         clear HL107_2
         clear HB
         clear HO_105000
         have HO_102001 := n0_
         have HO_102002 := n1_
         have HO_105001 := n2_
         have BK101 := n3_
         have BK102 := n4_
         have BK103 := n5_
         have BK104 := n6_
         have HL106_1 := n7_
         have HL106_2 := n8_
         have HL107_1 := n9_
         have HL107_2 := n10_
         have HB := n11_
         have HO110 := n12_
         clear n0_ n1_ n2_ n3_ n4_ n5_ n6_ n7_ n8_ n9_ n10_ n11_ n12_
         clear ho hb hg hat
         obtain ⟨Ao22, co22, eo22⟩ := Kd.R_slice HO110.out
         (first | subst eo22 | (injection eo22 with f1_ f2_ f3_; have f4_ := f1_.symm; have f5_ := f3_.symm; clear f1_ f2_ f3_; subst f4_; subst f5_))
         refine hK.out _ _ ?_
         clear hK K
         refine norm_ (a' := ?_) ?_ ?_
         rotate_left
         ·show Act.put _ (some 42) _ = _
          simp only [Act.put, List.setIfInBounds_toArray, List.set_cons_zero, List.set_cons_succ, i64_w, i32_w]
          rfl
         refine pure_ (i := 10) (N := some 43) (v := ?_) (a' := ?_) #[true, true, true, true, true, true, true, true, true, true, true, false] rfl rfl (any_of HT_.out (by kernel_rfl)) (fun _ _ _ h => h) (Or.inl ⟨by rfl, ?_⟩) ?_ ?_
         rotate_left
         ·intro w'
          go_simp
          with_reducible rfl
         rotate_left
         ·simp only [Act.put, List.setIfInBounds_toArray, List.set_cons_zero, List.set_cons_succ, i64_w, i32_w]
          rfl
         refine last_ (i := 11) (N := none) #[true, true, true, true, true, true, true, true, true, true, true, true] rfl rfl (one_of HT_.out (by kernel_rfl)) (by decide) (fun K hK => ?_)
         have hs23 : w21.cell? ⟨gb104, 0, none⟩ = some (u105000) := (blk_cell BK104.out 0).trans rfl
         have hfs23 := blk_frozen BK104.out 0
         have hns23_0 := NB101_104.out
         have hns23_1 := NB102_104.out
         have hns23_2 := NB103_104.out
         have hms23_0 := NB104_101.out
         have hms23_1 := NB104_102.out
         have hms23_2 := NB104_103.out
         refine skip_ (w1 := ?_) (by rfl) rfl ?_ ?_
         rotate_left
         ·go_simp
          rfl
         refine hK.out _ _ ?_
         clear hK K
         refine done_ (done_of HT_.out (by kernel_rfl)) ?_
         try go_wp2
         have n0_ : Aside0 (Kd.V (Kd.int .u64) 22 (w21.setCell ⟨gb104, 0, none⟩ (.slice Ao22 y108.length co22)) w.heap.size (fun k_ => ((P0_1_ k_ ∨ P0_2_ k_) ∨ w.heap.size ≤ k_) ∧ some k_ ≠ (u105001 : Value).ownBlock ∧ some k_ ≠ (.slice Ao22 y108.length co22 : Value).ownBlock ∧ k_ ≠ gb101 ∧ k_ ≠ gb102 ∧ k_ ≠ gb103 ∧ k_ ≠ gb104) (.slice A0_1 l0_1.length c0_1) l0_1) := ⟨by (with_reducible repeat (first | apply Kd.V_alloc | apply Kd.V_drewN | apply Kd.V_drew)); exact Kd.V_mono (Kd.V_far (p := ⟨gb104, 0, none⟩) (Kd.V_mono HO_102001.out (fun k_ hk => (⟨hk, hk.1.2.2.2.2.2⟩ : _ ∧ k_ ≠ gb104))) (fun _ hk => hk.2) (.slice Ao22 y108.length co22)) (fun _ hk => ⟨hk.1.1.1, ⟨hk.1.1.2.1, ⟨hk.1.2, ⟨hk.1.1.2.2.1, ⟨hk.1.1.2.2.2.1, ⟨hk.1.1.2.2.2.2.1, hk.1.1.2.2.2.2.2⟩⟩⟩⟩⟩⟩)⟩
         have n1_ : Aside0 (Kd.V k64 64 (w21.setCell ⟨gb104, 0, none⟩ (.slice Ao22 y108.length co22)) w.heap.size (fun k_ => ((P0_1_ k_ ∨ P0_2_ k_) ∨ w.heap.size ≤ k_) ∧ some k_ ≠ (u105001 : Value).ownBlock ∧ some k_ ≠ (.slice Ao22 y108.length co22 : Value).ownBlock ∧ k_ ≠ gb101 ∧ k_ ≠ gb102 ∧ k_ ≠ gb103 ∧ k_ ≠ gb104) (.slice (some ad106) l0_2.length c0_2) l0_2) := ⟨by (with_reducible repeat (first | apply Kd.V_alloc | apply Kd.V_drewN | apply Kd.V_drew)); exact Kd.V_mono (Kd.V_far (p := ⟨gb104, 0, none⟩) (Kd.V_mono HO_102002.out (fun k_ hk => (⟨hk, hk.1.2.2.2.2.2⟩ : _ ∧ k_ ≠ gb104))) (fun _ hk => hk.2) (.slice Ao22 y108.length co22)) (fun _ hk => ⟨hk.1.1.1, ⟨hk.1.1.2.1, ⟨hk.1.2, ⟨hk.1.1.2.2.1, ⟨hk.1.1.2.2.2.1, ⟨hk.1.1.2.2.2.2.1, hk.1.1.2.2.2.2.2⟩⟩⟩⟩⟩⟩)⟩
         have n2_ : Aside0 (Kd.R (Kd.int .u64) 22 (w21.setCell ⟨gb104, 0, none⟩ (.slice Ao22 y108.length co22)) w.heap.size (fun k_ => (w.heap.size ≤ k_) ∧ some k_ ≠ (.slice Ao22 y108.length co22 : Value).ownBlock) u105001 x105001_1) := ⟨by (with_reducible repeat (first | apply Kd.R_alloc | apply Kd.R_drewN | apply Kd.R_drew)); exact Kd.R_mono (Kd.R_far (p := ⟨gb104, 0, none⟩) (Kd.R_types HO_105001.out BK104.out (by decide)) (fun _ hk => hk.2) (.slice Ao22 y108.length co22)) (fun _ hk => ⟨hk.1.1, hk.1.2⟩)⟩
         have n3_ : Aside0 (Kd.V (Kd.int .u64) 22 (w21.setCell ⟨gb104, 0, none⟩ (.slice Ao22 y108.length co22)) w.heap.size (fun k_ => ((P0_1_ k_ ∨ P0_2_ k_) ∨ w.heap.size ≤ k_) ∧ some k_ ≠ (u105001 : Value).ownBlock ∧ some k_ ≠ (.slice Ao22 y108.length co22 : Value).ownBlock ∧ k_ ≠ gb101 ∧ k_ ≠ gb102 ∧ k_ ≠ gb103 ∧ k_ ≠ gb104) (.slice A106_1 ((rd_T64 l0_2 x6_1).f1.f0).length c106_1) ((rd_T64 l0_2 x6_1).f1.f0)) := ⟨by (with_reducible repeat (first | apply Kd.V_alloc | apply Kd.V_drewN | apply Kd.V_drew)); exact Kd.V_mono (Kd.V_far (p := ⟨gb104, 0, none⟩) (Kd.V_mono HL106_1.out (fun k_ hk => (⟨hk, hk.1.2.2.2.2.2⟩ : _ ∧ k_ ≠ gb104))) (fun _ hk => hk.2) (.slice Ao22 y108.length co22)) (fun _ hk => ⟨hk.1.1.1, ⟨hk.1.1.2.1, ⟨hk.1.2, ⟨hk.1.1.2.2.1, ⟨hk.1.1.2.2.2.1, ⟨hk.1.1.2.2.2.2.1, hk.1.1.2.2.2.2.2⟩⟩⟩⟩⟩⟩)⟩
         have n4_ : Aside0 (Kd.V (Kd.int .u64) 22 (w21.setCell ⟨gb104, 0, none⟩ (.slice Ao22 y108.length co22)) w.heap.size (fun k_ => ((P0_1_ k_ ∨ P0_2_ k_) ∨ w.heap.size ≤ k_) ∧ some k_ ≠ (u105001 : Value).ownBlock ∧ some k_ ≠ (.slice Ao22 y108.length co22 : Value).ownBlock ∧ k_ ≠ gb101 ∧ k_ ≠ gb102 ∧ k_ ≠ gb103 ∧ k_ ≠ gb104) (.slice A106_2 ((rd_T64 l0_2 x6_1).f1.f1).length c106_2) ((rd_T64 l0_2 x6_1).f1.f1)) := ⟨by (with_reducible repeat (first | apply Kd.V_alloc | apply Kd.V_drewN | apply Kd.V_drew)); exact Kd.V_mono (Kd.V_far (p := ⟨gb104, 0, none⟩) (Kd.V_mono HL106_2.out (fun k_ hk => (⟨hk, hk.1.2.2.2.2.2⟩ : _ ∧ k_ ≠ gb104))) (fun _ hk => hk.2) (.slice Ao22 y108.length co22)) (fun _ hk => ⟨hk.1.1.1, ⟨hk.1.1.2.1, ⟨hk.1.2, ⟨hk.1.1.2.2.1, ⟨hk.1.1.2.2.2.1, ⟨hk.1.1.2.2.2.2.1, hk.1.1.2.2.2.2.2⟩⟩⟩⟩⟩⟩)⟩
         have n5_ : Aside0 (Kd.V (Kd.int .u64) 22 (w21.setCell ⟨gb104, 0, none⟩ (.slice Ao22 y108.length co22)) w.heap.size (fun k_ => ((P0_1_ k_ ∨ P0_2_ k_) ∨ w.heap.size ≤ k_) ∧ some k_ ≠ (u105001 : Value).ownBlock ∧ some k_ ≠ (.slice Ao22 y108.length co22 : Value).ownBlock ∧ k_ ≠ gb101 ∧ k_ ≠ gb102 ∧ k_ ≠ gb103 ∧ k_ ≠ gb104) (.slice A107_1 ((rd_T64 l0_2 x6_1).f1.f0).length c107_1) ((rd_T64 l0_2 x6_1).f1.f0)) := ⟨by (with_reducible repeat (first | apply Kd.V_alloc | apply Kd.V_drewN | apply Kd.V_drew)); exact Kd.V_mono (Kd.V_far (p := ⟨gb104, 0, none⟩) (Kd.V_mono HL107_1.out (fun k_ hk => (⟨hk, hk.1.2.2.2.2.2⟩ : _ ∧ k_ ≠ gb104))) (fun _ hk => hk.2) (.slice Ao22 y108.length co22)) (fun _ hk => ⟨hk.1.1.1, ⟨hk.1.1.2.1, ⟨hk.1.2, ⟨hk.1.1.2.2.1, ⟨hk.1.1.2.2.2.1, ⟨hk.1.1.2.2.2.2.1, hk.1.1.2.2.2.2.2⟩⟩⟩⟩⟩⟩)⟩
         have n6_ : Aside0 (Kd.V (Kd.int .u64) 22 (w21.setCell ⟨gb104, 0, none⟩ (.slice Ao22 y108.length co22)) w.heap.size (fun k_ => ((P0_1_ k_ ∨ P0_2_ k_) ∨ w.heap.size ≤ k_) ∧ some k_ ≠ (u105001 : Value).ownBlock ∧ some k_ ≠ (.slice Ao22 y108.length co22 : Value).ownBlock ∧ k_ ≠ gb101 ∧ k_ ≠ gb102 ∧ k_ ≠ gb103 ∧ k_ ≠ gb104) (.slice A107_2 ((rd_T64 l0_2 x6_1).f1.f1).length c107_2) ((rd_T64 l0_2 x6_1).f1.f1)) := ⟨by (with_reducible repeat (first | apply Kd.V_alloc | apply Kd.V_drewN | apply Kd.V_drew)); exact Kd.V_mono (Kd.V_far (p := ⟨gb104, 0, none⟩) (Kd.V_mono HL107_2.out (fun k_ hk => (⟨hk, hk.1.2.2.2.2.2⟩ : _ ∧ k_ ≠ gb104))) (fun _ hk => hk.2) (.slice Ao22 y108.length co22)) (fun _ hk => ⟨hk.1.1.1, ⟨hk.1.1.2.1, ⟨hk.1.2, ⟨hk.1.1.2.2.1, ⟨hk.1.1.2.2.2.1, ⟨hk.1.1.2.2.2.2.1, hk.1.1.2.2.2.2.2⟩⟩⟩⟩⟩⟩)⟩
         have n7_ : Aside0 (Kd.R (Kd.int .u64) 22 (w21.setCell ⟨gb104, 0, none⟩ (.slice Ao22 y108.length co22)) w.heap.size (fun k_ => (w.heap.size ≤ k_) ∧ some k_ ≠ (u105001 : Value).ownBlock) (.slice Ao22 y108.length co22) y108) := ⟨by (with_reducible repeat (first | apply Kd.R_alloc | apply Kd.R_drewN | apply Kd.R_drew)); exact Kd.R_mono (Kd.R_far (p := ⟨gb104, 0, none⟩) (Kd.R_types HO110.out BK104.out (by decide)) (fun _ hk => hk.2) (.slice Ao22 y108.length co22)) (fun _ hk => ⟨hk.1.1, hk.1.2⟩)⟩
         have n8_ : Aside0 ((w21.setCell ⟨gb104, 0, none⟩ (.slice Ao22 y108.length co22)).heap[gb101]? = some (.cells #[.int .u64 (IntKind.u64.wrap (a0_0 + 1)), .slice A0_1 l0_1.length c0_1, .slice (some ad106) l0_2.length c0_2] 26 (0, 0))) := ⟨by refine bku ?_; refine blk_far ?_ NB101_104.out _; refine bku ?_; exact BK101.out⟩
         have n9_ : Aside0 ((w21.setCell ⟨gb104, 0, none⟩ (.slice Ao22 y108.length co22)).heap[gb102]? = some (.cells #[.int .u64 0, .slice none 0 0, .slice none 0 0] 26 (0, 0))) := ⟨by refine bku ?_; refine blk_far ?_ NB102_104.out _; refine bku ?_; exact BK102.out⟩
         have n10_ : Aside0 ((w21.setCell ⟨gb104, 0, none⟩ (.slice Ao22 y108.length co22)).heap[gb103]? = some (.cells #[.slice none 0 0, .slice none 0 0] 30 (0, 0))) := ⟨by refine bku ?_; refine blk_far ?_ NB103_104.out _; refine bku ?_; exact BK103.out⟩
         have n11_ : Aside0 ((w21.setCell ⟨gb104, 0, none⟩ (.slice Ao22 y108.length co22)).heap[gb104]? = some (.cells #[.slice Ao22 y108.length co22, u105001] 30 (0, 0))) := ⟨by refine bku ?_; refine blk_put (cs := #[u105000, u105001]) ?_ 0 _ rfl; refine bku ?_; exact BK104.out⟩
         have n12_ : Aside0 (Below w.heap.size w (w21.setCell ⟨gb104, 0, none⟩ (.slice Ao22 y108.length co22))) := ⟨by repeat (first | (with_reducible first | exact HB.out | apply below_alloc | apply pw_below_drewN | apply below_drew1 | refine below_set ?_ GE101.out | refine below_set ?_ GE102.out | refine below_set ?_ GE103.out | refine below_set ?_ GE104.out) | exact HB.out)⟩
         (try clear HO_102001)
         (try clear HO_102002)
         (try clear HO_105001)
         (try clear HL106_1)
         (try clear HL106_2)
         (try clear HL107_1)
         (try clear HL107_2)
         (try clear HO110)
         (try clear BK101)
         (try clear BK102)
         (try clear BK103)
         (try clear BK104)
         (try clear HB)
         generalize (w21.setCell ⟨gb104, 0, none⟩ (.slice Ao22 y108.length co22)) = w24 at n0_ n1_ n2_ n3_ n4_ n5_ n6_ n7_ n8_ n9_ n10_ n11_ n12_ ⊢
         have HO_102001 := n0_
         have HO_102002 := n1_
         have HO_105001 := n2_
         have HL106_1 := n3_
         have HL106_2 := n4_
         have HL107_1 := n5_
         have HL107_2 := n6_
         have HO110 := n7_
         have BK101 := n8_
         have BK102 := n9_
         have BK103 := n10_
         have BK104 := n11_
         have HB := n12_
         clear n0_ n1_ n2_ n3_ n4_ n5_ n6_ n7_ n8_ n9_ n10_ n11_ n12_
         have n0_ := aA (Kd.V_drew HO_102001.out)
         have n1_ := aA (Kd.V_drew HO_102002.out)
         have n2_ := aA (Kd.R_drew HO_105001.out)
         have n3_ := aA (Kd.V_drew HL106_1.out)
         have n4_ := aA (Kd.V_drew HL106_2.out)
         have n5_ := aA (Kd.V_drew HL107_1.out)
         have n6_ := aA (Kd.V_drew HL107_2.out)
         have n7_ := aA (Kd.R_drew HO110.out)
         have n8_ := aA (blk_drew BK101.out)
         have n9_ := aA (blk_drew BK102.out)
         have n10_ := aA (blk_drew BK103.out)
         have n11_ := aA (blk_drew BK104.out)
         have n12_ := aA (below_drew1 HB.out)
         clear HO_102001
         clear HO_102002
         clear HO_105001
         clear HL106_1
         clear HL106_2
         clear HL107_1
         clear HL107_2
         clear HO110
         clear BK101
         clear BK102
         clear BK103
         clear BK104
         clear HB
         have HO_102001 := n0_
         have HO_102002 := n1_
         have HO_105001 := n2_
         have HL106_1 := n3_
         have HL106_2 := n4_
         have HL107_1 := n5_
         have HL107_2 := n6_
         have HO110 := n7_
         have BK101 := n8_
         have BK102 := n9_
         have BK103 := n10_
         have BK104 := n11_
         have HB := n12_
         clear n0_ n1_ n2_ n3_ n4_ n5_ n6_ n7_ n8_ n9_ n10_ n11_ n12_
         have p111 : 0 ≤ (x6_1 : Int) := of_decide_eq_true (by first | (with_reducible assumption) | assumption)
         have q111 : x6_1 < (l0_2.length : Int) := of_decide_eq_true (by first | (with_reducible assumption) | assumption)
         obtain ⟨ad111, A111_1, c111_1, A111_2, c111_2, e111, hx111_0, hx111_1, hx111_2, hl111_1, hi111_1, hl111_2, hi111_2⟩ := at_T64 (Kd.V_reads' HO_102002.out).2.2 x6_1 p111 q111
         obtain rfl : ad106 = ad111 := (by injection e111)
         obtain ⟨ce111, hce111, hMe111, hcc111⟩ := Kd.V_get HO_102002.out z64 x6_1 p111 (by first | exact q111 | exact of_decide_eq_true (by first | (with_reducible assumption) | assumption) | (have e_ := (Kd.V_reads' HO_102002.out).1; omega))
         obtain ⟨ua111_1, uc111_1, ua111_2, uc111_2, rfl, ul111_1, ge111_1, ul111_2, ge111_2⟩ := k64_openF hMe111
         have hv111_1 := hcc111 1 _ rfl
         rw [add_field _ _ 1 (by omega)] at hv111_1
         replace hv111_1 := Option.some.inj (hv111_1.symm.trans hx111_1)
         injection hv111_1 with hva_ hvn_ hvc_
         rw [hva_] at ge111_1
         rw [hvc_] at ul111_1
         have HL111_1 := aA (show Kd.V (Kd.int .u64) 22 _ w.heap.size _ _ ((rd_T64 l0_2 x6_1).f1.f0) from Kd.V_mk ul111_1 ge111_1)
         clear hva_ hvn_ hvc_ ge111_1 ul111_1
         have hv111_2 := hcc111 2 _ rfl
         rw [add_field _ _ 2 (by omega)] at hv111_2
         replace hv111_2 := Option.some.inj (hv111_2.symm.trans hx111_2)
         injection hv111_2 with hva_ hvn_ hvc_
         rw [hva_] at ge111_2
         rw [hvc_] at ul111_2
         have HL111_2 := aA (show Kd.V (Kd.int .u64) 22 _ w.heap.size _ _ ((rd_T64 l0_2 x6_1).f1.f1) from Kd.V_mk ul111_2 ge111_2)
         clear hva_ hvn_ hvc_ ge111_2 ul111_2
         clear hcc111 hce111
         have HR111_1 := aA hi111_1
         have HC111_1 := aA hl111_1
         clear hi111_1 hl111_1
         have HR111_2 := aA hi111_2
         have HC111_2 := aA hl111_2
         clear hi111_2 hl111_2
         replace p111 := eq_true p111
         replace q111 := eq_true q111
         refine start_ (n := 12) (S := fun w' => w'.cell? ⟨gb104, 0, none⟩ = some (.slice Ao22 y108.length co22) ∧ w'.cell? ⟨gb104, 1, none⟩ = some (u105001) ∧ w'.cell? ⟨gb101, 0, none⟩ = some (.int .u64 (IntKind.u64.wrap (a0_0 + 1))) ∧ w'.cell? ⟨gb101, 1, none⟩ = some (.slice A0_1 l0_1.length c0_1) ∧ w'.cell? ⟨gb101, 2, none⟩ = some (.slice (some ad106) l0_2.length c0_2) ∧ w'.cell? (ad106.add ((x6_1).toNat * 3)) = some (.int .u64 ((rd_T64 l0_2 x6_1).f0)) ∧ w'.cell? ⟨(ad106.add ((x6_1).toNat * 3)).block, (ad106.add ((x6_1).toNat * 3)).off + 1, none⟩ = some (.slice A111_1 ((rd_T64 l0_2 x6_1).f1.f0).length c111_1) ∧ w'.cell? ⟨(ad106.add ((x6_1).toNat * 3)).block, (ad106.add ((x6_1).toNat * 3)).off + 2, none⟩ = some (.slice A111_2 ((rd_T64 l0_2 x6_1).f1.f1).length c111_2)) (ds := [9, 11]) #[false, false, false, false, false, false, false, false, false, false, false, false] (by kernel_rfl) rfl rfl ⟨(blk_cell BK104.out 0).trans rfl, (blk_cell BK104.out 1).trans rfl, (blk_cell BK101.out 0).trans rfl, (blk_cell BK101.out 1).trans rfl, (blk_cell BK101.out 2).trans rfl, hx111_0, hx111_1, hx111_2⟩ (fun hHeld => ?_); refine with_tabW epoch_Advance.tab8 epoch_Advance.bits8 (fun HT_ HW_ => ?_)
         generalize w24.drew = w25 at HO_102001 HO_102002 HO_105001 HL106_1 HL106_2 HL107_1 HL107_2 HO110 BK101 BK102 BK103 BK104 HB HL111_1 HL111_2 HR111_1 HR111_2 hx111_0 hx111_1 hx111_2 hHeld ⊢
         refine pure_ (i := 0) (N := some 44) (v := ?_) (a' := ?_) #[true, false, false, false, false, false, false, false, false, false, false, false] rfl rfl (any_of HT_.out (by kernel_rfl)) (fun _ _ _ h => h) (Or.inl ⟨by rfl, ?_⟩) ?_ ?_
         rotate_left
         ·intro w'
          go_simp
          with_reducible rfl
         rotate_left
         ·simp only [Act.put, List.setIfInBounds_toArray, List.set_cons_zero, List.set_cons_succ, i64_w, i32_w]
          rfl
         refine pure_ (i := 2) (N := some 46) (v := ?_) (a' := ?_) #[true, false, true, false, false, false, false, false, false, false, false, false] rfl rfl (any_of HT_.out (by kernel_rfl)) (fun _ _ _ h => h) (Or.inl ⟨by rfl, ?_⟩) ?_ ?_
         rotate_left
         ·intro w'
          go_simp
          with_reducible rfl
         rotate_left
         ·simp only [Act.put, List.setIfInBounds_toArray, List.set_cons_zero, List.set_cons_succ, i64_w, i32_w]
          rfl
         refine pure_ (i := 4) (N := some 48) (v := ?_) (a' := ?_) #[true, false, true, false, true, false, false, false, false, false, false, false] rfl rfl (any_of HT_.out (by kernel_rfl)) (fun _ _ _ h => h) (Or.inl ⟨by rfl, ?_⟩) ?_ ?_
         rotate_left
         ·intro w'
          go_simp
          with_reducible rfl
         rotate_left
         ·simp only [Act.put, List.setIfInBounds_toArray, List.set_cons_zero, List.set_cons_succ, i64_w, i32_w]
          rfl
         refine take_ (i := 1) (N := some 45) (v := ?_) (a' := ?_) #[true, true, true, false, true, false, false, false, false, false, false, false] rfl rfl (take_ofW HT_.out HW_.out (by kernel_rfl)) (fun _ _ _ h => h) (Or.inl ⟨by rfl, ?_⟩) hHeld ?_ ?_
         rotate_left
         ·rintro w' ⟨s0, s1, s2, s3, s4, s5, s6, s7⟩
          go_simp
          with_reducible rfl
         rotate_left
         ·simp only [Act.put, List.setIfInBounds_toArray, List.set_cons_zero, List.set_cons_succ, i64_w, i32_w]
          rfl
         refine take_ (i := 3) (N := some 47) (v := ?_) (a' := ?_) #[true, true, true, true, true, false, false, false, false, false, false, false] rfl rfl (take_ofW HT_.out HW_.out (by kernel_rfl)) (fun _ _ _ h => h) (Or.inl ⟨by rfl, ?_⟩) hHeld ?_ ?_
         rotate_left
         ·rintro w' ⟨s0, s1, s2, s3, s4, s5, s6, s7⟩
          go_simp
          with_reducible rfl
         rotate_left
         ·simp only [Act.put, List.setIfInBounds_toArray, List.set_cons_zero, List.set_cons_succ, i64_w, i32_w]
          rfl
         refine pure_ (i := 5) (N := some 49) (v := ?_) (a' := ?_) #[true, true, true, true, true, true, false, false, false, false, false, false] rfl rfl (any_of HT_.out (by kernel_rfl)) (fun _ _ _ h => h) (Or.inl ⟨by rfl, ?_⟩) ?_ ?_
         rotate_left
         ·intro w'
          go_simp
          with_reducible rfl
         rotate_left
         ·simp only [Act.put, List.setIfInBounds_toArray, List.set_cons_zero, List.set_cons_succ, i64_w, i32_w]
          rfl
         refine pure_ (i := 6) (N := some 50) (v := ?_) (a' := ?_) #[true, true, true, true, true, true, true, false, false, false, false, false] rfl rfl (any_of HT_.out (by kernel_rfl)) (fun _ _ _ h => h) (Or.inl ⟨by rfl, ?_⟩) ?_ ?_
         rotate_left
         ·intro w'
          go_simp
          with_reducible rfl
         rotate_left
         ·simp only [Act.put, List.setIfInBounds_toArray, List.set_cons_zero, List.set_cons_succ, i64_w, i32_w]
          rfl
         refine pure_ (i := 7) (N := some 51) (v := ?_) (a' := ?_) #[true, true, true, true, true, true, true, true, false, false, false, false] rfl rfl (any_of HT_.out (by kernel_rfl)) (fun _ _ _ h => h) (Or.inl ⟨by rfl, ?_⟩) ?_ ?_
         rotate_left
         ·intro w'
          go_simp
          with_reducible rfl
         rotate_left
         ·simp only [Act.put, List.setIfInBounds_toArray, List.set_cons_zero, List.set_cons_succ, i64_w, i32_w]
          rfl
         refine take_ (i := 8) (N := some 52) (v := ?_) (a' := ?_) #[true, true, true, true, true, true, true, true, true, false, false, false] rfl rfl (take_ofW HT_.out HW_.out (by kernel_rfl)) (fun _ _ _ h => h) (Or.inl ⟨by rfl, ?_⟩) hHeld ?_ ?_
         rotate_left
         ·rintro w' ⟨s0, s1, s2, s3, s4, s5, s6, s7⟩
          go_simp
          with_reducible rfl
         rotate_left
         ·simp only [Act.put, List.setIfInBounds_toArray, List.set_cons_zero, List.set_cons_succ, i64_w, i32_w]
          rfl
         refine last_ (i := 9) (N := some 53) #[true, true, true, true, true, true, true, true, true, true, false, false] rfl rfl (one_of HT_.out (by kernel_rfl)) (by decide) (fun K hK => ?_)
         refine Kd.R_append_rows_step (Kd.int .u64) (w0 := w) w.heap.size (by rfl) (.tmp 45) (.tmp 52) 23 22 (.int .u64 0) 8 rfl Try.underlying23 info22 rfl (by decide) (by omega) u105001 x105001_1 ((rd_T64 l0_2 x6_1).f1.f1) _ _ _ (fun k_ => (w.heap.size ≤ k_) ∧ some k_ ≠ (.slice Ao22 y108.length co22 : Value).ownBlock) (fun _ => False) rfl rfl ?aO ?aR (fun _ _ h => h) (fun _ h => h.elim) ?aF ?aB ?aS ?aL ?_
         (case aR => repeat (first | exact (by repeat (first | (with_reducible exact HR111_2.out) | (with_reducible refine Kd.C_alloc ?_ _) | (with_reducible refine Kd.C_drewN ?_ _) | (with_reducible refine Kd.C_drew ?_) | exact HR111_2.out)) | (with_reducible refine Kd.C_alloc ?_ _) | (with_reducible refine Kd.C_drewN ?_ _) | (with_reducible refine Kd.C_drew ?_)))
         (case aB => exact (bls HB.out))
         (case aF => exact (fun k_ hk => ⟨(Nat.le_trans (below_size (bls HB.out)) hk), Kd.fresh' (Kd.R_lt (rlu HO110.out)) k_ hk⟩))
         (case aO => exact (rlu HO_105001.out))
         (case aS => exact (below_size (bls HB.out)))
         (case aL => have := LMc18.out; omega)
         intro v113 w26 ho hb hg hat
         rw [← Ny112.out] at ho
         have n0_ := aA (Kd.V_afterv (ok := (fun k_ => ((P0_1_ k_ ∨ P0_2_ k_) ∨ w.heap.size ≤ k_) ∧ some k_ ≠ (.slice Ao22 y108.length co22 : Value).ownBlock ∧ k_ ≠ gb101 ∧ k_ ≠ gb102 ∧ k_ ≠ gb103 ∧ k_ ≠ gb104)) (vlu (Kd.V_mono HO_102001.out (fun _ hk => ⟨⟨hk.1, ⟨hk.2.2.1, ⟨hk.2.2.2.1, ⟨hk.2.2.2.2.1, ⟨hk.2.2.2.2.2.1, hk.2.2.2.2.2.2⟩⟩⟩⟩⟩, hk.2.1⟩))) hg hat)
         have n1_ := aA (Kd.V_afterv (ok := (fun k_ => ((P0_1_ k_ ∨ P0_2_ k_) ∨ w.heap.size ≤ k_) ∧ some k_ ≠ (.slice Ao22 y108.length co22 : Value).ownBlock ∧ k_ ≠ gb101 ∧ k_ ≠ gb102 ∧ k_ ≠ gb103 ∧ k_ ≠ gb104)) (vlu (Kd.V_mono HO_102002.out (fun _ hk => ⟨⟨hk.1, ⟨hk.2.2.1, ⟨hk.2.2.2.1, ⟨hk.2.2.2.2.1, ⟨hk.2.2.2.2.2.1, hk.2.2.2.2.2.2⟩⟩⟩⟩⟩, hk.2.1⟩))) hg hat)
         have n2_ := aA (blk_grown (g := gb101) (o := .cells #[.int .u64 (IntKind.u64.wrap (a0_0 + 1)), .slice A0_1 l0_1.length c0_1, .slice (some ad106) l0_2.length c0_2] 26 (0, 0)) (bku BK101.out) hg (Kd.R_ne HO_105001.out BK101.out (by decide)))
         have n3_ := aA (blk_grown (g := gb102) (o := .cells #[.int .u64 0, .slice none 0 0, .slice none 0 0] 26 (0, 0)) (bku BK102.out) hg (Kd.R_ne HO_105001.out BK102.out (by decide)))
         have n4_ := aA (blk_grown (g := gb103) (o := .cells #[.slice none 0 0, .slice none 0 0] 30 (0, 0)) (bku BK103.out) hg (Kd.R_ne HO_105001.out BK103.out (by decide)))
         have n5_ := aA (blk_grown (g := gb104) (o := .cells #[.slice Ao22 y108.length co22, u105001] 30 (0, 0)) (bku BK104.out) hg (Kd.R_ne HO_105001.out BK104.out (by decide)))
         have n6_ := aA (Kd.V_afterv (ok := (fun k_ => ((P0_1_ k_ ∨ P0_2_ k_) ∨ w.heap.size ≤ k_) ∧ some k_ ≠ (.slice Ao22 y108.length co22 : Value).ownBlock ∧ k_ ≠ gb101 ∧ k_ ≠ gb102 ∧ k_ ≠ gb103 ∧ k_ ≠ gb104)) (vlu (Kd.V_mono HL106_1.out (fun _ hk => ⟨⟨hk.1, ⟨hk.2.2.1, ⟨hk.2.2.2.1, ⟨hk.2.2.2.2.1, ⟨hk.2.2.2.2.2.1, hk.2.2.2.2.2.2⟩⟩⟩⟩⟩, hk.2.1⟩))) hg hat)
         have n7_ := aA (Kd.V_afterv (ok := (fun k_ => ((P0_1_ k_ ∨ P0_2_ k_) ∨ w.heap.size ≤ k_) ∧ some k_ ≠ (.slice Ao22 y108.length co22 : Value).ownBlock ∧ k_ ≠ gb101 ∧ k_ ≠ gb102 ∧ k_ ≠ gb103 ∧ k_ ≠ gb104)) (vlu (Kd.V_mono HL106_2.out (fun _ hk => ⟨⟨hk.1, ⟨hk.2.2.1, ⟨hk.2.2.2.1, ⟨hk.2.2.2.2.1, ⟨hk.2.2.2.2.2.1, hk.2.2.2.2.2.2⟩⟩⟩⟩⟩, hk.2.1⟩))) hg hat)
         have n8_ := aA (Kd.V_afterv (ok := (fun k_ => ((P0_1_ k_ ∨ P0_2_ k_) ∨ w.heap.size ≤ k_) ∧ some k_ ≠ (.slice Ao22 y108.length co22 : Value).ownBlock ∧ k_ ≠ gb101 ∧ k_ ≠ gb102 ∧ k_ ≠ gb103 ∧ k_ ≠ gb104)) (vlu (Kd.V_mono HL107_1.out (fun _ hk => ⟨⟨hk.1, ⟨hk.2.2.1, ⟨hk.2.2.2.1, ⟨hk.2.2.2.2.1, ⟨hk.2.2.2.2.2.1, hk.2.2.2.2.2.2⟩⟩⟩⟩⟩, hk.2.1⟩))) hg hat)
         have n9_ := aA (Kd.V_afterv (ok := (fun k_ => ((P0_1_ k_ ∨ P0_2_ k_) ∨ w.heap.size ≤ k_) ∧ some k_ ≠ (.slice Ao22 y108.length co22 : Value).ownBlock ∧ k_ ≠ gb101 ∧ k_ ≠ gb102 ∧ k_ ≠ gb103 ∧ k_ ≠ gb104)) (vlu (Kd.V_mono HL107_2.out (fun _ hk => ⟨⟨hk.1, ⟨hk.2.2.1, ⟨hk.2.2.2.1, ⟨hk.2.2.2.2.1, ⟨hk.2.2.2.2.2.1, hk.2.2.2.2.2.2⟩⟩⟩⟩⟩, hk.2.1⟩))) hg hat)
         have n10_ := aA (Kd.R_after (ok := (fun k_ => (w.heap.size ≤ k_))) (rlu HO110.out) hg hat)
         have n11_ := aA (Kd.V_afterv (ok := (fun k_ => ((P0_1_ k_ ∨ P0_2_ k_) ∨ w.heap.size ≤ k_) ∧ some k_ ≠ (.slice Ao22 y108.length co22 : Value).ownBlock ∧ k_ ≠ gb101 ∧ k_ ≠ gb102 ∧ k_ ≠ gb103 ∧ k_ ≠ gb104)) (vlu (Kd.V_mono HL111_1.out (fun _ hk => ⟨⟨hk.1, ⟨hk.2.2.1, ⟨hk.2.2.2.1, ⟨hk.2.2.2.2.1, ⟨hk.2.2.2.2.2.1, hk.2.2.2.2.2.2⟩⟩⟩⟩⟩, hk.2.1⟩))) hg hat)
         have n12_ := aA (Kd.V_afterv (ok := (fun k_ => ((P0_1_ k_ ∨ P0_2_ k_) ∨ w.heap.size ≤ k_) ∧ some k_ ≠ (.slice Ao22 y108.length co22 : Value).ownBlock ∧ k_ ≠ gb101 ∧ k_ ≠ gb102 ∧ k_ ≠ gb103 ∧ k_ ≠ gb104)) (vlu (Kd.V_mono HL111_2.out (fun _ hk => ⟨⟨hk.1, ⟨hk.2.2.1, ⟨hk.2.2.2.1, ⟨hk.2.2.2.2.1, ⟨hk.2.2.2.2.2.1, hk.2.2.2.2.2.2⟩⟩⟩⟩⟩, hk.2.1⟩))) hg hat)
         have n13_ := aA (hb)
         have n14_ := aA (ho)
         clear HO_102001
         clear HO_102002
         clear BK101
         clear BK102
         clear BK103
         clear BK104
         clear HL106_1
         clear HL106_2
         clear HL107_1
         clear HL107_2
         clear HO110
         clear HL111_1
         clear HL111_2
         clear HB
         clear HO_105001
         have HO_102001 := n0_
         have HO_102002 := n1_
         have BK101 := n2_
         have BK102 := n3_
         have BK103 := n4_
         have BK104 := n5_
         have HL106_1 := n6_
         have HL106_2 := n7_
         have HL107_1 := n8_
         have HL107_2 := n9_
         have HO110 := n10_
         have HL111_1 := n11_
         have HL111_2 := n12_
         have HB := n13_
         have HO114 := n14_
         clear n0_ n1_ n2_ n3_ n4_ n5_ n6_ n7_ n8_ n9_ n10_ n11_ n12_ n13_ n14_
         clear ho hb hg hat
         obtain ⟨Ao27, co27, eo27⟩ := Kd.R_slice HO114.out
         (first | subst eo27 | (injection eo27 with f1_ f2_ f3_; have f4_ := f1_.symm; have f5_ := f3_.symm; clear f1_ f2_ f3_; subst f4_; subst f5_))
         refine hK.out _ _ ?_
         clear hK K
         refine norm_ (a' := ?_) ?_ ?_
         rotate_left
         ·show Act.put _ (some 53) _ = _
          simp only [Act.put, List.setIfInBounds_toArray, List.set_cons_zero, List.set_cons_succ, i64_w, i32_w]
          rfl
         refine pure_ (i := 10) (N := some 54) (v := ?_) (a' := ?_) #[true, true, true, true, true, true, true, true, true, true, true, false] rfl rfl (any_of HT_.out (by kernel_rfl)) (fun _ _ _ h => h) (Or.inl ⟨by rfl, ?_⟩) ?_ ?_
         rotate_left
         ·intro w'
          go_simp
          with_reducible rfl
         rotate_left
         ·simp only [Act.put, List.setIfInBounds_toArray, List.set_cons_zero, List.set_cons_succ, i64_w, i32_w]
          rfl
         refine last_ (i := 11) (N := none) #[true, true, true, true, true, true, true, true, true, true, true, true] rfl rfl (one_of HT_.out (by kernel_rfl)) (by decide) (fun K hK => ?_)
         have hs28 : w26.cell? ⟨gb104, 1, none⟩ = some (u105001) := (blk_cell BK104.out 1).trans rfl
         have hfs28 := blk_frozen BK104.out 1
         have hns28_0 := NB101_104.out
         have hns28_1 := NB102_104.out
         have hns28_2 := NB103_104.out
         have hms28_0 := NB104_101.out
         have hms28_1 := NB104_102.out
         have hms28_2 := NB104_103.out
         refine skip_ (w1 := ?_) (by rfl) rfl ?_ ?_
         rotate_left
         ·go_simp
          rfl
         refine hK.out _ _ ?_
         clear hK K
         refine done_ (done_of HT_.out (by kernel_rfl)) ?_
         try go_wp2
         go_roundg k1
         case measure => have := HK1.out; omega
         case rel => exact ⟨(wrap64 (x6_1 + 1)), (y108), (y112), (.slice Ao22 y108.length co22), (.slice Ao27 y112.length co27), (by first | rfl | (simp; done) | (simp [*]; done)), H', ⟨by have := HK1.out; omega⟩, ⟨by (with_reducible repeat (first | apply Kd.V_alloc | apply Kd.V_drewN | apply Kd.V_drew)); exact Kd.V_mono (Kd.V_far (p := ⟨gb104, 1, none⟩) (Kd.V_mono HO_102001.out (fun k_ hk => (⟨hk, hk.1.2.2.2.2.2⟩ : _ ∧ k_ ≠ gb104))) (fun _ hk => hk.2) (.slice Ao27 y112.length co27)) (fun _ hk => ⟨hk.1.1.1, ⟨hk.1.1.2.1, ⟨hk.1.2, ⟨hk.1.1.2.2.1, ⟨hk.1.1.2.2.2.1, ⟨hk.1.1.2.2.2.2.1, hk.1.1.2.2.2.2.2⟩⟩⟩⟩⟩⟩)⟩, ⟨by (with_reducible repeat (first | apply Kd.V_alloc | apply Kd.V_drewN | apply Kd.V_drew)); exact Kd.V_mono (Kd.V_far (p := ⟨gb104, 1, none⟩) (Kd.V_mono HO_102002.out (fun k_ hk => (⟨hk, hk.1.2.2.2.2.2⟩ : _ ∧ k_ ≠ gb104))) (fun _ hk => hk.2) (.slice Ao27 y112.length co27)) (fun _ hk => ⟨hk.1.1.1, ⟨hk.1.1.2.1, ⟨hk.1.2, ⟨hk.1.1.2.2.1, ⟨hk.1.1.2.2.2.1, ⟨hk.1.1.2.2.2.2.1, hk.1.1.2.2.2.2.2⟩⟩⟩⟩⟩⟩)⟩, ⟨by (with_reducible repeat (first | apply Kd.R_alloc | apply Kd.R_drewN | apply Kd.R_drew)); exact Kd.R_mono (Kd.R_far (p := ⟨gb104, 1, none⟩) (Kd.R_types HO110.out BK104.out (by decide)) (fun _ hk => hk.2) (.slice Ao27 y112.length co27)) (fun _ hk => ⟨hk.1.1, hk.1.2⟩)⟩, ⟨by (with_reducible repeat (first | apply Kd.R_alloc | apply Kd.R_drewN | apply Kd.R_drew)); exact Kd.R_mono (Kd.R_far (p := ⟨gb104, 1, none⟩) (Kd.R_types HO114.out BK104.out (by decide)) (fun _ hk => hk.2) (.slice Ao27 y112.length co27)) (fun _ hk => ⟨hk.1.1, hk.1.2⟩)⟩, ⟨by refine bku ?_; refine blk_far ?_ NB101_104.out _; refine bku ?_; exact BK101.out⟩, ⟨by refine bku ?_; refine blk_far ?_ NB102_104.out _; refine bku ?_; exact BK102.out⟩, ⟨by refine bku ?_; refine blk_far ?_ NB103_104.out _; refine bku ?_; exact BK103.out⟩, ⟨by refine bku ?_; refine blk_put (cs := #[.slice Ao22 y108.length co22, u105001]) ?_ 1 _ rfl; refine bku ?_; exact BK104.out⟩, ⟨by repeat (first | (with_reducible first | exact HB.out | apply below_alloc | apply pw_below_drewN | apply below_drew1 | refine below_set ?_ GE101.out | refine below_set ?_ GE102.out | refine below_set ?_ GE103.out | refine below_set ?_ GE104.out) | exact HB.out)⟩⟩
        ·rw [if_neg c18] at H
         exact absurd H (by simp)
       ·rw [if_neg c17] at H
        exact absurd H (by simp)
      ·rw [if_neg c16] at H
       have c16b0 : decide (2 ≤ (IntKind.u64.wrap ((IntKind.u64.wrap (a0_0 + 1)) - ((rd_T64 l0_2 x6_1).f0)))) = false := decide_eq_false c16
       clear c16
       have c29b0 := eq_true (of_decide_eq_true (by first | (with_reducible assumption) | assumption) : 0 ≤ x6_1)
       by_cases c30 : x6_1 ≤ (l0_2.length : Int)
       ·rw [if_pos c30] at H
        have c30b0 := eq_true c30
        have c30b1 : decide (x6_1 ≤ (l0_2.length : Int)) = true := decide_eq_true c30
        clear c30
        obtain ⟨y115, hy115⟩ : ∃ y_ : List (S64), y_ = (l0_2.drop (x6_1 : Int).toNat) := ⟨_, rfl⟩
        replace H : (some ((IntKind.u64.wrap (a0_0 + 1)), l0_1, y115, x105000_1, x105001_1, true)) = some (r1, r2, r3, r4, r5, r6) := by first | (rw [hy115]; with_reducible exact H) | (have H2_ := (Option.bind_some _ _).symm.trans H; rw [hy115]; with_reducible exact H2_) | (have H2_ := (Option.bind_some _ _).symm.trans H; with_reducible exact H2_) | with_reducible exact H | (rw [hy115]; exact H) | exact H
        have Ny115 := aA hy115
        clear hy115
        simp only [Option.some.injEq, Prod.mk.injEq] at H
        obtain ⟨rfl, rfl, rfl, rfl, rfl, rfl⟩ := H
        try go_wp2
        have n0_ := aA (Kd.V_drew HO_102001.out)
        have n1_ := aA (Kd.V_drew HO_102002.out)
        have n2_ := aA (Kd.R_drew HO_105000.out)
        have n3_ := aA (Kd.R_drew HO_105001.out)
        have n4_ := aA (blk_drew BK101.out)
        have n5_ := aA (blk_drew BK102.out)
        have n6_ := aA (blk_drew BK103.out)
        have n7_ := aA (blk_drew BK104.out)
        have n8_ := aA (below_drew1 HB.out)
        clear HO_102001
        clear HO_102002
        clear HO_105000
        clear HO_105001
        clear BK101
        clear BK102
        clear BK103
        clear BK104
        clear HB
        have HO_102001 := n0_
        have HO_102002 := n1_
        have HO_105000 := n2_
        have HO_105001 := n3_
        have BK101 := n4_
        have BK102 := n5_
        have BK103 := n6_
        have BK104 := n7_
        have HB := n8_
        clear n0_ n1_ n2_ n3_ n4_ n5_ n6_ n7_ n8_
        have p106 : 0 ≤ (x6_1 : Int) := of_decide_eq_true (by first | (with_reducible assumption) | assumption)
        have q106 : x6_1 < (l0_2.length : Int) := of_decide_eq_true (by first | (with_reducible assumption) | assumption)
        obtain ⟨ad106, A106_1, c106_1, A106_2, c106_2, e106, hx106_0, hx106_1, hx106_2, hl106_1, hi106_1, hl106_2, hi106_2⟩ := at_T64 (Kd.V_reads' HO_102002.out).2.2 x6_1 p106 q106
        cases e106
        obtain ⟨ce106, hce106, hMe106, hcc106⟩ := Kd.V_get HO_102002.out z64 x6_1 p106 (by first | exact q106 | exact of_decide_eq_true (by first | (with_reducible assumption) | assumption) | (have e_ := (Kd.V_reads' HO_102002.out).1; omega))
        obtain ⟨ua106_1, uc106_1, ua106_2, uc106_2, rfl, ul106_1, ge106_1, ul106_2, ge106_2⟩ := k64_openF hMe106
        have hv106_1 := hcc106 1 _ rfl
        rw [add_field _ _ 1 (by omega)] at hv106_1
        replace hv106_1 := Option.some.inj (hv106_1.symm.trans hx106_1)
        injection hv106_1 with hva_ hvn_ hvc_
        rw [hva_] at ge106_1
        rw [hvc_] at ul106_1
        have HL106_1 := aA (show Kd.V (Kd.int .u64) 22 _ w.heap.size _ _ ((rd_T64 l0_2 x6_1).f1.f0) from Kd.V_mk ul106_1 ge106_1)
        clear hva_ hvn_ hvc_ ge106_1 ul106_1
        have hv106_2 := hcc106 2 _ rfl
        rw [add_field _ _ 2 (by omega)] at hv106_2
        replace hv106_2 := Option.some.inj (hv106_2.symm.trans hx106_2)
        injection hv106_2 with hva_ hvn_ hvc_
        rw [hva_] at ge106_2
        rw [hvc_] at ul106_2
        have HL106_2 := aA (show Kd.V (Kd.int .u64) 22 _ w.heap.size _ _ ((rd_T64 l0_2 x6_1).f1.f1) from Kd.V_mk ul106_2 ge106_2)
        clear hva_ hvn_ hvc_ ge106_2 ul106_2
        clear hcc106 hce106
        have HR106_1 := aA hi106_1
        have HC106_1 := aA hl106_1
        clear hi106_1 hl106_1
        have HR106_2 := aA hi106_2
        have HC106_2 := aA hl106_2
        clear hi106_2 hl106_2
        replace p106 := eq_true p106
        replace q106 := eq_true q106
        refine start_ (n := 17) (S := fun w' => w'.cell? ⟨gb101, 0, none⟩ = some (.int .u64 (IntKind.u64.wrap (a0_0 + 1))) ∧ w'.cell? ⟨gb101, 1, none⟩ = some (.slice A0_1 l0_1.length c0_1) ∧ w'.cell? ⟨gb101, 2, none⟩ = some (.slice (some ad106) l0_2.length c0_2) ∧ w'.cell? (ad106.add ((x6_1).toNat * 3)) = some (.int .u64 ((rd_T64 l0_2 x6_1).f0)) ∧ w'.cell? ⟨(ad106.add ((x6_1).toNat * 3)).block, (ad106.add ((x6_1).toNat * 3)).off + 1, none⟩ = some (.slice A106_1 ((rd_T64 l0_2 x6_1).f1.f0).length c106_1) ∧ w'.cell? ⟨(ad106.add ((x6_1).toNat * 3)).block, (ad106.add ((x6_1).toNat * 3)).off + 2, none⟩ = some (.slice A106_2 ((rd_T64 l0_2 x6_1).f1.f1).length c106_2)) (ds := []) #[false, false, false, false, false, false, false, false, false, false, false, false, false, false, false, false, false] (by kernel_rfl) rfl rfl ⟨(blk_cell BK101.out 0).trans rfl, (blk_cell BK101.out 1).trans rfl, (blk_cell BK101.out 2).trans rfl, hx106_0, hx106_1, hx106_2⟩ (fun hHeld => ?_); refine with_tabW epoch_Advance.tab6 epoch_Advance.bits6 (fun HT_ HW_ => ?_)
        generalize wr.drew = w31 at HO_102001 HO_102002 HO_105000 HO_105001 BK101 BK102 BK103 BK104 HB HL106_1 HL106_2 HR106_1 HR106_2 hx106_0 hx106_1 hx106_2 hHeld ⊢
        refine pure_ (i := 0) (N := some 16) (v := ?_) (a' := ?_) #[true, false, false, false, false, false, false, false, false, false, false, false, false, false, false, false, false] rfl rfl (any_of HT_.out (by kernel_rfl)) (fun _ _ _ h => h) (Or.inl ⟨by rfl, ?_⟩) ?_ ?_
        rotate_left
        ·intro w'
         go_simp
         with_reducible rfl
        rotate_left
        ·simp only [Act.put, List.setIfInBounds_toArray, List.set_cons_zero, List.set_cons_succ, i64_w, i32_w]
         rfl
        refine pure_ (i := 1) (N := some 17) (v := ?_) (a' := ?_) #[true, true, false, false, false, false, false, false, false, false, false, false, false, false, false, false, false] rfl rfl (any_of HT_.out (by kernel_rfl)) (fun _ _ _ h => h) (Or.inl ⟨by rfl, ?_⟩) ?_ ?_
        rotate_left
        ·intro w'
         go_simp
         with_reducible rfl
        rotate_left
        ·simp only [Act.put, List.setIfInBounds_toArray, List.set_cons_zero, List.set_cons_succ, i64_w, i32_w]
         rfl
        refine take_ (i := 2) (N := some 18) (v := ?_) (a' := ?_) #[true, true, true, false, false, false, false, false, false, false, false, false, false, false, false, false, false] rfl rfl (take_ofW HT_.out HW_.out (by kernel_rfl)) (fun _ _ _ h => h) (Or.inl ⟨by rfl, ?_⟩) hHeld ?_ ?_
        rotate_left
        ·rintro w' ⟨s0, s1, s2, s3, s4, s5⟩
         go_simp
         with_reducible rfl
        rotate_left
        ·simp only [Act.put, List.setIfInBounds_toArray, List.set_cons_zero, List.set_cons_succ, i64_w, i32_w]
         rfl
        refine pure_ (i := 3) (N := some 19) (v := ?_) (a' := ?_) #[true, true, true, true, false, false, false, false, false, false, false, false, false, false, false, false, false] rfl rfl (any_of HT_.out (by kernel_rfl)) (fun _ _ _ h => h) (Or.inl ⟨by rfl, ?_⟩) ?_ ?_
        rotate_left
        ·intro w'
         go_simp
         with_reducible rfl
        rotate_left
        ·simp only [Act.put, List.setIfInBounds_toArray, List.set_cons_zero, List.set_cons_succ, i64_w, i32_w]
         rfl
        refine pure_ (i := 4) (N := some 20) (v := ?_) (a' := ?_) #[true, true, true, true, true, false, false, false, false, false, false, false, false, false, false, false, false] rfl rfl (any_of HT_.out (by kernel_rfl)) (fun _ _ _ h => h) (Or.inl ⟨by rfl, ?_⟩) ?_ ?_
        rotate_left
        ·intro w'
         go_simp
         with_reducible rfl
        rotate_left
        ·simp only [Act.put, List.setIfInBounds_toArray, List.set_cons_zero, List.set_cons_succ, i64_w, i32_w]
         rfl
        refine pure_ (i := 5) (N := some 21) (v := ?_) (a' := ?_) #[true, true, true, true, true, true, false, false, false, false, false, false, false, false, false, false, false] rfl rfl (any_of HT_.out (by kernel_rfl)) (fun _ _ _ h => h) (Or.inl ⟨by rfl, ?_⟩) ?_ ?_
        rotate_left
        ·intro w'
         go_simp
         with_reducible rfl
        rotate_left
        ·simp only [Act.put, List.setIfInBounds_toArray, List.set_cons_zero, List.set_cons_succ, i64_w, i32_w]
         rfl
        refine pure_ (i := 6) (N := some 22) (v := ?_) (a' := ?_) #[true, true, true, true, true, true, true, false, false, false, false, false, false, false, false, false, false] rfl rfl (any_of HT_.out (by kernel_rfl)) (fun _ _ _ h => h) (Or.inl ⟨by rfl, ?_⟩) ?_ ?_
        rotate_left
        ·intro w'
         go_simp
         with_reducible rfl
        rotate_left
        ·simp only [Act.put, List.setIfInBounds_toArray, List.set_cons_zero, List.set_cons_succ, i64_w, i32_w]
         rfl
        refine pure_ (i := 8) (N := some 24) (v := ?_) (a' := ?_) #[true, true, true, true, true, true, true, false, true, false, false, false, false, false, false, false, false] rfl rfl (any_of HT_.out (by kernel_rfl)) (fun _ _ _ h => h) (Or.inl ⟨by rfl, ?_⟩) ?_ ?_
        rotate_left
        ·intro w'
         go_simp
         with_reducible rfl
        rotate_left
        ·simp only [Act.put, List.setIfInBounds_toArray, List.set_cons_zero, List.set_cons_succ, i64_w, i32_w]
         rfl
        refine pure_ (i := 10) (N := some 26) (v := ?_) (a' := ?_) #[true, true, true, true, true, true, true, false, true, false, true, false, false, false, false, false, false] rfl rfl (any_of HT_.out (by kernel_rfl)) (fun _ _ _ h => h) (Or.inl ⟨by rfl, ?_⟩) ?_ ?_
        rotate_left
        ·intro w'
         go_simp
         with_reducible rfl
        rotate_left
        ·simp only [Act.put, List.setIfInBounds_toArray, List.set_cons_zero, List.set_cons_succ, i64_w, i32_w]
         rfl
        refine take_ (i := 7) (N := some 23) (v := ?_) (a' := ?_) #[true, true, true, true, true, true, true, true, true, false, true, false, false, false, false, false, false] rfl rfl (take_ofW HT_.out HW_.out (by kernel_rfl)) (fun _ _ _ h => h) (Or.inl ⟨by rfl, ?_⟩) hHeld ?_ ?_
        rotate_left
        ·rintro w' ⟨s0, s1, s2, s3, s4, s5⟩
         go_simp
         with_reducible rfl
        rotate_left
        ·simp only [Act.put, List.setIfInBounds_toArray, List.set_cons_zero, List.set_cons_succ, i64_w, i32_w]
         rfl
        refine take_ (i := 9) (N := some 25) (v := ?_) (a' := ?_) #[true, true, true, true, true, true, true, true, true, true, true, false, false, false, false, false, false] rfl rfl (take_ofW HT_.out HW_.out (by kernel_rfl)) (fun _ _ _ h => h) (Or.inl ⟨by rfl, ?_⟩) hHeld ?_ ?_
        rotate_left
        ·rintro w' ⟨s0, s1, s2, s3, s4, s5⟩
         go_simp
         with_reducible rfl
        rotate_left
        ·simp only [Act.put, List.setIfInBounds_toArray, List.set_cons_zero, List.set_cons_succ, i64_w, i32_w]
         rfl
        refine pure_ (i := 11) (N := some 27) (v := ?_) (a' := ?_) #[true, true, true, true, true, true, true, true, true, true, true, true, false, false, false, false, false] rfl rfl (any_of HT_.out (by kernel_rfl)) (fun _ _ _ h => h) (Or.inl ⟨by rfl, ?_⟩) ?_ ?_
        rotate_left
        ·intro w'
         go_simp
         with_reducible rfl
        rotate_left
        ·simp only [Act.put, List.setIfInBounds_toArray, List.set_cons_zero, List.set_cons_succ, i64_w, i32_w]
         rfl
        refine pure_ (i := 12) (N := some 28) (v := ?_) (a' := ?_) #[true, true, true, true, true, true, true, true, true, true, true, true, true, false, false, false, false] rfl rfl (any_of HT_.out (by kernel_rfl)) (fun _ _ _ h => h) (Or.inl ⟨by rfl, ?_⟩) ?_ ?_
        rotate_left
        ·intro w'
         go_simp
         with_reducible rfl
        rotate_left
        ·simp only [Act.put, List.setIfInBounds_toArray, List.set_cons_zero, List.set_cons_succ, i64_w, i32_w]
         rfl
        refine take_ (i := 13) (N := some 29) (v := ?_) (a' := ?_) #[true, true, true, true, true, true, true, true, true, true, true, true, true, true, false, false, false] rfl rfl (take_ofW HT_.out HW_.out (by kernel_rfl)) (fun _ _ _ h => h) (Or.inl ⟨by rfl, ?_⟩) hHeld ?_ ?_
        rotate_left
        ·rintro w' ⟨s0, s1, s2, s3, s4, s5⟩
         go_simp
         with_reducible rfl
        rotate_left
        ·simp only [Act.put, List.setIfInBounds_toArray, List.set_cons_zero, List.set_cons_succ, i64_w, i32_w]
         rfl
        refine pure_ (i := 14) (N := some 30) (v := ?_) (a' := ?_) #[true, true, true, true, true, true, true, true, true, true, true, true, true, true, true, false, false] rfl rfl (any_of HT_.out (by kernel_rfl)) (fun _ _ _ h => h) (Or.inl ⟨by rfl, ?_⟩) ?_ ?_
        rotate_left
        ·intro w'
         go_simp
         with_reducible rfl
        rotate_left
        ·simp only [Act.put, List.setIfInBounds_toArray, List.set_cons_zero, List.set_cons_succ, i64_w, i32_w]
         rfl
        refine pure_ (i := 15) (N := some 31) (v := ?_) (a' := ?_) #[true, true, true, true, true, true, true, true, true, true, true, true, true, true, true, true, false] rfl rfl (any_of HT_.out (by kernel_rfl)) (fun _ _ _ h => h) (Or.inl ⟨by rfl, ?_⟩) ?_ ?_
        rotate_left
        ·intro w'
         go_simp
         with_reducible rfl
        rotate_left
        ·simp only [Act.put, List.setIfInBounds_toArray, List.set_cons_zero, List.set_cons_succ, i64_w, i32_w]
         rfl
        refine pure_ (i := 16) (N := some 32) (v := ?_) (a' := ?_) #[true, true, true, true, true, true, true, true, true, true, true, true, true, true, true, true, true] rfl rfl (any_of HT_.out (by kernel_rfl)) (fun _ _ _ h => h) (Or.inl ⟨by rfl, ?_⟩) ?_ ?_
        rotate_left
        ·intro w'
         go_simp
         with_reducible rfl
        rotate_left
        ·simp only [Act.put, List.setIfInBounds_toArray, List.set_cons_zero, List.set_cons_succ, i64_w, i32_w]
         rfl
        refine done_ (done_of HT_.out (by kernel_rfl)) ?_
        have hnb32 := NB101_102.out
        have hnc32 := NB102_101.out
        have hnb33 := NB101_103.out
        have hnc33 := NB103_101.out
        have hnb34 := NB101_104.out
        have hnc34 := NB104_101.out
        have hcz35_0 : w31.cell? ⟨gb101, 0, none⟩ = some (.int .u64 (IntKind.u64.wrap (a0_0 + 1))) := (blk_cell BK101.out 0).trans rfl
        have hcz35_1 : w31.cell? ⟨gb101, 1, none⟩ = some (.slice A0_1 l0_1.length c0_1) := (blk_cell BK101.out 1).trans rfl
        have hcz35_2 : w31.cell? ⟨gb101, 2, none⟩ = some (.slice (some ad106) l0_2.length c0_2) := (blk_cell BK101.out 2).trans rfl
        have hfz35_0 := blk_frozen BK101.out 0
        have hfz35_1 := blk_frozen BK101.out 1
        have hfz35_2 := blk_frozen BK101.out 2
        have q36 : (x6_1 : Int) ≤ ((l0_2.length : Int) : Int) := of_decide_eq_true (by first | (with_reducible assumption) | assumption)
        obtain ⟨i036, hi036, _, hsz36, _⟩ := info_parts info64
        have hroom36 : l0_2.length ≤ c0_2 := (Kd.V_reads' HO_102002.out).2.1
        have hC36 : Kd.F k64 _ _ (some ad106) l0_2.length l0_2 := (Kd.V_at (base := w.heap.size) HO_102002.out).2.2
        have q036 : (0 : Int) ≤ (x6_1 : Int) := of_decide_eq_true (by first | (with_reducible assumption) | assumption)
        have hcut36 := cut_from (P := Try.prog) 24 64 .i64 Try.underlying24 hi036 3 hsz36 (some ad106) l0_2.length c0_2 x6_1 q036 q36
        have hr36 := Kd.F_cut (m := (x6_1 : Int).toNat) (c := c0_2) hC36 (by omega) hroom36
        obtain ⟨A36, hA36⟩ : ∃ A1, A1 = (if c0_2 = (x6_1 : Int).toNat then (some ad106) else ((some ad106) : Option Addr).map (·.add ((x6_1 : Int).toNat * 3))) := ⟨_, rfl⟩
        obtain ⟨c36, hc36⟩ : ∃ c1, c1 = c0_2 - (x6_1 : Int).toNat := ⟨_, rfl⟩
        have hy36 : y115.length = l0_2.length - (x6_1 : Int).toNat := (by rw [Ny115.out, List.length_drop] <;> omega)
        rw [show (l0_2).drop (x6_1 : Int).toNat = y115 from Ny115.out.symm] at hr36
        replace hr36 : Kd.F k64 _ _ A36 y115.length y115 := (by rw [hA36]; exact hr36)
        rw [← hy36, ← hA36, ← hc36] at hcut36
        have HO119 := aA (show Kd.V k64 64 _ w.heap.size _ (.slice A36 y115.length c36) y115 from Kd.V_mk (by rw [hy36, hc36]; exact Nat.sub_le_sub_right hroom36 _) hr36)
        have HC119 := aA (show y115.length ≤ c36 from by rw [hy36, hc36]; exact Nat.sub_le_sub_right hroom36 _)
        clear hr36 hC36 hroom36 hi036 hsz36 hc36
        have KY36 := aA hy36
        have KA36 := aA hA36
        clear hy36 hA36
        replace q36 := eq_true q36
        try go_wp2
        have n0_ : Aside0 (Kd.V (Kd.int .u64) 22 (w31.setCell ⟨gb101, 2, none⟩ (.slice A36 y115.length c36)) w.heap.size (fun k_ => ((P0_1_ k_ ∨ P0_2_ k_) ∨ w.heap.size ≤ k_) ∧ some k_ ≠ (u105000 : Value).ownBlock ∧ some k_ ≠ (u105001 : Value).ownBlock ∧ k_ ≠ gb101 ∧ k_ ≠ gb102 ∧ k_ ≠ gb103 ∧ k_ ≠ gb104) (.slice A0_1 l0_1.length c0_1) l0_1) := ⟨by (with_reducible repeat (first | apply Kd.V_alloc | apply Kd.V_drewN | apply Kd.V_drew)); exact Kd.V_mono (Kd.V_far (p := ⟨gb101, 2, none⟩) (Kd.V_mono HO_102001.out (fun k_ hk => (⟨hk, hk.2.2.2.1⟩ : _ ∧ k_ ≠ gb101))) (fun _ hk => hk.2) (.slice A36 y115.length c36)) (fun _ hk => ⟨hk.1.1, ⟨hk.1.2.1, ⟨hk.1.2.2.1, ⟨hk.1.2.2.2.1, ⟨hk.1.2.2.2.2.1, ⟨hk.1.2.2.2.2.2.1, hk.1.2.2.2.2.2.2⟩⟩⟩⟩⟩⟩)⟩
        have n1_ : Aside0 (Kd.V k64 64 (w31.setCell ⟨gb101, 2, none⟩ (.slice A36 y115.length c36)) w.heap.size (fun k_ => ((P0_1_ k_ ∨ P0_2_ k_) ∨ w.heap.size ≤ k_) ∧ some k_ ≠ (u105000 : Value).ownBlock ∧ some k_ ≠ (u105001 : Value).ownBlock ∧ k_ ≠ gb101 ∧ k_ ≠ gb102 ∧ k_ ≠ gb103 ∧ k_ ≠ gb104) (.slice (some ad106) l0_2.length c0_2) l0_2) := ⟨by (with_reducible repeat (first | apply Kd.V_alloc | apply Kd.V_drewN | apply Kd.V_drew)); exact Kd.V_mono (Kd.V_far (p := ⟨gb101, 2, none⟩) (Kd.V_mono HO_102002.out (fun k_ hk => (⟨hk, hk.2.2.2.1⟩ : _ ∧ k_ ≠ gb101))) (fun _ hk => hk.2) (.slice A36 y115.length c36)) (fun _ hk => ⟨hk.1.1, ⟨hk.1.2.1, ⟨hk.1.2.2.1, ⟨hk.1.2.2.2.1, ⟨hk.1.2.2.2.2.1, ⟨hk.1.2.2.2.2.2.1, hk.1.2.2.2.2.2.2⟩⟩⟩⟩⟩⟩)⟩
        have n2_ : Aside0 (Kd.R (Kd.int .u64) 22 (w31.setCell ⟨gb101, 2, none⟩ (.slice A36 y115.length c36)) w.heap.size (fun k_ => (w.heap.size ≤ k_) ∧ some k_ ≠ (u105001 : Value).ownBlock) u105000 x105000_1) := ⟨by (with_reducible repeat (first | apply Kd.R_alloc | apply Kd.R_drewN | apply Kd.R_drew)); exact Kd.R_mono (Kd.R_far (p := ⟨gb101, 2, none⟩) (Kd.R_types HO_105000.out BK101.out (by decide)) (fun _ hk => hk.2) (.slice A36 y115.length c36)) (fun _ hk => ⟨hk.1.1, hk.1.2⟩)⟩
        have n3_ : Aside0 (Kd.R (Kd.int .u64) 22 (w31.setCell ⟨gb101, 2, none⟩ (.slice A36 y115.length c36)) w.heap.size (fun k_ => (w.heap.size ≤ k_) ∧ some k_ ≠ (u105000 : Value).ownBlock) u105001 x105001_1) := ⟨by (with_reducible repeat (first | apply Kd.R_alloc | apply Kd.R_drewN | apply Kd.R_drew)); exact Kd.R_mono (Kd.R_far (p := ⟨gb101, 2, none⟩) (Kd.R_types HO_105001.out BK101.out (by decide)) (fun _ hk => hk.2) (.slice A36 y115.length c36)) (fun _ hk => ⟨hk.1.1, hk.1.2⟩)⟩
        have n4_ : Aside0 (Kd.V (Kd.int .u64) 22 (w31.setCell ⟨gb101, 2, none⟩ (.slice A36 y115.length c36)) w.heap.size (fun k_ => ((P0_1_ k_ ∨ P0_2_ k_) ∨ w.heap.size ≤ k_) ∧ some k_ ≠ (u105000 : Value).ownBlock ∧ some k_ ≠ (u105001 : Value).ownBlock ∧ k_ ≠ gb101 ∧ k_ ≠ gb102 ∧ k_ ≠ gb103 ∧ k_ ≠ gb104) (.slice A106_1 ((rd_T64 l0_2 x6_1).f1.f0).length c106_1) ((rd_T64 l0_2 x6_1).f1.f0)) := ⟨by (with_reducible repeat (first | apply Kd.V_alloc | apply Kd.V_drewN | apply Kd.V_drew)); exact Kd.V_mono (Kd.V_far (p := ⟨gb101, 2, none⟩) (Kd.V_mono HL106_1.out (fun k_ hk => (⟨hk, hk.2.2.2.1⟩ : _ ∧ k_ ≠ gb101))) (fun _ hk => hk.2) (.slice A36 y115.length c36)) (fun _ hk => ⟨hk.1.1, ⟨hk.1.2.1, ⟨hk.1.2.2.1, ⟨hk.1.2.2.2.1, ⟨hk.1.2.2.2.2.1, ⟨hk.1.2.2.2.2.2.1, hk.1.2.2.2.2.2.2⟩⟩⟩⟩⟩⟩)⟩
        have n5_ : Aside0 (Kd.V (Kd.int .u64) 22 (w31.setCell ⟨gb101, 2, none⟩ (.slice A36 y115.length c36)) w.heap.size (fun k_ => ((P0_1_ k_ ∨ P0_2_ k_) ∨ w.heap.size ≤ k_) ∧ some k_ ≠ (u105000 : Value).ownBlock ∧ some k_ ≠ (u105001 : Value).ownBlock ∧ k_ ≠ gb101 ∧ k_ ≠ gb102 ∧ k_ ≠ gb103 ∧ k_ ≠ gb104) (.slice A106_2 ((rd_T64 l0_2 x6_1).f1.f1).length c106_2) ((rd_T64 l0_2 x6_1).f1.f1)) := ⟨by (with_reducible repeat (first | apply Kd.V_alloc | apply Kd.V_drewN | apply Kd.V_drew)); exact Kd.V_mono (Kd.V_far (p := ⟨gb101, 2, none⟩) (Kd.V_mono HL106_2.out (fun k_ hk => (⟨hk, hk.2.2.2.1⟩ : _ ∧ k_ ≠ gb101))) (fun _ hk => hk.2) (.slice A36 y115.length c36)) (fun _ hk => ⟨hk.1.1, ⟨hk.1.2.1, ⟨hk.1.2.2.1, ⟨hk.1.2.2.2.1, ⟨hk.1.2.2.2.2.1, ⟨hk.1.2.2.2.2.2.1, hk.1.2.2.2.2.2.2⟩⟩⟩⟩⟩⟩)⟩
        have n6_ : Aside0 (Kd.V k64 64 (w31.setCell ⟨gb101, 2, none⟩ (.slice A36 y115.length c36)) w.heap.size (fun k_ => ((P0_1_ k_ ∨ P0_2_ k_) ∨ w.heap.size ≤ k_) ∧ some k_ ≠ (u105000 : Value).ownBlock ∧ some k_ ≠ (u105001 : Value).ownBlock ∧ k_ ≠ gb101 ∧ k_ ≠ gb102 ∧ k_ ≠ gb103 ∧ k_ ≠ gb104) (.slice A36 y115.length c36) y115) := ⟨by (with_reducible repeat (first | apply Kd.V_alloc | apply Kd.V_drewN | apply Kd.V_drew)); exact Kd.V_mono (Kd.V_far (p := ⟨gb101, 2, none⟩) (Kd.V_mono HO119.out (fun k_ hk => (⟨hk, hk.2.2.2.1⟩ : _ ∧ k_ ≠ gb101))) (fun _ hk => hk.2) (.slice A36 y115.length c36)) (fun _ hk => ⟨hk.1.1, ⟨hk.1.2.1, ⟨hk.1.2.2.1, ⟨hk.1.2.2.2.1, ⟨hk.1.2.2.2.2.1, ⟨hk.1.2.2.2.2.2.1, hk.1.2.2.2.2.2.2⟩⟩⟩⟩⟩⟩)⟩
        have n7_ : Aside0 ((w31.setCell ⟨gb101, 2, none⟩ (.slice A36 y115.length c36)).heap[gb101]? = some (.cells #[.int .u64 (IntKind.u64.wrap (a0_0 + 1)), .slice A0_1 l0_1.length c0_1, .slice A36 y115.length c36] 26 (0, 0))) := ⟨by refine bku ?_; refine blk_put (cs := #[.int .u64 (IntKind.u64.wrap (a0_0 + 1)), .slice A0_1 l0_1.length c0_1, .slice (some ad106) l0_2.length c0_2]) ?_ 2 _ rfl; refine bku ?_; exact BK101.out⟩
        have n8_ : Aside0 ((w31.setCell ⟨gb101, 2, none⟩ (.slice A36 y115.length c36)).heap[gb102]? = some (.cells #[.int .u64 0, .slice none 0 0, .slice none 0 0] 26 (0, 0))) := ⟨by refine bku ?_; refine blk_far ?_ NB102_101.out _; refine bku ?_; exact BK102.out⟩
        have n9_ : Aside0 ((w31.setCell ⟨gb101, 2, none⟩ (.slice A36 y115.length c36)).heap[gb103]? = some (.cells #[.slice none 0 0, .slice none 0 0] 30 (0, 0))) := ⟨by refine bku ?_; refine blk_far ?_ NB103_101.out _; refine bku ?_; exact BK103.out⟩
        have n10_ : Aside0 ((w31.setCell ⟨gb101, 2, none⟩ (.slice A36 y115.length c36)).heap[gb104]? = some (.cells #[u105000, u105001] 30 (0, 0))) := ⟨by refine bku ?_; refine blk_far ?_ NB104_101.out _; refine bku ?_; exact BK104.out⟩
        have n11_ : Aside0 (Below w.heap.size w (w31.setCell ⟨gb101, 2, none⟩ (.slice A36 y115.length c36))) := ⟨by repeat (first | (with_reducible first | exact HB.out | apply below_alloc | apply pw_below_drewN | apply below_drew1 | refine below_set ?_ GE101.out | refine below_set ?_ GE102.out | refine below_set ?_ GE103.out | refine below_set ?_ GE104.out) | exact HB.out)⟩
        (try clear HO_102001)
        (try clear HO_102002)
        (try clear HO_105000)
        (try clear HO_105001)
        (try clear HL106_1)
        (try clear HL106_2)
        (try clear HO119)
        (try clear BK101)
        (try clear BK102)
        (try clear BK103)
        (try clear BK104)
        (try clear HB)
        generalize (w31.setCell ⟨gb101, 2, none⟩ (.slice A36 y115.length c36)) = w37 at n0_ n1_ n2_ n3_ n4_ n5_ n6_ n7_ n8_ n9_ n10_ n11_ ⊢
        have HO_102001 := n0_
        have HO_102002 := n1_
        have HO_105000 := n2_
        have HO_105001 := n3_
        have HL106_1 := n4_
        have HL106_2 := n5_
        have HO119 := n6_
        have BK101 := n7_
        have BK102 := n8_
        have BK103 := n9_
        have BK104 := n10_
        have HB := n11_
        clear n0_ n1_ n2_ n3_ n4_ n5_ n6_ n7_ n8_ n9_ n10_ n11_
        have n0_ := aA (Kd.V_drew HO_102001.out)
        have n1_ := aA (Kd.V_drew HO_102002.out)
        have n2_ := aA (Kd.R_drew HO_105000.out)
        have n3_ := aA (Kd.R_drew HO_105001.out)
        have n4_ := aA (Kd.V_drew HL106_1.out)
        have n5_ := aA (Kd.V_drew HL106_2.out)
        have n6_ := aA (Kd.V_drew HO119.out)
        have n7_ := aA (blk_drew BK101.out)
        have n8_ := aA (blk_drew BK102.out)
        have n9_ := aA (blk_drew BK103.out)
        have n10_ := aA (blk_drew BK104.out)
        have n11_ := aA (below_drew1 HB.out)
        clear HO_102001
        clear HO_102002
        clear HO_105000
        clear HO_105001
        clear HL106_1
        clear HL106_2
        clear HO119
        clear BK101
        clear BK102
        clear BK103
        clear BK104
        clear HB
        have HO_102001 := n0_
        have HO_102002 := n1_
        have HO_105000 := n2_
        have HO_105001 := n3_
        have HL106_1 := n4_
        have HL106_2 := n5_
        have HO119 := n6_
        have BK101 := n7_
        have BK102 := n8_
        have BK103 := n9_
        have BK104 := n10_
        have HB := n11_
        clear n0_ n1_ n2_ n3_ n4_ n5_ n6_ n7_ n8_ n9_ n10_ n11_
        obtain ⟨Ao42, co42, eo42⟩ := Kd.R_slice HO_105000.out
        (first | subst eo42 | (injection eo42 with f1_ f2_ f3_; have f4_ := f1_.symm; have f5_ := f3_.symm; clear f1_ f2_ f3_; subst f4_; subst f5_))
        obtain ⟨Ao44, co44, eo44⟩ := Kd.R_slice HO_105001.out
        (first | subst eo44 | (injection eo44 with f1_ f2_ f3_; have f4_ := f1_.symm; have f5_ := f3_.symm; clear f1_ f2_ f3_; subst f4_; subst f5_))
        refine start_ (n := 5) (S := fun w' => w'.cell? ⟨gb101, 0, none⟩ = some (.int .u64 (IntKind.u64.wrap (a0_0 + 1))) ∧ w'.cell? ⟨gb101, 1, none⟩ = some (.slice A0_1 l0_1.length c0_1) ∧ w'.cell? ⟨gb101, 2, none⟩ = some (.slice A36 y115.length c36) ∧ w'.cell? ⟨gb104, 0, none⟩ = some (.slice Ao42 x105000_1.length co42) ∧ w'.cell? ⟨gb104, 1, none⟩ = some (.slice Ao44 x105001_1.length co44)) (ds := []) #[false, false, false, false, false] (by kernel_rfl) rfl rfl ⟨(blk_cell BK101.out 0).trans rfl, (blk_cell BK101.out 1).trans rfl, (blk_cell BK101.out 2).trans rfl, (blk_cell BK104.out 0).trans rfl, (blk_cell BK104.out 1).trans rfl⟩ (fun hHeld => ?_)
        generalize w37.drew = w38 at HO_102001 HO_102002 HO_105000 HO_105001 HL106_1 HL106_2 HO119 BK101 BK102 BK103 BK104 HB hHeld ⊢
        refine take_ (i := 0) (N := some 62) (v := ?_) (a' := ?_) #[true, false, false, false, false] rfl rfl (by kernel_rfl) (fun _ _ _ h => h) (Or.inl ⟨by rfl, ?_⟩) hHeld ?_ ?_
        rotate_left
        ·rintro w' ⟨s0, s1, s2, s3, s4⟩
         go_simp
         with_reducible rfl
        rotate_left
        ·simp only [Act.put, List.setIfInBounds_toArray, List.set_cons_zero, List.set_cons_succ, i64_w, i32_w]
         rfl
        refine take_ (i := 1) (N := some 63) (v := ?_) (a' := ?_) #[true, true, false, false, false] rfl rfl (by kernel_rfl) (fun _ _ _ h => h) (Or.inl ⟨by rfl, ?_⟩) hHeld ?_ ?_
        rotate_left
        ·rintro w' ⟨s0, s1, s2, s3, s4⟩
         go_simp
         with_reducible rfl
        rotate_left
        ·simp only [Act.put, List.setIfInBounds_toArray, List.set_cons_zero, List.set_cons_succ, i64_w, i32_w]
         rfl
        refine one_ (i := 2) (N := none) #[true, true, true, false, false] rfl rfl (by kernel_rfl) (by decide) (fun K hK => ?_)
        have hs39 : w38.cell? ⟨gb102, 0, none⟩ = some (.int .u64 0) := (blk_cell BK102.out 0).trans rfl
        have hfs39 := blk_frozen BK102.out 0
        have hns39_0 := NB101_102.out
        have hns39_2 := NB103_102.out
        have hns39_3 := NB104_102.out
        have hms39_0 := NB102_101.out
        have hms39_2 := NB102_103.out
        have hms39_3 := NB102_104.out
        have hs40 : w38.cell? ⟨gb102, 1, none⟩ = some (.slice none 0 0) := (blk_cell BK102.out 1).trans rfl
        have hfs40 := blk_frozen BK102.out 1
        have hns40_0 := NB101_102.out
        have hns40_2 := NB103_102.out
        have hns40_3 := NB104_102.out
        have hms40_0 := NB102_101.out
        have hms40_2 := NB102_103.out
        have hms40_3 := NB102_104.out
        have hs41 : w38.cell? ⟨gb102, 2, none⟩ = some (.slice none 0 0) := (blk_cell BK102.out 2).trans rfl
        have hfs41 := blk_frozen BK102.out 2
        have hns41_0 := NB101_102.out
        have hns41_2 := NB103_102.out
        have hns41_3 := NB104_102.out
        have hms41_0 := NB102_101.out
        have hms41_2 := NB102_103.out
        have hms41_3 := NB102_104.out
        refine skip_ (w1 := ?_) (by rfl) rfl ?_ ?_
        rotate_left
        ·go_simp
         rfl
        refine hK.out _ _ ⟨((cell_far (p := ⟨gb102, _, none⟩) NB101_102.out _).trans (((cell_far (p := ⟨gb102, _, none⟩) NB101_102.out _).trans (((cell_far (p := ⟨gb102, _, none⟩) NB101_102.out _).trans (hHeld.1)))))), ((cell_far (p := ⟨gb102, _, none⟩) NB101_102.out _).trans (((cell_far (p := ⟨gb102, _, none⟩) NB101_102.out _).trans (((cell_far (p := ⟨gb102, _, none⟩) NB101_102.out _).trans (hHeld.2.1)))))), ((cell_far (p := ⟨gb102, _, none⟩) NB101_102.out _).trans (((cell_far (p := ⟨gb102, _, none⟩) NB101_102.out _).trans (((cell_far (p := ⟨gb102, _, none⟩) NB101_102.out _).trans (hHeld.2.2.1)))))), ((cell_far (p := ⟨gb102, _, none⟩) NB104_102.out _).trans (((cell_far (p := ⟨gb102, _, none⟩) NB104_102.out _).trans (((cell_far (p := ⟨gb102, _, none⟩) NB104_102.out _).trans (hHeld.2.2.2.1)))))), ((cell_far (p := ⟨gb102, _, none⟩) NB104_102.out _).trans (((cell_far (p := ⟨gb102, _, none⟩) NB104_102.out _).trans (((cell_far (p := ⟨gb102, _, none⟩) NB104_102.out _).trans (hHeld.2.2.2.2))))))⟩ (fun hHeld => ?_)
        clear hK K
        refine one_ (i := 3) (N := none) #[true, true, true, true, false] rfl rfl (by kernel_rfl) (by decide) (fun K hK => ?_)
        have hs43 : w38.cell? ⟨gb103, 0, none⟩ = some (.slice none 0 0) := (blk_cell BK103.out 0).trans rfl
        have hfs43 := blk_frozen BK103.out 0
        have hns43_0 := NB101_103.out
        have hns43_1 := NB102_103.out
        have hns43_3 := NB104_103.out
        have hms43_0 := NB103_101.out
        have hms43_1 := NB103_102.out
        have hms43_3 := NB103_104.out
        have hs45 : w38.cell? ⟨gb103, 1, none⟩ = some (.slice none 0 0) := (blk_cell BK103.out 1).trans rfl
        have hfs45 := blk_frozen BK103.out 1
        have hns45_0 := NB101_103.out
        have hns45_1 := NB102_103.out
        have hns45_3 := NB104_103.out
        have hms45_0 := NB103_101.out
        have hms45_1 := NB103_102.out
        have hms45_3 := NB103_104.out
        refine skip_ (w1 := ?_) (by rfl) rfl ?_ ?_
        rotate_left
        ·go_simp
         rfl
        refine hK.out _ _ ⟨((cell_far (p := ⟨gb103, _, none⟩) NB101_103.out _).trans (((cell_far (p := ⟨gb103, _, none⟩) NB101_103.out _).trans (hHeld.1)))), ((cell_far (p := ⟨gb103, _, none⟩) NB101_103.out _).trans (((cell_far (p := ⟨gb103, _, none⟩) NB101_103.out _).trans (hHeld.2.1)))), ((cell_far (p := ⟨gb103, _, none⟩) NB101_103.out _).trans (((cell_far (p := ⟨gb103, _, none⟩) NB101_103.out _).trans (hHeld.2.2.1)))), ((cell_far (p := ⟨gb103, _, none⟩) NB104_103.out _).trans (((cell_far (p := ⟨gb103, _, none⟩) NB104_103.out _).trans (hHeld.2.2.2.1)))), ((cell_far (p := ⟨gb103, _, none⟩) NB104_103.out _).trans (((cell_far (p := ⟨gb103, _, none⟩) NB104_103.out _).trans (hHeld.2.2.2.2))))⟩ (fun hHeld => ?_)
        clear hK K
        refine pure_ (i := 4) (N := some 4) (v := ?_) (a' := ?_) #[true, true, true, true, true] rfl rfl (by kernel_rfl) (fun _ _ _ h => h) (Or.inl ⟨by rfl, ?_⟩) ?_ ?_
        rotate_left
        ·intro w'
         go_simp
         with_reducible rfl
        rotate_left
        ·simp only [Act.put, List.setIfInBounds_toArray, List.set_cons_zero, List.set_cons_succ, i64_w, i32_w]
         rfl
        refine done_ (by kernel_rfl) ?_
        try go_wp2
        refine bodyPost_ret (results_list (rs := [.cell 2 26, .cell 3 30, .tmp 4]) rfl (by simp) (.cell gb102 26 #[.int .u64 (IntKind.u64.wrap (a0_0 + 1)), .slice A0_1 l0_1.length c0_1, .slice A36 y115.length c36] (0, 0) _ rfl (by refine bku ?_; refine blk_far ?_ NB102_103.out _; refine bku ?_; refine blk_far ?_ NB102_103.out _; refine bku ?_; refine blk_put (cs := #[.int .u64 (IntKind.u64.wrap (a0_0 + 1)), .slice A0_1 l0_1.length c0_1, .slice none 0 0]) ?_ 2 _ rfl; refine bku ?_; refine blk_put (cs := #[.int .u64 (IntKind.u64.wrap (a0_0 + 1)), .slice none 0 0, .slice none 0 0]) ?_ 1 _ rfl; refine bku ?_; refine blk_put (cs := #[.int .u64 0, .slice none 0 0, .slice none 0 0]) ?_ 0 _ rfl; refine bku ?_; exact BK102.out) Try.underlying26 rfl (by kernel_rfl) (.cell gb103 30 #[.slice Ao42 x105000_1.length co42, .slice Ao44 x105001_1.length co44] (0, 0) _ rfl (by refine bku ?_; refine blk_put (cs := #[.slice Ao42 x105000_1.length co42, .slice none 0 0]) ?_ 1 _ rfl; refine bku ?_; refine blk_put (cs := #[.slice none 0 0, .slice none 0 0]) ?_ 0 _ rfl; refine bku ?_; refine blk_far ?_ NB103_102.out _; refine bku ?_; refine blk_far ?_ NB103_102.out _; refine bku ?_; refine blk_far ?_ NB103_102.out _; refine bku ?_; exact BK103.out) Try.underlying30 rfl (by kernel_rfl) (.tmp .nil)))) rfl ?_
        exact ⟨_, _, _, _, by first | rfl | (simp [errW_none, errW_some] <;> rfl) | (simp [*, errW_none, errW_some] <;> rfl), by (with_reducible repeat (first | apply Kd.V_alloc | apply Kd.V_drewN | apply Kd.V_drew)); exact Kd.V_mono (Kd.V_far (p := ⟨gb103, 1, none⟩) (Kd.V_far (p := ⟨gb103, 0, none⟩) (Kd.V_far (p := ⟨gb102, 2, none⟩) (Kd.V_far (p := ⟨gb102, 1, none⟩) (Kd.V_far (p := ⟨gb102, 0, none⟩) (Kd.V_mono (Kd.V_mono HO_102001.out (fun k_ hk => (⟨hk, hk.2.2.2.2.1⟩ : _ ∧ k_ ≠ gb102))) (fun k_ hk => (⟨hk, hk.1.2.2.2.2.2.1⟩ : _ ∧ k_ ≠ gb103))) (fun _ hk => hk.1.2) (.int .u64 (IntKind.u64.wrap (a0_0 + 1)))) (fun _ hk => hk.1.2) (.slice A0_1 l0_1.length c0_1)) (fun _ hk => hk.1.2) (.slice A36 y115.length c36)) (fun _ hk => hk.2) (.slice Ao42 x105000_1.length co42)) (fun _ hk => hk.2) (.slice Ao44 x105001_1.length co44)) (fun _ hk => ⟨hk.1.1.1, ⟨hk.1.1.2.1, hk.1.1.2.2.1⟩⟩), by (with_reducible repeat (first | apply Kd.V_alloc | apply Kd.V_drewN | apply Kd.V_drew)); exact Kd.V_mono (Kd.V_far (p := ⟨gb103, 1, none⟩) (Kd.V_far (p := ⟨gb103, 0, none⟩) (Kd.V_far (p := ⟨gb102, 2, none⟩) (Kd.V_far (p := ⟨gb102, 1, none⟩) (Kd.V_far (p := ⟨gb102, 0, none⟩) (Kd.V_mono (Kd.V_mono HO119.out (fun k_ hk => (⟨hk, hk.2.2.2.2.1⟩ : _ ∧ k_ ≠ gb102))) (fun k_ hk => (⟨hk, hk.1.2.2.2.2.2.1⟩ : _ ∧ k_ ≠ gb103))) (fun _ hk => hk.1.2) (.int .u64 (IntKind.u64.wrap (a0_0 + 1)))) (fun _ hk => hk.1.2) (.slice A0_1 l0_1.length c0_1)) (fun _ hk => hk.1.2) (.slice A36 y115.length c36)) (fun _ hk => hk.2) (.slice Ao42 x105000_1.length co42)) (fun _ hk => hk.2) (.slice Ao44 x105001_1.length co44)) (fun _ hk => ⟨hk.1.1.1, ⟨hk.1.1.2.1, hk.1.1.2.2.1⟩⟩), by (with_reducible repeat (first | apply Kd.R_alloc | apply Kd.R_drewN | apply Kd.R_drew)); exact Kd.R_mono (Kd.R_far (p := ⟨gb103, 1, none⟩) (Kd.R_far (p := ⟨gb103, 0, none⟩) (Kd.R_far (p := ⟨gb102, 2, none⟩) (Kd.R_far (p := ⟨gb102, 1, none⟩) (Kd.R_far (p := ⟨gb102, 0, none⟩) (Kd.R_types (Kd.R_types HO_105000.out BK102.out (by decide)) BK103.out (by decide)) (fun _ hk => hk.1.2) (.int .u64 (IntKind.u64.wrap (a0_0 + 1)))) (fun _ hk => hk.1.2) (.slice A0_1 l0_1.length c0_1)) (fun _ hk => hk.1.2) (.slice A36 y115.length c36)) (fun _ hk => hk.2) (.slice Ao42 x105000_1.length co42)) (fun _ hk => hk.2) (.slice Ao44 x105001_1.length co44)) (fun _ hk => ⟨hk.1.1.1, hk.1.1.2⟩), by (with_reducible repeat (first | apply Kd.R_alloc | apply Kd.R_drewN | apply Kd.R_drew)); exact Kd.R_mono (Kd.R_far (p := ⟨gb103, 1, none⟩) (Kd.R_far (p := ⟨gb103, 0, none⟩) (Kd.R_far (p := ⟨gb102, 2, none⟩) (Kd.R_far (p := ⟨gb102, 1, none⟩) (Kd.R_far (p := ⟨gb102, 0, none⟩) (Kd.R_types (Kd.R_types HO_105001.out BK102.out (by decide)) BK103.out (by decide)) (fun _ hk => hk.1.2) (.int .u64 (IntKind.u64.wrap (a0_0 + 1)))) (fun _ hk => hk.1.2) (.slice A0_1 l0_1.length c0_1)) (fun _ hk => hk.1.2) (.slice A36 y115.length c36)) (fun _ hk => hk.2) (.slice Ao42 x105000_1.length co42)) (fun _ hk => hk.2) (.slice Ao44 x105001_1.length co44)) (fun _ hk => ⟨hk.1.1.1, hk.1.1.2⟩), by repeat (first | (with_reducible first | exact HB.out | apply below_alloc | apply pw_below_drewN | apply below_drew1 | refine below_set ?_ GE101.out | refine below_set ?_ GE102.out | refine below_set ?_ GE103.out | refine below_set ?_ GE104.out) | exact HB.out)⟩
       ·rw [if_neg c30] at H
        exact absurd H (by simp)
     ·rw [if_neg c15] at H
      exact absurd H (by simp)
    ·rw [if_neg c14] at H
     have c14b0 : decide (x6_1 < (l0_2.length : Int)) = false := decide_eq_false c14
     clear c14
     by_cases c46 : 0 ≤ x6_1
     ·rw [if_pos c46] at H
      have c46b0 := eq_true c46
      have c46b1 : decide (0 ≤ x6_1) = true := decide_eq_true c46
      clear c46
      by_cases c47 : x6_1 ≤ (l0_2.length : Int)
      ·rw [if_pos c47] at H
       have c47b0 := eq_true c47
       have c47b1 : decide (x6_1 ≤ (l0_2.length : Int)) = true := decide_eq_true c47
       clear c47
       obtain ⟨y120, hy120⟩ : ∃ y_ : List (S64), y_ = (l0_2.drop (x6_1 : Int).toNat) := ⟨_, rfl⟩
       replace H : (some ((IntKind.u64.wrap (a0_0 + 1)), l0_1, y120, x105000_1, x105001_1, true)) = some (r1, r2, r3, r4, r5, r6) := by first | (rw [hy120]; with_reducible exact H) | (have H2_ := (Option.bind_some _ _).symm.trans H; rw [hy120]; with_reducible exact H2_) | (have H2_ := (Option.bind_some _ _).symm.trans H; with_reducible exact H2_) | with_reducible exact H | (rw [hy120]; exact H) | exact H
       have Ny120 := aA hy120
       clear hy120
       simp only [Option.some.injEq, Prod.mk.injEq] at H
       obtain ⟨rfl, rfl, rfl, rfl, rfl, rfl⟩ := H
       try go_wp2
       have n0_ := aA (Kd.V_drew HO_102001.out)
       have n1_ := aA (Kd.V_drew HO_102002.out)
       have n2_ := aA (Kd.R_drew HO_105000.out)
       have n3_ := aA (Kd.R_drew HO_105001.out)
       have n4_ := aA (blk_drew BK101.out)
       have n5_ := aA (blk_drew BK102.out)
       have n6_ := aA (blk_drew BK103.out)
       have n7_ := aA (blk_drew BK104.out)
       have n8_ := aA (below_drew1 HB.out)
       clear HO_102001
       clear HO_102002
       clear HO_105000
       clear HO_105001
       clear BK101
       clear BK102
       clear BK103
       clear BK104
       clear HB
       have HO_102001 := n0_
       have HO_102002 := n1_
       have HO_105000 := n2_
       have HO_105001 := n3_
       have BK101 := n4_
       have BK102 := n5_
       have BK103 := n6_
       have BK104 := n7_
       have HB := n8_
       clear n0_ n1_ n2_ n3_ n4_ n5_ n6_ n7_ n8_
       refine start_ (n := 17) (S := fun w' => w'.cell? ⟨gb101, 0, none⟩ = some (.int .u64 (IntKind.u64.wrap (a0_0 + 1))) ∧ w'.cell? ⟨gb101, 1, none⟩ = some (.slice A0_1 l0_1.length c0_1) ∧ w'.cell? ⟨gb101, 2, none⟩ = some (.slice A0_2 l0_2.length c0_2)) (ds := []) #[false, false, false, false, false, false, false, false, false, false, false, false, false, false, false, false, false] (by kernel_rfl) rfl rfl ⟨(blk_cell BK101.out 0).trans rfl, (blk_cell BK101.out 1).trans rfl, (blk_cell BK101.out 2).trans rfl⟩ (fun hHeld => ?_); refine with_tabW epoch_Advance.tab6 epoch_Advance.bits6 (fun HT_ HW_ => ?_)
       generalize wr.drew = w48 at HO_102001 HO_102002 HO_105000 HO_105001 BK101 BK102 BK103 BK104 HB hHeld ⊢
       refine pure_ (i := 0) (N := some 16) (v := ?_) (a' := ?_) #[true, false, false, false, false, false, false, false, false, false, false, false, false, false, false, false, false] rfl rfl (any_of HT_.out (by kernel_rfl)) (fun _ _ _ h => h) (Or.inl ⟨by rfl, ?_⟩) ?_ ?_
       rotate_left
       ·intro w'
        go_simp
        with_reducible rfl
       rotate_left
       ·simp only [Act.put, List.setIfInBounds_toArray, List.set_cons_zero, List.set_cons_succ, i64_w, i32_w]
        rfl
       refine pure_ (i := 1) (N := some 17) (v := ?_) (a' := ?_) #[true, true, false, false, false, false, false, false, false, false, false, false, false, false, false, false, false] rfl rfl (any_of HT_.out (by kernel_rfl)) (fun _ _ _ h => h) (Or.inl ⟨by rfl, ?_⟩) ?_ ?_
       rotate_left
       ·intro w'
        go_simp
        with_reducible rfl
       rotate_left
       ·simp only [Act.put, List.setIfInBounds_toArray, List.set_cons_zero, List.set_cons_succ, i64_w, i32_w]
        rfl
       refine take_ (i := 2) (N := some 18) (v := ?_) (a' := ?_) #[true, true, true, false, false, false, false, false, false, false, false, false, false, false, false, false, false] rfl rfl (take_ofW HT_.out HW_.out (by kernel_rfl)) (fun _ _ _ h => h) (Or.inl ⟨by rfl, ?_⟩) hHeld ?_ ?_
       rotate_left
       ·rintro w' ⟨s0, s1, s2⟩
        go_simp
        with_reducible rfl
       rotate_left
       ·simp only [Act.put, List.setIfInBounds_toArray, List.set_cons_zero, List.set_cons_succ, i64_w, i32_w]
        rfl
       refine pure_ (i := 3) (N := some 19) (v := ?_) (a' := ?_) #[true, true, true, true, false, false, false, false, false, false, false, false, false, false, false, false, false] rfl rfl (any_of HT_.out (by kernel_rfl)) (fun _ _ _ h => h) (Or.inl ⟨by rfl, ?_⟩) ?_ ?_
       rotate_left
       ·intro w'
        go_simp
        with_reducible rfl
       rotate_left
       ·simp only [Act.put, List.setIfInBounds_toArray, List.set_cons_zero, List.set_cons_succ, i64_w, i32_w]
        rfl
       refine pure_ (i := 4) (N := some 20) (v := ?_) (a' := ?_) #[true, true, true, true, true, false, false, false, false, false, false, false, false, false, false, false, false] rfl rfl (any_of HT_.out (by kernel_rfl)) (fun _ _ _ h => h) (Or.inl ⟨by rfl, ?_⟩) ?_ ?_
       rotate_left
       ·intro w'
        go_simp
        with_reducible rfl
       rotate_left
       ·simp only [Act.put, List.setIfInBounds_toArray, List.set_cons_zero, List.set_cons_succ, i64_w, i32_w]
        rfl
       refine pure_ (i := 5) (N := some 21) (v := ?_) (a' := ?_) #[true, true, true, true, true, true, false, false, false, false, false, false, false, false, false, false, false] rfl rfl (any_of HT_.out (by kernel_rfl)) (fun _ _ _ h => h) (Or.inl ⟨by rfl, ?_⟩) ?_ ?_
       rotate_left
       ·intro w'
        go_simp
        with_reducible rfl
       rotate_left
       ·simp only [Act.put, List.setIfInBounds_toArray, List.set_cons_zero, List.set_cons_succ, i64_w, i32_w]
        rfl
       refine pure_ (i := 6) (N := some 22) (v := undef) (a' := ?_) #[true, true, true, true, true, true, true, false, false, false, false, false, false, false, false, false, false] rfl rfl (any_of HT_.out (by kernel_rfl)) (fun _ _ _ h => h) (Or.inr ⟨by rfl, rfl⟩) ?_ ?_
       rotate_left
       ·simp only [Act.put, List.setIfInBounds_toArray, List.set_cons_zero, List.set_cons_succ, i64_w, i32_w]
        rfl
       refine pure_ (i := 7) (N := some 23) (v := undef) (a' := ?_) #[true, true, true, true, true, true, true, true, false, false, false, false, false, false, false, false, false] rfl rfl (any_of HT_.out (by kernel_rfl)) (fun _ _ _ h => h) (Or.inr ⟨by rfl, rfl⟩) ?_ ?_
       rotate_left
       ·simp only [Act.put, List.setIfInBounds_toArray, List.set_cons_zero, List.set_cons_succ, i64_w, i32_w]
        rfl
       refine pure_ (i := 8) (N := some 24) (v := undef) (a' := ?_) #[true, true, true, true, true, true, true, true, true, false, false, false, false, false, false, false, false] rfl rfl (any_of HT_.out (by kernel_rfl)) (fun _ _ _ h => h) (Or.inr ⟨by rfl, rfl⟩) ?_ ?_
       rotate_left
       ·simp only [Act.put, List.setIfInBounds_toArray, List.set_cons_zero, List.set_cons_succ, i64_w, i32_w]
        rfl
       refine pure_ (i := 9) (N := some 25) (v := undef) (a' := ?_) #[true, true, true, true, true, true, true, true, true, true, false, false, false, false, false, false, false] rfl rfl (any_of HT_.out (by kernel_rfl)) (fun _ _ _ h => h) (Or.inr ⟨by rfl, rfl⟩) ?_ ?_
       rotate_left
       ·simp only [Act.put, List.setIfInBounds_toArray, List.set_cons_zero, List.set_cons_succ, i64_w, i32_w]
        rfl
       refine pure_ (i := 10) (N := some 26) (v := undef) (a' := ?_) #[true, true, true, true, true, true, true, true, true, true, true, false, false, false, false, false, false] rfl rfl (any_of HT_.out (by kernel_rfl)) (fun _ _ _ h => h) (Or.inr ⟨by rfl, rfl⟩) ?_ ?_
       rotate_left
       ·simp only [Act.put, List.setIfInBounds_toArray, List.set_cons_zero, List.set_cons_succ, i64_w, i32_w]
        rfl
       refine pure_ (i := 11) (N := some 27) (v := undef) (a' := ?_) #[true, true, true, true, true, true, true, true, true, true, true, true, false, false, false, false, false] rfl rfl (any_of HT_.out (by kernel_rfl)) (fun _ _ _ h => h) (Or.inr ⟨by rfl, rfl⟩) ?_ ?_
       rotate_left
       ·simp only [Act.put, List.setIfInBounds_toArray, List.set_cons_zero, List.set_cons_succ, i64_w, i32_w]
        rfl
       refine pure_ (i := 12) (N := some 28) (v := undef) (a' := ?_) #[true, true, true, true, true, true, true, true, true, true, true, true, true, false, false, false, false] rfl rfl (any_of HT_.out (by kernel_rfl)) (fun _ _ _ h => h) (Or.inr ⟨by rfl, rfl⟩) ?_ ?_
       rotate_left
       ·simp only [Act.put, List.setIfInBounds_toArray, List.set_cons_zero, List.set_cons_succ, i64_w, i32_w]
        rfl
       refine pure_ (i := 13) (N := some 29) (v := undef) (a' := ?_) #[true, true, true, true, true, true, true, true, true, true, true, true, true, true, false, false, false] rfl rfl (any_of HT_.out (by kernel_rfl)) (fun _ _ _ h => h) (Or.inr ⟨by rfl, rfl⟩) ?_ ?_
       rotate_left
       ·simp only [Act.put, List.setIfInBounds_toArray, List.set_cons_zero, List.set_cons_succ, i64_w, i32_w]
        rfl
       refine pure_ (i := 14) (N := some 30) (v := undef) (a' := ?_) #[true, true, true, true, true, true, true, true, true, true, true, true, true, true, true, false, false] rfl rfl (any_of HT_.out (by kernel_rfl)) (fun _ _ _ h => h) (Or.inr ⟨by rfl, rfl⟩) ?_ ?_
       rotate_left
       ·simp only [Act.put, List.setIfInBounds_toArray, List.set_cons_zero, List.set_cons_succ, i64_w, i32_w]
        rfl
       refine pure_ (i := 15) (N := some 31) (v := undef) (a' := ?_) #[true, true, true, true, true, true, true, true, true, true, true, true, true, true, true, true, false] rfl rfl (any_of HT_.out (by kernel_rfl)) (fun _ _ _ h => h) (Or.inr ⟨by rfl, rfl⟩) ?_ ?_
       rotate_left
       ·simp only [Act.put, List.setIfInBounds_toArray, List.set_cons_zero, List.set_cons_succ, i64_w, i32_w]
        rfl
       refine pure_ (i := 16) (N := some 32) (v := ?_) (a' := ?_) #[true, true, true, true, true, true, true, true, true, true, true, true, true, true, true, true, true] rfl rfl (any_of HT_.out (by kernel_rfl)) (fun _ _ _ h => h) (Or.inl ⟨by rfl, ?_⟩) ?_ ?_
       rotate_left
       ·intro w'
        go_simp
        with_reducible rfl
       rotate_left
       ·simp only [Act.put, List.setIfInBounds_toArray, List.set_cons_zero, List.set_cons_succ, i64_w, i32_w]
        rfl
       refine done_ (done_of HT_.out (by kernel_rfl)) ?_
       have hnb49 := NB101_102.out
       have hnc49 := NB102_101.out
       have hnb50 := NB101_103.out
       have hnc50 := NB103_101.out
       have hnb51 := NB101_104.out
       have hnc51 := NB104_101.out
       have hcz52_0 : w48.cell? ⟨gb101, 0, none⟩ = some (.int .u64 (IntKind.u64.wrap (a0_0 + 1))) := (blk_cell BK101.out 0).trans rfl
       have hcz52_1 : w48.cell? ⟨gb101, 1, none⟩ = some (.slice A0_1 l0_1.length c0_1) := (blk_cell BK101.out 1).trans rfl
       have hcz52_2 : w48.cell? ⟨gb101, 2, none⟩ = some (.slice A0_2 l0_2.length c0_2) := (blk_cell BK101.out 2).trans rfl
       have hfz52_0 := blk_frozen BK101.out 0
       have hfz52_1 := blk_frozen BK101.out 1
       have hfz52_2 := blk_frozen BK101.out 2
       have q53 : (x6_1 : Int) ≤ ((l0_2.length : Int) : Int) := of_decide_eq_true (by first | (with_reducible assumption) | assumption)
       obtain ⟨i053, hi053, _, hsz53, _⟩ := info_parts info64
       have hroom53 : l0_2.length ≤ c0_2 := (Kd.V_reads' HO_102002.out).2.1
       have hC53 : Kd.F k64 _ _ A0_2 l0_2.length l0_2 := (Kd.V_at (base := w.heap.size) HO_102002.out).2.2
       have q053 : (0 : Int) ≤ (x6_1 : Int) := of_decide_eq_true (by first | (with_reducible assumption) | assumption)
       have hcut53 := cut_from (P := Try.prog) 24 64 .i64 Try.underlying24 hi053 3 hsz53 A0_2 l0_2.length c0_2 x6_1 q053 q53
       have hr53 := Kd.F_cut (m := (x6_1 : Int).toNat) (c := c0_2) hC53 (by omega) hroom53
       obtain ⟨A53, hA53⟩ : ∃ A1, A1 = (if c0_2 = (x6_1 : Int).toNat then A0_2 else (A0_2 : Option Addr).map (·.add ((x6_1 : Int).toNat * 3))) := ⟨_, rfl⟩
       obtain ⟨c53, hc53⟩ : ∃ c1, c1 = c0_2 - (x6_1 : Int).toNat := ⟨_, rfl⟩
       have hy53 : y120.length = l0_2.length - (x6_1 : Int).toNat := (by rw [Ny120.out, List.length_drop] <;> omega)
       rw [show (l0_2).drop (x6_1 : Int).toNat = y120 from Ny120.out.symm] at hr53
       replace hr53 : Kd.F k64 _ _ A53 y120.length y120 := (by rw [hA53]; exact hr53)
       rw [← hy53, ← hA53, ← hc53] at hcut53
       have HO124 := aA (show Kd.V k64 64 _ w.heap.size _ (.slice A53 y120.length c53) y120 from Kd.V_mk (by rw [hy53, hc53]; exact Nat.sub_le_sub_right hroom53 _) hr53)
       have HC124 := aA (show y120.length ≤ c53 from by rw [hy53, hc53]; exact Nat.sub_le_sub_right hroom53 _)
       clear hr53 hC53 hroom53 hi053 hsz53 hc53
       have KY53 := aA hy53
       have KA53 := aA hA53
       clear hy53 hA53
       replace q53 := eq_true q53
       try go_wp2
       have n0_ : Aside0 (Kd.V (Kd.int .u64) 22 (w48.setCell ⟨gb101, 2, none⟩ (.slice A53 y120.length c53)) w.heap.size (fun k_ => ((P0_1_ k_ ∨ P0_2_ k_) ∨ w.heap.size ≤ k_) ∧ some k_ ≠ (u105000 : Value).ownBlock ∧ some k_ ≠ (u105001 : Value).ownBlock ∧ k_ ≠ gb101 ∧ k_ ≠ gb102 ∧ k_ ≠ gb103 ∧ k_ ≠ gb104) (.slice A0_1 l0_1.length c0_1) l0_1) := ⟨by (with_reducible repeat (first | apply Kd.V_alloc | apply Kd.V_drewN | apply Kd.V_drew)); exact Kd.V_mono (Kd.V_far (p := ⟨gb101, 2, none⟩) (Kd.V_mono HO_102001.out (fun k_ hk => (⟨hk, hk.2.2.2.1⟩ : _ ∧ k_ ≠ gb101))) (fun _ hk => hk.2) (.slice A53 y120.length c53)) (fun _ hk => ⟨hk.1.1, ⟨hk.1.2.1, ⟨hk.1.2.2.1, ⟨hk.1.2.2.2.1, ⟨hk.1.2.2.2.2.1, ⟨hk.1.2.2.2.2.2.1, hk.1.2.2.2.2.2.2⟩⟩⟩⟩⟩⟩)⟩
       have n1_ : Aside0 (Kd.V k64 64 (w48.setCell ⟨gb101, 2, none⟩ (.slice A53 y120.length c53)) w.heap.size (fun k_ => ((P0_1_ k_ ∨ P0_2_ k_) ∨ w.heap.size ≤ k_) ∧ some k_ ≠ (u105000 : Value).ownBlock ∧ some k_ ≠ (u105001 : Value).ownBlock ∧ k_ ≠ gb101 ∧ k_ ≠ gb102 ∧ k_ ≠ gb103 ∧ k_ ≠ gb104) (.slice A0_2 l0_2.length c0_2) l0_2) := ⟨by (with_reducible repeat (first | apply Kd.V_alloc | apply Kd.V_drewN | apply Kd.V_drew)); exact Kd.V_mono (Kd.V_far (p := ⟨gb101, 2, none⟩) (Kd.V_mono HO_102002.out (fun k_ hk => (⟨hk, hk.2.2.2.1⟩ : _ ∧ k_ ≠ gb101))) (fun _ hk => hk.2) (.slice A53 y120.length c53)) (fun _ hk => ⟨hk.1.1, ⟨hk.1.2.1, ⟨hk.1.2.2.1, ⟨hk.1.2.2.2.1, ⟨hk.1.2.2.2.2.1, ⟨hk.1.2.2.2.2.2.1, hk.1.2.2.2.2.2.2⟩⟩⟩⟩⟩⟩)⟩
       have n2_ : Aside0 (Kd.R (Kd.int .u64) 22 (w48.setCell ⟨gb101, 2, none⟩ (.slice A53 y120.length c53)) w.heap.size (fun k_ => (w.heap.size ≤ k_) ∧ some k_ ≠ (u105001 : Value).ownBlock) u105000 x105000_1) := ⟨by (with_reducible repeat (first | apply Kd.R_alloc | apply Kd.R_drewN | apply Kd.R_drew)); exact Kd.R_mono (Kd.R_far (p := ⟨gb101, 2, none⟩) (Kd.R_types HO_105000.out BK101.out (by decide)) (fun _ hk => hk.2) (.slice A53 y120.length c53)) (fun _ hk => ⟨hk.1.1, hk.1.2⟩)⟩
       have n3_ : Aside0 (Kd.R (Kd.int .u64) 22 (w48.setCell ⟨gb101, 2, none⟩ (.slice A53 y120.length c53)) w.heap.size (fun k_ => (w.heap.size ≤ k_) ∧ some k_ ≠ (u105000 : Value).ownBlock) u105001 x105001_1) := ⟨by (with_reducible repeat (first | apply Kd.R_alloc | apply Kd.R_drewN | apply Kd.R_drew)); exact Kd.R_mono (Kd.R_far (p := ⟨gb101, 2, none⟩) (Kd.R_types HO_105001.out BK101.out (by decide)) (fun _ hk => hk.2) (.slice A53 y120.length c53)) (fun _ hk => ⟨hk.1.1, hk.1.2⟩)⟩
       have n4_ : Aside0 (Kd.V k64 64 (w48.setCell ⟨gb101, 2, none⟩ (.slice A53 y120.length c53)) w.heap.size (fun k_ => ((P0_1_ k_ ∨ P0_2_ k_) ∨ w.heap.size ≤ k_) ∧ some k_ ≠ (u105000 : Value).ownBlock ∧ some k_ ≠ (u105001 : Value).ownBlock ∧ k_ ≠ gb101 ∧ k_ ≠ gb102 ∧ k_ ≠ gb103 ∧ k_ ≠ gb104) (.slice A53 y120.length c53) y120) := ⟨by (with_reducible repeat (first | apply Kd.V_alloc | apply Kd.V_drewN | apply Kd.V_drew)); exact Kd.V_mono (Kd.V_far (p := ⟨gb101, 2, none⟩) (Kd.V_mono HO124.out (fun k_ hk => (⟨hk, hk.2.2.2.1⟩ : _ ∧ k_ ≠ gb101))) (fun _ hk => hk.2) (.slice A53 y120.length c53)) (fun _ hk => ⟨hk.1.1, ⟨hk.1.2.1, ⟨hk.1.2.2.1, ⟨hk.1.2.2.2.1, ⟨hk.1.2.2.2.2.1, ⟨hk.1.2.2.2.2.2.1, hk.1.2.2.2.2.2.2⟩⟩⟩⟩⟩⟩)⟩
       have n5_ : Aside0 ((w48.setCell ⟨gb101, 2, none⟩ (.slice A53 y120.length c53)).heap[gb101]? = some (.cells #[.int .u64 (IntKind.u64.wrap (a0_0 + 1)), .slice A0_1 l0_1.length c0_1, .slice A53 y120.length c53] 26 (0, 0))) := ⟨by refine bku ?_; refine blk_put (cs := #[.int .u64 (IntKind.u64.wrap (a0_0 + 1)), .slice A0_1 l0_1.length c0_1, .slice A0_2 l0_2.length c0_2]) ?_ 2 _ rfl; refine bku ?_; exact BK101.out⟩
       have n6_ : Aside0 ((w48.setCell ⟨gb101, 2, none⟩ (.slice A53 y120.length c53)).heap[gb102]? = some (.cells #[.int .u64 0, .slice none 0 0, .slice none 0 0] 26 (0, 0))) := ⟨by refine bku ?_; refine blk_far ?_ NB102_101.out _; refine bku ?_; exact BK102.out⟩
       have n7_ : Aside0 ((w48.setCell ⟨gb101, 2, none⟩ (.slice A53 y120.length c53)).heap[gb103]? = some (.cells #[.slice none 0 0, .slice none 0 0] 30 (0, 0))) := ⟨by refine bku ?_; refine blk_far ?_ NB103_101.out _; refine bku ?_; exact BK103.out⟩
       have n8_ : Aside0 ((w48.setCell ⟨gb101, 2, none⟩ (.slice A53 y120.length c53)).heap[gb104]? = some (.cells #[u105000, u105001] 30 (0, 0))) := ⟨by refine bku ?_; refine blk_far ?_ NB104_101.out _; refine bku ?_; exact BK104.out⟩
       have n9_ : Aside0 (Below w.heap.size w (w48.setCell ⟨gb101, 2, none⟩ (.slice A53 y120.length c53))) := ⟨by repeat (first | (with_reducible first | exact HB.out | apply below_alloc | apply pw_below_drewN | apply below_drew1 | refine below_set ?_ GE101.out | refine below_set ?_ GE102.out | refine below_set ?_ GE103.out | refine below_set ?_ GE104.out) | exact HB.out)⟩
       (try clear HO_102001)
       (try clear HO_102002)
       (try clear HO_105000)
       (try clear HO_105001)
       (try clear HO124)
       (try clear BK101)
       (try clear BK102)
       (try clear BK103)
       (try clear BK104)
       (try clear HB)
       generalize (w48.setCell ⟨gb101, 2, none⟩ (.slice A53 y120.length c53)) = w54 at n0_ n1_ n2_ n3_ n4_ n5_ n6_ n7_ n8_ n9_ ⊢
       have HO_102001 := n0_
       have HO_102002 := n1_
       have HO_105000 := n2_
       have HO_105001 := n3_
       have HO124 := n4_
       have BK101 := n5_
       have BK102 := n6_
       have BK103 := n7_
       have BK104 := n8_
       have HB := n9_
       clear n0_ n1_ n2_ n3_ n4_ n5_ n6_ n7_ n8_ n9_
       have n0_ := aA (Kd.V_drew HO_102001.out)
       have n1_ := aA (Kd.V_drew HO_102002.out)
       have n2_ := aA (Kd.R_drew HO_105000.out)
       have n3_ := aA (Kd.R_drew HO_105001.out)
       have n4_ := aA (Kd.V_drew HO124.out)
       have n5_ := aA (blk_drew BK101.out)
       have n6_ := aA (blk_drew BK102.out)
       have n7_ := aA (blk_drew BK103.out)
       have n8_ := aA (blk_drew BK104.out)
       have n9_ := aA (below_drew1 HB.out)
       clear HO_102001
       clear HO_102002
       clear HO_105000
       clear HO_105001
       clear HO124
       clear BK101
       clear BK102
       clear BK103
       clear BK104
       clear HB
       have HO_102001 := n0_
       have HO_102002 := n1_
       have HO_105000 := n2_
       have HO_105001 := n3_
       have HO124 := n4_
       have BK101 := n5_
       have BK102 := n6_
       have BK103 := n7_
       have BK104 := n8_
       have HB := n9_
       clear n0_ n1_ n2_ n3_ n4_ n5_ n6_ n7_ n8_ n9_
       obtain ⟨Ao59, co59, eo59⟩ := Kd.R_slice HO_105000.out
       (first | subst eo59 | (injection eo59 with f1_ f2_ f3_; have f4_ := f1_.symm; have f5_ := f3_.symm; clear f1_ f2_ f3_; subst f4_; subst f5_))
       obtain ⟨Ao61, co61, eo61⟩ := Kd.R_slice HO_105001.out
       (first | subst eo61 | (injection eo61 with f1_ f2_ f3_; have f4_ := f1_.symm; have f5_ := f3_.symm; clear f1_ f2_ f3_; subst f4_; subst f5_))
       refine start_ (n := 5) (S := fun w' => w'.cell? ⟨gb101, 0, none⟩ = some (.int .u64 (IntKind.u64.wrap (a0_0 + 1))) ∧ w'.cell? ⟨gb101, 1, none⟩ = some (.slice A0_1 l0_1.length c0_1) ∧ w'.cell? ⟨gb101, 2, none⟩ = some (.slice A53 y120.length c53) ∧ w'.cell? ⟨gb104, 0, none⟩ = some (.slice Ao59 x105000_1.length co59) ∧ w'.cell? ⟨gb104, 1, none⟩ = some (.slice Ao61 x105001_1.length co61)) (ds := []) #[false, false, false, false, false] (by kernel_rfl) rfl rfl ⟨(blk_cell BK101.out 0).trans rfl, (blk_cell BK101.out 1).trans rfl, (blk_cell BK101.out 2).trans rfl, (blk_cell BK104.out 0).trans rfl, (blk_cell BK104.out 1).trans rfl⟩ (fun hHeld => ?_)
       generalize w54.drew = w55 at HO_102001 HO_102002 HO_105000 HO_105001 HO124 BK101 BK102 BK103 BK104 HB hHeld ⊢
       refine take_ (i := 0) (N := some 62) (v := ?_) (a' := ?_) #[true, false, false, false, false] rfl rfl (by kernel_rfl) (fun _ _ _ h => h) (Or.inl ⟨by rfl, ?_⟩) hHeld ?_ ?_
       rotate_left
       ·rintro w' ⟨s0, s1, s2, s3, s4⟩
        go_simp
        with_reducible rfl
       rotate_left
       ·simp only [Act.put, List.setIfInBounds_toArray, List.set_cons_zero, List.set_cons_succ, i64_w, i32_w]
        rfl
       refine take_ (i := 1) (N := some 63) (v := ?_) (a' := ?_) #[true, true, false, false, false] rfl rfl (by kernel_rfl) (fun _ _ _ h => h) (Or.inl ⟨by rfl, ?_⟩) hHeld ?_ ?_
       rotate_left
       ·rintro w' ⟨s0, s1, s2, s3, s4⟩
        go_simp
        with_reducible rfl
       rotate_left
       ·simp only [Act.put, List.setIfInBounds_toArray, List.set_cons_zero, List.set_cons_succ, i64_w, i32_w]
        rfl
       refine one_ (i := 2) (N := none) #[true, true, true, false, false] rfl rfl (by kernel_rfl) (by decide) (fun K hK => ?_)
       have hs56 : w55.cell? ⟨gb102, 0, none⟩ = some (.int .u64 0) := (blk_cell BK102.out 0).trans rfl
       have hfs56 := blk_frozen BK102.out 0
       have hns56_0 := NB101_102.out
       have hns56_2 := NB103_102.out
       have hns56_3 := NB104_102.out
       have hms56_0 := NB102_101.out
       have hms56_2 := NB102_103.out
       have hms56_3 := NB102_104.out
       have hs57 : w55.cell? ⟨gb102, 1, none⟩ = some (.slice none 0 0) := (blk_cell BK102.out 1).trans rfl
       have hfs57 := blk_frozen BK102.out 1
       have hns57_0 := NB101_102.out
       have hns57_2 := NB103_102.out
       have hns57_3 := NB104_102.out
       have hms57_0 := NB102_101.out
       have hms57_2 := NB102_103.out
       have hms57_3 := NB102_104.out
       have hs58 : w55.cell? ⟨gb102, 2, none⟩ = some (.slice none 0 0) := (blk_cell BK102.out 2).trans rfl
       have hfs58 := blk_frozen BK102.out 2
       have hns58_0 := NB101_102.out
       have hns58_2 := NB103_102.out
       have hns58_3 := NB104_102.out
       have hms58_0 := NB102_101.out
       have hms58_2 := NB102_103.out
       have hms58_3 := NB102_104.out
       refine skip_ (w1 := ?_) (by rfl) rfl ?_ ?_
       rotate_left
       ·go_simp
        rfl
       refine hK.out _ _ ⟨((cell_far (p := ⟨gb102, _, none⟩) NB101_102.out _).trans (((cell_far (p := ⟨gb102, _, none⟩) NB101_102.out _).trans (((cell_far (p := ⟨gb102, _, none⟩) NB101_102.out _).trans (hHeld.1)))))), ((cell_far (p := ⟨gb102, _, none⟩) NB101_102.out _).trans (((cell_far (p := ⟨gb102, _, none⟩) NB101_102.out _).trans (((cell_far (p := ⟨gb102, _, none⟩) NB101_102.out _).trans (hHeld.2.1)))))), ((cell_far (p := ⟨gb102, _, none⟩) NB101_102.out _).trans (((cell_far (p := ⟨gb102, _, none⟩) NB101_102.out _).trans (((cell_far (p := ⟨gb102, _, none⟩) NB101_102.out _).trans (hHeld.2.2.1)))))), ((cell_far (p := ⟨gb102, _, none⟩) NB104_102.out _).trans (((cell_far (p := ⟨gb102, _, none⟩) NB104_102.out _).trans (((cell_far (p := ⟨gb102, _, none⟩) NB104_102.out _).trans (hHeld.2.2.2.1)))))), ((cell_far (p := ⟨gb102, _, none⟩) NB104_102.out _).trans (((cell_far (p := ⟨gb102, _, none⟩) NB104_102.out _).trans (((cell_far (p := ⟨gb102, _, none⟩) NB104_102.out _).trans (hHeld.2.2.2.2))))))⟩ (fun hHeld => ?_)
       clear hK K
       refine one_ (i := 3) (N := none) #[true, true, true, true, false] rfl rfl (by kernel_rfl) (by decide) (fun K hK => ?_)
       have hs60 : w55.cell? ⟨gb103, 0, none⟩ = some (.slice none 0 0) := (blk_cell BK103.out 0).trans rfl
       have hfs60 := blk_frozen BK103.out 0
       have hns60_0 := NB101_103.out
       have hns60_1 := NB102_103.out
       have hns60_3 := NB104_103.out
       have hms60_0 := NB103_101.out
       have hms60_1 := NB103_102.out
       have hms60_3 := NB103_104.out
       have hs62 : w55.cell? ⟨gb103, 1, none⟩ = some (.slice none 0 0) := (blk_cell BK103.out 1).trans rfl
       have hfs62 := blk_frozen BK103.out 1
       have hns62_0 := NB101_103.out
       have hns62_1 := NB102_103.out
       have hns62_3 := NB104_103.out
       have hms62_0 := NB103_101.out
       have hms62_1 := NB103_102.out
       have hms62_3 := NB103_104.out
       refine skip_ (w1 := ?_) (by rfl) rfl ?_ ?_
       rotate_left
       ·go_simp
        rfl
       refine hK.out _ _ ⟨((cell_far (p := ⟨gb103, _, none⟩) NB101_103.out _).trans (((cell_far (p := ⟨gb103, _, none⟩) NB101_103.out _).trans (hHeld.1)))), ((cell_far (p := ⟨gb103, _, none⟩) NB101_103.out _).trans (((cell_far (p := ⟨gb103, _, none⟩) NB101_103.out _).trans (hHeld.2.1)))), ((cell_far (p := ⟨gb103, _, none⟩) NB101_103.out _).trans (((cell_far (p := ⟨gb103, _, none⟩) NB101_103.out _).trans (hHeld.2.2.1)))), ((cell_far (p := ⟨gb103, _, none⟩) NB104_103.out _).trans (((cell_far (p := ⟨gb103, _, none⟩) NB104_103.out _).trans (hHeld.2.2.2.1)))), ((cell_far (p := ⟨gb103, _, none⟩) NB104_103.out _).trans (((cell_far (p := ⟨gb103, _, none⟩) NB104_103.out _).trans (hHeld.2.2.2.2))))⟩ (fun hHeld => ?_)
       clear hK K
       refine pure_ (i := 4) (N := some 4) (v := ?_) (a' := ?_) #[true, true, true, true, true] rfl rfl (by kernel_rfl) (fun _ _ _ h => h) (Or.inl ⟨by rfl, ?_⟩) ?_ ?_
       rotate_left
       ·intro w'
        go_simp
        with_reducible rfl
       rotate_left
       ·simp only [Act.put, List.setIfInBounds_toArray, List.set_cons_zero, List.set_cons_succ, i64_w, i32_w]
        rfl
       refine done_ (by kernel_rfl) ?_
       try go_wp2
       refine bodyPost_ret (results_list (rs := [.cell 2 26, .cell 3 30, .tmp 4]) rfl (by simp) (.cell gb102 26 #[.int .u64 (IntKind.u64.wrap (a0_0 + 1)), .slice A0_1 l0_1.length c0_1, .slice A53 y120.length c53] (0, 0) _ rfl (by refine bku ?_; refine blk_far ?_ NB102_103.out _; refine bku ?_; refine blk_far ?_ NB102_103.out _; refine bku ?_; refine blk_put (cs := #[.int .u64 (IntKind.u64.wrap (a0_0 + 1)), .slice A0_1 l0_1.length c0_1, .slice none 0 0]) ?_ 2 _ rfl; refine bku ?_; refine blk_put (cs := #[.int .u64 (IntKind.u64.wrap (a0_0 + 1)), .slice none 0 0, .slice none 0 0]) ?_ 1 _ rfl; refine bku ?_; refine blk_put (cs := #[.int .u64 0, .slice none 0 0, .slice none 0 0]) ?_ 0 _ rfl; refine bku ?_; exact BK102.out) Try.underlying26 rfl (by kernel_rfl) (.cell gb103 30 #[.slice Ao59 x105000_1.length co59, .slice Ao61 x105001_1.length co61] (0, 0) _ rfl (by refine bku ?_; refine blk_put (cs := #[.slice Ao59 x105000_1.length co59, .slice none 0 0]) ?_ 1 _ rfl; refine bku ?_; refine blk_put (cs := #[.slice none 0 0, .slice none 0 0]) ?_ 0 _ rfl; refine bku ?_; refine blk_far ?_ NB103_102.out _; refine bku ?_; refine blk_far ?_ NB103_102.out _; refine bku ?_; refine blk_far ?_ NB103_102.out _; refine bku ?_; exact BK103.out) Try.underlying30 rfl (by kernel_rfl) (.tmp .nil)))) rfl ?_
       exact ⟨_, _, _, _, by first | rfl | (simp [errW_none, errW_some] <;> rfl) | (simp [*, errW_none, errW_some] <;> rfl), by (with_reducible repeat (first | apply Kd.V_alloc | apply Kd.V_drewN | apply Kd.V_drew)); exact Kd.V_mono (Kd.V_far (p := ⟨gb103, 1, none⟩) (Kd.V_far (p := ⟨gb103, 0, none⟩) (Kd.V_far (p := ⟨gb102, 2, none⟩) (Kd.V_far (p := ⟨gb102, 1, none⟩) (Kd.V_far (p := ⟨gb102, 0, none⟩) (Kd.V_mono (Kd.V_mono HO_102001.out (fun k_ hk => (⟨hk, hk.2.2.2.2.1⟩ : _ ∧ k_ ≠ gb102))) (fun k_ hk => (⟨hk, hk.1.2.2.2.2.2.1⟩ : _ ∧ k_ ≠ gb103))) (fun _ hk => hk.1.2) (.int .u64 (IntKind.u64.wrap (a0_0 + 1)))) (fun _ hk => hk.1.2) (.slice A0_1 l0_1.length c0_1)) (fun _ hk => hk.1.2) (.slice A53 y120.length c53)) (fun _ hk => hk.2) (.slice Ao59 x105000_1.length co59)) (fun _ hk => hk.2) (.slice Ao61 x105001_1.length co61)) (fun _ hk => ⟨hk.1.1.1, ⟨hk.1.1.2.1, hk.1.1.2.2.1⟩⟩), by (with_reducible repeat (first | apply Kd.V_alloc | apply Kd.V_drewN | apply Kd.V_drew)); exact Kd.V_mono (Kd.V_far (p := ⟨gb103, 1, none⟩) (Kd.V_far (p := ⟨gb103, 0, none⟩) (Kd.V_far (p := ⟨gb102, 2, none⟩) (Kd.V_far (p := ⟨gb102, 1, none⟩) (Kd.V_far (p := ⟨gb102, 0, none⟩) (Kd.V_mono (Kd.V_mono HO124.out (fun k_ hk => (⟨hk, hk.2.2.2.2.1⟩ : _ ∧ k_ ≠ gb102))) (fun k_ hk => (⟨hk, hk.1.2.2.2.2.2.1⟩ : _ ∧ k_ ≠ gb103))) (fun _ hk => hk.1.2) (.int .u64 (IntKind.u64.wrap (a0_0 + 1)))) (fun _ hk => hk.1.2) (.slice A0_1 l0_1.length c0_1)) (fun _ hk => hk.1.2) (.slice A53 y120.length c53)) (fun _ hk => hk.2) (.slice Ao59 x105000_1.length co59)) (fun _ hk => hk.2) (.slice Ao61 x105001_1.length co61)) (fun _ hk => ⟨hk.1.1.1, ⟨hk.1.1.2.1, hk.1.1.2.2.1⟩⟩), by (with_reducible repeat (first | apply Kd.R_alloc | apply Kd.R_drewN | apply Kd.R_drew)); exact Kd.R_mono (Kd.R_far (p := ⟨gb103, 1, none⟩) (Kd.R_far (p := ⟨gb103, 0, none⟩) (Kd.R_far (p := ⟨gb102, 2, none⟩) (Kd.R_far (p := ⟨gb102, 1, none⟩) (Kd.R_far (p := ⟨gb102, 0, none⟩) (Kd.R_types (Kd.R_types HO_105000.out BK102.out (by decide)) BK103.out (by decide)) (fun _ hk => hk.1.2) (.int .u64 (IntKind.u64.wrap (a0_0 + 1)))) (fun _ hk => hk.1.2) (.slice A0_1 l0_1.length c0_1)) (fun _ hk => hk.1.2) (.slice A53 y120.length c53)) (fun _ hk => hk.2) (.slice Ao59 x105000_1.length co59)) (fun _ hk => hk.2) (.slice Ao61 x105001_1.length co61)) (fun _ hk => ⟨hk.1.1.1, hk.1.1.2⟩), by (with_reducible repeat (first | apply Kd.R_alloc | apply Kd.R_drewN | apply Kd.R_drew)); exact Kd.R_mono (Kd.R_far (p := ⟨gb103, 1, none⟩) (Kd.R_far (p := ⟨gb103, 0, none⟩) (Kd.R_far (p := ⟨gb102, 2, none⟩) (Kd.R_far (p := ⟨gb102, 1, none⟩) (Kd.R_far (p := ⟨gb102, 0, none⟩) (Kd.R_types (Kd.R_types HO_105001.out BK102.out (by decide)) BK103.out (by decide)) (fun _ hk => hk.1.2) (.int .u64 (IntKind.u64.wrap (a0_0 + 1)))) (fun _ hk => hk.1.2) (.slice A0_1 l0_1.length c0_1)) (fun _ hk => hk.1.2) (.slice A53 y120.length c53)) (fun _ hk => hk.2) (.slice Ao59 x105000_1.length co59)) (fun _ hk => hk.2) (.slice Ao61 x105001_1.length co61)) (fun _ hk => ⟨hk.1.1.1, hk.1.1.2⟩), by repeat (first | (with_reducible first | exact HB.out | apply below_alloc | apply pw_below_drewN | apply below_drew1 | refine below_set ?_ GE101.out | refine below_set ?_ GE102.out | refine below_set ?_ GE103.out | refine below_set ?_ GE104.out) | exact HB.out)⟩
      ·rw [if_neg c47] at H
       exact absurd H (by simp)
     ·rw [if_neg c46] at H
      exact absurd H (by simp)
 ·replace c3 := Bool.eq_false_iff.mpr c3
  subst c3
  have H1 : (some (a0_0, l0_1, l0_2, ([] : List Int), ([] : List Int), false)) = some (r1, r2, r3, r4, r5, r6) := by rw [if_neg (show ¬ (false = true) by decide)] at H; exact H
  clear H
  have H := H1
  clear H1
  simp only [Option.some.injEq, Prod.mk.injEq] at H
  obtain ⟨rfl, rfl, rfl, rfl, rfl, rfl⟩ := H
  go_enter Try.func10, Try.ntmps10
  try go_wp2_with (first | ((with_reducible refine gate_dst (N := 1) rfl ?_); refine box_event ?hg (N := 1) ?hd (cs := #[.int .u64 a0_0, .slice A0_1 l0_1.length c0_1, .slice A0_2 l0_2.length c0_2]) (t := 26) ?hr ?_; (case hd => rfl); (case hg => rfl); (case hr => first | (go_simp; done) | (go_simp; rfl)); intro gb101 hg w63 hbox hb; have n0_ := aA (Kd.V_below (Kd.V_elderB (vlu HO0_1.out) gb101 (Nat.le_of_eq hg.symm)) hb); have n1_ := aA (Kd.V_below (Kd.V_elderB (vlu HO0_2.out) gb101 (Nat.le_of_eq hg.symm)) hb); have n2_ := aA (below_step (blw HB.out) hb); have n3_ := aA (hbox); have n4_ := aA ((by rw [hg]; exact (below_size (blw HB.out)) : w.heap.size ≤ gb101)); have n5_ := aA ((by rw [hg]; exact (below_size (blw HB.out)) : w.heap.size ≤ gb101)); clear HO0_1 HO0_2 HB; have HO0_1 := n0_; have HO0_2 := n1_; have HB := n2_; have BK101 := n3_; have GW101 := n4_; have GE101 := n5_; clear n0_ n1_ n2_ n3_ n4_ n5_ hb hbox hg) | ((with_reducible refine gate_dst (N := 2) rfl ?_); refine box_event ?hg (N := 2) ?hd (cs := #[.int .u64 0, .slice none 0 0, .slice none 0 0]) (t := 26) ?hr ?_; (case hd => rfl); (case hg => rfl); (case hr => first | (go_simp; done) | (go_simp; rfl)); intro gb102 hg w64 hbox hb; have n0_ := aA (Kd.V_below (Kd.V_elderB (vlu HO0_1.out) gb102 (Nat.le_of_eq hg.symm)) hb); have n1_ := aA (Kd.V_below (Kd.V_elderB (vlu HO0_2.out) gb102 (Nat.le_of_eq hg.symm)) hb); have n2_ := aA (blk_below (g := gb101) (o := .cells #[.int .u64 a0_0, .slice A0_1 l0_1.length c0_1, .slice A0_2 l0_2.length c0_2] 26 (0, 0)) (bku BK101.out) hb); have n3_ := aA (below_step (bls HB.out) hb); have n4_ := aA (hbox); have n5_ := aA ((by rw [hg]; exact (below_size (bls HB.out)) : w.heap.size ≤ gb102)); have n6_ := aA ((by rw [hg]; exact (below_size (bls HB.out)) : w.heap.size ≤ gb102)); have n7_ := aA ((by rw [hg]; exact Nat.ne_of_lt (blk_lt (g := gb101) (o := .cells #[.int .u64 a0_0, .slice A0_1 l0_1.length c0_1, .slice A0_2 l0_2.length c0_2] 26 (0, 0)) (bku BK101.out)) : gb101 ≠ gb102)); have n8_ := aA ((by rw [hg]; exact Nat.ne_of_gt (blk_lt (g := gb101) (o := .cells #[.int .u64 a0_0, .slice A0_1 l0_1.length c0_1, .slice A0_2 l0_2.length c0_2] 26 (0, 0)) (bku BK101.out)) : gb102 ≠ gb101)); clear HO0_1 HO0_2 BK101 HB; have HO0_1 := n0_; have HO0_2 := n1_; have BK101 := n2_; have HB := n3_; have BK102 := n4_; have GW102 := n5_; have GE102 := n6_; have NB101_102 := n7_; have NB102_101 := n8_; clear n0_ n1_ n2_ n3_ n4_ n5_ n6_ n7_ n8_ hb hbox hg) | ((with_reducible refine gate_dst (N := 3) rfl ?_); refine box_event ?hg (N := 3) ?hd (cs := #[.slice none 0 0, .slice none 0 0]) (t := 30) ?hr ?_; (case hd => rfl); (case hg => rfl); (case hr => first | (go_simp; done) | (go_simp; rfl)); intro gb103 hg w65 hbox hb; have n0_ := aA (Kd.V_below (Kd.V_elderB (vlu HO0_1.out) gb103 (Nat.le_of_eq hg.symm)) hb); have n1_ := aA (Kd.V_below (Kd.V_elderB (vlu HO0_2.out) gb103 (Nat.le_of_eq hg.symm)) hb); have n2_ := aA (blk_below (g := gb101) (o := .cells #[.int .u64 a0_0, .slice A0_1 l0_1.length c0_1, .slice A0_2 l0_2.length c0_2] 26 (0, 0)) (bku BK101.out) hb); have n3_ := aA (blk_below (g := gb102) (o := .cells #[.int .u64 0, .slice none 0 0, .slice none 0 0] 26 (0, 0)) (bku BK102.out) hb); have n4_ := aA (below_step (bls HB.out) hb); have n5_ := aA (hbox); have n6_ := aA ((by rw [hg]; exact (below_size (bls HB.out)) : w.heap.size ≤ gb103)); have n7_ := aA ((by rw [hg]; exact (below_size (bls HB.out)) : w.heap.size ≤ gb103)); have n8_ := aA ((by rw [hg]; exact Nat.ne_of_lt (blk_lt (g := gb101) (o := .cells #[.int .u64 a0_0, .slice A0_1 l0_1.length c0_1, .slice A0_2 l0_2.length c0_2] 26 (0, 0)) (bku BK101.out)) : gb101 ≠ gb103)); have n9_ := aA ((by rw [hg]; exact Nat.ne_of_gt (blk_lt (g := gb101) (o := .cells #[.int .u64 a0_0, .slice A0_1 l0_1.length c0_1, .slice A0_2 l0_2.length c0_2] 26 (0, 0)) (bku BK101.out)) : gb103 ≠ gb101)); have n10_ := aA ((by rw [hg]; exact Nat.ne_of_lt (blk_lt (g := gb102) (o := .cells #[.int .u64 0, .slice none 0 0, .slice none 0 0] 26 (0, 0)) (bku BK102.out)) : gb102 ≠ gb103)); have n11_ := aA ((by rw [hg]; exact Nat.ne_of_gt (blk_lt (g := gb102) (o := .cells #[.int .u64 0, .slice none 0 0, .slice none 0 0] 26 (0, 0)) (bku BK102.out)) : gb103 ≠ gb102)); clear HO0_1 HO0_2 BK101 BK102 HB; have HO0_1 := n0_; have HO0_2 := n1_; have BK101 := n2_; have BK102 := n3_; have HB := n4_; have BK103 := n5_; have GW103 := n6_; have GE103 := n7_; have NB101_103 := n8_; have NB103_101 := n9_; have NB102_103 := n10_; have NB103_102 := n11_; clear n0_ n1_ n2_ n3_ n4_ n5_ n6_ n7_ n8_ n9_ n10_ n11_ hb hbox hg) | ((with_reducible refine gate_dst (N := 5) rfl ?_); refine box_event ?hg (N := 5) ?hd (cs := #[.slice none 0 0, .slice none 0 0]) (t := 30) ?hr ?_; (case hd => rfl); (case hg => rfl); (case hr => first | (go_simp; done) | (go_simp; rfl)); intro gb104 hg w66 hbox hb; have n0_ := aA (Kd.V_below (Kd.V_elderB (vlu HO0_1.out) gb104 (Nat.le_of_eq hg.symm)) hb); have n1_ := aA (Kd.V_below (Kd.V_elderB (vlu HO0_2.out) gb104 (Nat.le_of_eq hg.symm)) hb); have n2_ := aA (blk_below (g := gb101) (o := .cells #[.int .u64 a0_0, .slice A0_1 l0_1.length c0_1, .slice A0_2 l0_2.length c0_2] 26 (0, 0)) (bku BK101.out) hb); have n3_ := aA (blk_below (g := gb102) (o := .cells #[.int .u64 0, .slice none 0 0, .slice none 0 0] 26 (0, 0)) (bku BK102.out) hb); have n4_ := aA (blk_below (g := gb103) (o := .cells #[.slice none 0 0, .slice none 0 0] 30 (0, 0)) (bku BK103.out) hb); have n5_ := aA (below_step (bls HB.out) hb); have n6_ := aA (hbox); have n7_ := aA ((by rw [hg]; exact (below_size (bls HB.out)) : w.heap.size ≤ gb104)); have n8_ := aA ((by rw [hg]; exact (below_size (bls HB.out)) : w.heap.size ≤ gb104)); have n9_ := aA ((by rw [hg]; exact Nat.ne_of_lt (blk_lt (g := gb101) (o := .cells #[.int .u64 a0_0, .slice A0_1 l0_1.length c0_1, .slice A0_2 l0_2.length c0_2] 26 (0, 0)) (bku BK101.out)) : gb101 ≠ gb104)); have n10_ := aA ((by rw [hg]; exact Nat.ne_of_gt (blk_lt (g := gb101) (o := .cells #[.int .u64 a0_0, .slice A0_1 l0_1.length c0_1, .slice A0_2 l0_2.length c0_2] 26 (0, 0)) (bku BK101.out)) : gb104 ≠ gb101)); have n11_ := aA ((by rw [hg]; exact Nat.ne_of_lt (blk_lt (g := gb102) (o := .cells #[.int .u64 0, .slice none 0 0, .slice none 0 0] 26 (0, 0)) (bku BK102.out)) : gb102 ≠ gb104)); have n12_ := aA ((by rw [hg]; exact Nat.ne_of_gt (blk_lt (g := gb102) (o := .cells #[.int .u64 0, .slice none 0 0, .slice none 0 0] 26 (0, 0)) (bku BK102.out)) : gb104 ≠ gb102)); have n13_ := aA ((by rw [hg]; exact Nat.ne_of_lt (blk_lt (g := gb103) (o := .cells #[.slice none 0 0, .slice none 0 0] 30 (0, 0)) (bku BK103.out)) : gb103 ≠ gb104)); have n14_ := aA ((by rw [hg]; exact Nat.ne_of_gt (blk_lt (g := gb103) (o := .cells #[.slice none 0 0, .slice none 0 0] 30 (0, 0)) (bku BK103.out)) : gb104 ≠ gb103)); clear HO0_1 HO0_2 BK101 BK102 BK103 HB; have HO0_1 := n0_; have HO0_2 := n1_; have BK101 := n2_; have BK102 := n3_; have BK103 := n4_; have HB := n5_; have BK104 := n6_; have GW104 := n7_; have GE104 := n8_; have NB101_104 := n9_; have NB104_101 := n10_; have NB102_104 := n11_; have NB104_102 := n12_; have NB103_104 := n13_; have NB104_103 := n14_; clear n0_ n1_ n2_ n3_ n4_ n5_ n6_ n7_ n8_ n9_ n10_ n11_ n12_ n13_ n14_ hb hbox hg; have hnb67 := NB101_102.out; have hnc67 := NB102_101.out; have hnb68 := NB101_103.out; have hnc68 := NB103_101.out; have hnb69 := NB101_104.out; have hnc69 := NB104_101.out; have hcz70_0 : w66.cell? ⟨gb101, 0, none⟩ = some (.int .u64 a0_0) := (blk_cell BK101.out 0).trans rfl; have hcz70_1 : w66.cell? ⟨gb101, 1, none⟩ = some (.slice A0_1 l0_1.length c0_1) := (blk_cell BK101.out 1).trans rfl; have hcz70_2 : w66.cell? ⟨gb101, 2, none⟩ = some (.slice A0_2 l0_2.length c0_2) := (blk_cell BK101.out 2).trans rfl; have hfz70_0 := blk_frozen BK101.out 0; have hfz70_1 := blk_frozen BK101.out 1; have hfz70_2 := blk_frozen BK101.out 2) | ((with_reducible refine gate_callee (f := 23) rfl ?_); refine goesL_ (some 8) rfl rfl Try.func23 (by kernel_rfl) rfl #[.agg #[.int .u64 a0_0, .slice A0_1 l0_1.length c0_1, .slice A0_2 l0_2.length c0_2]] rfl (by (try simp only [List.map_toArray, List.map_cons, List.map_nil]); first | done | rfl | (simp only [List.length_drop, List.length_take]; rfl)) ?_; (with_reducible refine (epoch_May.calls a0_0 _ _ l0_1 _ _ l0_2 false _ ?side1 ?side2 ?side3 ?side4 A2.out).mono ?_); (case side1 => repeat (first | exact (Kd.V_reads' HO0_1.out).2.2 | (with_reducible refine Kd.C_alloc ?_ _) | (with_reducible refine Kd.C_drewN ?_ _) | (with_reducible refine Kd.C_drew ?_))); (case side2 => exact (Kd.V_reads' HO0_1.out).2.1); (case side3 => repeat (first | exact (Kd.V_reads' HO0_2.out).2.2 | (with_reducible refine Kd.C_alloc ?_ _) | (with_reducible refine Kd.C_drewN ?_ _) | (with_reducible refine Kd.C_drew ?_))); (case side4 => exact (Kd.V_reads' HO0_2.out).2.1); rintro e w71 ⟨rfl, hb⟩; refine ⟨_, rfl, ?_⟩; have n0_ := aA (Kd.V_below (vlu HO0_1.out) hb); have n1_ := aA (Kd.V_below (vlu HO0_2.out) hb); have n2_ := aA (blk_below (g := gb101) (o := .cells #[.int .u64 a0_0, .slice A0_1 l0_1.length c0_1, .slice A0_2 l0_2.length c0_2] 26 (0, 0)) (bku BK101.out) hb); have n3_ := aA (blk_below (g := gb102) (o := .cells #[.int .u64 0, .slice none 0 0, .slice none 0 0] 26 (0, 0)) (bku BK102.out) hb); have n4_ := aA (blk_below (g := gb103) (o := .cells #[.slice none 0 0, .slice none 0 0] 30 (0, 0)) (bku BK103.out) hb); have n5_ := aA (blk_below (g := gb104) (o := .cells #[.slice none 0 0, .slice none 0 0] 30 (0, 0)) (bku BK104.out) hb); have n6_ := aA (below_step (bls HB.out) hb); clear HO0_1 HO0_2 BK101 BK102 BK103 BK104 HB; have HO0_1 := n0_; have HO0_2 := n1_; have BK101 := n2_; have BK102 := n3_; have BK103 := n4_; have BK104 := n5_; have HB := n6_; clear n0_ n1_ n2_ n3_ n4_ n5_ n6_; (try clear hb); (try clear hb2); (try clear hk); (try clear hi)))
  have n0_ := aA (Kd.V_drew HO0_1.out)
  have n1_ := aA (Kd.V_drew HO0_2.out)
  have n2_ := aA (blk_drew BK101.out)
  have n3_ := aA (blk_drew BK102.out)
  have n4_ := aA (blk_drew BK103.out)
  have n5_ := aA (blk_drew BK104.out)
  have n6_ := aA (below_drew1 HB.out)
  clear HO0_1
  clear HO0_2
  clear BK101
  clear BK102
  clear BK103
  clear BK104
  clear HB
  have HO0_1 := n0_
  have HO0_2 := n1_
  have BK101 := n2_
  have BK102 := n3_
  have BK103 := n4_
  have BK104 := n5_
  have HB := n6_
  clear n0_ n1_ n2_ n3_ n4_ n5_ n6_
  refine start_ (n := 5) (S := fun w' => w'.cell? ⟨gb101, 0, none⟩ = some (.int .u64 a0_0) ∧ w'.cell? ⟨gb101, 1, none⟩ = some (.slice A0_1 l0_1.length c0_1) ∧ w'.cell? ⟨gb101, 2, none⟩ = some (.slice A0_2 l0_2.length c0_2) ∧ w'.cell? ⟨gb104, 0, none⟩ = some (.slice none 0 0) ∧ w'.cell? ⟨gb104, 1, none⟩ = some (.slice none 0 0)) (ds := []) #[false, false, false, false, false] (by kernel_rfl) rfl rfl ⟨(blk_cell BK101.out 0).trans rfl, (blk_cell BK101.out 1).trans rfl, (blk_cell BK101.out 2).trans rfl, (blk_cell BK104.out 0).trans rfl, (blk_cell BK104.out 1).trans rfl⟩ (fun hHeld => ?_)
  generalize w71.drew = w72 at HO0_1 HO0_2 BK101 BK102 BK103 BK104 HB hHeld ⊢
  refine take_ (i := 0) (N := some 10) (v := ?_) (a' := ?_) #[true, false, false, false, false] rfl rfl (by kernel_rfl) (fun _ _ _ h => h) (Or.inl ⟨by rfl, ?_⟩) hHeld ?_ ?_
  rotate_left
  ·rintro w' ⟨s0, s1, s2, s3, s4⟩
   go_simp
   with_reducible rfl
  rotate_left
  ·simp only [Act.put, List.setIfInBounds_toArray, List.set_cons_zero, List.set_cons_succ, i64_w, i32_w]
   rfl
  refine take_ (i := 1) (N := some 11) (v := ?_) (a' := ?_) #[true, true, false, false, false] rfl rfl (by kernel_rfl) (fun _ _ _ h => h) (Or.inl ⟨by rfl, ?_⟩) hHeld ?_ ?_
  rotate_left
  ·rintro w' ⟨s0, s1, s2, s3, s4⟩
   go_simp
   with_reducible rfl
  rotate_left
  ·simp only [Act.put, List.setIfInBounds_toArray, List.set_cons_zero, List.set_cons_succ, i64_w, i32_w]
   rfl
  refine one_ (i := 2) (N := none) #[true, true, true, false, false] rfl rfl (by kernel_rfl) (by decide) (fun K hK => ?_)
  have hs73 : w72.cell? ⟨gb102, 0, none⟩ = some (.int .u64 0) := (blk_cell BK102.out 0).trans rfl
  have hfs73 := blk_frozen BK102.out 0
  have hns73_0 := NB101_102.out
  have hns73_2 := NB103_102.out
  have hns73_3 := NB104_102.out
  have hms73_0 := NB102_101.out
  have hms73_2 := NB102_103.out
  have hms73_3 := NB102_104.out
  have hs74 : w72.cell? ⟨gb102, 1, none⟩ = some (.slice none 0 0) := (blk_cell BK102.out 1).trans rfl
  have hfs74 := blk_frozen BK102.out 1
  have hns74_0 := NB101_102.out
  have hns74_2 := NB103_102.out
  have hns74_3 := NB104_102.out
  have hms74_0 := NB102_101.out
  have hms74_2 := NB102_103.out
  have hms74_3 := NB102_104.out
  have hs75 : w72.cell? ⟨gb102, 2, none⟩ = some (.slice none 0 0) := (blk_cell BK102.out 2).trans rfl
  have hfs75 := blk_frozen BK102.out 2
  have hns75_0 := NB101_102.out
  have hns75_2 := NB103_102.out
  have hns75_3 := NB104_102.out
  have hms75_0 := NB102_101.out
  have hms75_2 := NB102_103.out
  have hms75_3 := NB102_104.out
  refine skip_ (w1 := ?_) (by rfl) rfl ?_ ?_
  rotate_left
  ·go_simp
   rfl
  refine hK.out _ _ ⟨((cell_far (p := ⟨gb102, _, none⟩) NB101_102.out _).trans (((cell_far (p := ⟨gb102, _, none⟩) NB101_102.out _).trans (((cell_far (p := ⟨gb102, _, none⟩) NB101_102.out _).trans (hHeld.1)))))), ((cell_far (p := ⟨gb102, _, none⟩) NB101_102.out _).trans (((cell_far (p := ⟨gb102, _, none⟩) NB101_102.out _).trans (((cell_far (p := ⟨gb102, _, none⟩) NB101_102.out _).trans (hHeld.2.1)))))), ((cell_far (p := ⟨gb102, _, none⟩) NB101_102.out _).trans (((cell_far (p := ⟨gb102, _, none⟩) NB101_102.out _).trans (((cell_far (p := ⟨gb102, _, none⟩) NB101_102.out _).trans (hHeld.2.2.1)))))), ((cell_far (p := ⟨gb102, _, none⟩) NB104_102.out _).trans (((cell_far (p := ⟨gb102, _, none⟩) NB104_102.out _).trans (((cell_far (p := ⟨gb102, _, none⟩) NB104_102.out _).trans (hHeld.2.2.2.1)))))), ((cell_far (p := ⟨gb102, _, none⟩) NB104_102.out _).trans (((cell_far (p := ⟨gb102, _, none⟩) NB104_102.out _).trans (((cell_far (p := ⟨gb102, _, none⟩) NB104_102.out _).trans (hHeld.2.2.2.2))))))⟩ (fun hHeld => ?_)
  clear hK K
  refine one_ (i := 3) (N := none) #[true, true, true, true, false] rfl rfl (by kernel_rfl) (by decide) (fun K hK => ?_)
  have hs76 : w72.cell? ⟨gb103, 0, none⟩ = some (.slice none 0 0) := (blk_cell BK103.out 0).trans rfl
  have hfs76 := blk_frozen BK103.out 0
  have hns76_0 := NB101_103.out
  have hns76_1 := NB102_103.out
  have hns76_3 := NB104_103.out
  have hms76_0 := NB103_101.out
  have hms76_1 := NB103_102.out
  have hms76_3 := NB103_104.out
  have hs77 : w72.cell? ⟨gb103, 1, none⟩ = some (.slice none 0 0) := (blk_cell BK103.out 1).trans rfl
  have hfs77 := blk_frozen BK103.out 1
  have hns77_0 := NB101_103.out
  have hns77_1 := NB102_103.out
  have hns77_3 := NB104_103.out
  have hms77_0 := NB103_101.out
  have hms77_1 := NB103_102.out
  have hms77_3 := NB103_104.out
  refine skip_ (w1 := ?_) (by rfl) rfl ?_ ?_
  rotate_left
  ·go_simp
   rfl
  refine hK.out _ _ ⟨((cell_far (p := ⟨gb103, _, none⟩) NB101_103.out _).trans (((cell_far (p := ⟨gb103, _, none⟩) NB101_103.out _).trans (hHeld.1)))), ((cell_far (p := ⟨gb103, _, none⟩) NB101_103.out _).trans (((cell_far (p := ⟨gb103, _, none⟩) NB101_103.out _).trans (hHeld.2.1)))), ((cell_far (p := ⟨gb103, _, none⟩) NB101_103.out _).trans (((cell_far (p := ⟨gb103, _, none⟩) NB101_103.out _).trans (hHeld.2.2.1)))), ((cell_far (p := ⟨gb103, _, none⟩) NB104_103.out _).trans (((cell_far (p := ⟨gb103, _, none⟩) NB104_103.out _).trans (hHeld.2.2.2.1)))), ((cell_far (p := ⟨gb103, _, none⟩) NB104_103.out _).trans (((cell_far (p := ⟨gb103, _, none⟩) NB104_103.out _).trans (hHeld.2.2.2.2))))⟩ (fun hHeld => ?_)
  clear hK K
  refine pure_ (i := 4) (N := some 4) (v := ?_) (a' := ?_) #[true, true, true, true, true] rfl rfl (by kernel_rfl) (fun _ _ _ h => h) (Or.inl ⟨by rfl, ?_⟩) ?_ ?_
  rotate_left
  ·intro w'
   go_simp
   with_reducible rfl
  rotate_left
  ·simp only [Act.put, List.setIfInBounds_toArray, List.set_cons_zero, List.set_cons_succ, i64_w, i32_w]
   rfl
  refine done_ (by kernel_rfl) ?_
  try go_wp2
  refine bodyPost_ret (results_list (rs := [.cell 2 26, .cell 3 30, .tmp 4]) rfl (by simp) (.cell gb102 26 #[.int .u64 a0_0, .slice A0_1 l0_1.length c0_1, .slice A0_2 l0_2.length c0_2] (0, 0) _ rfl (by refine bku ?_; refine blk_far ?_ NB102_103.out _; refine bku ?_; refine blk_far ?_ NB102_103.out _; refine bku ?_; refine blk_put (cs := #[.int .u64 a0_0, .slice A0_1 l0_1.length c0_1, .slice none 0 0]) ?_ 2 _ rfl; refine bku ?_; refine blk_put (cs := #[.int .u64 a0_0, .slice none 0 0, .slice none 0 0]) ?_ 1 _ rfl; refine bku ?_; refine blk_put (cs := #[.int .u64 0, .slice none 0 0, .slice none 0 0]) ?_ 0 _ rfl; refine bku ?_; exact BK102.out) Try.underlying26 rfl (by kernel_rfl) (.cell gb103 30 #[.slice none 0 0, .slice none 0 0] (0, 0) _ rfl (by refine bku ?_; refine blk_put (cs := #[.slice none 0 0, .slice none 0 0]) ?_ 1 _ rfl; refine bku ?_; refine blk_put (cs := #[.slice none 0 0, .slice none 0 0]) ?_ 0 _ rfl; refine bku ?_; refine blk_far ?_ NB103_102.out _; refine bku ?_; refine blk_far ?_ NB103_102.out _; refine bku ?_; refine blk_far ?_ NB103_102.out _; refine bku ?_; exact BK103.out) Try.underlying30 rfl (by kernel_rfl) (.tmp .nil)))) rfl ?_
  exact ⟨_, _, _, _, by first | rfl | (simp [errW_none, errW_some] <;> rfl) | (simp [*, errW_none, errW_some] <;> rfl), by (with_reducible repeat (first | apply Kd.V_alloc | apply Kd.V_drewN | apply Kd.V_drew)); exact Kd.V_mono (Kd.V_far (p := ⟨gb103, 1, none⟩) (Kd.V_far (p := ⟨gb103, 0, none⟩) (Kd.V_far (p := ⟨gb102, 2, none⟩) (Kd.V_far (p := ⟨gb102, 1, none⟩) (Kd.V_far (p := ⟨gb102, 0, none⟩) (Kd.V_mono (Kd.V_mono HO0_1.out (fun k_ hk => (⟨hk, hk.1.1.2⟩ : _ ∧ k_ ≠ gb102))) (fun k_ hk => (⟨hk, hk.1.1.2⟩ : _ ∧ k_ ≠ gb103))) (fun _ hk => hk.1.2) (.int .u64 a0_0)) (fun _ hk => hk.1.2) (.slice A0_1 l0_1.length c0_1)) (fun _ hk => hk.1.2) (.slice A0_2 l0_2.length c0_2)) (fun _ hk => hk.2) (.slice none 0 0)) (fun _ hk => hk.2) (.slice none 0 0)) (fun _ hk => ⟨hk.1.1.1.1.1.1, ⟨(by simp [Value.ownBlock]), (by simp [Value.ownBlock])⟩⟩), by (with_reducible repeat (first | apply Kd.V_alloc | apply Kd.V_drewN | apply Kd.V_drew)); exact Kd.V_mono (Kd.V_far (p := ⟨gb103, 1, none⟩) (Kd.V_far (p := ⟨gb103, 0, none⟩) (Kd.V_far (p := ⟨gb102, 2, none⟩) (Kd.V_far (p := ⟨gb102, 1, none⟩) (Kd.V_far (p := ⟨gb102, 0, none⟩) (Kd.V_mono (Kd.V_mono HO0_2.out (fun k_ hk => (⟨hk, hk.1.1.2⟩ : _ ∧ k_ ≠ gb102))) (fun k_ hk => (⟨hk, hk.1.1.2⟩ : _ ∧ k_ ≠ gb103))) (fun _ hk => hk.1.2) (.int .u64 a0_0)) (fun _ hk => hk.1.2) (.slice A0_1 l0_1.length c0_1)) (fun _ hk => hk.1.2) (.slice A0_2 l0_2.length c0_2)) (fun _ hk => hk.2) (.slice none 0 0)) (fun _ hk => hk.2) (.slice none 0 0)) (fun _ hk => ⟨hk.1.1.1.1.1.1, ⟨(by simp [Value.ownBlock]), (by simp [Value.ownBlock])⟩⟩), by first | exact Kd.R_nil _ _ _ _ _ | exact Kd.N_nil _ _ _ _ _ | exact Kd.V_nil _ _ _ _ _ | exact Kd.Q_nil _ _ _ _ _ | exact Kd.S_nil _ _ _ _ _, by first | exact Kd.R_nil _ _ _ _ _ | exact Kd.N_nil _ _ _ _ _ | exact Kd.V_nil _ _ _ _ _ | exact Kd.Q_nil _ _ _ _ _ | exact Kd.S_nil _ _ _ _ _, by repeat (first | (with_reducible first | exact HB.out | apply below_alloc | apply pw_below_drewN | apply below_drew1 | refine below_set ?_ GE101.out | refine below_set ?_ GE102.out | refine below_set ?_ GE103.out | refine below_set ?_ GE104.out) | exact HB.out)⟩

end Go.Proofs.Ytjnfllaonkeefaa.PP
