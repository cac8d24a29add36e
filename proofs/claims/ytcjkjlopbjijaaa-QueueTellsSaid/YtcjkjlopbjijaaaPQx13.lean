-- Written by wip/hprint/hprint.py (a program of this session, over the print): not typed by hand
import Derived.Test.YtcjkjlopbjijaaaPQx0
import Derived.Test.YtcjkjlopbjijaaaPQx12
namespace Go.Proofs.Ytcjkjlopbjijaaa.PQ
open Go.RowKit Go.Proofs.YtcjkjlopbjijaaaW.PrintWords Go.Proofs.YtcjkjlopbjijaaaW.PrintLast Go.Proofs.YtcjkjlopbjijaaaW.PrintMore
attribute [local go_sem] max2_int min2_int max_two min_two max_three min_three max_four min_four   -- for this text's walks alone
open Go.Proofs.YtcjkjlopbjijaaaH
set_option linter.unusedVariables false
set_option linter.unusedSimpArgs false

/-! ### treillageref16_Want: function 48 -/
def treillageref16_Want.f (k : Nat) (a0_0 : Int) (a0_1 : Int) (a1_0 : Int) (a1_1 : Int) (a1_2 : Int) : Option (Int × Int × Int × Int × Bool) := if a1_0 = 0 then ((treillageref15_Tail.f a0_0 a0_1).bind fun t383 => (some (1, t383, 0, 0, true))) else (if a1_0 = 1 then ((treillageref15_Seq.f k a0_0 a0_1 a1_1).bind fun t384 => (some (1, t384, 0, 0, true))) else (if a1_0 = 2 then ((treillageref15_Tail.f a0_0 a0_1).bind fun t385 => (some (3, t385, a1_1, IntKind.u64.wrap (a1_1 + 1), true))) else (if a1_0 = 3 then ((treillageref15_Item.f k a0_0 a0_1 a1_1).bind fun t386 => (some (2, t386, 0, a1_2, true))) else (if a1_0 = 4 then ((treillageref15_Seq.f k a0_0 a0_1 a1_1).bind fun t387 => (some (2, t387, 0, IntKind.u64.wrap (a1_1 + 1), true))) else (some (0, 0, 0, 0, false))))))
theorem treillageref16_Want.mono : ∀ a0 a1 a2 a3 a4 k, LeO (treillageref16_Want.f k a0 a1 a2 a3 a4) (treillageref16_Want.f (k + 1) a0 a1 a2 a3 a4) := by
 intro a0 a1 a2 a3 a4 k
 unfold treillageref16_Want.f
 repeat' first
   | (with_reducible exact treillageref15_Item.mono _ _ _ _)
   | (with_reducible exact treillageref15_Seq.mono _ _ _ _)
   | (with_reducible exact LeO.refl _)
   | (with_reducible exact LeO.none _)
   | (with_reducible refine LeO.ite ?_ ?_)
   | (with_reducible refine LeO.bind ?_ (fun _ => ?_))
   | exact treillageref15_Item.mono _ _ _ _
   | exact treillageref15_Seq.mono _ _ _ _
   | exact LeO.none _
   | refine LeO.ite ?_ ?_
   | refine LeO.bind ?_ (fun _ => ?_)
def treillageref16_Want.T7 : Bool × List (List Nat × List Nat) := (true, [([], []), ([0], [0]), ([], []), ([2], [2]), ([], []), ([4], [4]), ([5], [5]), ([1, 3, 6], [1, 3, 6]), ([7, 1, 0, 1, 2, 3, 4, 5, 6, 7], [7]), ([8, 0, 1, 2, 3, 4, 5, 6, 7, 8], [])])
def treillageref16_Want.B7 : List Nat := [0, 1, 0, 4, 0, 16, 48, 127, 255, 511]
theorem treillageref16_Want.tab7 : rtab .any (opsOf Try.f48 7) = treillageref16_Want.T7 := by kernel_rfl
theorem treillageref16_Want.bits7 : waitsOk treillageref16_Want.T7.2 treillageref16_Want.B7 = true := by kernel_rfl
def treillageref16_Want.T9 : Bool × List (List Nat × List Nat) := (true, [([], []), ([], []), ([1], [1]), ([0, 2], [0, 2]), ([], []), ([4], [4]), ([3, 5], [3, 5]), ([6, 3, 0, 1, 2, 3, 4, 5, 6], [6]), ([7, 0, 1, 2, 3, 4, 5, 6, 7], [])])
def treillageref16_Want.B9 : List Nat := [0, 0, 2, 7, 0, 16, 63, 127, 255]
theorem treillageref16_Want.tab9 : rtab .any (opsOf Try.f48 9) = treillageref16_Want.T9 := by kernel_rfl
theorem treillageref16_Want.bits9 : waitsOk treillageref16_Want.T9.2 treillageref16_Want.B9 = true := by kernel_rfl
def treillageref16_Want.T11 : Bool × List (List Nat × List Nat) := (true, [([], []), ([], []), ([1], [1]), ([0, 2], [0, 2]), ([], []), ([4], [4]), ([5], [5]), ([3, 6], [3, 6]), ([7, 3, 0, 1, 2, 3, 4, 5, 6, 7], [7]), ([8, 0, 1, 2, 3, 4, 5, 6, 7, 8], [])])
def treillageref16_Want.B11 : List Nat := [0, 0, 2, 7, 0, 16, 48, 127, 255, 511]
theorem treillageref16_Want.tab11 : rtab .any (opsOf Try.f48 11) = treillageref16_Want.T11 := by kernel_rfl
theorem treillageref16_Want.bits11 : waitsOk treillageref16_Want.T11.2 treillageref16_Want.B11 = true := by kernel_rfl
set_option maxHeartbeats 8000000 in
set_option maxRecDepth 100000 in
theorem treillageref16_Want.calls (k : Nat) (a0_0 : Int) (a0_1 : Int) (a1_0 : Int) (a1_1 : Int) (a1_2 : Int) (r1 : Int) (r2 : Int) (r3 : Int) (r4 : Int) (r5 : Bool) (w : World) (h : treillageref16_Want.f k a0_0 a0_1 a1_0 a1_1 a1_2 = some (r1, r2, r3, r4, r5)) :
  Calls Try.prog 48 #[.agg #[.int .i64 a0_0, .int .i64 a0_1], .agg #[.int .i64 a1_0, .int .u64 a1_1, .int .u64 a1_2]] w fun e w' => e = .returned (.tuple #[.agg #[.int .i64 r1, .int .i64 r2, .int .u64 r3, .int .u64 r4], .bool r5]) ∧ Below w.heap.size w w' := by
 have hu39 := Try.underlying39
 have hu61 := Try.underlying61
 have hu30 := Try.underlying30
 have HB := aA (Below.refl w.heap.size w)
 have H : (if a1_0 = 0 then ((treillageref15_Tail.f a0_0 a0_1).bind fun t383 => (some (1, t383, 0, 0, true))) else (if a1_0 = 1 then ((treillageref15_Seq.f k a0_0 a0_1 a1_1).bind fun t384 => (some (1, t384, 0, 0, true))) else (if a1_0 = 2 then ((treillageref15_Tail.f a0_0 a0_1).bind fun t385 => (some (3, t385, a1_1, IntKind.u64.wrap (a1_1 + 1), true))) else (if a1_0 = 3 then ((treillageref15_Item.f k a0_0 a0_1 a1_1).bind fun t386 => (some (2, t386, 0, a1_2, true))) else (if a1_0 = 4 then ((treillageref15_Seq.f k a0_0 a0_1 a1_1).bind fun t387 => (some (2, t387, 0, IntKind.u64.wrap (a1_1 + 1), true))) else (some (0, 0, 0, 0, false))))))) = some (r1, r2, r3, r4, r5) := h
 clear h
 by_cases c3 : a1_0 = 0
 ·rw [if_pos c3] at H
  have c3b0 : (a1_0 == 0) = true := beq_iff_eq.mpr c3
  have c3b1 : (a1_0 != 0) = false := bne_eq_false_iff_eq.mpr c3
  clear c3
  replace H := Option.bind_eq_some_iff.mp H
  obtain ⟨t383, A40, H⟩ := H
  replace H : (some (1, t383, 0, 0, true)) = some (r1, r2, r3, r4, r5) := H
  have A4 := aA A40
  clear A40
  simp only [Option.some.injEq, Prod.mk.injEq] at H
  obtain ⟨rfl, rfl, rfl, rfl, rfl⟩ := H
  go_enter Try.func48, Try.ntmps48
  go_wp2_with (first | ((with_reducible refine gate_dst (N := 2) rfl ?_); refine box_event ?hg (N := 2) ?hd (cs := #[.int .i64 a0_0, .int .i64 a0_1]) (t := 39) ?hr ?_; (case hd => rfl); (case hg => rfl); (case hr => first | (go_simp; done) | (go_simp; rfl)); intro gb380 hg w5 hbox hb; have n0_ := aA (below_step (blw HB.out) hb); have n1_ := aA (hbox); have n2_ := aA ((by rw [hg]; exact (below_size (blw HB.out)) : w.heap.size ≤ gb380)); have n3_ := aA ((by rw [hg]; exact (below_size (blw HB.out)) : w.heap.size ≤ gb380)); clear HB; have HB := n0_; have BK380 := n1_; have GW380 := n2_; have GE380 := n3_; clear n0_ n1_ n2_ n3_ hb hbox hg) | ((with_reducible refine gate_dst (N := 3) rfl ?_); refine box_event ?hg (N := 3) ?hd (cs := #[.int .i64 a1_0, .int .u64 a1_1, .int .u64 a1_2]) (t := 61) ?hr ?_; (case hd => rfl); (case hg => rfl); (case hr => first | (go_simp; done) | (go_simp; rfl)); intro gb381 hg w6 hbox hb; have n0_ := aA (blk_below (g := gb380) (o := .cells #[.int .i64 a0_0, .int .i64 a0_1] 39 (0, 0)) (bku BK380.out) hb); have n1_ := aA (below_step (bls HB.out) hb); have n2_ := aA (hbox); have n3_ := aA ((by rw [hg]; exact (below_size (bls HB.out)) : w.heap.size ≤ gb381)); have n4_ := aA ((by rw [hg]; exact (below_size (bls HB.out)) : w.heap.size ≤ gb381)); have n5_ := aA ((by rw [hg]; exact Nat.ne_of_lt (blk_lt (g := gb380) (o := .cells #[.int .i64 a0_0, .int .i64 a0_1] 39 (0, 0)) (bku BK380.out)) : gb380 ≠ gb381)); have n6_ := aA ((by rw [hg]; exact Nat.ne_of_gt (blk_lt (g := gb380) (o := .cells #[.int .i64 a0_0, .int .i64 a0_1] 39 (0, 0)) (bku BK380.out)) : gb381 ≠ gb380)); clear BK380 HB; have BK380 := n0_; have HB := n1_; have BK381 := n2_; have GW381 := n3_; have GE381 := n4_; have NB380_381 := n5_; have NB381_380 := n6_; clear n0_ n1_ n2_ n3_ n4_ n5_ n6_ hb hbox hg) | ((with_reducible refine gate_dst (N := 4) rfl ?_); refine box_event ?hg (N := 4) ?hd (cs := #[.int .i64 0, .int .i64 0, .int .u64 0, .int .u64 0]) (t := 30) ?hr ?_; (case hd => rfl); (case hg => rfl); (case hr => first | (go_simp; done) | (go_simp; rfl)); intro gb382 hg w7 hbox hb; have n0_ := aA (blk_below (g := gb380) (o := .cells #[.int .i64 a0_0, .int .i64 a0_1] 39 (0, 0)) (bku BK380.out) hb); have n1_ := aA (blk_below (g := gb381) (o := .cells #[.int .i64 a1_0, .int .u64 a1_1, .int .u64 a1_2] 61 (0, 0)) (bku BK381.out) hb); have n2_ := aA (below_step (bls HB.out) hb); have n3_ := aA (hbox); have n4_ := aA ((by rw [hg]; exact (below_size (bls HB.out)) : w.heap.size ≤ gb382)); have n5_ := aA ((by rw [hg]; exact (below_size (bls HB.out)) : w.heap.size ≤ gb382)); have n6_ := aA ((by rw [hg]; exact Nat.ne_of_lt (blk_lt (g := gb380) (o := .cells #[.int .i64 a0_0, .int .i64 a0_1] 39 (0, 0)) (bku BK380.out)) : gb380 ≠ gb382)); have n7_ := aA ((by rw [hg]; exact Nat.ne_of_gt (blk_lt (g := gb380) (o := .cells #[.int .i64 a0_0, .int .i64 a0_1] 39 (0, 0)) (bku BK380.out)) : gb382 ≠ gb380)); have n8_ := aA ((by rw [hg]; exact Nat.ne_of_lt (blk_lt (g := gb381) (o := .cells #[.int .i64 a1_0, .int .u64 a1_1, .int .u64 a1_2] 61 (0, 0)) (bku BK381.out)) : gb381 ≠ gb382)); have n9_ := aA ((by rw [hg]; exact Nat.ne_of_gt (blk_lt (g := gb381) (o := .cells #[.int .i64 a1_0, .int .u64 a1_1, .int .u64 a1_2] 61 (0, 0)) (bku BK381.out)) : gb382 ≠ gb381)); clear BK380 BK381 HB; have BK380 := n0_; have BK381 := n1_; have HB := n2_; have BK382 := n3_; have GW382 := n4_; have GE382 := n5_; have NB380_382 := n6_; have NB382_380 := n7_; have NB381_382 := n8_; have NB382_381 := n9_; clear n0_ n1_ n2_ n3_ n4_ n5_ n6_ n7_ n8_ n9_ hb hbox hg; have hnb8 := NB381_380.out; have hnc8 := NB380_381.out; have hnb9 := NB381_382.out; have hnc9 := NB382_381.out; have hcz10_0 : w7.cell? ⟨gb381, 0, none⟩ = some (.int .i64 a1_0) := (blk_cell BK381.out 0).trans rfl; have hcz10_1 : w7.cell? ⟨gb381, 1, none⟩ = some (.int .u64 a1_1) := (blk_cell BK381.out 1).trans rfl; have hcz10_2 : w7.cell? ⟨gb381, 2, none⟩ = some (.int .u64 a1_2) := (blk_cell BK381.out 2).trans rfl; have hfz10_0 := blk_frozen BK381.out 0; have hfz10_1 := blk_frozen BK381.out 1; have hfz10_2 := blk_frozen BK381.out 2; have hnb11 := NB380_382.out; have hnc11 := NB382_380.out; have hcz12_0 : w7.cell? ⟨gb380, 0, none⟩ = some (.int .i64 a0_0) := (blk_cell BK380.out 0).trans rfl; have hcz12_1 : w7.cell? ⟨gb380, 1, none⟩ = some (.int .i64 a0_1) := (blk_cell BK380.out 1).trans rfl; have hfz12_0 := blk_frozen BK380.out 0; have hfz12_1 := blk_frozen BK380.out 1) | ((with_reducible refine gate_callee (f := 35) rfl ?_); refine goesL_ (some 11) rfl rfl Try.func35 (by kernel_rfl) rfl #[.agg #[.int .i64 a0_0, .int .i64 a0_1]] rfl (by (try simp only [List.map_toArray, List.map_cons, List.map_nil]); first | done | rfl | (simp only [List.length_drop, List.length_take]; rfl)) ?_; (with_reducible refine (treillageref15_Tail.calls a0_0 a0_1 t383 _ A4.out).mono ?_); rintro e w13 ⟨rfl, hb⟩; refine ⟨_, rfl, ?_⟩; have n0_ := aA (blk_below (g := gb380) (o := .cells #[.int .i64 a0_0, .int .i64 a0_1] 39 (0, 0)) (bku BK380.out) hb); have n1_ := aA (blk_below (g := gb381) (o := .cells #[.int .i64 a1_0, .int .u64 a1_1, .int .u64 a1_2] 61 (0, 0)) (bku BK381.out) hb); have n2_ := aA (blk_below (g := gb382) (o := .cells #[.int .i64 0, .int .i64 0, .int .u64 0, .int .u64 0] 30 (0, 0)) (bku BK382.out) hb); have n3_ := aA (below_step (bls HB.out) hb); clear BK380 BK381 BK382 HB; have BK380 := n0_; have BK381 := n1_; have BK382 := n2_; have HB := n3_; clear n0_ n1_ n2_ n3_; (try clear hb); (try clear hb2); (try clear hk); (try clear hi); have hcz14_0 : w13.cell? ⟨gb382, 0, none⟩ = some (.int .i64 0) := (blk_cell BK382.out 0).trans rfl; have hcz14_1 : w13.cell? ⟨gb382, 1, none⟩ = some (.int .i64 0) := (blk_cell BK382.out 1).trans rfl; have hcz14_2 : w13.cell? ⟨gb382, 2, none⟩ = some (.int .u64 0) := (blk_cell BK382.out 2).trans rfl; have hcz14_3 : w13.cell? ⟨gb382, 3, none⟩ = some (.int .u64 0) := (blk_cell BK382.out 3).trans rfl; have hfz14_0 := blk_frozen BK382.out 0; have hfz14_1 := blk_frozen BK382.out 1; have hfz14_2 := blk_frozen BK382.out 2; have hfz14_3 := blk_frozen BK382.out 3))
  refine bodyPost_ret (results_ct rfl _ _ gb382 30 #[.int .i64 1, .int .i64 t383, .int .u64 0, .int .u64 0] (0, 0) _ rfl (by (with_reducible repeat (first | refine blk_drewN ?_ _ | refine blk_drew ?_ | refine blk_alloc ?_ _)); refine blk_put (cs := #[.int .i64 1, .int .i64 t383, .int .u64 0, .int .u64 0]) ?_ 3 _ rfl; (with_reducible repeat (first | refine blk_drewN ?_ _ | refine blk_drew ?_ | refine blk_alloc ?_ _)); refine blk_put (cs := #[.int .i64 1, .int .i64 t383, .int .u64 0, .int .u64 0]) ?_ 2 _ rfl; (with_reducible repeat (first | refine blk_drewN ?_ _ | refine blk_drew ?_ | refine blk_alloc ?_ _)); refine blk_put (cs := #[.int .i64 1, .int .i64 0, .int .u64 0, .int .u64 0]) ?_ 1 _ rfl; (with_reducible repeat (first | refine blk_drewN ?_ _ | refine blk_drew ?_ | refine blk_alloc ?_ _)); refine blk_put (cs := #[.int .i64 0, .int .i64 0, .int .u64 0, .int .u64 0]) ?_ 0 _ rfl; (with_reducible repeat (first | refine blk_drewN ?_ _ | refine blk_drew ?_ | refine blk_alloc ?_ _)); exact BK382.out) Try.underlying30 rfl (by kernel_rfl)) rfl ?_
  exact ⟨by first | rfl | (simp [errW_none, errW_some] <;> rfl) | (simp [*, errW_none, errW_some] <;> rfl), by repeat (first | (with_reducible first | exact HB.out | apply below_alloc | apply pw_below_drewN | apply below_drew1 | refine below_set ?_ GE380.out | refine below_set ?_ GE381.out | refine below_set ?_ GE382.out) | exact HB.out)⟩
 ·rw [if_neg c3] at H
  have c3b0 : (a1_0 == 0) = false := beq_eq_false_iff_ne.mpr c3
  have c3b1 : (a1_0 != 0) = true := bne_iff_ne.mpr c3
  by_cases c15 : a1_0 = 1
  ·rw [if_pos c15] at H
   have c15b0 : (a1_0 == 1) = true := beq_iff_eq.mpr c15
   have c15b1 : (a1_0 != 1) = false := bne_eq_false_iff_eq.mpr c15
   clear c15
   replace H := Option.bind_eq_some_iff.mp H
   obtain ⟨t384, A160, H⟩ := H
   replace H : (some (1, t384, 0, 0, true)) = some (r1, r2, r3, r4, r5) := H
   have A16 := aA A160
   clear A160
   simp only [Option.some.injEq, Prod.mk.injEq] at H
   obtain ⟨rfl, rfl, rfl, rfl, rfl⟩ := H
   go_enter Try.func48, Try.ntmps48
   go_wp2_with (first | ((with_reducible refine gate_dst (N := 2) rfl ?_); refine box_event ?hg (N := 2) ?hd (cs := #[.int .i64 a0_0, .int .i64 a0_1]) (t := 39) ?hr ?_; (case hd => rfl); (case hg => rfl); (case hr => first | (go_simp; done) | (go_simp; rfl)); intro gb380 hg w17 hbox hb; have n0_ := aA (below_step (blw HB.out) hb); have n1_ := aA (hbox); have n2_ := aA ((by rw [hg]; exact (below_size (blw HB.out)) : w.heap.size ≤ gb380)); have n3_ := aA ((by rw [hg]; exact (below_size (blw HB.out)) : w.heap.size ≤ gb380)); clear HB; have HB := n0_; have BK380 := n1_; have GW380 := n2_; have GE380 := n3_; clear n0_ n1_ n2_ n3_ hb hbox hg) | ((with_reducible refine gate_dst (N := 3) rfl ?_); refine box_event ?hg (N := 3) ?hd (cs := #[.int .i64 a1_0, .int .u64 a1_1, .int .u64 a1_2]) (t := 61) ?hr ?_; (case hd => rfl); (case hg => rfl); (case hr => first | (go_simp; done) | (go_simp; rfl)); intro gb381 hg w18 hbox hb; have n0_ := aA (blk_below (g := gb380) (o := .cells #[.int .i64 a0_0, .int .i64 a0_1] 39 (0, 0)) (bku BK380.out) hb); have n1_ := aA (below_step (bls HB.out) hb); have n2_ := aA (hbox); have n3_ := aA ((by rw [hg]; exact (below_size (bls HB.out)) : w.heap.size ≤ gb381)); have n4_ := aA ((by rw [hg]; exact (below_size (bls HB.out)) : w.heap.size ≤ gb381)); have n5_ := aA ((by rw [hg]; exact Nat.ne_of_lt (blk_lt (g := gb380) (o := .cells #[.int .i64 a0_0, .int .i64 a0_1] 39 (0, 0)) (bku BK380.out)) : gb380 ≠ gb381)); have n6_ := aA ((by rw [hg]; exact Nat.ne_of_gt (blk_lt (g := gb380) (o := .cells #[.int .i64 a0_0, .int .i64 a0_1] 39 (0, 0)) (bku BK380.out)) : gb381 ≠ gb380)); clear BK380 HB; have BK380 := n0_; have HB := n1_; have BK381 := n2_; have GW381 := n3_; have GE381 := n4_; have NB380_381 := n5_; have NB381_380 := n6_; clear n0_ n1_ n2_ n3_ n4_ n5_ n6_ hb hbox hg) | ((with_reducible refine gate_dst (N := 4) rfl ?_); refine box_event ?hg (N := 4) ?hd (cs := #[.int .i64 0, .int .i64 0, .int .u64 0, .int .u64 0]) (t := 30) ?hr ?_; (case hd => rfl); (case hg => rfl); (case hr => first | (go_simp; done) | (go_simp; rfl)); intro gb382 hg w19 hbox hb; have n0_ := aA (blk_below (g := gb380) (o := .cells #[.int .i64 a0_0, .int .i64 a0_1] 39 (0, 0)) (bku BK380.out) hb); have n1_ := aA (blk_below (g := gb381) (o := .cells #[.int .i64 a1_0, .int .u64 a1_1, .int .u64 a1_2] 61 (0, 0)) (bku BK381.out) hb); have n2_ := aA (below_step (bls HB.out) hb); have n3_ := aA (hbox); have n4_ := aA ((by rw [hg]; exact (below_size (bls HB.out)) : w.heap.size ≤ gb382)); have n5_ := aA ((by rw [hg]; exact (below_size (bls HB.out)) : w.heap.size ≤ gb382)); have n6_ := aA ((by rw [hg]; exact Nat.ne_of_lt (blk_lt (g := gb380) (o := .cells #[.int .i64 a0_0, .int .i64 a0_1] 39 (0, 0)) (bku BK380.out)) : gb380 ≠ gb382)); have n7_ := aA ((by rw [hg]; exact Nat.ne_of_gt (blk_lt (g := gb380) (o := .cells #[.int .i64 a0_0, .int .i64 a0_1] 39 (0, 0)) (bku BK380.out)) : gb382 ≠ gb380)); have n8_ := aA ((by rw [hg]; exact Nat.ne_of_lt (blk_lt (g := gb381) (o := .cells #[.int .i64 a1_0, .int .u64 a1_1, .int .u64 a1_2] 61 (0, 0)) (bku BK381.out)) : gb381 ≠ gb382)); have n9_ := aA ((by rw [hg]; exact Nat.ne_of_gt (blk_lt (g := gb381) (o := .cells #[.int .i64 a1_0, .int .u64 a1_1, .int .u64 a1_2] 61 (0, 0)) (bku BK381.out)) : gb382 ≠ gb381)); clear BK380 BK381 HB; have BK380 := n0_; have BK381 := n1_; have HB := n2_; have BK382 := n3_; have GW382 := n4_; have GE382 := n5_; have NB380_382 := n6_; have NB382_380 := n7_; have NB381_382 := n8_; have NB382_381 := n9_; clear n0_ n1_ n2_ n3_ n4_ n5_ n6_ n7_ n8_ n9_ hb hbox hg; have hnb20 := NB381_380.out; have hnc20 := NB380_381.out; have hnb21 := NB381_382.out; have hnc21 := NB382_381.out; have hcz22_0 : w19.cell? ⟨gb381, 0, none⟩ = some (.int .i64 a1_0) := (blk_cell BK381.out 0).trans rfl; have hcz22_1 : w19.cell? ⟨gb381, 1, none⟩ = some (.int .u64 a1_1) := (blk_cell BK381.out 1).trans rfl; have hcz22_2 : w19.cell? ⟨gb381, 2, none⟩ = some (.int .u64 a1_2) := (blk_cell BK381.out 2).trans rfl; have hfz22_0 := blk_frozen BK381.out 0; have hfz22_1 := blk_frozen BK381.out 1; have hfz22_2 := blk_frozen BK381.out 2; have hnb23 := NB380_382.out; have hnc23 := NB382_380.out; have hcz24_0 : w19.cell? ⟨gb380, 0, none⟩ = some (.int .i64 a0_0) := (blk_cell BK380.out 0).trans rfl; have hcz24_1 : w19.cell? ⟨gb380, 1, none⟩ = some (.int .i64 a0_1) := (blk_cell BK380.out 1).trans rfl; have hfz24_0 := blk_frozen BK380.out 0; have hfz24_1 := blk_frozen BK380.out 1) | ((with_reducible refine gate_callee (f := 43) rfl ?_); refine goesL_ (some 18) rfl rfl Try.func43 (by kernel_rfl) rfl #[.agg #[.int .i64 a0_0, .int .i64 a0_1], .int .u64 a1_1] rfl (by (try simp only [List.map_toArray, List.map_cons, List.map_nil]); first | done | rfl | (simp only [List.length_drop, List.length_take]; rfl)) ?_; (with_reducible refine (treillageref15_Seq.calls k a0_0 a0_1 a1_1 t384 _ A16.out).mono ?_); rintro e w25 ⟨rfl, hb⟩; refine ⟨_, rfl, ?_⟩; have n0_ := aA (blk_below (g := gb380) (o := .cells #[.int .i64 a0_0, .int .i64 a0_1] 39 (0, 0)) (bku BK380.out) hb); have n1_ := aA (blk_below (g := gb381) (o := .cells #[.int .i64 a1_0, .int .u64 a1_1, .int .u64 a1_2] 61 (0, 0)) (bku BK381.out) hb); have n2_ := aA (blk_below (g := gb382) (o := .cells #[.int .i64 0, .int .i64 0, .int .u64 0, .int .u64 0] 30 (0, 0)) (bku BK382.out) hb); have n3_ := aA (below_step (bls HB.out) hb); clear BK380 BK381 BK382 HB; have BK380 := n0_; have BK381 := n1_; have BK382 := n2_; have HB := n3_; clear n0_ n1_ n2_ n3_; (try clear hb); (try clear hb2); (try clear hk); (try clear hi); have hcz26_0 : w25.cell? ⟨gb382, 0, none⟩ = some (.int .i64 0) := (blk_cell BK382.out 0).trans rfl; have hcz26_1 : w25.cell? ⟨gb382, 1, none⟩ = some (.int .i64 0) := (blk_cell BK382.out 1).trans rfl; have hcz26_2 : w25.cell? ⟨gb382, 2, none⟩ = some (.int .u64 0) := (blk_cell BK382.out 2).trans rfl; have hcz26_3 : w25.cell? ⟨gb382, 3, none⟩ = some (.int .u64 0) := (blk_cell BK382.out 3).trans rfl; have hfz26_0 := blk_frozen BK382.out 0; have hfz26_1 := blk_frozen BK382.out 1; have hfz26_2 := blk_frozen BK382.out 2; have hfz26_3 := blk_frozen BK382.out 3))
   refine bodyPost_ret (results_ct rfl _ _ gb382 30 #[.int .i64 1, .int .i64 t384, .int .u64 0, .int .u64 0] (0, 0) _ rfl (by (with_reducible repeat (first | refine blk_drewN ?_ _ | refine blk_drew ?_ | refine blk_alloc ?_ _)); refine blk_put (cs := #[.int .i64 1, .int .i64 t384, .int .u64 0, .int .u64 0]) ?_ 3 _ rfl; (with_reducible repeat (first | refine blk_drewN ?_ _ | refine blk_drew ?_ | refine blk_alloc ?_ _)); refine blk_put (cs := #[.int .i64 1, .int .i64 t384, .int .u64 0, .int .u64 0]) ?_ 2 _ rfl; (with_reducible repeat (first | refine blk_drewN ?_ _ | refine blk_drew ?_ | refine blk_alloc ?_ _)); refine blk_put (cs := #[.int .i64 1, .int .i64 0, .int .u64 0, .int .u64 0]) ?_ 1 _ rfl; (with_reducible repeat (first | refine blk_drewN ?_ _ | refine blk_drew ?_ | refine blk_alloc ?_ _)); refine blk_put (cs := #[.int .i64 0, .int .i64 0, .int .u64 0, .int .u64 0]) ?_ 0 _ rfl; (with_reducible repeat (first | refine blk_drewN ?_ _ | refine blk_drew ?_ | refine blk_alloc ?_ _)); exact BK382.out) Try.underlying30 rfl (by kernel_rfl)) rfl ?_
   exact ⟨by first | rfl | (simp [errW_none, errW_some] <;> rfl) | (simp [*, errW_none, errW_some] <;> rfl), by repeat (first | (with_reducible first | exact HB.out | apply below_alloc | apply pw_below_drewN | apply below_drew1 | refine below_set ?_ GE380.out | refine below_set ?_ GE381.out | refine below_set ?_ GE382.out) | exact HB.out)⟩
  ·rw [if_neg c15] at H
   have c15b0 : (a1_0 == 1) = false := beq_eq_false_iff_ne.mpr c15
   have c15b1 : (a1_0 != 1) = true := bne_iff_ne.mpr c15
   by_cases c27 : a1_0 = 2
   ·rw [if_pos c27] at H
    have c27b0 : (a1_0 == 2) = true := beq_iff_eq.mpr c27
    have c27b1 : (a1_0 != 2) = false := bne_eq_false_iff_eq.mpr c27
    clear c27
    replace H := Option.bind_eq_some_iff.mp H
    obtain ⟨t385, A280, H⟩ := H
    replace H : (some (3, t385, a1_1, IntKind.u64.wrap (a1_1 + 1), true)) = some (r1, r2, r3, r4, r5) := H
    have A28 := aA A280
    clear A280
    simp only [Option.some.injEq, Prod.mk.injEq] at H
    obtain ⟨rfl, rfl, rfl, rfl, rfl⟩ := H
    go_enter Try.func48, Try.ntmps48
    try go_wp2_with (first | ((with_reducible refine gate_dst (N := 2) rfl ?_); refine box_event ?hg (N := 2) ?hd (cs := #[.int .i64 a0_0, .int .i64 a0_1]) (t := 39) ?hr ?_; (case hd => rfl); (case hg => rfl); (case hr => first | (go_simp; done) | (go_simp; rfl)); intro gb380 hg w29 hbox hb; have n0_ := aA (below_step (blw HB.out) hb); have n1_ := aA (hbox); have n2_ := aA ((by rw [hg]; exact (below_size (blw HB.out)) : w.heap.size ≤ gb380)); have n3_ := aA ((by rw [hg]; exact (below_size (blw HB.out)) : w.heap.size ≤ gb380)); clear HB; have HB := n0_; have BK380 := n1_; have GW380 := n2_; have GE380 := n3_; clear n0_ n1_ n2_ n3_ hb hbox hg) | ((with_reducible refine gate_dst (N := 3) rfl ?_); refine box_event ?hg (N := 3) ?hd (cs := #[.int .i64 a1_0, .int .u64 a1_1, .int .u64 a1_2]) (t := 61) ?hr ?_; (case hd => rfl); (case hg => rfl); (case hr => first | (go_simp; done) | (go_simp; rfl)); intro gb381 hg w30 hbox hb; have n0_ := aA (blk_below (g := gb380) (o := .cells #[.int .i64 a0_0, .int .i64 a0_1] 39 (0, 0)) (bku BK380.out) hb); have n1_ := aA (below_step (bls HB.out) hb); have n2_ := aA (hbox); have n3_ := aA ((by rw [hg]; exact (below_size (bls HB.out)) : w.heap.size ≤ gb381)); have n4_ := aA ((by rw [hg]; exact (below_size (bls HB.out)) : w.heap.size ≤ gb381)); have n5_ := aA ((by rw [hg]; exact Nat.ne_of_lt (blk_lt (g := gb380) (o := .cells #[.int .i64 a0_0, .int .i64 a0_1] 39 (0, 0)) (bku BK380.out)) : gb380 ≠ gb381)); have n6_ := aA ((by rw [hg]; exact Nat.ne_of_gt (blk_lt (g := gb380) (o := .cells #[.int .i64 a0_0, .int .i64 a0_1] 39 (0, 0)) (bku BK380.out)) : gb381 ≠ gb380)); clear BK380 HB; have BK380 := n0_; have HB := n1_; have BK381 := n2_; have GW381 := n3_; have GE381 := n4_; have NB380_381 := n5_; have NB381_380 := n6_; clear n0_ n1_ n2_ n3_ n4_ n5_ n6_ hb hbox hg) | ((with_reducible refine gate_dst (N := 4) rfl ?_); refine box_event ?hg (N := 4) ?hd (cs := #[.int .i64 0, .int .i64 0, .int .u64 0, .int .u64 0]) (t := 30) ?hr ?_; (case hd => rfl); (case hg => rfl); (case hr => first | (go_simp; done) | (go_simp; rfl)); intro gb382 hg w31 hbox hb; have n0_ := aA (blk_below (g := gb380) (o := .cells #[.int .i64 a0_0, .int .i64 a0_1] 39 (0, 0)) (bku BK380.out) hb); have n1_ := aA (blk_below (g := gb381) (o := .cells #[.int .i64 a1_0, .int .u64 a1_1, .int .u64 a1_2] 61 (0, 0)) (bku BK381.out) hb); have n2_ := aA (below_step (bls HB.out) hb); have n3_ := aA (hbox); have n4_ := aA ((by rw [hg]; exact (below_size (bls HB.out)) : w.heap.size ≤ gb382)); have n5_ := aA ((by rw [hg]; exact (below_size (bls HB.out)) : w.heap.size ≤ gb382)); have n6_ := aA ((by rw [hg]; exact Nat.ne_of_lt (blk_lt (g := gb380) (o := .cells #[.int .i64 a0_0, .int .i64 a0_1] 39 (0, 0)) (bku BK380.out)) : gb380 ≠ gb382)); have n7_ := aA ((by rw [hg]; exact Nat.ne_of_gt (blk_lt (g := gb380) (o := .cells #[.int .i64 a0_0, .int .i64 a0_1] 39 (0, 0)) (bku BK380.out)) : gb382 ≠ gb380)); have n8_ := aA ((by rw [hg]; exact Nat.ne_of_lt (blk_lt (g := gb381) (o := .cells #[.int .i64 a1_0, .int .u64 a1_1, .int .u64 a1_2] 61 (0, 0)) (bku BK381.out)) : gb381 ≠ gb382)); have n9_ := aA ((by rw [hg]; exact Nat.ne_of_gt (blk_lt (g := gb381) (o := .cells #[.int .i64 a1_0, .int .u64 a1_1, .int .u64 a1_2] 61 (0, 0)) (bku BK381.out)) : gb382 ≠ gb381)); clear BK380 BK381 HB; have BK380 := n0_; have BK381 := n1_; have HB := n2_; have BK382 := n3_; have GW382 := n4_; have GE382 := n5_; have NB380_382 := n6_; have NB382_380 := n7_; have NB381_382 := n8_; have NB382_381 := n9_; clear n0_ n1_ n2_ n3_ n4_ n5_ n6_ n7_ n8_ n9_ hb hbox hg; have hnb32 := NB381_380.out; have hnc32 := NB380_381.out; have hnb33 := NB381_382.out; have hnc33 := NB382_381.out; have hcz34_0 : w31.cell? ⟨gb381, 0, none⟩ = some (.int .i64 a1_0) := (blk_cell BK381.out 0).trans rfl; have hcz34_1 : w31.cell? ⟨gb381, 1, none⟩ = some (.int .u64 a1_1) := (blk_cell BK381.out 1).trans rfl; have hcz34_2 : w31.cell? ⟨gb381, 2, none⟩ = some (.int .u64 a1_2) := (blk_cell BK381.out 2).trans rfl; have hfz34_0 := blk_frozen BK381.out 0; have hfz34_1 := blk_frozen BK381.out 1; have hfz34_2 := blk_frozen BK381.out 2))
    have n0_ := aA (blk_drew BK380.out)
    have n1_ := aA (blk_drew BK381.out)
    have n2_ := aA (blk_drew BK382.out)
    have n3_ := aA (below_drew1 HB.out)
    clear BK380
    clear BK381
    clear BK382
    clear HB
    have BK380 := n0_
    have BK381 := n1_
    have BK382 := n2_
    have HB := n3_
    clear n0_ n1_ n2_ n3_
    refine start_ (n := 10) (S := fun w' => w'.cell? ⟨gb380, 0, none⟩ = some (.int .i64 a0_0) ∧ w'.cell? ⟨gb380, 1, none⟩ = some (.int .i64 a0_1) ∧ w'.cell? ⟨gb381, 0, none⟩ = some (.int .i64 a1_0) ∧ w'.cell? ⟨gb381, 1, none⟩ = some (.int .u64 a1_1) ∧ w'.cell? ⟨gb381, 2, none⟩ = some (.int .u64 a1_2)) (ds := []) #[false, false, false, false, false, false, false, false, false, false] (by kernel_rfl) rfl rfl ⟨(blk_cell BK380.out 0).trans rfl, (blk_cell BK380.out 1).trans rfl, (blk_cell BK381.out 0).trans rfl, (blk_cell BK381.out 1).trans rfl, (blk_cell BK381.out 2).trans rfl⟩ (fun hHeld => ?_); refine with_tabW treillageref16_Want.tab7 treillageref16_Want.bits7 (fun HT_ HW_ => ?_)
    generalize w31.drew = w35 at BK380 BK381 BK382 HB hHeld ⊢
    refine pure_ (i := 2) (N := some 24) (v := ?_) (a' := ?_) #[false, false, true, false, false, false, false, false, false, false] rfl rfl (any_of HT_.out (by kernel_rfl)) (fun _ _ _ h => h) (Or.inl ⟨by rfl, ?_⟩) ?_ ?_
    rotate_left
    ·intro w'
     go_simp
     with_reducible rfl
    rotate_left
    ·simp only [Act.put, List.setIfInBounds_toArray, List.set_cons_zero, List.set_cons_succ, i64_w, i32_w]
     rfl
    refine pure_ (i := 4) (N := some 26) (v := ?_) (a' := ?_) #[false, false, true, false, true, false, false, false, false, false] rfl rfl (any_of HT_.out (by kernel_rfl)) (fun _ _ _ h => h) (Or.inl ⟨by rfl, ?_⟩) ?_ ?_
    rotate_left
    ·intro w'
     go_simp
     with_reducible rfl
    rotate_left
    ·simp only [Act.put, List.setIfInBounds_toArray, List.set_cons_zero, List.set_cons_succ, i64_w, i32_w]
     rfl
    refine take_ (i := 0) (N := some 22) (v := ?_) (a' := ?_) #[true, false, true, false, true, false, false, false, false, false] rfl rfl (take_ofW HT_.out HW_.out (by kernel_rfl)) (fun _ _ _ h => h) (Or.inl ⟨by rfl, ?_⟩) hHeld ?_ ?_
    rotate_left
    ·rintro w' ⟨s0, s1, s2, s3, s4⟩
     go_simp
     with_reducible rfl
    rotate_left
    ·simp only [Act.put, List.setIfInBounds_toArray, List.set_cons_zero, List.set_cons_succ, i64_w, i32_w]
     rfl
    refine take_ (i := 3) (N := some 25) (v := ?_) (a' := ?_) #[true, false, true, true, true, false, false, false, false, false] rfl rfl (take_ofW HT_.out HW_.out (by kernel_rfl)) (fun _ _ _ h => h) (Or.inl ⟨by rfl, ?_⟩) hHeld ?_ ?_
    rotate_left
    ·rintro w' ⟨s0, s1, s2, s3, s4⟩
     go_simp
     with_reducible rfl
    rotate_left
    ·simp only [Act.put, List.setIfInBounds_toArray, List.set_cons_zero, List.set_cons_succ, i64_w, i32_w]
     rfl
    refine take_ (i := 5) (N := some 27) (v := ?_) (a' := ?_) #[true, false, true, true, true, true, false, false, false, false] rfl rfl (take_ofW HT_.out HW_.out (by kernel_rfl)) (fun _ _ _ h => h) (Or.inl ⟨by rfl, ?_⟩) hHeld ?_ ?_
    rotate_left
    ·rintro w' ⟨s0, s1, s2, s3, s4⟩
     go_simp
     with_reducible rfl
    rotate_left
    ·simp only [Act.put, List.setIfInBounds_toArray, List.set_cons_zero, List.set_cons_succ, i64_w, i32_w]
     rfl
    refine pure_ (i := 6) (N := some 28) (v := ?_) (a' := ?_) #[true, false, true, true, true, true, true, false, false, false] rfl rfl (any_of HT_.out (by kernel_rfl)) (fun _ _ _ h => h) (Or.inl ⟨by rfl, ?_⟩) ?_ ?_
    rotate_left
    ·intro w'
     go_simp
     with_reducible rfl
    rotate_left
    ·simp only [Act.put, List.setIfInBounds_toArray, List.set_cons_zero, List.set_cons_succ, i64_w, i32_w]
     rfl
    refine one_ (i := 1) (N := some 23) #[true, true, true, true, true, true, true, false, false, false] rfl rfl (one_of HT_.out (by kernel_rfl)) (by decide) (fun K hK => ?_)
    refine goes_ Try.func35 (by kernel_rfl) rfl #[.agg #[.int .i64 a0_0, .int .i64 a0_1]] (by rfl) rfl rfl (by (try simp only [List.map_toArray, List.map_cons, List.map_nil]); first | done | rfl | (simp only [List.length_drop, List.length_take]; rfl)) ?_
    with_reducible refine (treillageref15_Tail.calls a0_0 a0_1 t385 _ A28.out).mono ?_
    rintro e w36 ⟨rfl, hb⟩
    refine ⟨_, rfl, ?_⟩
    have n0_ := aA (blk_below (g := gb380) (o := .cells #[.int .i64 a0_0, .int .i64 a0_1] 39 (0, 0)) (bku BK380.out) hb)
    have n1_ := aA (blk_below (g := gb381) (o := .cells #[.int .i64 a1_0, .int .u64 a1_1, .int .u64 a1_2] 61 (0, 0)) (bku BK381.out) hb)
    have n2_ := aA (blk_below (g := gb382) (o := .cells #[.int .i64 0, .int .i64 0, .int .u64 0, .int .u64 0] 30 (0, 0)) (bku BK382.out) hb)
    have n3_ := aA (below_step (bls HB.out) hb)
    clear BK380
    clear BK381
    clear BK382
    clear HB
    have BK380 := n0_
    have BK381 := n1_
    have BK382 := n2_
    have HB := n3_
    clear n0_ n1_ n2_ n3_
    (try clear hb)
    (try clear hb2)
    (try clear hk)
    (try clear hi)
    refine hK.out _ _ ⟨(blk_cell BK380.out 0).trans rfl, (blk_cell BK380.out 1).trans rfl, (blk_cell BK381.out 0).trans rfl, (blk_cell BK381.out 1).trans rfl, (blk_cell BK381.out 2).trans rfl⟩ (fun hHeld => ?_)
    clear hK K
    refine norm_ (a' := ?_) ?_ ?_
    rotate_left
    ·show Act.put _ (some 23) _ = _
     simp only [Act.put, List.setIfInBounds_toArray, List.set_cons_zero, List.set_cons_succ, i64_w, i32_w]
     rfl
    refine pure_ (i := 7) (N := some 29) (v := ?_) (a' := ?_) #[true, true, true, true, true, true, true, true, false, false] rfl rfl (any_of HT_.out (by kernel_rfl)) (fun _ _ _ h => h) (Or.inl ⟨by rfl, ?_⟩) ?_ ?_
    rotate_left
    ·intro w'
     go_simp
     with_reducible rfl
    rotate_left
    ·simp only [Act.put, List.setIfInBounds_toArray, List.set_cons_zero, List.set_cons_succ, i64_w, i32_w]
     rfl
    refine one_ (i := 8) (N := none) #[true, true, true, true, true, true, true, true, true, false] rfl rfl (one_of HT_.out (by kernel_rfl)) (by decide) (fun K hK => ?_)
    have hs37 : w36.cell? ⟨gb382, 0, none⟩ = some (.int .i64 0) := (blk_cell BK382.out 0).trans rfl
    have hfs37 := blk_frozen BK382.out 0
    have hns37_0 := NB380_382.out
    have hns37_1 := NB381_382.out
    have hms37_0 := NB382_380.out
    have hms37_1 := NB382_381.out
    have hs38 : w36.cell? ⟨gb382, 1, none⟩ = some (.int .i64 0) := (blk_cell BK382.out 1).trans rfl
    have hfs38 := blk_frozen BK382.out 1
    have hns38_0 := NB380_382.out
    have hns38_1 := NB381_382.out
    have hms38_0 := NB382_380.out
    have hms38_1 := NB382_381.out
    have hs39 : w36.cell? ⟨gb382, 2, none⟩ = some (.int .u64 0) := (blk_cell BK382.out 2).trans rfl
    have hfs39 := blk_frozen BK382.out 2
    have hns39_0 := NB380_382.out
    have hns39_1 := NB381_382.out
    have hms39_0 := NB382_380.out
    have hms39_1 := NB382_381.out
    have hs40 : w36.cell? ⟨gb382, 3, none⟩ = some (.int .u64 0) := (blk_cell BK382.out 3).trans rfl
    have hfs40 := blk_frozen BK382.out 3
    have hns40_0 := NB380_382.out
    have hns40_1 := NB381_382.out
    have hms40_0 := NB382_380.out
    have hms40_1 := NB382_381.out
    refine skip_ (w1 := ?_) (by rfl) rfl ?_ ?_
    rotate_left
    ·go_simp
     rfl
    refine hK.out _ _ ⟨((cell_far (p := ⟨gb382, _, none⟩) NB380_382.out _).trans (((cell_far (p := ⟨gb382, _, none⟩) NB380_382.out _).trans (((cell_far (p := ⟨gb382, _, none⟩) NB380_382.out _).trans (((cell_far (p := ⟨gb382, _, none⟩) NB380_382.out _).trans (hHeld.1)))))))), ((cell_far (p := ⟨gb382, _, none⟩) NB380_382.out _).trans (((cell_far (p := ⟨gb382, _, none⟩) NB380_382.out _).trans (((cell_far (p := ⟨gb382, _, none⟩) NB380_382.out _).trans (((cell_far (p := ⟨gb382, _, none⟩) NB380_382.out _).trans (hHeld.2.1)))))))), ((cell_far (p := ⟨gb382, _, none⟩) NB381_382.out _).trans (((cell_far (p := ⟨gb382, _, none⟩) NB381_382.out _).trans (((cell_far (p := ⟨gb382, _, none⟩) NB381_382.out _).trans (((cell_far (p := ⟨gb382, _, none⟩) NB381_382.out _).trans (hHeld.2.2.1)))))))), ((cell_far (p := ⟨gb382, _, none⟩) NB381_382.out _).trans (((cell_far (p := ⟨gb382, _, none⟩) NB381_382.out _).trans (((cell_far (p := ⟨gb382, _, none⟩) NB381_382.out _).trans (((cell_far (p := ⟨gb382, _, none⟩) NB381_382.out _).trans (hHeld.2.2.2.1)))))))), ((cell_far (p := ⟨gb382, _, none⟩) NB381_382.out _).trans (((cell_far (p := ⟨gb382, _, none⟩) NB381_382.out _).trans (((cell_far (p := ⟨gb382, _, none⟩) NB381_382.out _).trans (((cell_far (p := ⟨gb382, _, none⟩) NB381_382.out _).trans (hHeld.2.2.2.2))))))))⟩ (fun hHeld => ?_)
    clear hK K
    refine pure_ (i := 9) (N := some 5) (v := ?_) (a' := ?_) #[true, true, true, true, true, true, true, true, true, true] rfl rfl (any_of HT_.out (by kernel_rfl)) (fun _ _ _ h => h) (Or.inl ⟨by rfl, ?_⟩) ?_ ?_
    rotate_left
    ·intro w'
     go_simp
     with_reducible rfl
    rotate_left
    ·simp only [Act.put, List.setIfInBounds_toArray, List.set_cons_zero, List.set_cons_succ, i64_w, i32_w]
     rfl
    refine done_ (done_of HT_.out (by kernel_rfl)) ?_
    try go_wp2
    refine bodyPost_ret (results_ct rfl _ _ gb382 30 #[.int .i64 3, .int .i64 t385, .int .u64 a1_1, .int .u64 (IntKind.u64.wrap (a1_1 + 1))] (0, 0) _ rfl (by (with_reducible repeat (first | refine blk_drewN ?_ _ | refine blk_drew ?_ | refine blk_alloc ?_ _)); refine blk_put (cs := #[.int .i64 3, .int .i64 t385, .int .u64 a1_1, .int .u64 0]) ?_ 3 _ rfl; (with_reducible repeat (first | refine blk_drewN ?_ _ | refine blk_drew ?_ | refine blk_alloc ?_ _)); refine blk_put (cs := #[.int .i64 3, .int .i64 t385, .int .u64 0, .int .u64 0]) ?_ 2 _ rfl; (with_reducible repeat (first | refine blk_drewN ?_ _ | refine blk_drew ?_ | refine blk_alloc ?_ _)); refine blk_put (cs := #[.int .i64 3, .int .i64 0, .int .u64 0, .int .u64 0]) ?_ 1 _ rfl; (with_reducible repeat (first | refine blk_drewN ?_ _ | refine blk_drew ?_ | refine blk_alloc ?_ _)); refine blk_put (cs := #[.int .i64 0, .int .i64 0, .int .u64 0, .int .u64 0]) ?_ 0 _ rfl; (with_reducible repeat (first | refine blk_drewN ?_ _ | refine blk_drew ?_ | refine blk_alloc ?_ _)); exact BK382.out) Try.underlying30 rfl (by kernel_rfl)) rfl ?_
    exact ⟨by first | rfl | (simp [errW_none, errW_some] <;> rfl) | (simp [*, errW_none, errW_some] <;> rfl), by repeat (first | (with_reducible first | exact HB.out | apply below_alloc | apply pw_below_drewN | apply below_drew1 | refine below_set ?_ GE380.out | refine below_set ?_ GE381.out | refine below_set ?_ GE382.out) | exact HB.out)⟩
   ·rw [if_neg c27] at H
    have c27b0 : (a1_0 == 2) = false := beq_eq_false_iff_ne.mpr c27
    have c27b1 : (a1_0 != 2) = true := bne_iff_ne.mpr c27
    by_cases c41 : a1_0 = 3
    ·rw [if_pos c41] at H
     have c41b0 : (a1_0 == 3) = true := beq_iff_eq.mpr c41
     have c41b1 : (a1_0 != 3) = false := bne_eq_false_iff_eq.mpr c41
     clear c41
     replace H := Option.bind_eq_some_iff.mp H
     obtain ⟨t386, A420, H⟩ := H
     replace H : (some (2, t386, 0, a1_2, true)) = some (r1, r2, r3, r4, r5) := H
     have A42 := aA A420
     clear A420
     simp only [Option.some.injEq, Prod.mk.injEq] at H
     obtain ⟨rfl, rfl, rfl, rfl, rfl⟩ := H
     go_enter Try.func48, Try.ntmps48
     try go_wp2_with (first | ((with_reducible refine gate_dst (N := 2) rfl ?_); refine box_event ?hg (N := 2) ?hd (cs := #[.int .i64 a0_0, .int .i64 a0_1]) (t := 39) ?hr ?_; (case hd => rfl); (case hg => rfl); (case hr => first | (go_simp; done) | (go_simp; rfl)); intro gb380 hg w43 hbox hb; have n0_ := aA (below_step (blw HB.out) hb); have n1_ := aA (hbox); have n2_ := aA ((by rw [hg]; exact (below_size (blw HB.out)) : w.heap.size ≤ gb380)); have n3_ := aA ((by rw [hg]; exact (below_size (blw HB.out)) : w.heap.size ≤ gb380)); clear HB; have HB := n0_; have BK380 := n1_; have GW380 := n2_; have GE380 := n3_; clear n0_ n1_ n2_ n3_ hb hbox hg) | ((with_reducible refine gate_dst (N := 3) rfl ?_); refine box_event ?hg (N := 3) ?hd (cs := #[.int .i64 a1_0, .int .u64 a1_1, .int .u64 a1_2]) (t := 61) ?hr ?_; (case hd => rfl); (case hg => rfl); (case hr => first | (go_simp; done) | (go_simp; rfl)); intro gb381 hg w44 hbox hb; have n0_ := aA (blk_below (g := gb380) (o := .cells #[.int .i64 a0_0, .int .i64 a0_1] 39 (0, 0)) (bku BK380.out) hb); have n1_ := aA (below_step (bls HB.out) hb); have n2_ := aA (hbox); have n3_ := aA ((by rw [hg]; exact (below_size (bls HB.out)) : w.heap.size ≤ gb381)); have n4_ := aA ((by rw [hg]; exact (below_size (bls HB.out)) : w.heap.size ≤ gb381)); have n5_ := aA ((by rw [hg]; exact Nat.ne_of_lt (blk_lt (g := gb380) (o := .cells #[.int .i64 a0_0, .int .i64 a0_1] 39 (0, 0)) (bku BK380.out)) : gb380 ≠ gb381)); have n6_ := aA ((by rw [hg]; exact Nat.ne_of_gt (blk_lt (g := gb380) (o := .cells #[.int .i64 a0_0, .int .i64 a0_1] 39 (0, 0)) (bku BK380.out)) : gb381 ≠ gb380)); clear BK380 HB; have BK380 := n0_; have HB := n1_; have BK381 := n2_; have GW381 := n3_; have GE381 := n4_; have NB380_381 := n5_; have NB381_380 := n6_; clear n0_ n1_ n2_ n3_ n4_ n5_ n6_ hb hbox hg) | ((with_reducible refine gate_dst (N := 4) rfl ?_); refine box_event ?hg (N := 4) ?hd (cs := #[.int .i64 0, .int .i64 0, .int .u64 0, .int .u64 0]) (t := 30) ?hr ?_; (case hd => rfl); (case hg => rfl); (case hr => first | (go_simp; done) | (go_simp; rfl)); intro gb382 hg w45 hbox hb; have n0_ := aA (blk_below (g := gb380) (o := .cells #[.int .i64 a0_0, .int .i64 a0_1] 39 (0, 0)) (bku BK380.out) hb); have n1_ := aA (blk_below (g := gb381) (o := .cells #[.int .i64 a1_0, .int .u64 a1_1, .int .u64 a1_2] 61 (0, 0)) (bku BK381.out) hb); have n2_ := aA (below_step (bls HB.out) hb); have n3_ := aA (hbox); have n4_ := aA ((by rw [hg]; exact (below_size (bls HB.out)) : w.heap.size ≤ gb382)); have n5_ := aA ((by rw [hg]; exact (below_size (bls HB.out)) : w.heap.size ≤ gb382)); have n6_ := aA ((by rw [hg]; exact Nat.ne_of_lt (blk_lt (g := gb380) (o := .cells #[.int .i64 a0_0, .int .i64 a0_1] 39 (0, 0)) (bku BK380.out)) : gb380 ≠ gb382)); have n7_ := aA ((by rw [hg]; exact Nat.ne_of_gt (blk_lt (g := gb380) (o := .cells #[.int .i64 a0_0, .int .i64 a0_1] 39 (0, 0)) (bku BK380.out)) : gb382 ≠ gb380)); have n8_ := aA ((by rw [hg]; exact Nat.ne_of_lt (blk_lt (g := gb381) (o := .cells #[.int .i64 a1_0, .int .u64 a1_1, .int .u64 a1_2] 61 (0, 0)) (bku BK381.out)) : gb381 ≠ gb382)); have n9_ := aA ((by rw [hg]; exact Nat.ne_of_gt (blk_lt (g := gb381) (o := .cells #[.int .i64 a1_0, .int .u64 a1_1, .int .u64 a1_2] 61 (0, 0)) (bku BK381.out)) : gb382 ≠ gb381)); clear BK380 BK381 HB; have BK380 := n0_; have BK381 := n1_; have HB := n2_; have BK382 := n3_; have GW382 := n4_; have GE382 := n5_; have NB380_382 := n6_; have NB382_380 := n7_; have NB381_382 := n8_; have NB382_381 := n9_; clear n0_ n1_ n2_ n3_ n4_ n5_ n6_ n7_ n8_ n9_ hb hbox hg; have hnb46 := NB381_380.out; have hnc46 := NB380_381.out; have hnb47 := NB381_382.out; have hnc47 := NB382_381.out; have hcz48_0 : w45.cell? ⟨gb381, 0, none⟩ = some (.int .i64 a1_0) := (blk_cell BK381.out 0).trans rfl; have hcz48_1 : w45.cell? ⟨gb381, 1, none⟩ = some (.int .u64 a1_1) := (blk_cell BK381.out 1).trans rfl; have hcz48_2 : w45.cell? ⟨gb381, 2, none⟩ = some (.int .u64 a1_2) := (blk_cell BK381.out 2).trans rfl; have hfz48_0 := blk_frozen BK381.out 0; have hfz48_1 := blk_frozen BK381.out 1; have hfz48_2 := blk_frozen BK381.out 2))
     have n0_ := aA (blk_drew BK380.out)
     have n1_ := aA (blk_drew BK381.out)
     have n2_ := aA (blk_drew BK382.out)
     have n3_ := aA (below_drew1 HB.out)
     clear BK380
     clear BK381
     clear BK382
     clear HB
     have BK380 := n0_
     have BK381 := n1_
     have BK382 := n2_
     have HB := n3_
     clear n0_ n1_ n2_ n3_
     refine start_ (n := 9) (S := fun w' => w'.cell? ⟨gb380, 0, none⟩ = some (.int .i64 a0_0) ∧ w'.cell? ⟨gb380, 1, none⟩ = some (.int .i64 a0_1) ∧ w'.cell? ⟨gb381, 0, none⟩ = some (.int .i64 a1_0) ∧ w'.cell? ⟨gb381, 1, none⟩ = some (.int .u64 a1_1) ∧ w'.cell? ⟨gb381, 2, none⟩ = some (.int .u64 a1_2)) (ds := []) #[false, false, false, false, false, false, false, false, false] (by kernel_rfl) rfl rfl ⟨(blk_cell BK380.out 0).trans rfl, (blk_cell BK380.out 1).trans rfl, (blk_cell BK381.out 0).trans rfl, (blk_cell BK381.out 1).trans rfl, (blk_cell BK381.out 2).trans rfl⟩ (fun hHeld => ?_); refine with_tabW treillageref16_Want.tab9 treillageref16_Want.bits9 (fun HT_ HW_ => ?_)
     generalize w45.drew = w49 at BK380 BK381 BK382 HB hHeld ⊢
     refine pure_ (i := 1) (N := some 33) (v := ?_) (a' := ?_) #[false, true, false, false, false, false, false, false, false] rfl rfl (any_of HT_.out (by kernel_rfl)) (fun _ _ _ h => h) (Or.inl ⟨by rfl, ?_⟩) ?_ ?_
     rotate_left
     ·intro w'
      go_simp
      with_reducible rfl
     rotate_left
     ·simp only [Act.put, List.setIfInBounds_toArray, List.set_cons_zero, List.set_cons_succ, i64_w, i32_w]
      rfl
     refine pure_ (i := 4) (N := some 36) (v := ?_) (a' := ?_) #[false, true, false, false, true, false, false, false, false] rfl rfl (any_of HT_.out (by kernel_rfl)) (fun _ _ _ h => h) (Or.inl ⟨by rfl, ?_⟩) ?_ ?_
     rotate_left
     ·intro w'
      go_simp
      with_reducible rfl
     rotate_left
     ·simp only [Act.put, List.setIfInBounds_toArray, List.set_cons_zero, List.set_cons_succ, i64_w, i32_w]
      rfl
     refine take_ (i := 0) (N := some 32) (v := ?_) (a' := ?_) #[true, true, false, false, true, false, false, false, false] rfl rfl (take_ofW HT_.out HW_.out (by kernel_rfl)) (fun _ _ _ h => h) (Or.inl ⟨by rfl, ?_⟩) hHeld ?_ ?_
     rotate_left
     ·rintro w' ⟨s0, s1, s2, s3, s4⟩
      go_simp
      with_reducible rfl
     rotate_left
     ·simp only [Act.put, List.setIfInBounds_toArray, List.set_cons_zero, List.set_cons_succ, i64_w, i32_w]
      rfl
     refine take_ (i := 2) (N := some 34) (v := ?_) (a' := ?_) #[true, true, true, false, true, false, false, false, false] rfl rfl (take_ofW HT_.out HW_.out (by kernel_rfl)) (fun _ _ _ h => h) (Or.inl ⟨by rfl, ?_⟩) hHeld ?_ ?_
     rotate_left
     ·rintro w' ⟨s0, s1, s2, s3, s4⟩
      go_simp
      with_reducible rfl
     rotate_left
     ·simp only [Act.put, List.setIfInBounds_toArray, List.set_cons_zero, List.set_cons_succ, i64_w, i32_w]
      rfl
     refine take_ (i := 5) (N := some 37) (v := ?_) (a' := ?_) #[true, true, true, false, true, true, false, false, false] rfl rfl (take_ofW HT_.out HW_.out (by kernel_rfl)) (fun _ _ _ h => h) (Or.inl ⟨by rfl, ?_⟩) hHeld ?_ ?_
     rotate_left
     ·rintro w' ⟨s0, s1, s2, s3, s4⟩
      go_simp
      with_reducible rfl
     rotate_left
     ·simp only [Act.put, List.setIfInBounds_toArray, List.set_cons_zero, List.set_cons_succ, i64_w, i32_w]
      rfl
     refine one_ (i := 3) (N := some 35) #[true, true, true, true, true, true, false, false, false] rfl rfl (one_of HT_.out (by kernel_rfl)) (by decide) (fun K hK => ?_)
     refine goes_ Try.func44 (by kernel_rfl) rfl #[.agg #[.int .i64 a0_0, .int .i64 a0_1], .int .u64 a1_1] (by rfl) rfl rfl (by (try simp only [List.map_toArray, List.map_cons, List.map_nil]); first | done | rfl | (simp only [List.length_drop, List.length_take]; rfl)) ?_
     with_reducible refine (treillageref15_Item.calls k a0_0 a0_1 a1_1 t386 _ A42.out).mono ?_
     rintro e w50 ⟨rfl, hb⟩
     refine ⟨_, rfl, ?_⟩
     have n0_ := aA (blk_below (g := gb380) (o := .cells #[.int .i64 a0_0, .int .i64 a0_1] 39 (0, 0)) (bku BK380.out) hb)
     have n1_ := aA (blk_below (g := gb381) (o := .cells #[.int .i64 a1_0, .int .u64 a1_1, .int .u64 a1_2] 61 (0, 0)) (bku BK381.out) hb)
     have n2_ := aA (blk_below (g := gb382) (o := .cells #[.int .i64 0, .int .i64 0, .int .u64 0, .int .u64 0] 30 (0, 0)) (bku BK382.out) hb)
     have n3_ := aA (below_step (bls HB.out) hb)
     clear BK380
     clear BK381
     clear BK382
     clear HB
     have BK380 := n0_
     have BK381 := n1_
     have BK382 := n2_
     have HB := n3_
     clear n0_ n1_ n2_ n3_
     (try clear hb)
     (try clear hb2)
     (try clear hk)
     (try clear hi)
     refine hK.out _ _ ⟨(blk_cell BK380.out 0).trans rfl, (blk_cell BK380.out 1).trans rfl, (blk_cell BK381.out 0).trans rfl, (blk_cell BK381.out 1).trans rfl, (blk_cell BK381.out 2).trans rfl⟩ (fun hHeld => ?_)
     clear hK K
     refine norm_ (a' := ?_) ?_ ?_
     rotate_left
     ·show Act.put _ (some 35) _ = _
      simp only [Act.put, List.setIfInBounds_toArray, List.set_cons_zero, List.set_cons_succ, i64_w, i32_w]
      rfl
     refine pure_ (i := 6) (N := some 38) (v := ?_) (a' := ?_) #[true, true, true, true, true, true, true, false, false] rfl rfl (any_of HT_.out (by kernel_rfl)) (fun _ _ _ h => h) (Or.inl ⟨by rfl, ?_⟩) ?_ ?_
     rotate_left
     ·intro w'
      go_simp
      with_reducible rfl
     rotate_left
     ·simp only [Act.put, List.setIfInBounds_toArray, List.set_cons_zero, List.set_cons_succ, i64_w, i32_w]
      rfl
     refine one_ (i := 7) (N := none) #[true, true, true, true, true, true, true, true, false] rfl rfl (one_of HT_.out (by kernel_rfl)) (by decide) (fun K hK => ?_)
     have hs51 : w50.cell? ⟨gb382, 0, none⟩ = some (.int .i64 0) := (blk_cell BK382.out 0).trans rfl
     have hfs51 := blk_frozen BK382.out 0
     have hns51_0 := NB380_382.out
     have hns51_1 := NB381_382.out
     have hms51_0 := NB382_380.out
     have hms51_1 := NB382_381.out
     have hs52 : w50.cell? ⟨gb382, 1, none⟩ = some (.int .i64 0) := (blk_cell BK382.out 1).trans rfl
     have hfs52 := blk_frozen BK382.out 1
     have hns52_0 := NB380_382.out
     have hns52_1 := NB381_382.out
     have hms52_0 := NB382_380.out
     have hms52_1 := NB382_381.out
     have hs53 : w50.cell? ⟨gb382, 2, none⟩ = some (.int .u64 0) := (blk_cell BK382.out 2).trans rfl
     have hfs53 := blk_frozen BK382.out 2
     have hns53_0 := NB380_382.out
     have hns53_1 := NB381_382.out
     have hms53_0 := NB382_380.out
     have hms53_1 := NB382_381.out
     have hs54 : w50.cell? ⟨gb382, 3, none⟩ = some (.int .u64 0) := (blk_cell BK382.out 3).trans rfl
     have hfs54 := blk_frozen BK382.out 3
     have hns54_0 := NB380_382.out
     have hns54_1 := NB381_382.out
     have hms54_0 := NB382_380.out
     have hms54_1 := NB382_381.out
     refine skip_ (w1 := ?_) (by rfl) rfl ?_ ?_
     rotate_left
     ·go_simp
      rfl
     refine hK.out _ _ ⟨((cell_far (p := ⟨gb382, _, none⟩) NB380_382.out _).trans (((cell_far (p := ⟨gb382, _, none⟩) NB380_382.out _).trans (((cell_far (p := ⟨gb382, _, none⟩) NB380_382.out _).trans (((cell_far (p := ⟨gb382, _, none⟩) NB380_382.out _).trans (hHeld.1)))))))), ((cell_far (p := ⟨gb382, _, none⟩) NB380_382.out _).trans (((cell_far (p := ⟨gb382, _, none⟩) NB380_382.out _).trans (((cell_far (p := ⟨gb382, _, none⟩) NB380_382.out _).trans (((cell_far (p := ⟨gb382, _, none⟩) NB380_382.out _).trans (hHeld.2.1)))))))), ((cell_far (p := ⟨gb382, _, none⟩) NB381_382.out _).trans (((cell_far (p := ⟨gb382, _, none⟩) NB381_382.out _).trans (((cell_far (p := ⟨gb382, _, none⟩) NB381_382.out _).trans (((cell_far (p := ⟨gb382, _, none⟩) NB381_382.out _).trans (hHeld.2.2.1)))))))), ((cell_far (p := ⟨gb382, _, none⟩) NB381_382.out _).trans (((cell_far (p := ⟨gb382, _, none⟩) NB381_382.out _).trans (((cell_far (p := ⟨gb382, _, none⟩) NB381_382.out _).trans (((cell_far (p := ⟨gb382, _, none⟩) NB381_382.out _).trans (hHeld.2.2.2.1)))))))), ((cell_far (p := ⟨gb382, _, none⟩) NB381_382.out _).trans (((cell_far (p := ⟨gb382, _, none⟩) NB381_382.out _).trans (((cell_far (p := ⟨gb382, _, none⟩) NB381_382.out _).trans (((cell_far (p := ⟨gb382, _, none⟩) NB381_382.out _).trans (hHeld.2.2.2.2))))))))⟩ (fun hHeld => ?_)
     clear hK K
     refine pure_ (i := 8) (N := some 5) (v := ?_) (a' := ?_) #[true, true, true, true, true, true, true, true, true] rfl rfl (any_of HT_.out (by kernel_rfl)) (fun _ _ _ h => h) (Or.inl ⟨by rfl, ?_⟩) ?_ ?_
     rotate_left
     ·intro w'
      go_simp
      with_reducible rfl
     rotate_left
     ·simp only [Act.put, List.setIfInBounds_toArray, List.set_cons_zero, List.set_cons_succ, i64_w, i32_w]
      rfl
     refine done_ (done_of HT_.out (by kernel_rfl)) ?_
     try go_wp2
     refine bodyPost_ret (results_ct rfl _ _ gb382 30 #[.int .i64 2, .int .i64 t386, .int .u64 0, .int .u64 a1_2] (0, 0) _ rfl (by (with_reducible repeat (first | refine blk_drewN ?_ _ | refine blk_drew ?_ | refine blk_alloc ?_ _)); refine blk_put (cs := #[.int .i64 2, .int .i64 t386, .int .u64 0, .int .u64 0]) ?_ 3 _ rfl; (with_reducible repeat (first | refine blk_drewN ?_ _ | refine blk_drew ?_ | refine blk_alloc ?_ _)); refine blk_put (cs := #[.int .i64 2, .int .i64 t386, .int .u64 0, .int .u64 0]) ?_ 2 _ rfl; (with_reducible repeat (first | refine blk_drewN ?_ _ | refine blk_drew ?_ | refine blk_alloc ?_ _)); refine blk_put (cs := #[.int .i64 2, .int .i64 0, .int .u64 0, .int .u64 0]) ?_ 1 _ rfl; (with_reducible repeat (first | refine blk_drewN ?_ _ | refine blk_drew ?_ | refine blk_alloc ?_ _)); refine blk_put (cs := #[.int .i64 0, .int .i64 0, .int .u64 0, .int .u64 0]) ?_ 0 _ rfl; (with_reducible repeat (first | refine blk_drewN ?_ _ | refine blk_drew ?_ | refine blk_alloc ?_ _)); exact BK382.out) Try.underlying30 rfl (by kernel_rfl)) rfl ?_
     exact ⟨by first | rfl | (simp [errW_none, errW_some] <;> rfl) | (simp [*, errW_none, errW_some] <;> rfl), by repeat (first | (with_reducible first | exact HB.out | apply below_alloc | apply pw_below_drewN | apply below_drew1 | refine below_set ?_ GE380.out | refine below_set ?_ GE381.out | refine below_set ?_ GE382.out) | exact HB.out)⟩
    ·rw [if_neg c41] at H
     have c41b0 : (a1_0 == 3) = false := beq_eq_false_iff_ne.mpr c41
     have c41b1 : (a1_0 != 3) = true := bne_iff_ne.mpr c41
     by_cases c55 : a1_0 = 4
     ·rw [if_pos c55] at H
      have c55b0 : (a1_0 == 4) = true := beq_iff_eq.mpr c55
      have c55b1 : (a1_0 != 4) = false := bne_eq_false_iff_eq.mpr c55
      clear c55
      replace H := Option.bind_eq_some_iff.mp H
      obtain ⟨t387, A560, H⟩ := H
      replace H : (some (2, t387, 0, IntKind.u64.wrap (a1_1 + 1), true)) = some (r1, r2, r3, r4, r5) := H
      have A56 := aA A560
      clear A560
      simp only [Option.some.injEq, Prod.mk.injEq] at H
      obtain ⟨rfl, rfl, rfl, rfl, rfl⟩ := H
      go_enter Try.func48, Try.ntmps48
      try go_wp2_with (first | ((with_reducible refine gate_dst (N := 2) rfl ?_); refine box_event ?hg (N := 2) ?hd (cs := #[.int .i64 a0_0, .int .i64 a0_1]) (t := 39) ?hr ?_; (case hd => rfl); (case hg => rfl); (case hr => first | (go_simp; done) | (go_simp; rfl)); intro gb380 hg w57 hbox hb; have n0_ := aA (below_step (blw HB.out) hb); have n1_ := aA (hbox); have n2_ := aA ((by rw [hg]; exact (below_size (blw HB.out)) : w.heap.size ≤ gb380)); have n3_ := aA ((by rw [hg]; exact (below_size (blw HB.out)) : w.heap.size ≤ gb380)); clear HB; have HB := n0_; have BK380 := n1_; have GW380 := n2_; have GE380 := n3_; clear n0_ n1_ n2_ n3_ hb hbox hg) | ((with_reducible refine gate_dst (N := 3) rfl ?_); refine box_event ?hg (N := 3) ?hd (cs := #[.int .i64 a1_0, .int .u64 a1_1, .int .u64 a1_2]) (t := 61) ?hr ?_; (case hd => rfl); (case hg => rfl); (case hr => first | (go_simp; done) | (go_simp; rfl)); intro gb381 hg w58 hbox hb; have n0_ := aA (blk_below (g := gb380) (o := .cells #[.int .i64 a0_0, .int .i64 a0_1] 39 (0, 0)) (bku BK380.out) hb); have n1_ := aA (below_step (bls HB.out) hb); have n2_ := aA (hbox); have n3_ := aA ((by rw [hg]; exact (below_size (bls HB.out)) : w.heap.size ≤ gb381)); have n4_ := aA ((by rw [hg]; exact (below_size (bls HB.out)) : w.heap.size ≤ gb381)); have n5_ := aA ((by rw [hg]; exact Nat.ne_of_lt (blk_lt (g := gb380) (o := .cells #[.int .i64 a0_0, .int .i64 a0_1] 39 (0, 0)) (bku BK380.out)) : gb380 ≠ gb381)); have n6_ := aA ((by rw [hg]; exact Nat.ne_of_gt (blk_lt (g := gb380) (o := .cells #[.int .i64 a0_0, .int .i64 a0_1] 39 (0, 0)) (bku BK380.out)) : gb381 ≠ gb380)); clear BK380 HB; have BK380 := n0_; have HB := n1_; have BK381 := n2_; have GW381 := n3_; have GE381 := n4_; have NB380_381 := n5_; have NB381_380 := n6_; clear n0_ n1_ n2_ n3_ n4_ n5_ n6_ hb hbox hg) | ((with_reducible refine gate_dst (N := 4) rfl ?_); refine box_event ?hg (N := 4) ?hd (cs := #[.int .i64 0, .int .i64 0, .int .u64 0, .int .u64 0]) (t := 30) ?hr ?_; (case hd => rfl); (case hg => rfl); (case hr => first | (go_simp; done) | (go_simp; rfl)); intro gb382 hg w59 hbox hb; have n0_ := aA (blk_below (g := gb380) (o := .cells #[.int .i64 a0_0, .int .i64 a0_1] 39 (0, 0)) (bku BK380.out) hb); have n1_ := aA (blk_below (g := gb381) (o := .cells #[.int .i64 a1_0, .int .u64 a1_1, .int .u64 a1_2] 61 (0, 0)) (bku BK381.out) hb); have n2_ := aA (below_step (bls HB.out) hb); have n3_ := aA (hbox); have n4_ := aA ((by rw [hg]; exact (below_size (bls HB.out)) : w.heap.size ≤ gb382)); have n5_ := aA ((by rw [hg]; exact (below_size (bls HB.out)) : w.heap.size ≤ gb382)); have n6_ := aA ((by rw [hg]; exact Nat.ne_of_lt (blk_lt (g := gb380) (o := .cells #[.int .i64 a0_0, .int .i64 a0_1] 39 (0, 0)) (bku BK380.out)) : gb380 ≠ gb382)); have n7_ := aA ((by rw [hg]; exact Nat.ne_of_gt (blk_lt (g := gb380) (o := .cells #[.int .i64 a0_0, .int .i64 a0_1] 39 (0, 0)) (bku BK380.out)) : gb382 ≠ gb380)); have n8_ := aA ((by rw [hg]; exact Nat.ne_of_lt (blk_lt (g := gb381) (o := .cells #[.int .i64 a1_0, .int .u64 a1_1, .int .u64 a1_2] 61 (0, 0)) (bku BK381.out)) : gb381 ≠ gb382)); have n9_ := aA ((by rw [hg]; exact Nat.ne_of_gt (blk_lt (g := gb381) (o := .cells #[.int .i64 a1_0, .int .u64 a1_1, .int .u64 a1_2] 61 (0, 0)) (bku BK381.out)) : gb382 ≠ gb381)); clear BK380 BK381 HB; have BK380 := n0_; have BK381 := n1_; have HB := n2_; have BK382 := n3_; have GW382 := n4_; have GE382 := n5_; have NB380_382 := n6_; have NB382_380 := n7_; have NB381_382 := n8_; have NB382_381 := n9_; clear n0_ n1_ n2_ n3_ n4_ n5_ n6_ n7_ n8_ n9_ hb hbox hg; have hnb60 := NB381_380.out; have hnc60 := NB380_381.out; have hnb61 := NB381_382.out; have hnc61 := NB382_381.out; have hcz62_0 : w59.cell? ⟨gb381, 0, none⟩ = some (.int .i64 a1_0) := (blk_cell BK381.out 0).trans rfl; have hcz62_1 : w59.cell? ⟨gb381, 1, none⟩ = some (.int .u64 a1_1) := (blk_cell BK381.out 1).trans rfl; have hcz62_2 : w59.cell? ⟨gb381, 2, none⟩ = some (.int .u64 a1_2) := (blk_cell BK381.out 2).trans rfl; have hfz62_0 := blk_frozen BK381.out 0; have hfz62_1 := blk_frozen BK381.out 1; have hfz62_2 := blk_frozen BK381.out 2))
      have n0_ := aA (blk_drew BK380.out)
      have n1_ := aA (blk_drew BK381.out)
      have n2_ := aA (blk_drew BK382.out)
      have n3_ := aA (below_drew1 HB.out)
      clear BK380
      clear BK381
      clear BK382
      clear HB
      have BK380 := n0_
      have BK381 := n1_
      have BK382 := n2_
      have HB := n3_
      clear n0_ n1_ n2_ n3_
      refine start_ (n := 10) (S := fun w' => w'.cell? ⟨gb380, 0, none⟩ = some (.int .i64 a0_0) ∧ w'.cell? ⟨gb380, 1, none⟩ = some (.int .i64 a0_1) ∧ w'.cell? ⟨gb381, 0, none⟩ = some (.int .i64 a1_0) ∧ w'.cell? ⟨gb381, 1, none⟩ = some (.int .u64 a1_1) ∧ w'.cell? ⟨gb381, 2, none⟩ = some (.int .u64 a1_2)) (ds := []) #[false, false, false, false, false, false, false, false, false, false] (by kernel_rfl) rfl rfl ⟨(blk_cell BK380.out 0).trans rfl, (blk_cell BK380.out 1).trans rfl, (blk_cell BK381.out 0).trans rfl, (blk_cell BK381.out 1).trans rfl, (blk_cell BK381.out 2).trans rfl⟩ (fun hHeld => ?_); refine with_tabW treillageref16_Want.tab11 treillageref16_Want.bits11 (fun HT_ HW_ => ?_)
      generalize w59.drew = w63 at BK380 BK381 BK382 HB hHeld ⊢
      refine pure_ (i := 1) (N := some 42) (v := ?_) (a' := ?_) #[false, true, false, false, false, false, false, false, false, false] rfl rfl (any_of HT_.out (by kernel_rfl)) (fun _ _ _ h => h) (Or.inl ⟨by rfl, ?_⟩) ?_ ?_
      rotate_left
      ·intro w'
       go_simp
       with_reducible rfl
      rotate_left
      ·simp only [Act.put, List.setIfInBounds_toArray, List.set_cons_zero, List.set_cons_succ, i64_w, i32_w]
       rfl
      refine pure_ (i := 4) (N := some 45) (v := ?_) (a' := ?_) #[false, true, false, false, true, false, false, false, false, false] rfl rfl (any_of HT_.out (by kernel_rfl)) (fun _ _ _ h => h) (Or.inl ⟨by rfl, ?_⟩) ?_ ?_
      rotate_left
      ·intro w'
       go_simp
       with_reducible rfl
      rotate_left
      ·simp only [Act.put, List.setIfInBounds_toArray, List.set_cons_zero, List.set_cons_succ, i64_w, i32_w]
       rfl
      refine take_ (i := 0) (N := some 41) (v := ?_) (a' := ?_) #[true, true, false, false, true, false, false, false, false, false] rfl rfl (take_ofW HT_.out HW_.out (by kernel_rfl)) (fun _ _ _ h => h) (Or.inl ⟨by rfl, ?_⟩) hHeld ?_ ?_
      rotate_left
      ·rintro w' ⟨s0, s1, s2, s3, s4⟩
       go_simp
       with_reducible rfl
      rotate_left
      ·simp only [Act.put, List.setIfInBounds_toArray, List.set_cons_zero, List.set_cons_succ, i64_w, i32_w]
       rfl
      refine take_ (i := 2) (N := some 43) (v := ?_) (a' := ?_) #[true, true, true, false, true, false, false, false, false, false] rfl rfl (take_ofW HT_.out HW_.out (by kernel_rfl)) (fun _ _ _ h => h) (Or.inl ⟨by rfl, ?_⟩) hHeld ?_ ?_
      rotate_left
      ·rintro w' ⟨s0, s1, s2, s3, s4⟩
       go_simp
       with_reducible rfl
      rotate_left
      ·simp only [Act.put, List.setIfInBounds_toArray, List.set_cons_zero, List.set_cons_succ, i64_w, i32_w]
       rfl
      refine take_ (i := 5) (N := some 46) (v := ?_) (a' := ?_) #[true, true, true, false, true, true, false, false, false, false] rfl rfl (take_ofW HT_.out HW_.out (by kernel_rfl)) (fun _ _ _ h => h) (Or.inl ⟨by rfl, ?_⟩) hHeld ?_ ?_
      rotate_left
      ·rintro w' ⟨s0, s1, s2, s3, s4⟩
       go_simp
       with_reducible rfl
      rotate_left
      ·simp only [Act.put, List.setIfInBounds_toArray, List.set_cons_zero, List.set_cons_succ, i64_w, i32_w]
       rfl
      refine pure_ (i := 6) (N := some 47) (v := ?_) (a' := ?_) #[true, true, true, false, true, true, true, false, false, false] rfl rfl (any_of HT_.out (by kernel_rfl)) (fun _ _ _ h => h) (Or.inl ⟨by rfl, ?_⟩) ?_ ?_
      rotate_left
      ·intro w'
       go_simp
       with_reducible rfl
      rotate_left
      ·simp only [Act.put, List.setIfInBounds_toArray, List.set_cons_zero, List.set_cons_succ, i64_w, i32_w]
       rfl
      refine one_ (i := 3) (N := some 44) #[true, true, true, true, true, true, true, false, false, false] rfl rfl (one_of HT_.out (by kernel_rfl)) (by decide) (fun K hK => ?_)
      refine goes_ Try.func43 (by kernel_rfl) rfl #[.agg #[.int .i64 a0_0, .int .i64 a0_1], .int .u64 a1_1] (by rfl) rfl rfl (by (try simp only [List.map_toArray, List.map_cons, List.map_nil]); first | done | rfl | (simp only [List.length_drop, List.length_take]; rfl)) ?_
      with_reducible refine (treillageref15_Seq.calls k a0_0 a0_1 a1_1 t387 _ A56.out).mono ?_
      rintro e w64 ⟨rfl, hb⟩
      refine ⟨_, rfl, ?_⟩
      have n0_ := aA (blk_below (g := gb380) (o := .cells #[.int .i64 a0_0, .int .i64 a0_1] 39 (0, 0)) (bku BK380.out) hb)
      have n1_ := aA (blk_below (g := gb381) (o := .cells #[.int .i64 a1_0, .int .u64 a1_1, .int .u64 a1_2] 61 (0, 0)) (bku BK381.out) hb)
      have n2_ := aA (blk_below (g := gb382) (o := .cells #[.int .i64 0, .int .i64 0, .int .u64 0, .int .u64 0] 30 (0, 0)) (bku BK382.out) hb)
      have n3_ := aA (below_step (bls HB.out) hb)
      clear BK380
      clear BK381
      clear BK382
      clear HB
      have BK380 := n0_
      have BK381 := n1_
      have BK382 := n2_
      have HB := n3_
      clear n0_ n1_ n2_ n3_
      (try clear hb)
      (try clear hb2)
      (try clear hk)
      (try clear hi)
      refine hK.out _ _ ⟨(blk_cell BK380.out 0).trans rfl, (blk_cell BK380.out 1).trans rfl, (blk_cell BK381.out 0).trans rfl, (blk_cell BK381.out 1).trans rfl, (blk_cell BK381.out 2).trans rfl⟩ (fun hHeld => ?_)
      clear hK K
      refine norm_ (a' := ?_) ?_ ?_
      rotate_left
      ·show Act.put _ (some 44) _ = _
       simp only [Act.put, List.setIfInBounds_toArray, List.set_cons_zero, List.set_cons_succ, i64_w, i32_w]
       rfl
      refine pure_ (i := 7) (N := some 48) (v := ?_) (a' := ?_) #[true, true, true, true, true, true, true, true, false, false] rfl rfl (any_of HT_.out (by kernel_rfl)) (fun _ _ _ h => h) (Or.inl ⟨by rfl, ?_⟩) ?_ ?_
      rotate_left
      ·intro w'
       go_simp
       with_reducible rfl
      rotate_left
      ·simp only [Act.put, List.setIfInBounds_toArray, List.set_cons_zero, List.set_cons_succ, i64_w, i32_w]
       rfl
      refine one_ (i := 8) (N := none) #[true, true, true, true, true, true, true, true, true, false] rfl rfl (one_of HT_.out (by kernel_rfl)) (by decide) (fun K hK => ?_)
      have hs65 : w64.cell? ⟨gb382, 0, none⟩ = some (.int .i64 0) := (blk_cell BK382.out 0).trans rfl
      have hfs65 := blk_frozen BK382.out 0
      have hns65_0 := NB380_382.out
      have hns65_1 := NB381_382.out
      have hms65_0 := NB382_380.out
      have hms65_1 := NB382_381.out
      have hs66 : w64.cell? ⟨gb382, 1, none⟩ = some (.int .i64 0) := (blk_cell BK382.out 1).trans rfl
      have hfs66 := blk_frozen BK382.out 1
      have hns66_0 := NB380_382.out
      have hns66_1 := NB381_382.out
      have hms66_0 := NB382_380.out
      have hms66_1 := NB382_381.out
      have hs67 : w64.cell? ⟨gb382, 2, none⟩ = some (.int .u64 0) := (blk_cell BK382.out 2).trans rfl
      have hfs67 := blk_frozen BK382.out 2
      have hns67_0 := NB380_382.out
      have hns67_1 := NB381_382.out
      have hms67_0 := NB382_380.out
      have hms67_1 := NB382_381.out
      have hs68 : w64.cell? ⟨gb382, 3, none⟩ = some (.int .u64 0) := (blk_cell BK382.out 3).trans rfl
      have hfs68 := blk_frozen BK382.out 3
      have hns68_0 := NB380_382.out
      have hns68_1 := NB381_382.out
      have hms68_0 := NB382_380.out
      have hms68_1 := NB382_381.out
      refine skip_ (w1 := ?_) (by rfl) rfl ?_ ?_
      rotate_left
      ·go_simp
       rfl
      refine hK.out _ _ ⟨((cell_far (p := ⟨gb382, _, none⟩) NB380_382.out _).trans (((cell_far (p := ⟨gb382, _, none⟩) NB380_382.out _).trans (((cell_far (p := ⟨gb382, _, none⟩) NB380_382.out _).trans (((cell_far (p := ⟨gb382, _, none⟩) NB380_382.out _).trans (hHeld.1)))))))), ((cell_far (p := ⟨gb382, _, none⟩) NB380_382.out _).trans (((cell_far (p := ⟨gb382, _, none⟩) NB380_382.out _).trans (((cell_far (p := ⟨gb382, _, none⟩) NB380_382.out _).trans (((cell_far (p := ⟨gb382, _, none⟩) NB380_382.out _).trans (hHeld.2.1)))))))), ((cell_far (p := ⟨gb382, _, none⟩) NB381_382.out _).trans (((cell_far (p := ⟨gb382, _, none⟩) NB381_382.out _).trans (((cell_far (p := ⟨gb382, _, none⟩) NB381_382.out _).trans (((cell_far (p := ⟨gb382, _, none⟩) NB381_382.out _).trans (hHeld.2.2.1)))))))), ((cell_far (p := ⟨gb382, _, none⟩) NB381_382.out _).trans (((cell_far (p := ⟨gb382, _, none⟩) NB381_382.out _).trans (((cell_far (p := ⟨gb382, _, none⟩) NB381_382.out _).trans (((cell_far (p := ⟨gb382, _, none⟩) NB381_382.out _).trans (hHeld.2.2.2.1)))))))), ((cell_far (p := ⟨gb382, _, none⟩) NB381_382.out _).trans (((cell_far (p := ⟨gb382, _, none⟩) NB381_382.out _).trans (((cell_far (p := ⟨gb382, _, none⟩) NB381_382.out _).trans (((cell_far (p := ⟨gb382, _, none⟩) NB381_382.out _).trans (hHeld.2.2.2.2))))))))⟩ (fun hHeld => ?_)
      clear hK K
      refine pure_ (i := 9) (N := some 5) (v := ?_) (a' := ?_) #[true, true, true, true, true, true, true, true, true, true] rfl rfl (any_of HT_.out (by kernel_rfl)) (fun _ _ _ h => h) (Or.inl ⟨by rfl, ?_⟩) ?_ ?_
      rotate_left
      ·intro w'
       go_simp
       with_reducible rfl
      rotate_left
      ·simp only [Act.put, List.setIfInBounds_toArray, List.set_cons_zero, List.set_cons_succ, i64_w, i32_w]
       rfl
      refine done_ (done_of HT_.out (by kernel_rfl)) ?_
      try go_wp2
      refine bodyPost_ret (results_ct rfl _ _ gb382 30 #[.int .i64 2, .int .i64 t387, .int .u64 0, .int .u64 (IntKind.u64.wrap (a1_1 + 1))] (0, 0) _ rfl (by (with_reducible repeat (first | refine blk_drewN ?_ _ | refine blk_drew ?_ | refine blk_alloc ?_ _)); refine blk_put (cs := #[.int .i64 2, .int .i64 t387, .int .u64 0, .int .u64 0]) ?_ 3 _ rfl; (with_reducible repeat (first | refine blk_drewN ?_ _ | refine blk_drew ?_ | refine blk_alloc ?_ _)); refine blk_put (cs := #[.int .i64 2, .int .i64 t387, .int .u64 0, .int .u64 0]) ?_ 2 _ rfl; (with_reducible repeat (first | refine blk_drewN ?_ _ | refine blk_drew ?_ | refine blk_alloc ?_ _)); refine blk_put (cs := #[.int .i64 2, .int .i64 0, .int .u64 0, .int .u64 0]) ?_ 1 _ rfl; (with_reducible repeat (first | refine blk_drewN ?_ _ | refine blk_drew ?_ | refine blk_alloc ?_ _)); refine blk_put (cs := #[.int .i64 0, .int .i64 0, .int .u64 0, .int .u64 0]) ?_ 0 _ rfl; (with_reducible repeat (first | refine blk_drewN ?_ _ | refine blk_drew ?_ | refine blk_alloc ?_ _)); exact BK382.out) Try.underlying30 rfl (by kernel_rfl)) rfl ?_
      exact ⟨by first | rfl | (simp [errW_none, errW_some] <;> rfl) | (simp [*, errW_none, errW_some] <;> rfl), by repeat (first | (with_reducible first | exact HB.out | apply below_alloc | apply pw_below_drewN | apply below_drew1 | refine below_set ?_ GE380.out | refine below_set ?_ GE381.out | refine below_set ?_ GE382.out) | exact HB.out)⟩
     ·rw [if_neg c55] at H
      have c55b0 : (a1_0 == 4) = false := beq_eq_false_iff_ne.mpr c55
      have c55b1 : (a1_0 != 4) = true := bne_iff_ne.mpr c55
      simp only [Option.some.injEq, Prod.mk.injEq] at H
      obtain ⟨rfl, rfl, rfl, rfl, rfl⟩ := H
      go_enter Try.func48, Try.ntmps48
      go_wp2_with (first | ((with_reducible refine gate_dst (N := 2) rfl ?_); refine box_event ?hg (N := 2) ?hd (cs := #[.int .i64 a0_0, .int .i64 a0_1]) (t := 39) ?hr ?_; (case hd => rfl); (case hg => rfl); (case hr => first | (go_simp; done) | (go_simp; rfl)); intro gb380 hg w69 hbox hb; have n0_ := aA (below_step (blw HB.out) hb); have n1_ := aA (hbox); have n2_ := aA ((by rw [hg]; exact (below_size (blw HB.out)) : w.heap.size ≤ gb380)); have n3_ := aA ((by rw [hg]; exact (below_size (blw HB.out)) : w.heap.size ≤ gb380)); clear HB; have HB := n0_; have BK380 := n1_; have GW380 := n2_; have GE380 := n3_; clear n0_ n1_ n2_ n3_ hb hbox hg) | ((with_reducible refine gate_dst (N := 3) rfl ?_); refine box_event ?hg (N := 3) ?hd (cs := #[.int .i64 a1_0, .int .u64 a1_1, .int .u64 a1_2]) (t := 61) ?hr ?_; (case hd => rfl); (case hg => rfl); (case hr => first | (go_simp; done) | (go_simp; rfl)); intro gb381 hg w70 hbox hb; have n0_ := aA (blk_below (g := gb380) (o := .cells #[.int .i64 a0_0, .int .i64 a0_1] 39 (0, 0)) (bku BK380.out) hb); have n1_ := aA (below_step (bls HB.out) hb); have n2_ := aA (hbox); have n3_ := aA ((by rw [hg]; exact (below_size (bls HB.out)) : w.heap.size ≤ gb381)); have n4_ := aA ((by rw [hg]; exact (below_size (bls HB.out)) : w.heap.size ≤ gb381)); have n5_ := aA ((by rw [hg]; exact Nat.ne_of_lt (blk_lt (g := gb380) (o := .cells #[.int .i64 a0_0, .int .i64 a0_1] 39 (0, 0)) (bku BK380.out)) : gb380 ≠ gb381)); have n6_ := aA ((by rw [hg]; exact Nat.ne_of_gt (blk_lt (g := gb380) (o := .cells #[.int .i64 a0_0, .int .i64 a0_1] 39 (0, 0)) (bku BK380.out)) : gb381 ≠ gb380)); clear BK380 HB; have BK380 := n0_; have HB := n1_; have BK381 := n2_; have GW381 := n3_; have GE381 := n4_; have NB380_381 := n5_; have NB381_380 := n6_; clear n0_ n1_ n2_ n3_ n4_ n5_ n6_ hb hbox hg) | ((with_reducible refine gate_dst (N := 4) rfl ?_); refine box_event ?hg (N := 4) ?hd (cs := #[.int .i64 0, .int .i64 0, .int .u64 0, .int .u64 0]) (t := 30) ?hr ?_; (case hd => rfl); (case hg => rfl); (case hr => first | (go_simp; done) | (go_simp; rfl)); intro gb382 hg w71 hbox hb; have n0_ := aA (blk_below (g := gb380) (o := .cells #[.int .i64 a0_0, .int .i64 a0_1] 39 (0, 0)) (bku BK380.out) hb); have n1_ := aA (blk_below (g := gb381) (o := .cells #[.int .i64 a1_0, .int .u64 a1_1, .int .u64 a1_2] 61 (0, 0)) (bku BK381.out) hb); have n2_ := aA (below_step (bls HB.out) hb); have n3_ := aA (hbox); have n4_ := aA ((by rw [hg]; exact (below_size (bls HB.out)) : w.heap.size ≤ gb382)); have n5_ := aA ((by rw [hg]; exact (below_size (bls HB.out)) : w.heap.size ≤ gb382)); have n6_ := aA ((by rw [hg]; exact Nat.ne_of_lt (blk_lt (g := gb380) (o := .cells #[.int .i64 a0_0, .int .i64 a0_1] 39 (0, 0)) (bku BK380.out)) : gb380 ≠ gb382)); have n7_ := aA ((by rw [hg]; exact Nat.ne_of_gt (blk_lt (g := gb380) (o := .cells #[.int .i64 a0_0, .int .i64 a0_1] 39 (0, 0)) (bku BK380.out)) : gb382 ≠ gb380)); have n8_ := aA ((by rw [hg]; exact Nat.ne_of_lt (blk_lt (g := gb381) (o := .cells #[.int .i64 a1_0, .int .u64 a1_1, .int .u64 a1_2] 61 (0, 0)) (bku BK381.out)) : gb381 ≠ gb382)); have n9_ := aA ((by rw [hg]; exact Nat.ne_of_gt (blk_lt (g := gb381) (o := .cells #[.int .i64 a1_0, .int .u64 a1_1, .int .u64 a1_2] 61 (0, 0)) (bku BK381.out)) : gb382 ≠ gb381)); clear BK380 BK381 HB; have BK380 := n0_; have BK381 := n1_; have HB := n2_; have BK382 := n3_; have GW382 := n4_; have GE382 := n5_; have NB380_382 := n6_; have NB382_380 := n7_; have NB381_382 := n8_; have NB382_381 := n9_; clear n0_ n1_ n2_ n3_ n4_ n5_ n6_ n7_ n8_ n9_ hb hbox hg; have hnb72 := NB381_380.out; have hnc72 := NB380_381.out; have hnb73 := NB381_382.out; have hnc73 := NB382_381.out; have hcz74_0 : w71.cell? ⟨gb381, 0, none⟩ = some (.int .i64 a1_0) := (blk_cell BK381.out 0).trans rfl; have hcz74_1 : w71.cell? ⟨gb381, 1, none⟩ = some (.int .u64 a1_1) := (blk_cell BK381.out 1).trans rfl; have hcz74_2 : w71.cell? ⟨gb381, 2, none⟩ = some (.int .u64 a1_2) := (blk_cell BK381.out 2).trans rfl; have hfz74_0 := blk_frozen BK381.out 0; have hfz74_1 := blk_frozen BK381.out 1; have hfz74_2 := blk_frozen BK381.out 2; have hnb75 := NB382_380.out; have hnc75 := NB380_382.out; have hcz76_0 : w71.cell? ⟨gb382, 0, none⟩ = some (.int .i64 0) := (blk_cell BK382.out 0).trans rfl; have hcz76_1 : w71.cell? ⟨gb382, 1, none⟩ = some (.int .i64 0) := (blk_cell BK382.out 1).trans rfl; have hcz76_2 : w71.cell? ⟨gb382, 2, none⟩ = some (.int .u64 0) := (blk_cell BK382.out 2).trans rfl; have hcz76_3 : w71.cell? ⟨gb382, 3, none⟩ = some (.int .u64 0) := (blk_cell BK382.out 3).trans rfl; have hfz76_0 := blk_frozen BK382.out 0; have hfz76_1 := blk_frozen BK382.out 1; have hfz76_2 := blk_frozen BK382.out 2; have hfz76_3 := blk_frozen BK382.out 3))
      refine bodyPost_ret (results_ct rfl _ _ gb382 30 #[.int .i64 0, .int .i64 0, .int .u64 0, .int .u64 0] (0, 0) _ rfl (by (with_reducible repeat (first | refine blk_drewN ?_ _ | refine blk_drew ?_ | refine blk_alloc ?_ _)); refine blk_put (cs := #[.int .i64 0, .int .i64 0, .int .u64 0, .int .u64 0]) ?_ 3 _ rfl; (with_reducible repeat (first | refine blk_drewN ?_ _ | refine blk_drew ?_ | refine blk_alloc ?_ _)); refine blk_put (cs := #[.int .i64 0, .int .i64 0, .int .u64 0, .int .u64 0]) ?_ 2 _ rfl; (with_reducible repeat (first | refine blk_drewN ?_ _ | refine blk_drew ?_ | refine blk_alloc ?_ _)); refine blk_put (cs := #[.int .i64 0, .int .i64 0, .int .u64 0, .int .u64 0]) ?_ 1 _ rfl; (with_reducible repeat (first | refine blk_drewN ?_ _ | refine blk_drew ?_ | refine blk_alloc ?_ _)); refine blk_put (cs := #[.int .i64 0, .int .i64 0, .int .u64 0, .int .u64 0]) ?_ 0 _ rfl; (with_reducible repeat (first | refine blk_drewN ?_ _ | refine blk_drew ?_ | refine blk_alloc ?_ _)); exact BK382.out) Try.underlying30 rfl (by kernel_rfl)) rfl ?_
      exact ⟨by first | rfl | (simp [errW_none, errW_some] <;> rfl) | (simp [*, errW_none, errW_some] <;> rfl), by repeat (first | (with_reducible first | exact HB.out | apply below_alloc | apply pw_below_drewN | apply below_drew1 | refine below_set ?_ GE380.out | refine below_set ?_ GE381.out | refine below_set ?_ GE382.out) | exact HB.out)⟩

/-! ### treillageref16_Given: function 50 -/
def treillageref16_Given.f (a0_0 : Int) (a0_1 : Int) (a1_0 : Int) (a1_1 : Int) (a1_2 : Int) (a2 : Int) : Option (Int × Int × Int × Bool) := if a1_0 = 0 then (if a2 = (IntKind.u64.wrap (a1_1 + 1)) then (some (1, a1_1, a1_2, false)) else (some (a1_0, a1_1, a1_2, false))) else (if a1_0 = 1 then (some (2, a1_1, a2, false)) else (some (0, IntKind.u64.wrap (a1_1 + 1), a1_2, true)))
set_option maxHeartbeats 8000000 in
set_option maxRecDepth 100000 in
theorem treillageref16_Given.calls (a0_0 : Int) (a0_1 : Int) (a1_0 : Int) (a1_1 : Int) (a1_2 : Int) (a2 : Int) (r1 : Int) (r2 : Int) (r3 : Int) (r4 : Bool) (w : World) (h : treillageref16_Given.f a0_0 a0_1 a1_0 a1_1 a1_2 a2 = some (r1, r2, r3, r4)) :
  Calls Try.prog 50 #[.agg #[.int .i64 a0_0, .int .i64 a0_1], .agg #[.int .i64 a1_0, .int .u64 a1_1, .int .u64 a1_2], .int .u64 a2] w fun e w' => e = .returned (.tuple #[.agg #[.int .i64 r1, .int .u64 r2, .int .u64 r3], .bool r4]) ∧ Below w.heap.size w w' := by
 have hu39 := Try.underlying39
 have hu64 := Try.underlying64
 have HB := aA (Below.refl w.heap.size w)
 have H : (if a1_0 = 0 then (if a2 = (IntKind.u64.wrap (a1_1 + 1)) then (some (1, a1_1, a1_2, false)) else (some (a1_0, a1_1, a1_2, false))) else (if a1_0 = 1 then (some (2, a1_1, a2, false)) else (some (0, IntKind.u64.wrap (a1_1 + 1), a1_2, true)))) = some (r1, r2, r3, r4) := h
 clear h
 by_cases c4 : a1_0 = 0
 ·rw [if_pos c4] at H
  have c4b0 : (a1_0 == 0) = true := beq_iff_eq.mpr c4
  have c4b1 : (a1_0 != 0) = false := bne_eq_false_iff_eq.mpr c4
  clear c4
  by_cases c5 : a2 = (IntKind.u64.wrap (a1_1 + 1))
  ·rw [if_pos c5] at H
   have c5b0 : (a2 == (IntKind.u64.wrap (a1_1 + 1))) = true := beq_iff_eq.mpr c5
   have c5b1 : (a2 != (IntKind.u64.wrap (a1_1 + 1))) = false := bne_eq_false_iff_eq.mpr c5
   clear c5
   simp only [Option.some.injEq, Prod.mk.injEq] at H
   obtain ⟨rfl, rfl, rfl, rfl⟩ := H
   go_enter Try.func50, Try.ntmps50
   go_wp2_with (first | ((with_reducible refine gate_dst (N := 3) rfl ?_); refine box_event ?hg (N := 3) ?hd (cs := #[.int .i64 a0_0, .int .i64 a0_1]) (t := 39) ?hr ?_; (case hd => rfl); (case hg => rfl); (case hr => first | (go_simp; done) | (go_simp; rfl)); intro gb388 hg w6 hbox hb; have n0_ := aA (below_step (blw HB.out) hb); have n1_ := aA (hbox); have n2_ := aA ((by rw [hg]; exact (below_size (blw HB.out)) : w.heap.size ≤ gb388)); have n3_ := aA ((by rw [hg]; exact (below_size (blw HB.out)) : w.heap.size ≤ gb388)); clear HB; have HB := n0_; have BK388 := n1_; have GW388 := n2_; have GE388 := n3_; clear n0_ n1_ n2_ n3_ hb hbox hg) | ((with_reducible refine gate_dst (N := 4) rfl ?_); refine box_event ?hg (N := 4) ?hd (cs := #[.int .i64 a1_0, .int .u64 a1_1, .int .u64 a1_2]) (t := 64) ?hr ?_; (case hd => rfl); (case hg => rfl); (case hr => first | (go_simp; done) | (go_simp; rfl)); intro gb389 hg w7 hbox hb; have n0_ := aA (blk_below (g := gb388) (o := .cells #[.int .i64 a0_0, .int .i64 a0_1] 39 (0, 0)) (bku BK388.out) hb); have n1_ := aA (below_step (bls HB.out) hb); have n2_ := aA (hbox); have n3_ := aA ((by rw [hg]; exact (below_size (bls HB.out)) : w.heap.size ≤ gb389)); have n4_ := aA ((by rw [hg]; exact (below_size (bls HB.out)) : w.heap.size ≤ gb389)); have n5_ := aA ((by rw [hg]; exact Nat.ne_of_lt (blk_lt (g := gb388) (o := .cells #[.int .i64 a0_0, .int .i64 a0_1] 39 (0, 0)) (bku BK388.out)) : gb388 ≠ gb389)); have n6_ := aA ((by rw [hg]; exact Nat.ne_of_gt (blk_lt (g := gb388) (o := .cells #[.int .i64 a0_0, .int .i64 a0_1] 39 (0, 0)) (bku BK388.out)) : gb389 ≠ gb388)); clear BK388 HB; have BK388 := n0_; have HB := n1_; have BK389 := n2_; have GW389 := n3_; have GE389 := n4_; have NB388_389 := n5_; have NB389_388 := n6_; clear n0_ n1_ n2_ n3_ n4_ n5_ n6_ hb hbox hg) | ((with_reducible refine gate_dst (N := 6) rfl ?_); refine box_event ?hg (N := 6) ?hd (cs := #[.int .i64 0, .int .u64 0, .int .u64 0]) (t := 64) ?hr ?_; (case hd => rfl); (case hg => rfl); (case hr => first | (go_simp; done) | (go_simp; rfl)); intro gb390 hg w8 hbox hb; have n0_ := aA (blk_below (g := gb388) (o := .cells #[.int .i64 a0_0, .int .i64 a0_1] 39 (0, 0)) (bku BK388.out) hb); have n1_ := aA (blk_below (g := gb389) (o := .cells #[.int .i64 a1_0, .int .u64 a1_1, .int .u64 a1_2] 64 (0, 0)) (bku BK389.out) hb); have n2_ := aA (below_step (bls HB.out) hb); have n3_ := aA (hbox); have n4_ := aA ((by rw [hg]; exact (below_size (bls HB.out)) : w.heap.size ≤ gb390)); have n5_ := aA ((by rw [hg]; exact (below_size (bls HB.out)) : w.heap.size ≤ gb390)); have n6_ := aA ((by rw [hg]; exact Nat.ne_of_lt (blk_lt (g := gb388) (o := .cells #[.int .i64 a0_0, .int .i64 a0_1] 39 (0, 0)) (bku BK388.out)) : gb388 ≠ gb390)); have n7_ := aA ((by rw [hg]; exact Nat.ne_of_gt (blk_lt (g := gb388) (o := .cells #[.int .i64 a0_0, .int .i64 a0_1] 39 (0, 0)) (bku BK388.out)) : gb390 ≠ gb388)); have n8_ := aA ((by rw [hg]; exact Nat.ne_of_lt (blk_lt (g := gb389) (o := .cells #[.int .i64 a1_0, .int .u64 a1_1, .int .u64 a1_2] 64 (0, 0)) (bku BK389.out)) : gb389 ≠ gb390)); have n9_ := aA ((by rw [hg]; exact Nat.ne_of_gt (blk_lt (g := gb389) (o := .cells #[.int .i64 a1_0, .int .u64 a1_1, .int .u64 a1_2] 64 (0, 0)) (bku BK389.out)) : gb390 ≠ gb389)); clear BK388 BK389 HB; have BK388 := n0_; have BK389 := n1_; have HB := n2_; have BK390 := n3_; have GW390 := n4_; have GE390 := n5_; have NB388_390 := n6_; have NB390_388 := n7_; have NB389_390 := n8_; have NB390_389 := n9_; clear n0_ n1_ n2_ n3_ n4_ n5_ n6_ n7_ n8_ n9_ hb hbox hg; have hnb9 := NB389_388.out; have hnc9 := NB388_389.out; have hnb10 := NB389_390.out; have hnc10 := NB390_389.out; have hcz11_0 : w8.cell? ⟨gb389, 0, none⟩ = some (.int .i64 a1_0) := (blk_cell BK389.out 0).trans rfl; have hcz11_1 : w8.cell? ⟨gb389, 1, none⟩ = some (.int .u64 a1_1) := (blk_cell BK389.out 1).trans rfl; have hcz11_2 : w8.cell? ⟨gb389, 2, none⟩ = some (.int .u64 a1_2) := (blk_cell BK389.out 2).trans rfl; have hfz11_0 := blk_frozen BK389.out 0; have hfz11_1 := blk_frozen BK389.out 1; have hfz11_2 := blk_frozen BK389.out 2; have hnb12 := NB390_388.out; have hnc12 := NB388_390.out; have hcz13_0 : w8.cell? ⟨gb390, 0, none⟩ = some (.int .i64 0) := (blk_cell BK390.out 0).trans rfl; have hcz13_1 : w8.cell? ⟨gb390, 1, none⟩ = some (.int .u64 0) := (blk_cell BK390.out 1).trans rfl; have hcz13_2 : w8.cell? ⟨gb390, 2, none⟩ = some (.int .u64 0) := (blk_cell BK390.out 2).trans rfl; have hfz13_0 := blk_frozen BK390.out 0; have hfz13_1 := blk_frozen BK390.out 1; have hfz13_2 := blk_frozen BK390.out 2))
   refine bodyPost_ret (results_ct rfl _ _ gb390 64 #[.int .i64 1, .int .u64 a1_1, .int .u64 a1_2] (0, 0) _ rfl (by (with_reducible repeat (first | refine blk_drewN ?_ _ | refine blk_drew ?_ | refine blk_alloc ?_ _)); refine blk_put (cs := #[.int .i64 1, .int .u64 a1_1, .int .u64 0]) ?_ 2 _ rfl; (with_reducible repeat (first | refine blk_drewN ?_ _ | refine blk_drew ?_ | refine blk_alloc ?_ _)); refine blk_put (cs := #[.int .i64 1, .int .u64 0, .int .u64 0]) ?_ 1 _ rfl; (with_reducible repeat (first | refine blk_drewN ?_ _ | refine blk_drew ?_ | refine blk_alloc ?_ _)); refine blk_put (cs := #[.int .i64 0, .int .u64 0, .int .u64 0]) ?_ 0 _ rfl; (with_reducible repeat (first | refine blk_drewN ?_ _ | refine blk_drew ?_ | refine blk_alloc ?_ _)); refine blk_far ?_ NB390_389.out _; (with_reducible repeat (first | refine blk_drewN ?_ _ | refine blk_drew ?_ | refine blk_alloc ?_ _)); exact BK390.out) Try.underlying64 rfl (by kernel_rfl)) rfl ?_
   exact ⟨by first | rfl | (simp [errW_none, errW_some] <;> rfl) | (simp [*, errW_none, errW_some] <;> rfl), by repeat (first | (with_reducible first | exact HB.out | apply below_alloc | apply pw_below_drewN | apply below_drew1 | refine below_set ?_ GE388.out | refine below_set ?_ GE389.out | refine below_set ?_ GE390.out) | exact HB.out)⟩
  ·rw [if_neg c5] at H
   have c5b0 : (a2 == (IntKind.u64.wrap (a1_1 + 1))) = false := beq_eq_false_iff_ne.mpr c5
   have c5b1 : (a2 != (IntKind.u64.wrap (a1_1 + 1))) = true := bne_iff_ne.mpr c5
   simp only [Option.some.injEq, Prod.mk.injEq] at H
   obtain ⟨rfl, rfl, rfl, rfl⟩ := H
   go_enter Try.func50, Try.ntmps50
   go_wp2_with (first | ((with_reducible refine gate_dst (N := 3) rfl ?_); refine box_event ?hg (N := 3) ?hd (cs := #[.int .i64 a0_0, .int .i64 a0_1]) (t := 39) ?hr ?_; (case hd => rfl); (case hg => rfl); (case hr => first | (go_simp; done) | (go_simp; rfl)); intro gb388 hg w14 hbox hb; have n0_ := aA (below_step (blw HB.out) hb); have n1_ := aA (hbox); have n2_ := aA ((by rw [hg]; exact (below_size (blw HB.out)) : w.heap.size ≤ gb388)); have n3_ := aA ((by rw [hg]; exact (below_size (blw HB.out)) : w.heap.size ≤ gb388)); clear HB; have HB := n0_; have BK388 := n1_; have GW388 := n2_; have GE388 := n3_; clear n0_ n1_ n2_ n3_ hb hbox hg) | ((with_reducible refine gate_dst (N := 4) rfl ?_); refine box_event ?hg (N := 4) ?hd (cs := #[.int .i64 a1_0, .int .u64 a1_1, .int .u64 a1_2]) (t := 64) ?hr ?_; (case hd => rfl); (case hg => rfl); (case hr => first | (go_simp; done) | (go_simp; rfl)); intro gb389 hg w15 hbox hb; have n0_ := aA (blk_below (g := gb388) (o := .cells #[.int .i64 a0_0, .int .i64 a0_1] 39 (0, 0)) (bku BK388.out) hb); have n1_ := aA (below_step (bls HB.out) hb); have n2_ := aA (hbox); have n3_ := aA ((by rw [hg]; exact (below_size (bls HB.out)) : w.heap.size ≤ gb389)); have n4_ := aA ((by rw [hg]; exact (below_size (bls HB.out)) : w.heap.size ≤ gb389)); have n5_ := aA ((by rw [hg]; exact Nat.ne_of_lt (blk_lt (g := gb388) (o := .cells #[.int .i64 a0_0, .int .i64 a0_1] 39 (0, 0)) (bku BK388.out)) : gb388 ≠ gb389)); have n6_ := aA ((by rw [hg]; exact Nat.ne_of_gt (blk_lt (g := gb388) (o := .cells #[.int .i64 a0_0, .int .i64 a0_1] 39 (0, 0)) (bku BK388.out)) : gb389 ≠ gb388)); clear BK388 HB; have BK388 := n0_; have HB := n1_; have BK389 := n2_; have GW389 := n3_; have GE389 := n4_; have NB388_389 := n5_; have NB389_388 := n6_; clear n0_ n1_ n2_ n3_ n4_ n5_ n6_ hb hbox hg) | ((with_reducible refine gate_dst (N := 6) rfl ?_); refine box_event ?hg (N := 6) ?hd (cs := #[.int .i64 0, .int .u64 0, .int .u64 0]) (t := 64) ?hr ?_; (case hd => rfl); (case hg => rfl); (case hr => first | (go_simp; done) | (go_simp; rfl)); intro gb390 hg w16 hbox hb; have n0_ := aA (blk_below (g := gb388) (o := .cells #[.int .i64 a0_0, .int .i64 a0_1] 39 (0, 0)) (bku BK388.out) hb); have n1_ := aA (blk_below (g := gb389) (o := .cells #[.int .i64 a1_0, .int .u64 a1_1, .int .u64 a1_2] 64 (0, 0)) (bku BK389.out) hb); have n2_ := aA (below_step (bls HB.out) hb); have n3_ := aA (hbox); have n4_ := aA ((by rw [hg]; exact (below_size (bls HB.out)) : w.heap.size ≤ gb390)); have n5_ := aA ((by rw [hg]; exact (below_size (bls HB.out)) : w.heap.size ≤ gb390)); have n6_ := aA ((by rw [hg]; exact Nat.ne_of_lt (blk_lt (g := gb388) (o := .cells #[.int .i64 a0_0, .int .i64 a0_1] 39 (0, 0)) (bku BK388.out)) : gb388 ≠ gb390)); have n7_ := aA ((by rw [hg]; exact Nat.ne_of_gt (blk_lt (g := gb388) (o := .cells #[.int .i64 a0_0, .int .i64 a0_1] 39 (0, 0)) (bku BK388.out)) : gb390 ≠ gb388)); have n8_ := aA ((by rw [hg]; exact Nat.ne_of_lt (blk_lt (g := gb389) (o := .cells #[.int .i64 a1_0, .int .u64 a1_1, .int .u64 a1_2] 64 (0, 0)) (bku BK389.out)) : gb389 ≠ gb390)); have n9_ := aA ((by rw [hg]; exact Nat.ne_of_gt (blk_lt (g := gb389) (o := .cells #[.int .i64 a1_0, .int .u64 a1_1, .int .u64 a1_2] 64 (0, 0)) (bku BK389.out)) : gb390 ≠ gb389)); clear BK388 BK389 HB; have BK388 := n0_; have BK389 := n1_; have HB := n2_; have BK390 := n3_; have GW390 := n4_; have GE390 := n5_; have NB388_390 := n6_; have NB390_388 := n7_; have NB389_390 := n8_; have NB390_389 := n9_; clear n0_ n1_ n2_ n3_ n4_ n5_ n6_ n7_ n8_ n9_ hb hbox hg; have hnb17 := NB389_388.out; have hnc17 := NB388_389.out; have hnb18 := NB389_390.out; have hnc18 := NB390_389.out; have hcz19_0 : w16.cell? ⟨gb389, 0, none⟩ = some (.int .i64 a1_0) := (blk_cell BK389.out 0).trans rfl; have hcz19_1 : w16.cell? ⟨gb389, 1, none⟩ = some (.int .u64 a1_1) := (blk_cell BK389.out 1).trans rfl; have hcz19_2 : w16.cell? ⟨gb389, 2, none⟩ = some (.int .u64 a1_2) := (blk_cell BK389.out 2).trans rfl; have hfz19_0 := blk_frozen BK389.out 0; have hfz19_1 := blk_frozen BK389.out 1; have hfz19_2 := blk_frozen BK389.out 2; have hnb20 := NB390_388.out; have hnc20 := NB388_390.out; have hcz21_0 : w16.cell? ⟨gb390, 0, none⟩ = some (.int .i64 0) := (blk_cell BK390.out 0).trans rfl; have hcz21_1 : w16.cell? ⟨gb390, 1, none⟩ = some (.int .u64 0) := (blk_cell BK390.out 1).trans rfl; have hcz21_2 : w16.cell? ⟨gb390, 2, none⟩ = some (.int .u64 0) := (blk_cell BK390.out 2).trans rfl; have hfz21_0 := blk_frozen BK390.out 0; have hfz21_1 := blk_frozen BK390.out 1; have hfz21_2 := blk_frozen BK390.out 2))
   refine bodyPost_ret (results_ct rfl _ _ gb390 64 #[.int .i64 a1_0, .int .u64 a1_1, .int .u64 a1_2] (0, 0) _ rfl (by (with_reducible repeat (first | refine blk_drewN ?_ _ | refine blk_drew ?_ | refine blk_alloc ?_ _)); refine blk_put (cs := #[.int .i64 a1_0, .int .u64 a1_1, .int .u64 0]) ?_ 2 _ rfl; (with_reducible repeat (first | refine blk_drewN ?_ _ | refine blk_drew ?_ | refine blk_alloc ?_ _)); refine blk_put (cs := #[.int .i64 a1_0, .int .u64 0, .int .u64 0]) ?_ 1 _ rfl; (with_reducible repeat (first | refine blk_drewN ?_ _ | refine blk_drew ?_ | refine blk_alloc ?_ _)); refine blk_put (cs := #[.int .i64 0, .int .u64 0, .int .u64 0]) ?_ 0 _ rfl; (with_reducible repeat (first | refine blk_drewN ?_ _ | refine blk_drew ?_ | refine blk_alloc ?_ _)); exact BK390.out) Try.underlying64 rfl (by kernel_rfl)) rfl ?_
   exact ⟨by first | rfl | (simp [errW_none, errW_some] <;> rfl) | (simp [*, errW_none, errW_some] <;> rfl), by repeat (first | (with_reducible first | exact HB.out | apply below_alloc | apply pw_below_drewN | apply below_drew1 | refine below_set ?_ GE388.out | refine below_set ?_ GE389.out | refine below_set ?_ GE390.out) | exact HB.out)⟩
 ·rw [if_neg c4] at H
  have c4b0 : (a1_0 == 0) = false := beq_eq_false_iff_ne.mpr c4
  have c4b1 : (a1_0 != 0) = true := bne_iff_ne.mpr c4
  by_cases c22 : a1_0 = 1
  ·rw [if_pos c22] at H
   have c22b0 : (a1_0 == 1) = true := beq_iff_eq.mpr c22
   have c22b1 : (a1_0 != 1) = false := bne_eq_false_iff_eq.mpr c22
   clear c22
   simp only [Option.some.injEq, Prod.mk.injEq] at H
   obtain ⟨rfl, rfl, rfl, rfl⟩ := H
   go_enter Try.func50, Try.ntmps50
   go_wp2_with (first | ((with_reducible refine gate_dst (N := 3) rfl ?_); refine box_event ?hg (N := 3) ?hd (cs := #[.int .i64 a0_0, .int .i64 a0_1]) (t := 39) ?hr ?_; (case hd => rfl); (case hg => rfl); (case hr => first | (go_simp; done) | (go_simp; rfl)); intro gb388 hg w23 hbox hb; have n0_ := aA (below_step (blw HB.out) hb); have n1_ := aA (hbox); have n2_ := aA ((by rw [hg]; exact (below_size (blw HB.out)) : w.heap.size ≤ gb388)); have n3_ := aA ((by rw [hg]; exact (below_size (blw HB.out)) : w.heap.size ≤ gb388)); clear HB; have HB := n0_; have BK388 := n1_; have GW388 := n2_; have GE388 := n3_; clear n0_ n1_ n2_ n3_ hb hbox hg) | ((with_reducible refine gate_dst (N := 4) rfl ?_); refine box_event ?hg (N := 4) ?hd (cs := #[.int .i64 a1_0, .int .u64 a1_1, .int .u64 a1_2]) (t := 64) ?hr ?_; (case hd => rfl); (case hg => rfl); (case hr => first | (go_simp; done) | (go_simp; rfl)); intro gb389 hg w24 hbox hb; have n0_ := aA (blk_below (g := gb388) (o := .cells #[.int .i64 a0_0, .int .i64 a0_1] 39 (0, 0)) (bku BK388.out) hb); have n1_ := aA (below_step (bls HB.out) hb); have n2_ := aA (hbox); have n3_ := aA ((by rw [hg]; exact (below_size (bls HB.out)) : w.heap.size ≤ gb389)); have n4_ := aA ((by rw [hg]; exact (below_size (bls HB.out)) : w.heap.size ≤ gb389)); have n5_ := aA ((by rw [hg]; exact Nat.ne_of_lt (blk_lt (g := gb388) (o := .cells #[.int .i64 a0_0, .int .i64 a0_1] 39 (0, 0)) (bku BK388.out)) : gb388 ≠ gb389)); have n6_ := aA ((by rw [hg]; exact Nat.ne_of_gt (blk_lt (g := gb388) (o := .cells #[.int .i64 a0_0, .int .i64 a0_1] 39 (0, 0)) (bku BK388.out)) : gb389 ≠ gb388)); clear BK388 HB; have BK388 := n0_; have HB := n1_; have BK389 := n2_; have GW389 := n3_; have GE389 := n4_; have NB388_389 := n5_; have NB389_388 := n6_; clear n0_ n1_ n2_ n3_ n4_ n5_ n6_ hb hbox hg) | ((with_reducible refine gate_dst (N := 6) rfl ?_); refine box_event ?hg (N := 6) ?hd (cs := #[.int .i64 0, .int .u64 0, .int .u64 0]) (t := 64) ?hr ?_; (case hd => rfl); (case hg => rfl); (case hr => first | (go_simp; done) | (go_simp; rfl)); intro gb390 hg w25 hbox hb; have n0_ := aA (blk_below (g := gb388) (o := .cells #[.int .i64 a0_0, .int .i64 a0_1] 39 (0, 0)) (bku BK388.out) hb); have n1_ := aA (blk_below (g := gb389) (o := .cells #[.int .i64 a1_0, .int .u64 a1_1, .int .u64 a1_2] 64 (0, 0)) (bku BK389.out) hb); have n2_ := aA (below_step (bls HB.out) hb); have n3_ := aA (hbox); have n4_ := aA ((by rw [hg]; exact (below_size (bls HB.out)) : w.heap.size ≤ gb390)); have n5_ := aA ((by rw [hg]; exact (below_size (bls HB.out)) : w.heap.size ≤ gb390)); have n6_ := aA ((by rw [hg]; exact Nat.ne_of_lt (blk_lt (g := gb388) (o := .cells #[.int .i64 a0_0, .int .i64 a0_1] 39 (0, 0)) (bku BK388.out)) : gb388 ≠ gb390)); have n7_ := aA ((by rw [hg]; exact Nat.ne_of_gt (blk_lt (g := gb388) (o := .cells #[.int .i64 a0_0, .int .i64 a0_1] 39 (0, 0)) (bku BK388.out)) : gb390 ≠ gb388)); have n8_ := aA ((by rw [hg]; exact Nat.ne_of_lt (blk_lt (g := gb389) (o := .cells #[.int .i64 a1_0, .int .u64 a1_1, .int .u64 a1_2] 64 (0, 0)) (bku BK389.out)) : gb389 ≠ gb390)); have n9_ := aA ((by rw [hg]; exact Nat.ne_of_gt (blk_lt (g := gb389) (o := .cells #[.int .i64 a1_0, .int .u64 a1_1, .int .u64 a1_2] 64 (0, 0)) (bku BK389.out)) : gb390 ≠ gb389)); clear BK388 BK389 HB; have BK388 := n0_; have BK389 := n1_; have HB := n2_; have BK390 := n3_; have GW390 := n4_; have GE390 := n5_; have NB388_390 := n6_; have NB390_388 := n7_; have NB389_390 := n8_; have NB390_389 := n9_; clear n0_ n1_ n2_ n3_ n4_ n5_ n6_ n7_ n8_ n9_ hb hbox hg; have hnb26 := NB389_388.out; have hnc26 := NB388_389.out; have hnb27 := NB389_390.out; have hnc27 := NB390_389.out; have hcz28_0 : w25.cell? ⟨gb389, 0, none⟩ = some (.int .i64 a1_0) := (blk_cell BK389.out 0).trans rfl; have hcz28_1 : w25.cell? ⟨gb389, 1, none⟩ = some (.int .u64 a1_1) := (blk_cell BK389.out 1).trans rfl; have hcz28_2 : w25.cell? ⟨gb389, 2, none⟩ = some (.int .u64 a1_2) := (blk_cell BK389.out 2).trans rfl; have hfz28_0 := blk_frozen BK389.out 0; have hfz28_1 := blk_frozen BK389.out 1; have hfz28_2 := blk_frozen BK389.out 2; have hnb29 := NB390_388.out; have hnc29 := NB388_390.out; have hcz30_0 : w25.cell? ⟨gb390, 0, none⟩ = some (.int .i64 0) := (blk_cell BK390.out 0).trans rfl; have hcz30_1 : w25.cell? ⟨gb390, 1, none⟩ = some (.int .u64 0) := (blk_cell BK390.out 1).trans rfl; have hcz30_2 : w25.cell? ⟨gb390, 2, none⟩ = some (.int .u64 0) := (blk_cell BK390.out 2).trans rfl; have hfz30_0 := blk_frozen BK390.out 0; have hfz30_1 := blk_frozen BK390.out 1; have hfz30_2 := blk_frozen BK390.out 2))
   refine bodyPost_ret (results_ct rfl _ _ gb390 64 #[.int .i64 2, .int .u64 a1_1, .int .u64 a2] (0, 0) _ rfl (by (with_reducible repeat (first | refine blk_drewN ?_ _ | refine blk_drew ?_ | refine blk_alloc ?_ _)); refine blk_put (cs := #[.int .i64 2, .int .u64 a1_1, .int .u64 0]) ?_ 2 _ rfl; (with_reducible repeat (first | refine blk_drewN ?_ _ | refine blk_drew ?_ | refine blk_alloc ?_ _)); refine blk_put (cs := #[.int .i64 2, .int .u64 0, .int .u64 0]) ?_ 1 _ rfl; (with_reducible repeat (first | refine blk_drewN ?_ _ | refine blk_drew ?_ | refine blk_alloc ?_ _)); refine blk_put (cs := #[.int .i64 0, .int .u64 0, .int .u64 0]) ?_ 0 _ rfl; (with_reducible repeat (first | refine blk_drewN ?_ _ | refine blk_drew ?_ | refine blk_alloc ?_ _)); refine blk_far ?_ NB390_389.out _; (with_reducible repeat (first | refine blk_drewN ?_ _ | refine blk_drew ?_ | refine blk_alloc ?_ _)); refine blk_far ?_ NB390_389.out _; (with_reducible repeat (first | refine blk_drewN ?_ _ | refine blk_drew ?_ | refine blk_alloc ?_ _)); exact BK390.out) Try.underlying64 rfl (by kernel_rfl)) rfl ?_
   exact ⟨by first | rfl | (simp [errW_none, errW_some] <;> rfl) | (simp [*, errW_none, errW_some] <;> rfl), by repeat (first | (with_reducible first | exact HB.out | apply below_alloc | apply pw_below_drewN | apply below_drew1 | refine below_set ?_ GE388.out | refine below_set ?_ GE389.out | refine below_set ?_ GE390.out) | exact HB.out)⟩
  ·rw [if_neg c22] at H
   have c22b0 : (a1_0 == 1) = false := beq_eq_false_iff_ne.mpr c22
   have c22b1 : (a1_0 != 1) = true := bne_iff_ne.mpr c22
   simp only [Option.some.injEq, Prod.mk.injEq] at H
   obtain ⟨rfl, rfl, rfl, rfl⟩ := H
   go_enter Try.func50, Try.ntmps50
   go_wp2_with (first | ((with_reducible refine gate_dst (N := 3) rfl ?_); refine box_event ?hg (N := 3) ?hd (cs := #[.int .i64 a0_0, .int .i64 a0_1]) (t := 39) ?hr ?_; (case hd => rfl); (case hg => rfl); (case hr => first | (go_simp; done) | (go_simp; rfl)); intro gb388 hg w31 hbox hb; have n0_ := aA (below_step (blw HB.out) hb); have n1_ := aA (hbox); have n2_ := aA ((by rw [hg]; exact (below_size (blw HB.out)) : w.heap.size ≤ gb388)); have n3_ := aA ((by rw [hg]; exact (below_size (blw HB.out)) : w.heap.size ≤ gb388)); clear HB; have HB := n0_; have BK388 := n1_; have GW388 := n2_; have GE388 := n3_; clear n0_ n1_ n2_ n3_ hb hbox hg) | ((with_reducible refine gate_dst (N := 4) rfl ?_); refine box_event ?hg (N := 4) ?hd (cs := #[.int .i64 a1_0, .int .u64 a1_1, .int .u64 a1_2]) (t := 64) ?hr ?_; (case hd => rfl); (case hg => rfl); (case hr => first | (go_simp; done) | (go_simp; rfl)); intro gb389 hg w32 hbox hb; have n0_ := aA (blk_below (g := gb388) (o := .cells #[.int .i64 a0_0, .int .i64 a0_1] 39 (0, 0)) (bku BK388.out) hb); have n1_ := aA (below_step (bls HB.out) hb); have n2_ := aA (hbox); have n3_ := aA ((by rw [hg]; exact (below_size (bls HB.out)) : w.heap.size ≤ gb389)); have n4_ := aA ((by rw [hg]; exact (below_size (bls HB.out)) : w.heap.size ≤ gb389)); have n5_ := aA ((by rw [hg]; exact Nat.ne_of_lt (blk_lt (g := gb388) (o := .cells #[.int .i64 a0_0, .int .i64 a0_1] 39 (0, 0)) (bku BK388.out)) : gb388 ≠ gb389)); have n6_ := aA ((by rw [hg]; exact Nat.ne_of_gt (blk_lt (g := gb388) (o := .cells #[.int .i64 a0_0, .int .i64 a0_1] 39 (0, 0)) (bku BK388.out)) : gb389 ≠ gb388)); clear BK388 HB; have BK388 := n0_; have HB := n1_; have BK389 := n2_; have GW389 := n3_; have GE389 := n4_; have NB388_389 := n5_; have NB389_388 := n6_; clear n0_ n1_ n2_ n3_ n4_ n5_ n6_ hb hbox hg) | ((with_reducible refine gate_dst (N := 6) rfl ?_); refine box_event ?hg (N := 6) ?hd (cs := #[.int .i64 0, .int .u64 0, .int .u64 0]) (t := 64) ?hr ?_; (case hd => rfl); (case hg => rfl); (case hr => first | (go_simp; done) | (go_simp; rfl)); intro gb390 hg w33 hbox hb; have n0_ := aA (blk_below (g := gb388) (o := .cells #[.int .i64 a0_0, .int .i64 a0_1] 39 (0, 0)) (bku BK388.out) hb); have n1_ := aA (blk_below (g := gb389) (o := .cells #[.int .i64 a1_0, .int .u64 a1_1, .int .u64 a1_2] 64 (0, 0)) (bku BK389.out) hb); have n2_ := aA (below_step (bls HB.out) hb); have n3_ := aA (hbox); have n4_ := aA ((by rw [hg]; exact (below_size (bls HB.out)) : w.heap.size ≤ gb390)); have n5_ := aA ((by rw [hg]; exact (below_size (bls HB.out)) : w.heap.size ≤ gb390)); have n6_ := aA ((by rw [hg]; exact Nat.ne_of_lt (blk_lt (g := gb388) (o := .cells #[.int .i64 a0_0, .int .i64 a0_1] 39 (0, 0)) (bku BK388.out)) : gb388 ≠ gb390)); have n7_ := aA ((by rw [hg]; exact Nat.ne_of_gt (blk_lt (g := gb388) (o := .cells #[.int .i64 a0_0, .int .i64 a0_1] 39 (0, 0)) (bku BK388.out)) : gb390 ≠ gb388)); have n8_ := aA ((by rw [hg]; exact Nat.ne_of_lt (blk_lt (g := gb389) (o := .cells #[.int .i64 a1_0, .int .u64 a1_1, .int .u64 a1_2] 64 (0, 0)) (bku BK389.out)) : gb389 ≠ gb390)); have n9_ := aA ((by rw [hg]; exact Nat.ne_of_gt (blk_lt (g := gb389) (o := .cells #[.int .i64 a1_0, .int .u64 a1_1, .int .u64 a1_2] 64 (0, 0)) (bku BK389.out)) : gb390 ≠ gb389)); clear BK388 BK389 HB; have BK388 := n0_; have BK389 := n1_; have HB := n2_; have BK390 := n3_; have GW390 := n4_; have GE390 := n5_; have NB388_390 := n6_; have NB390_388 := n7_; have NB389_390 := n8_; have NB390_389 := n9_; clear n0_ n1_ n2_ n3_ n4_ n5_ n6_ n7_ n8_ n9_ hb hbox hg; have hnb34 := NB389_388.out; have hnc34 := NB388_389.out; have hnb35 := NB389_390.out; have hnc35 := NB390_389.out; have hcz36_0 : w33.cell? ⟨gb389, 0, none⟩ = some (.int .i64 a1_0) := (blk_cell BK389.out 0).trans rfl; have hcz36_1 : w33.cell? ⟨gb389, 1, none⟩ = some (.int .u64 a1_1) := (blk_cell BK389.out 1).trans rfl; have hcz36_2 : w33.cell? ⟨gb389, 2, none⟩ = some (.int .u64 a1_2) := (blk_cell BK389.out 2).trans rfl; have hfz36_0 := blk_frozen BK389.out 0; have hfz36_1 := blk_frozen BK389.out 1; have hfz36_2 := blk_frozen BK389.out 2; have hnb37 := NB390_388.out; have hnc37 := NB388_390.out; have hcz38_0 : w33.cell? ⟨gb390, 0, none⟩ = some (.int .i64 0) := (blk_cell BK390.out 0).trans rfl; have hcz38_1 : w33.cell? ⟨gb390, 1, none⟩ = some (.int .u64 0) := (blk_cell BK390.out 1).trans rfl; have hcz38_2 : w33.cell? ⟨gb390, 2, none⟩ = some (.int .u64 0) := (blk_cell BK390.out 2).trans rfl; have hfz38_0 := blk_frozen BK390.out 0; have hfz38_1 := blk_frozen BK390.out 1; have hfz38_2 := blk_frozen BK390.out 2))
   refine bodyPost_ret (results_ct rfl _ _ gb390 64 #[.int .i64 0, .int .u64 (IntKind.u64.wrap (a1_1 + 1)), .int .u64 a1_2] (0, 0) _ rfl (by (with_reducible repeat (first | refine blk_drewN ?_ _ | refine blk_drew ?_ | refine blk_alloc ?_ _)); refine blk_put (cs := #[.int .i64 0, .int .u64 (IntKind.u64.wrap (a1_1 + 1)), .int .u64 0]) ?_ 2 _ rfl; (with_reducible repeat (first | refine blk_drewN ?_ _ | refine blk_drew ?_ | refine blk_alloc ?_ _)); refine blk_put (cs := #[.int .i64 0, .int .u64 0, .int .u64 0]) ?_ 1 _ rfl; (with_reducible repeat (first | refine blk_drewN ?_ _ | refine blk_drew ?_ | refine blk_alloc ?_ _)); refine blk_put (cs := #[.int .i64 0, .int .u64 0, .int .u64 0]) ?_ 0 _ rfl; (with_reducible repeat (first | refine blk_drewN ?_ _ | refine blk_drew ?_ | refine blk_alloc ?_ _)); refine blk_far ?_ NB390_389.out _; (with_reducible repeat (first | refine blk_drewN ?_ _ | refine blk_drew ?_ | refine blk_alloc ?_ _)); refine blk_far ?_ NB390_389.out _; (with_reducible repeat (first | refine blk_drewN ?_ _ | refine blk_drew ?_ | refine blk_alloc ?_ _)); exact BK390.out) Try.underlying64 rfl (by kernel_rfl)) rfl ?_
   exact ⟨by first | rfl | (simp [errW_none, errW_some] <;> rfl) | (simp [*, errW_none, errW_some] <;> rfl), by repeat (first | (with_reducible first | exact HB.out | apply below_alloc | apply pw_below_drewN | apply below_drew1 | refine below_set ?_ GE388.out | refine below_set ?_ GE389.out | refine below_set ?_ GE390.out) | exact HB.out)⟩

/-! ### treillageref16_Got: function 52 -/
def treillageref16_Got.f (a0_0 : Int) (a0_1 : Int) (a0_2 : Int) (a1 : Int) (a2 : Bool) : Option (Int × Int × Int) := if a0_0 = 0 then (some (1, a1, a0_2)) else (if a0_0 = 1 then (if a1 = a0_1 then (if a1 < a0_1 then (some (6, a0_1, a0_2)) else (some (2, a0_1, a0_2))) else (if a1 < a0_1 then (some (6, a0_1, a0_2)) else (some (0, a0_1, a0_2)))) else (if a0_0 = 2 then (if a2 = true then (some (3, a0_1, a0_2)) else (some (0, a0_1, a0_2))) else (if a0_0 = 3 then (some (4, a0_1, a0_2)) else (if a0_0 = 4 then (some (5, a0_1, a0_2)) else (some (a0_0, a0_1, a0_2))))))
set_option maxHeartbeats 8000000 in
set_option maxRecDepth 100000 in
theorem treillageref16_Got.calls (a0_0 : Int) (a0_1 : Int) (a0_2 : Int) (a1 : Int) (a2 : Bool) (r1 : Int) (r2 : Int) (r3 : Int) (w : World) (h : treillageref16_Got.f a0_0 a0_1 a0_2 a1 a2 = some (r1, r2, r3)) :
  Calls Try.prog 52 #[.agg #[.int .i64 a0_0, .int .u64 a0_1, .int .u64 a0_2], .int .u64 a1, .bool a2] w fun e w' => e = .returned (.agg #[.int .i64 r1, .int .u64 r2, .int .u64 r3]) ∧ Below w.heap.size w w' := by
 have hu61 := Try.underlying61
 have HB := aA (Below.refl w.heap.size w)
 have H : (if a0_0 = 0 then (some (1, a1, a0_2)) else (if a0_0 = 1 then (if a1 = a0_1 then (if a1 < a0_1 then (some (6, a0_1, a0_2)) else (some (2, a0_1, a0_2))) else (if a1 < a0_1 then (some (6, a0_1, a0_2)) else (some (0, a0_1, a0_2)))) else (if a0_0 = 2 then (if a2 = true then (some (3, a0_1, a0_2)) else (some (0, a0_1, a0_2))) else (if a0_0 = 3 then (some (4, a0_1, a0_2)) else (if a0_0 = 4 then (some (5, a0_1, a0_2)) else (some (a0_0, a0_1, a0_2))))))) = some (r1, r2, r3) := h
 clear h
 by_cases c4 : a0_0 = 0
 ·rw [if_pos c4] at H
  have c4b0 : (a0_0 == 0) = true := beq_iff_eq.mpr c4
  have c4b1 : (a0_0 != 0) = false := bne_eq_false_iff_eq.mpr c4
  clear c4
  simp only [Option.some.injEq, Prod.mk.injEq] at H
  obtain ⟨rfl, rfl, rfl⟩ := H
  go_enter Try.func52, Try.ntmps52
  go_wp2_with (first | ((with_reducible refine gate_dst (N := 3) rfl ?_); refine box_event ?hg (N := 3) ?hd (cs := #[.int .i64 a0_0, .int .u64 a0_1, .int .u64 a0_2]) (t := 61) ?hr ?_; (case hd => rfl); (case hg => rfl); (case hr => first | (go_simp; done) | (go_simp; rfl)); intro gb391 hg w5 hbox hb; have n0_ := aA (below_step (blw HB.out) hb); have n1_ := aA (hbox); have n2_ := aA ((by rw [hg]; exact (below_size (blw HB.out)) : w.heap.size ≤ gb391)); have n3_ := aA ((by rw [hg]; exact (below_size (blw HB.out)) : w.heap.size ≤ gb391)); clear HB; have HB := n0_; have BK391 := n1_; have GW391 := n2_; have GE391 := n3_; clear n0_ n1_ n2_ n3_ hb hbox hg) | ((with_reducible refine gate_dst (N := 6) rfl ?_); refine box_event ?hg (N := 6) ?hd (cs := #[.int .i64 0, .int .u64 0, .int .u64 0]) (t := 61) ?hr ?_; (case hd => rfl); (case hg => rfl); (case hr => first | (go_simp; done) | (go_simp; rfl)); intro gb392 hg w6 hbox hb; have n0_ := aA (blk_below (g := gb391) (o := .cells #[.int .i64 a0_0, .int .u64 a0_1, .int .u64 a0_2] 61 (0, 0)) (bku BK391.out) hb); have n1_ := aA (below_step (bls HB.out) hb); have n2_ := aA (hbox); have n3_ := aA ((by rw [hg]; exact (below_size (bls HB.out)) : w.heap.size ≤ gb392)); have n4_ := aA ((by rw [hg]; exact (below_size (bls HB.out)) : w.heap.size ≤ gb392)); have n5_ := aA ((by rw [hg]; exact Nat.ne_of_lt (blk_lt (g := gb391) (o := .cells #[.int .i64 a0_0, .int .u64 a0_1, .int .u64 a0_2] 61 (0, 0)) (bku BK391.out)) : gb391 ≠ gb392)); have n6_ := aA ((by rw [hg]; exact Nat.ne_of_gt (blk_lt (g := gb391) (o := .cells #[.int .i64 a0_0, .int .u64 a0_1, .int .u64 a0_2] 61 (0, 0)) (bku BK391.out)) : gb392 ≠ gb391)); clear BK391 HB; have BK391 := n0_; have HB := n1_; have BK392 := n2_; have GW392 := n3_; have GE392 := n4_; have NB391_392 := n5_; have NB392_391 := n6_; clear n0_ n1_ n2_ n3_ n4_ n5_ n6_ hb hbox hg; have hnb7 := NB391_392.out; have hnc7 := NB392_391.out; have hcz8_0 : w6.cell? ⟨gb391, 0, none⟩ = some (.int .i64 a0_0) := (blk_cell BK391.out 0).trans rfl; have hcz8_1 : w6.cell? ⟨gb391, 1, none⟩ = some (.int .u64 a0_1) := (blk_cell BK391.out 1).trans rfl; have hcz8_2 : w6.cell? ⟨gb391, 2, none⟩ = some (.int .u64 a0_2) := (blk_cell BK391.out 2).trans rfl; have hfz8_0 := blk_frozen BK391.out 0; have hfz8_1 := blk_frozen BK391.out 1; have hfz8_2 := blk_frozen BK391.out 2; have hcz9_0 : w6.cell? ⟨gb392, 0, none⟩ = some (.int .i64 0) := (blk_cell BK392.out 0).trans rfl; have hcz9_1 : w6.cell? ⟨gb392, 1, none⟩ = some (.int .u64 0) := (blk_cell BK392.out 1).trans rfl; have hcz9_2 : w6.cell? ⟨gb392, 2, none⟩ = some (.int .u64 0) := (blk_cell BK392.out 2).trans rfl; have hfz9_0 := blk_frozen BK392.out 0; have hfz9_1 := blk_frozen BK392.out 1; have hfz9_2 := blk_frozen BK392.out 2))
  refine bodyPost_ret (results_cell_row rfl _ _ gb392 61 #[.int .i64 1, .int .u64 a1, .int .u64 a0_2] (0, 0) _ rfl (by (with_reducible repeat (first | refine blk_drewN ?_ _ | refine blk_drew ?_ | refine blk_alloc ?_ _)); refine blk_put (cs := #[.int .i64 1, .int .u64 a1, .int .u64 0]) ?_ 2 _ rfl; (with_reducible repeat (first | refine blk_drewN ?_ _ | refine blk_drew ?_ | refine blk_alloc ?_ _)); refine blk_put (cs := #[.int .i64 1, .int .u64 0, .int .u64 0]) ?_ 1 _ rfl; (with_reducible repeat (first | refine blk_drewN ?_ _ | refine blk_drew ?_ | refine blk_alloc ?_ _)); refine blk_put (cs := #[.int .i64 0, .int .u64 0, .int .u64 0]) ?_ 0 _ rfl; (with_reducible repeat (first | refine blk_drewN ?_ _ | refine blk_drew ?_ | refine blk_alloc ?_ _)); refine blk_far ?_ NB392_391.out _; (with_reducible repeat (first | refine blk_drewN ?_ _ | refine blk_drew ?_ | refine blk_alloc ?_ _)); refine blk_far ?_ NB392_391.out _; (with_reducible repeat (first | refine blk_drewN ?_ _ | refine blk_drew ?_ | refine blk_alloc ?_ _)); exact BK392.out) Try.underlying61 rfl (by kernel_rfl)) rfl ?_
  exact ⟨by first | rfl | (simp [errW_none, errW_some] <;> rfl) | (simp [*, errW_none, errW_some] <;> rfl), by repeat (first | (with_reducible first | exact HB.out | apply below_alloc | apply pw_below_drewN | apply below_drew1 | refine below_set ?_ GE391.out | refine below_set ?_ GE392.out) | exact HB.out)⟩
 ·rw [if_neg c4] at H
  have c4b0 : (a0_0 == 0) = false := beq_eq_false_iff_ne.mpr c4
  have c4b1 : (a0_0 != 0) = true := bne_iff_ne.mpr c4
  by_cases c10 : a0_0 = 1
  ·rw [if_pos c10] at H
   have c10b0 : (a0_0 == 1) = true := beq_iff_eq.mpr c10
   have c10b1 : (a0_0 != 1) = false := bne_eq_false_iff_eq.mpr c10
   clear c10
   by_cases c11 : a1 = a0_1
   ·rw [if_pos c11] at H
    have c11b0 : (a1 == a0_1) = true := beq_iff_eq.mpr c11
    have c11b1 : (a1 != a0_1) = false := bne_eq_false_iff_eq.mpr c11
    clear c11
    by_cases c12 : a1 < a0_1
    ·exact absurd c12 (by have h_ := eq_of_beq c11b0; omega)
    ·rw [if_neg c12] at H
     have c12b0 : decide (a1 < a0_1) = false := decide_eq_false c12
     clear c12
     simp only [Option.some.injEq, Prod.mk.injEq] at H
     obtain ⟨rfl, rfl, rfl⟩ := H
     go_enter Try.func52, Try.ntmps52
     go_wp2_with (first | ((with_reducible refine gate_dst (N := 3) rfl ?_); refine box_event ?hg (N := 3) ?hd (cs := #[.int .i64 a0_0, .int .u64 a0_1, .int .u64 a0_2]) (t := 61) ?hr ?_; (case hd => rfl); (case hg => rfl); (case hr => first | (go_simp; done) | (go_simp; rfl)); intro gb391 hg w18 hbox hb; have n0_ := aA (below_step (blw HB.out) hb); have n1_ := aA (hbox); have n2_ := aA ((by rw [hg]; exact (below_size (blw HB.out)) : w.heap.size ≤ gb391)); have n3_ := aA ((by rw [hg]; exact (below_size (blw HB.out)) : w.heap.size ≤ gb391)); clear HB; have HB := n0_; have BK391 := n1_; have GW391 := n2_; have GE391 := n3_; clear n0_ n1_ n2_ n3_ hb hbox hg) | ((with_reducible refine gate_dst (N := 6) rfl ?_); refine box_event ?hg (N := 6) ?hd (cs := #[.int .i64 0, .int .u64 0, .int .u64 0]) (t := 61) ?hr ?_; (case hd => rfl); (case hg => rfl); (case hr => first | (go_simp; done) | (go_simp; rfl)); intro gb392 hg w19 hbox hb; have n0_ := aA (blk_below (g := gb391) (o := .cells #[.int .i64 a0_0, .int .u64 a0_1, .int .u64 a0_2] 61 (0, 0)) (bku BK391.out) hb); have n1_ := aA (below_step (bls HB.out) hb); have n2_ := aA (hbox); have n3_ := aA ((by rw [hg]; exact (below_size (bls HB.out)) : w.heap.size ≤ gb392)); have n4_ := aA ((by rw [hg]; exact (below_size (bls HB.out)) : w.heap.size ≤ gb392)); have n5_ := aA ((by rw [hg]; exact Nat.ne_of_lt (blk_lt (g := gb391) (o := .cells #[.int .i64 a0_0, .int .u64 a0_1, .int .u64 a0_2] 61 (0, 0)) (bku BK391.out)) : gb391 ≠ gb392)); have n6_ := aA ((by rw [hg]; exact Nat.ne_of_gt (blk_lt (g := gb391) (o := .cells #[.int .i64 a0_0, .int .u64 a0_1, .int .u64 a0_2] 61 (0, 0)) (bku BK391.out)) : gb392 ≠ gb391)); clear BK391 HB; have BK391 := n0_; have HB := n1_; have BK392 := n2_; have GW392 := n3_; have GE392 := n4_; have NB391_392 := n5_; have NB392_391 := n6_; clear n0_ n1_ n2_ n3_ n4_ n5_ n6_ hb hbox hg; have hnb20 := NB391_392.out; have hnc20 := NB392_391.out; have hcz21_0 : w19.cell? ⟨gb391, 0, none⟩ = some (.int .i64 a0_0) := (blk_cell BK391.out 0).trans rfl; have hcz21_1 : w19.cell? ⟨gb391, 1, none⟩ = some (.int .u64 a0_1) := (blk_cell BK391.out 1).trans rfl; have hcz21_2 : w19.cell? ⟨gb391, 2, none⟩ = some (.int .u64 a0_2) := (blk_cell BK391.out 2).trans rfl; have hfz21_0 := blk_frozen BK391.out 0; have hfz21_1 := blk_frozen BK391.out 1; have hfz21_2 := blk_frozen BK391.out 2; have hcz22_0 : w19.cell? ⟨gb392, 0, none⟩ = some (.int .i64 0) := (blk_cell BK392.out 0).trans rfl; have hcz22_1 : w19.cell? ⟨gb392, 1, none⟩ = some (.int .u64 0) := (blk_cell BK392.out 1).trans rfl; have hcz22_2 : w19.cell? ⟨gb392, 2, none⟩ = some (.int .u64 0) := (blk_cell BK392.out 2).trans rfl; have hfz22_0 := blk_frozen BK392.out 0; have hfz22_1 := blk_frozen BK392.out 1; have hfz22_2 := blk_frozen BK392.out 2))
     refine bodyPost_ret (results_cell_row rfl _ _ gb392 61 #[.int .i64 2, .int .u64 a0_1, .int .u64 a0_2] (0, 0) _ rfl (by (with_reducible repeat (first | refine blk_drewN ?_ _ | refine blk_drew ?_ | refine blk_alloc ?_ _)); refine blk_put (cs := #[.int .i64 2, .int .u64 a0_1, .int .u64 0]) ?_ 2 _ rfl; (with_reducible repeat (first | refine blk_drewN ?_ _ | refine blk_drew ?_ | refine blk_alloc ?_ _)); refine blk_put (cs := #[.int .i64 2, .int .u64 0, .int .u64 0]) ?_ 1 _ rfl; (with_reducible repeat (first | refine blk_drewN ?_ _ | refine blk_drew ?_ | refine blk_alloc ?_ _)); refine blk_put (cs := #[.int .i64 0, .int .u64 0, .int .u64 0]) ?_ 0 _ rfl; (with_reducible repeat (first | refine blk_drewN ?_ _ | refine blk_drew ?_ | refine blk_alloc ?_ _)); refine blk_far ?_ NB392_391.out _; (with_reducible repeat (first | refine blk_drewN ?_ _ | refine blk_drew ?_ | refine blk_alloc ?_ _)); refine blk_far ?_ NB392_391.out _; (with_reducible repeat (first | refine blk_drewN ?_ _ | refine blk_drew ?_ | refine blk_alloc ?_ _)); exact BK392.out) Try.underlying61 rfl (by kernel_rfl)) rfl ?_
     exact ⟨by first | rfl | (simp [errW_none, errW_some] <;> rfl) | (simp [*, errW_none, errW_some] <;> rfl), by repeat (first | (with_reducible first | exact HB.out | apply below_alloc | apply pw_below_drewN | apply below_drew1 | refine below_set ?_ GE391.out | refine below_set ?_ GE392.out) | exact HB.out)⟩
   ·rw [if_neg c11] at H
    have c11b0 : (a1 == a0_1) = false := beq_eq_false_iff_ne.mpr c11
    have c11b1 : (a1 != a0_1) = true := bne_iff_ne.mpr c11
    by_cases c23 : a1 < a0_1
    ·rw [if_pos c23] at H
     have c23b0 : decide (a1 < a0_1) = true := decide_eq_true c23
     clear c23
     simp only [Option.some.injEq, Prod.mk.injEq] at H
     obtain ⟨rfl, rfl, rfl⟩ := H
     go_enter Try.func52, Try.ntmps52
     go_wp2_with (first | ((with_reducible refine gate_dst (N := 3) rfl ?_); refine box_event ?hg (N := 3) ?hd (cs := #[.int .i64 a0_0, .int .u64 a0_1, .int .u64 a0_2]) (t := 61) ?hr ?_; (case hd => rfl); (case hg => rfl); (case hr => first | (go_simp; done) | (go_simp; rfl)); intro gb391 hg w24 hbox hb; have n0_ := aA (below_step (blw HB.out) hb); have n1_ := aA (hbox); have n2_ := aA ((by rw [hg]; exact (below_size (blw HB.out)) : w.heap.size ≤ gb391)); have n3_ := aA ((by rw [hg]; exact (below_size (blw HB.out)) : w.heap.size ≤ gb391)); clear HB; have HB := n0_; have BK391 := n1_; have GW391 := n2_; have GE391 := n3_; clear n0_ n1_ n2_ n3_ hb hbox hg) | ((with_reducible refine gate_dst (N := 6) rfl ?_); refine box_event ?hg (N := 6) ?hd (cs := #[.int .i64 0, .int .u64 0, .int .u64 0]) (t := 61) ?hr ?_; (case hd => rfl); (case hg => rfl); (case hr => first | (go_simp; done) | (go_simp; rfl)); intro gb392 hg w25 hbox hb; have n0_ := aA (blk_below (g := gb391) (o := .cells #[.int .i64 a0_0, .int .u64 a0_1, .int .u64 a0_2] 61 (0, 0)) (bku BK391.out) hb); have n1_ := aA (below_step (bls HB.out) hb); have n2_ := aA (hbox); have n3_ := aA ((by rw [hg]; exact (below_size (bls HB.out)) : w.heap.size ≤ gb392)); have n4_ := aA ((by rw [hg]; exact (below_size (bls HB.out)) : w.heap.size ≤ gb392)); have n5_ := aA ((by rw [hg]; exact Nat.ne_of_lt (blk_lt (g := gb391) (o := .cells #[.int .i64 a0_0, .int .u64 a0_1, .int .u64 a0_2] 61 (0, 0)) (bku BK391.out)) : gb391 ≠ gb392)); have n6_ := aA ((by rw [hg]; exact Nat.ne_of_gt (blk_lt (g := gb391) (o := .cells #[.int .i64 a0_0, .int .u64 a0_1, .int .u64 a0_2] 61 (0, 0)) (bku BK391.out)) : gb392 ≠ gb391)); clear BK391 HB; have BK391 := n0_; have HB := n1_; have BK392 := n2_; have GW392 := n3_; have GE392 := n4_; have NB391_392 := n5_; have NB392_391 := n6_; clear n0_ n1_ n2_ n3_ n4_ n5_ n6_ hb hbox hg; have hnb26 := NB391_392.out; have hnc26 := NB392_391.out; have hcz27_0 : w25.cell? ⟨gb391, 0, none⟩ = some (.int .i64 a0_0) := (blk_cell BK391.out 0).trans rfl; have hcz27_1 : w25.cell? ⟨gb391, 1, none⟩ = some (.int .u64 a0_1) := (blk_cell BK391.out 1).trans rfl; have hcz27_2 : w25.cell? ⟨gb391, 2, none⟩ = some (.int .u64 a0_2) := (blk_cell BK391.out 2).trans rfl; have hfz27_0 := blk_frozen BK391.out 0; have hfz27_1 := blk_frozen BK391.out 1; have hfz27_2 := blk_frozen BK391.out 2; have hcz28_0 : w25.cell? ⟨gb392, 0, none⟩ = some (.int .i64 0) := (blk_cell BK392.out 0).trans rfl; have hcz28_1 : w25.cell? ⟨gb392, 1, none⟩ = some (.int .u64 0) := (blk_cell BK392.out 1).trans rfl; have hcz28_2 : w25.cell? ⟨gb392, 2, none⟩ = some (.int .u64 0) := (blk_cell BK392.out 2).trans rfl; have hfz28_0 := blk_frozen BK392.out 0; have hfz28_1 := blk_frozen BK392.out 1; have hfz28_2 := blk_frozen BK392.out 2))
     refine bodyPost_ret (results_cell_row rfl _ _ gb392 61 #[.int .i64 6, .int .u64 a0_1, .int .u64 a0_2] (0, 0) _ rfl (by (with_reducible repeat (first | refine blk_drewN ?_ _ | refine blk_drew ?_ | refine blk_alloc ?_ _)); refine blk_put (cs := #[.int .i64 6, .int .u64 a0_1, .int .u64 0]) ?_ 2 _ rfl; (with_reducible repeat (first | refine blk_drewN ?_ _ | refine blk_drew ?_ | refine blk_alloc ?_ _)); refine blk_put (cs := #[.int .i64 6, .int .u64 0, .int .u64 0]) ?_ 1 _ rfl; (with_reducible repeat (first | refine blk_drewN ?_ _ | refine blk_drew ?_ | refine blk_alloc ?_ _)); refine blk_put (cs := #[.int .i64 0, .int .u64 0, .int .u64 0]) ?_ 0 _ rfl; (with_reducible repeat (first | refine blk_drewN ?_ _ | refine blk_drew ?_ | refine blk_alloc ?_ _)); refine blk_far ?_ NB392_391.out _; (with_reducible repeat (first | refine blk_drewN ?_ _ | refine blk_drew ?_ | refine blk_alloc ?_ _)); refine blk_far ?_ NB392_391.out _; (with_reducible repeat (first | refine blk_drewN ?_ _ | refine blk_drew ?_ | refine blk_alloc ?_ _)); exact BK392.out) Try.underlying61 rfl (by kernel_rfl)) rfl ?_
     exact ⟨by first | rfl | (simp [errW_none, errW_some] <;> rfl) | (simp [*, errW_none, errW_some] <;> rfl), by repeat (first | (with_reducible first | exact HB.out | apply below_alloc | apply pw_below_drewN | apply below_drew1 | refine below_set ?_ GE391.out | refine below_set ?_ GE392.out) | exact HB.out)⟩
    ·rw [if_neg c23] at H
     have c23b0 : decide (a1 < a0_1) = false := decide_eq_false c23
     clear c23
     simp only [Option.some.injEq, Prod.mk.injEq] at H
     obtain ⟨rfl, rfl, rfl⟩ := H
     go_enter Try.func52, Try.ntmps52
     go_wp2_with (first | ((with_reducible refine gate_dst (N := 3) rfl ?_); refine box_event ?hg (N := 3) ?hd (cs := #[.int .i64 a0_0, .int .u64 a0_1, .int .u64 a0_2]) (t := 61) ?hr ?_; (case hd => rfl); (case hg => rfl); (case hr => first | (go_simp; done) | (go_simp; rfl)); intro gb391 hg w29 hbox hb; have n0_ := aA (below_step (blw HB.out) hb); have n1_ := aA (hbox); have n2_ := aA ((by rw [hg]; exact (below_size (blw HB.out)) : w.heap.size ≤ gb391)); have n3_ := aA ((by rw [hg]; exact (below_size (blw HB.out)) : w.heap.size ≤ gb391)); clear HB; have HB := n0_; have BK391 := n1_; have GW391 := n2_; have GE391 := n3_; clear n0_ n1_ n2_ n3_ hb hbox hg) | ((with_reducible refine gate_dst (N := 6) rfl ?_); refine box_event ?hg (N := 6) ?hd (cs := #[.int .i64 0, .int .u64 0, .int .u64 0]) (t := 61) ?hr ?_; (case hd => rfl); (case hg => rfl); (case hr => first | (go_simp; done) | (go_simp; rfl)); intro gb392 hg w30 hbox hb; have n0_ := aA (blk_below (g := gb391) (o := .cells #[.int .i64 a0_0, .int .u64 a0_1, .int .u64 a0_2] 61 (0, 0)) (bku BK391.out) hb); have n1_ := aA (below_step (bls HB.out) hb); have n2_ := aA (hbox); have n3_ := aA ((by rw [hg]; exact (below_size (bls HB.out)) : w.heap.size ≤ gb392)); have n4_ := aA ((by rw [hg]; exact (below_size (bls HB.out)) : w.heap.size ≤ gb392)); have n5_ := aA ((by rw [hg]; exact Nat.ne_of_lt (blk_lt (g := gb391) (o := .cells #[.int .i64 a0_0, .int .u64 a0_1, .int .u64 a0_2] 61 (0, 0)) (bku BK391.out)) : gb391 ≠ gb392)); have n6_ := aA ((by rw [hg]; exact Nat.ne_of_gt (blk_lt (g := gb391) (o := .cells #[.int .i64 a0_0, .int .u64 a0_1, .int .u64 a0_2] 61 (0, 0)) (bku BK391.out)) : gb392 ≠ gb391)); clear BK391 HB; have BK391 := n0_; have HB := n1_; have BK392 := n2_; have GW392 := n3_; have GE392 := n4_; have NB391_392 := n5_; have NB392_391 := n6_; clear n0_ n1_ n2_ n3_ n4_ n5_ n6_ hb hbox hg; have hnb31 := NB391_392.out; have hnc31 := NB392_391.out; have hcz32_0 : w30.cell? ⟨gb391, 0, none⟩ = some (.int .i64 a0_0) := (blk_cell BK391.out 0).trans rfl; have hcz32_1 : w30.cell? ⟨gb391, 1, none⟩ = some (.int .u64 a0_1) := (blk_cell BK391.out 1).trans rfl; have hcz32_2 : w30.cell? ⟨gb391, 2, none⟩ = some (.int .u64 a0_2) := (blk_cell BK391.out 2).trans rfl; have hfz32_0 := blk_frozen BK391.out 0; have hfz32_1 := blk_frozen BK391.out 1; have hfz32_2 := blk_frozen BK391.out 2; have hcz33_0 : w30.cell? ⟨gb392, 0, none⟩ = some (.int .i64 0) := (blk_cell BK392.out 0).trans rfl; have hcz33_1 : w30.cell? ⟨gb392, 1, none⟩ = some (.int .u64 0) := (blk_cell BK392.out 1).trans rfl; have hcz33_2 : w30.cell? ⟨gb392, 2, none⟩ = some (.int .u64 0) := (blk_cell BK392.out 2).trans rfl; have hfz33_0 := blk_frozen BK392.out 0; have hfz33_1 := blk_frozen BK392.out 1; have hfz33_2 := blk_frozen BK392.out 2))
     refine bodyPost_ret (results_cell_row rfl _ _ gb392 61 #[.int .i64 0, .int .u64 a0_1, .int .u64 a0_2] (0, 0) _ rfl (by (with_reducible repeat (first | refine blk_drewN ?_ _ | refine blk_drew ?_ | refine blk_alloc ?_ _)); refine blk_put (cs := #[.int .i64 0, .int .u64 a0_1, .int .u64 0]) ?_ 2 _ rfl; (with_reducible repeat (first | refine blk_drewN ?_ _ | refine blk_drew ?_ | refine blk_alloc ?_ _)); refine blk_put (cs := #[.int .i64 0, .int .u64 0, .int .u64 0]) ?_ 1 _ rfl; (with_reducible repeat (first | refine blk_drewN ?_ _ | refine blk_drew ?_ | refine blk_alloc ?_ _)); refine blk_put (cs := #[.int .i64 0, .int .u64 0, .int .u64 0]) ?_ 0 _ rfl; (with_reducible repeat (first | refine blk_drewN ?_ _ | refine blk_drew ?_ | refine blk_alloc ?_ _)); refine blk_far ?_ NB392_391.out _; (with_reducible repeat (first | refine blk_drewN ?_ _ | refine blk_drew ?_ | refine blk_alloc ?_ _)); exact BK392.out) Try.underlying61 rfl (by kernel_rfl)) rfl ?_
     exact ⟨by first | rfl | (simp [errW_none, errW_some] <;> rfl) | (simp [*, errW_none, errW_some] <;> rfl), by repeat (first | (with_reducible first | exact HB.out | apply below_alloc | apply pw_below_drewN | apply below_drew1 | refine below_set ?_ GE391.out | refine below_set ?_ GE392.out) | exact HB.out)⟩
  ·rw [if_neg c10] at H
   have c10b0 : (a0_0 == 1) = false := beq_eq_false_iff_ne.mpr c10
   have c10b1 : (a0_0 != 1) = true := bne_iff_ne.mpr c10
   by_cases c34 : a0_0 = 2
   ·rw [if_pos c34] at H
    have c34b0 : (a0_0 == 2) = true := beq_iff_eq.mpr c34
    have c34b1 : (a0_0 != 2) = false := bne_eq_false_iff_eq.mpr c34
    clear c34
    by_cases c35 : a2 = true
    ·subst c35
     have H1 : (some (3, a0_1, a0_2)) = some (r1, r2, r3) := by rw [if_pos rfl] at H; exact H
     clear H
     have H := H1
     clear H1
     simp only [Option.some.injEq, Prod.mk.injEq] at H
     obtain ⟨rfl, rfl, rfl⟩ := H
     go_enter Try.func52, Try.ntmps52
     go_wp2_with (first | ((with_reducible refine gate_dst (N := 3) rfl ?_); refine box_event ?hg (N := 3) ?hd (cs := #[.int .i64 a0_0, .int .u64 a0_1, .int .u64 a0_2]) (t := 61) ?hr ?_; (case hd => rfl); (case hg => rfl); (case hr => first | (go_simp; done) | (go_simp; rfl)); intro gb391 hg w36 hbox hb; have n0_ := aA (below_step (blw HB.out) hb); have n1_ := aA (hbox); have n2_ := aA ((by rw [hg]; exact (below_size (blw HB.out)) : w.heap.size ≤ gb391)); have n3_ := aA ((by rw [hg]; exact (below_size (blw HB.out)) : w.heap.size ≤ gb391)); clear HB; have HB := n0_; have BK391 := n1_; have GW391 := n2_; have GE391 := n3_; clear n0_ n1_ n2_ n3_ hb hbox hg) | ((with_reducible refine gate_dst (N := 6) rfl ?_); refine box_event ?hg (N := 6) ?hd (cs := #[.int .i64 0, .int .u64 0, .int .u64 0]) (t := 61) ?hr ?_; (case hd => rfl); (case hg => rfl); (case hr => first | (go_simp; done) | (go_simp; rfl)); intro gb392 hg w37 hbox hb; have n0_ := aA (blk_below (g := gb391) (o := .cells #[.int .i64 a0_0, .int .u64 a0_1, .int .u64 a0_2] 61 (0, 0)) (bku BK391.out) hb); have n1_ := aA (below_step (bls HB.out) hb); have n2_ := aA (hbox); have n3_ := aA ((by rw [hg]; exact (below_size (bls HB.out)) : w.heap.size ≤ gb392)); have n4_ := aA ((by rw [hg]; exact (below_size (bls HB.out)) : w.heap.size ≤ gb392)); have n5_ := aA ((by rw [hg]; exact Nat.ne_of_lt (blk_lt (g := gb391) (o := .cells #[.int .i64 a0_0, .int .u64 a0_1, .int .u64 a0_2] 61 (0, 0)) (bku BK391.out)) : gb391 ≠ gb392)); have n6_ := aA ((by rw [hg]; exact Nat.ne_of_gt (blk_lt (g := gb391) (o := .cells #[.int .i64 a0_0, .int .u64 a0_1, .int .u64 a0_2] 61 (0, 0)) (bku BK391.out)) : gb392 ≠ gb391)); clear BK391 HB; have BK391 := n0_; have HB := n1_; have BK392 := n2_; have GW392 := n3_; have GE392 := n4_; have NB391_392 := n5_; have NB392_391 := n6_; clear n0_ n1_ n2_ n3_ n4_ n5_ n6_ hb hbox hg; have hnb38 := NB391_392.out; have hnc38 := NB392_391.out; have hcz39_0 : w37.cell? ⟨gb391, 0, none⟩ = some (.int .i64 a0_0) := (blk_cell BK391.out 0).trans rfl; have hcz39_1 : w37.cell? ⟨gb391, 1, none⟩ = some (.int .u64 a0_1) := (blk_cell BK391.out 1).trans rfl; have hcz39_2 : w37.cell? ⟨gb391, 2, none⟩ = some (.int .u64 a0_2) := (blk_cell BK391.out 2).trans rfl; have hfz39_0 := blk_frozen BK391.out 0; have hfz39_1 := blk_frozen BK391.out 1; have hfz39_2 := blk_frozen BK391.out 2; have hcz40_0 : w37.cell? ⟨gb392, 0, none⟩ = some (.int .i64 0) := (blk_cell BK392.out 0).trans rfl; have hcz40_1 : w37.cell? ⟨gb392, 1, none⟩ = some (.int .u64 0) := (blk_cell BK392.out 1).trans rfl; have hcz40_2 : w37.cell? ⟨gb392, 2, none⟩ = some (.int .u64 0) := (blk_cell BK392.out 2).trans rfl; have hfz40_0 := blk_frozen BK392.out 0; have hfz40_1 := blk_frozen BK392.out 1; have hfz40_2 := blk_frozen BK392.out 2))
     refine bodyPost_ret (results_cell_row rfl _ _ gb392 61 #[.int .i64 3, .int .u64 a0_1, .int .u64 a0_2] (0, 0) _ rfl (by (with_reducible repeat (first | refine blk_drewN ?_ _ | refine blk_drew ?_ | refine blk_alloc ?_ _)); refine blk_put (cs := #[.int .i64 3, .int .u64 a0_1, .int .u64 0]) ?_ 2 _ rfl; (with_reducible repeat (first | refine blk_drewN ?_ _ | refine blk_drew ?_ | refine blk_alloc ?_ _)); refine blk_put (cs := #[.int .i64 3, .int .u64 0, .int .u64 0]) ?_ 1 _ rfl; (with_reducible repeat (first | refine blk_drewN ?_ _ | refine blk_drew ?_ | refine blk_alloc ?_ _)); refine blk_put (cs := #[.int .i64 0, .int .u64 0, .int .u64 0]) ?_ 0 _ rfl; (with_reducible repeat (first | refine blk_drewN ?_ _ | refine blk_drew ?_ | refine blk_alloc ?_ _)); refine blk_far ?_ NB392_391.out _; (with_reducible repeat (first | refine blk_drewN ?_ _ | refine blk_drew ?_ | refine blk_alloc ?_ _)); refine blk_far ?_ NB392_391.out _; (with_reducible repeat (first | refine blk_drewN ?_ _ | refine blk_drew ?_ | refine blk_alloc ?_ _)); exact BK392.out) Try.underlying61 rfl (by kernel_rfl)) rfl ?_
     exact ⟨by first | rfl | (simp [errW_none, errW_some] <;> rfl) | (simp [*, errW_none, errW_some] <;> rfl), by repeat (first | (with_reducible first | exact HB.out | apply below_alloc | apply pw_below_drewN | apply below_drew1 | refine below_set ?_ GE391.out | refine below_set ?_ GE392.out) | exact HB.out)⟩
    ·replace c35 := Bool.eq_false_iff.mpr c35
     subst c35
     have H1 : (some (0, a0_1, a0_2)) = some (r1, r2, r3) := by rw [if_neg (show ¬ (false = true) by decide)] at H; exact H
     clear H
     have H := H1
     clear H1
     simp only [Option.some.injEq, Prod.mk.injEq] at H
     obtain ⟨rfl, rfl, rfl⟩ := H
     go_enter Try.func52, Try.ntmps52
     go_wp2_with (first | ((with_reducible refine gate_dst (N := 3) rfl ?_); refine box_event ?hg (N := 3) ?hd (cs := #[.int .i64 a0_0, .int .u64 a0_1, .int .u64 a0_2]) (t := 61) ?hr ?_; (case hd => rfl); (case hg => rfl); (case hr => first | (go_simp; done) | (go_simp; rfl)); intro gb391 hg w41 hbox hb; have n0_ := aA (below_step (blw HB.out) hb); have n1_ := aA (hbox); have n2_ := aA ((by rw [hg]; exact (below_size (blw HB.out)) : w.heap.size ≤ gb391)); have n3_ := aA ((by rw [hg]; exact (below_size (blw HB.out)) : w.heap.size ≤ gb391)); clear HB; have HB := n0_; have BK391 := n1_; have GW391 := n2_; have GE391 := n3_; clear n0_ n1_ n2_ n3_ hb hbox hg) | ((with_reducible refine gate_dst (N := 6) rfl ?_); refine box_event ?hg (N := 6) ?hd (cs := #[.int .i64 0, .int .u64 0, .int .u64 0]) (t := 61) ?hr ?_; (case hd => rfl); (case hg => rfl); (case hr => first | (go_simp; done) | (go_simp; rfl)); intro gb392 hg w42 hbox hb; have n0_ := aA (blk_below (g := gb391) (o := .cells #[.int .i64 a0_0, .int .u64 a0_1, .int .u64 a0_2] 61 (0, 0)) (bku BK391.out) hb); have n1_ := aA (below_step (bls HB.out) hb); have n2_ := aA (hbox); have n3_ := aA ((by rw [hg]; exact (below_size (bls HB.out)) : w.heap.size ≤ gb392)); have n4_ := aA ((by rw [hg]; exact (below_size (bls HB.out)) : w.heap.size ≤ gb392)); have n5_ := aA ((by rw [hg]; exact Nat.ne_of_lt (blk_lt (g := gb391) (o := .cells #[.int .i64 a0_0, .int .u64 a0_1, .int .u64 a0_2] 61 (0, 0)) (bku BK391.out)) : gb391 ≠ gb392)); have n6_ := aA ((by rw [hg]; exact Nat.ne_of_gt (blk_lt (g := gb391) (o := .cells #[.int .i64 a0_0, .int .u64 a0_1, .int .u64 a0_2] 61 (0, 0)) (bku BK391.out)) : gb392 ≠ gb391)); clear BK391 HB; have BK391 := n0_; have HB := n1_; have BK392 := n2_; have GW392 := n3_; have GE392 := n4_; have NB391_392 := n5_; have NB392_391 := n6_; clear n0_ n1_ n2_ n3_ n4_ n5_ n6_ hb hbox hg; have hnb43 := NB391_392.out; have hnc43 := NB392_391.out; have hcz44_0 : w42.cell? ⟨gb391, 0, none⟩ = some (.int .i64 a0_0) := (blk_cell BK391.out 0).trans rfl; have hcz44_1 : w42.cell? ⟨gb391, 1, none⟩ = some (.int .u64 a0_1) := (blk_cell BK391.out 1).trans rfl; have hcz44_2 : w42.cell? ⟨gb391, 2, none⟩ = some (.int .u64 a0_2) := (blk_cell BK391.out 2).trans rfl; have hfz44_0 := blk_frozen BK391.out 0; have hfz44_1 := blk_frozen BK391.out 1; have hfz44_2 := blk_frozen BK391.out 2; have hcz45_0 : w42.cell? ⟨gb392, 0, none⟩ = some (.int .i64 0) := (blk_cell BK392.out 0).trans rfl; have hcz45_1 : w42.cell? ⟨gb392, 1, none⟩ = some (.int .u64 0) := (blk_cell BK392.out 1).trans rfl; have hcz45_2 : w42.cell? ⟨gb392, 2, none⟩ = some (.int .u64 0) := (blk_cell BK392.out 2).trans rfl; have hfz45_0 := blk_frozen BK392.out 0; have hfz45_1 := blk_frozen BK392.out 1; have hfz45_2 := blk_frozen BK392.out 2))
     refine bodyPost_ret (results_cell_row rfl _ _ gb392 61 #[.int .i64 0, .int .u64 a0_1, .int .u64 a0_2] (0, 0) _ rfl (by (with_reducible repeat (first | refine blk_drewN ?_ _ | refine blk_drew ?_ | refine blk_alloc ?_ _)); refine blk_put (cs := #[.int .i64 0, .int .u64 a0_1, .int .u64 0]) ?_ 2 _ rfl; (with_reducible repeat (first | refine blk_drewN ?_ _ | refine blk_drew ?_ | refine blk_alloc ?_ _)); refine blk_put (cs := #[.int .i64 0, .int .u64 0, .int .u64 0]) ?_ 1 _ rfl; (with_reducible repeat (first | refine blk_drewN ?_ _ | refine blk_drew ?_ | refine blk_alloc ?_ _)); refine blk_put (cs := #[.int .i64 0, .int .u64 0, .int .u64 0]) ?_ 0 _ rfl; (with_reducible repeat (first | refine blk_drewN ?_ _ | refine blk_drew ?_ | refine blk_alloc ?_ _)); refine blk_far ?_ NB392_391.out _; (with_reducible repeat (first | refine blk_drewN ?_ _ | refine blk_drew ?_ | refine blk_alloc ?_ _)); exact BK392.out) Try.underlying61 rfl (by kernel_rfl)) rfl ?_
     exact ⟨by first | rfl | (simp [errW_none, errW_some] <;> rfl) | (simp [*, errW_none, errW_some] <;> rfl), by repeat (first | (with_reducible first | exact HB.out | apply below_alloc | apply pw_below_drewN | apply below_drew1 | refine below_set ?_ GE391.out | refine below_set ?_ GE392.out) | exact HB.out)⟩
   ·rw [if_neg c34] at H
    have c34b0 : (a0_0 == 2) = false := beq_eq_false_iff_ne.mpr c34
    have c34b1 : (a0_0 != 2) = true := bne_iff_ne.mpr c34
    by_cases c46 : a0_0 = 3
    ·rw [if_pos c46] at H
     have c46b0 : (a0_0 == 3) = true := beq_iff_eq.mpr c46
     have c46b1 : (a0_0 != 3) = false := bne_eq_false_iff_eq.mpr c46
     clear c46
     simp only [Option.some.injEq, Prod.mk.injEq] at H
     obtain ⟨rfl, rfl, rfl⟩ := H
     go_enter Try.func52, Try.ntmps52
     go_wp2_with (first | ((with_reducible refine gate_dst (N := 3) rfl ?_); refine box_event ?hg (N := 3) ?hd (cs := #[.int .i64 a0_0, .int .u64 a0_1, .int .u64 a0_2]) (t := 61) ?hr ?_; (case hd => rfl); (case hg => rfl); (case hr => first | (go_simp; done) | (go_simp; rfl)); intro gb391 hg w47 hbox hb; have n0_ := aA (below_step (blw HB.out) hb); have n1_ := aA (hbox); have n2_ := aA ((by rw [hg]; exact (below_size (blw HB.out)) : w.heap.size ≤ gb391)); have n3_ := aA ((by rw [hg]; exact (below_size (blw HB.out)) : w.heap.size ≤ gb391)); clear HB; have HB := n0_; have BK391 := n1_; have GW391 := n2_; have GE391 := n3_; clear n0_ n1_ n2_ n3_ hb hbox hg) | ((with_reducible refine gate_dst (N := 6) rfl ?_); refine box_event ?hg (N := 6) ?hd (cs := #[.int .i64 0, .int .u64 0, .int .u64 0]) (t := 61) ?hr ?_; (case hd => rfl); (case hg => rfl); (case hr => first | (go_simp; done) | (go_simp; rfl)); intro gb392 hg w48 hbox hb; have n0_ := aA (blk_below (g := gb391) (o := .cells #[.int .i64 a0_0, .int .u64 a0_1, .int .u64 a0_2] 61 (0, 0)) (bku BK391.out) hb); have n1_ := aA (below_step (bls HB.out) hb); have n2_ := aA (hbox); have n3_ := aA ((by rw [hg]; exact (below_size (bls HB.out)) : w.heap.size ≤ gb392)); have n4_ := aA ((by rw [hg]; exact (below_size (bls HB.out)) : w.heap.size ≤ gb392)); have n5_ := aA ((by rw [hg]; exact Nat.ne_of_lt (blk_lt (g := gb391) (o := .cells #[.int .i64 a0_0, .int .u64 a0_1, .int .u64 a0_2] 61 (0, 0)) (bku BK391.out)) : gb391 ≠ gb392)); have n6_ := aA ((by rw [hg]; exact Nat.ne_of_gt (blk_lt (g := gb391) (o := .cells #[.int .i64 a0_0, .int .u64 a0_1, .int .u64 a0_2] 61 (0, 0)) (bku BK391.out)) : gb392 ≠ gb391)); clear BK391 HB; have BK391 := n0_; have HB := n1_; have BK392 := n2_; have GW392 := n3_; have GE392 := n4_; have NB391_392 := n5_; have NB392_391 := n6_; clear n0_ n1_ n2_ n3_ n4_ n5_ n6_ hb hbox hg; have hnb49 := NB391_392.out; have hnc49 := NB392_391.out; have hcz50_0 : w48.cell? ⟨gb391, 0, none⟩ = some (.int .i64 a0_0) := (blk_cell BK391.out 0).trans rfl; have hcz50_1 : w48.cell? ⟨gb391, 1, none⟩ = some (.int .u64 a0_1) := (blk_cell BK391.out 1).trans rfl; have hcz50_2 : w48.cell? ⟨gb391, 2, none⟩ = some (.int .u64 a0_2) := (blk_cell BK391.out 2).trans rfl; have hfz50_0 := blk_frozen BK391.out 0; have hfz50_1 := blk_frozen BK391.out 1; have hfz50_2 := blk_frozen BK391.out 2; have hcz51_0 : w48.cell? ⟨gb392, 0, none⟩ = some (.int .i64 0) := (blk_cell BK392.out 0).trans rfl; have hcz51_1 : w48.cell? ⟨gb392, 1, none⟩ = some (.int .u64 0) := (blk_cell BK392.out 1).trans rfl; have hcz51_2 : w48.cell? ⟨gb392, 2, none⟩ = some (.int .u64 0) := (blk_cell BK392.out 2).trans rfl; have hfz51_0 := blk_frozen BK392.out 0; have hfz51_1 := blk_frozen BK392.out 1; have hfz51_2 := blk_frozen BK392.out 2))
     refine bodyPost_ret (results_cell_row rfl _ _ gb392 61 #[.int .i64 4, .int .u64 a0_1, .int .u64 a0_2] (0, 0) _ rfl (by (with_reducible repeat (first | refine blk_drewN ?_ _ | refine blk_drew ?_ | refine blk_alloc ?_ _)); refine blk_put (cs := #[.int .i64 4, .int .u64 a0_1, .int .u64 0]) ?_ 2 _ rfl; (with_reducible repeat (first | refine blk_drewN ?_ _ | refine blk_drew ?_ | refine blk_alloc ?_ _)); refine blk_put (cs := #[.int .i64 4, .int .u64 0, .int .u64 0]) ?_ 1 _ rfl; (with_reducible repeat (first | refine blk_drewN ?_ _ | refine blk_drew ?_ | refine blk_alloc ?_ _)); refine blk_put (cs := #[.int .i64 0, .int .u64 0, .int .u64 0]) ?_ 0 _ rfl; (with_reducible repeat (first | refine blk_drewN ?_ _ | refine blk_drew ?_ | refine blk_alloc ?_ _)); refine blk_far ?_ NB392_391.out _; (with_reducible repeat (first | refine blk_drewN ?_ _ | refine blk_drew ?_ | refine blk_alloc ?_ _)); exact BK392.out) Try.underlying61 rfl (by kernel_rfl)) rfl ?_
     exact ⟨by first | rfl | (simp [errW_none, errW_some] <;> rfl) | (simp [*, errW_none, errW_some] <;> rfl), by repeat (first | (with_reducible first | exact HB.out | apply below_alloc | apply pw_below_drewN | apply below_drew1 | refine below_set ?_ GE391.out | refine below_set ?_ GE392.out) | exact HB.out)⟩
    ·rw [if_neg c46] at H
     have c46b0 : (a0_0 == 3) = false := beq_eq_false_iff_ne.mpr c46
     have c46b1 : (a0_0 != 3) = true := bne_iff_ne.mpr c46
     by_cases c52 : a0_0 = 4
     ·rw [if_pos c52] at H
      have c52b0 : (a0_0 == 4) = true := beq_iff_eq.mpr c52
      have c52b1 : (a0_0 != 4) = false := bne_eq_false_iff_eq.mpr c52
      clear c52
      simp only [Option.some.injEq, Prod.mk.injEq] at H
      obtain ⟨rfl, rfl, rfl⟩ := H
      go_enter Try.func52, Try.ntmps52
      go_wp2_with (first | ((with_reducible refine gate_dst (N := 3) rfl ?_); refine box_event ?hg (N := 3) ?hd (cs := #[.int .i64 a0_0, .int .u64 a0_1, .int .u64 a0_2]) (t := 61) ?hr ?_; (case hd => rfl); (case hg => rfl); (case hr => first | (go_simp; done) | (go_simp; rfl)); intro gb391 hg w53 hbox hb; have n0_ := aA (below_step (blw HB.out) hb); have n1_ := aA (hbox); have n2_ := aA ((by rw [hg]; exact (below_size (blw HB.out)) : w.heap.size ≤ gb391)); have n3_ := aA ((by rw [hg]; exact (below_size (blw HB.out)) : w.heap.size ≤ gb391)); clear HB; have HB := n0_; have BK391 := n1_; have GW391 := n2_; have GE391 := n3_; clear n0_ n1_ n2_ n3_ hb hbox hg) | ((with_reducible refine gate_dst (N := 6) rfl ?_); refine box_event ?hg (N := 6) ?hd (cs := #[.int .i64 0, .int .u64 0, .int .u64 0]) (t := 61) ?hr ?_; (case hd => rfl); (case hg => rfl); (case hr => first | (go_simp; done) | (go_simp; rfl)); intro gb392 hg w54 hbox hb; have n0_ := aA (blk_below (g := gb391) (o := .cells #[.int .i64 a0_0, .int .u64 a0_1, .int .u64 a0_2] 61 (0, 0)) (bku BK391.out) hb); have n1_ := aA (below_step (bls HB.out) hb); have n2_ := aA (hbox); have n3_ := aA ((by rw [hg]; exact (below_size (bls HB.out)) : w.heap.size ≤ gb392)); have n4_ := aA ((by rw [hg]; exact (below_size (bls HB.out)) : w.heap.size ≤ gb392)); have n5_ := aA ((by rw [hg]; exact Nat.ne_of_lt (blk_lt (g := gb391) (o := .cells #[.int .i64 a0_0, .int .u64 a0_1, .int .u64 a0_2] 61 (0, 0)) (bku BK391.out)) : gb391 ≠ gb392)); have n6_ := aA ((by rw [hg]; exact Nat.ne_of_gt (blk_lt (g := gb391) (o := .cells #[.int .i64 a0_0, .int .u64 a0_1, .int .u64 a0_2] 61 (0, 0)) (bku BK391.out)) : gb392 ≠ gb391)); clear BK391 HB; have BK391 := n0_; have HB := n1_; have BK392 := n2_; have GW392 := n3_; have GE392 := n4_; have NB391_392 := n5_; have NB392_391 := n6_; clear n0_ n1_ n2_ n3_ n4_ n5_ n6_ hb hbox hg; have hnb55 := NB391_392.out; have hnc55 := NB392_391.out; have hcz56_0 : w54.cell? ⟨gb391, 0, none⟩ = some (.int .i64 a0_0) := (blk_cell BK391.out 0).trans rfl; have hcz56_1 : w54.cell? ⟨gb391, 1, none⟩ = some (.int .u64 a0_1) := (blk_cell BK391.out 1).trans rfl; have hcz56_2 : w54.cell? ⟨gb391, 2, none⟩ = some (.int .u64 a0_2) := (blk_cell BK391.out 2).trans rfl; have hfz56_0 := blk_frozen BK391.out 0; have hfz56_1 := blk_frozen BK391.out 1; have hfz56_2 := blk_frozen BK391.out 2; have hcz57_0 : w54.cell? ⟨gb392, 0, none⟩ = some (.int .i64 0) := (blk_cell BK392.out 0).trans rfl; have hcz57_1 : w54.cell? ⟨gb392, 1, none⟩ = some (.int .u64 0) := (blk_cell BK392.out 1).trans rfl; have hcz57_2 : w54.cell? ⟨gb392, 2, none⟩ = some (.int .u64 0) := (blk_cell BK392.out 2).trans rfl; have hfz57_0 := blk_frozen BK392.out 0; have hfz57_1 := blk_frozen BK392.out 1; have hfz57_2 := blk_frozen BK392.out 2))
      refine bodyPost_ret (results_cell_row rfl _ _ gb392 61 #[.int .i64 5, .int .u64 a0_1, .int .u64 a0_2] (0, 0) _ rfl (by (with_reducible repeat (first | refine blk_drewN ?_ _ | refine blk_drew ?_ | refine blk_alloc ?_ _)); refine blk_put (cs := #[.int .i64 5, .int .u64 a0_1, .int .u64 0]) ?_ 2 _ rfl; (with_reducible repeat (first | refine blk_drewN ?_ _ | refine blk_drew ?_ | refine blk_alloc ?_ _)); refine blk_put (cs := #[.int .i64 5, .int .u64 0, .int .u64 0]) ?_ 1 _ rfl; (with_reducible repeat (first | refine blk_drewN ?_ _ | refine blk_drew ?_ | refine blk_alloc ?_ _)); refine blk_put (cs := #[.int .i64 0, .int .u64 0, .int .u64 0]) ?_ 0 _ rfl; (with_reducible repeat (first | refine blk_drewN ?_ _ | refine blk_drew ?_ | refine blk_alloc ?_ _)); refine blk_far ?_ NB392_391.out _; (with_reducible repeat (first | refine blk_drewN ?_ _ | refine blk_drew ?_ | refine blk_alloc ?_ _)); exact BK392.out) Try.underlying61 rfl (by kernel_rfl)) rfl ?_
      exact ⟨by first | rfl | (simp [errW_none, errW_some] <;> rfl) | (simp [*, errW_none, errW_some] <;> rfl), by repeat (first | (with_reducible first | exact HB.out | apply below_alloc | apply pw_below_drewN | apply below_drew1 | refine below_set ?_ GE391.out | refine below_set ?_ GE392.out) | exact HB.out)⟩
     ·rw [if_neg c52] at H
      have c52b0 : (a0_0 == 4) = false := beq_eq_false_iff_ne.mpr c52
      have c52b1 : (a0_0 != 4) = true := bne_iff_ne.mpr c52
      simp only [Option.some.injEq, Prod.mk.injEq] at H
      obtain ⟨rfl, rfl, rfl⟩ := H
      go_enter Try.func52, Try.ntmps52
      go_wp2_with (first | ((with_reducible refine gate_dst (N := 3) rfl ?_); refine box_event ?hg (N := 3) ?hd (cs := #[.int .i64 a0_0, .int .u64 a0_1, .int .u64 a0_2]) (t := 61) ?hr ?_; (case hd => rfl); (case hg => rfl); (case hr => first | (go_simp; done) | (go_simp; rfl)); intro gb391 hg w58 hbox hb; have n0_ := aA (below_step (blw HB.out) hb); have n1_ := aA (hbox); have n2_ := aA ((by rw [hg]; exact (below_size (blw HB.out)) : w.heap.size ≤ gb391)); have n3_ := aA ((by rw [hg]; exact (below_size (blw HB.out)) : w.heap.size ≤ gb391)); clear HB; have HB := n0_; have BK391 := n1_; have GW391 := n2_; have GE391 := n3_; clear n0_ n1_ n2_ n3_ hb hbox hg) | ((with_reducible refine gate_dst (N := 6) rfl ?_); refine box_event ?hg (N := 6) ?hd (cs := #[.int .i64 0, .int .u64 0, .int .u64 0]) (t := 61) ?hr ?_; (case hd => rfl); (case hg => rfl); (case hr => first | (go_simp; done) | (go_simp; rfl)); intro gb392 hg w59 hbox hb; have n0_ := aA (blk_below (g := gb391) (o := .cells #[.int .i64 a0_0, .int .u64 a0_1, .int .u64 a0_2] 61 (0, 0)) (bku BK391.out) hb); have n1_ := aA (below_step (bls HB.out) hb); have n2_ := aA (hbox); have n3_ := aA ((by rw [hg]; exact (below_size (bls HB.out)) : w.heap.size ≤ gb392)); have n4_ := aA ((by rw [hg]; exact (below_size (bls HB.out)) : w.heap.size ≤ gb392)); have n5_ := aA ((by rw [hg]; exact Nat.ne_of_lt (blk_lt (g := gb391) (o := .cells #[.int .i64 a0_0, .int .u64 a0_1, .int .u64 a0_2] 61 (0, 0)) (bku BK391.out)) : gb391 ≠ gb392)); have n6_ := aA ((by rw [hg]; exact Nat.ne_of_gt (blk_lt (g := gb391) (o := .cells #[.int .i64 a0_0, .int .u64 a0_1, .int .u64 a0_2] 61 (0, 0)) (bku BK391.out)) : gb392 ≠ gb391)); clear BK391 HB; have BK391 := n0_; have HB := n1_; have BK392 := n2_; have GW392 := n3_; have GE392 := n4_; have NB391_392 := n5_; have NB392_391 := n6_; clear n0_ n1_ n2_ n3_ n4_ n5_ n6_ hb hbox hg; have hnb60 := NB391_392.out; have hnc60 := NB392_391.out; have hcz61_0 : w59.cell? ⟨gb391, 0, none⟩ = some (.int .i64 a0_0) := (blk_cell BK391.out 0).trans rfl; have hcz61_1 : w59.cell? ⟨gb391, 1, none⟩ = some (.int .u64 a0_1) := (blk_cell BK391.out 1).trans rfl; have hcz61_2 : w59.cell? ⟨gb391, 2, none⟩ = some (.int .u64 a0_2) := (blk_cell BK391.out 2).trans rfl; have hfz61_0 := blk_frozen BK391.out 0; have hfz61_1 := blk_frozen BK391.out 1; have hfz61_2 := blk_frozen BK391.out 2; have hcz62_0 : w59.cell? ⟨gb392, 0, none⟩ = some (.int .i64 0) := (blk_cell BK392.out 0).trans rfl; have hcz62_1 : w59.cell? ⟨gb392, 1, none⟩ = some (.int .u64 0) := (blk_cell BK392.out 1).trans rfl; have hcz62_2 : w59.cell? ⟨gb392, 2, none⟩ = some (.int .u64 0) := (blk_cell BK392.out 2).trans rfl; have hfz62_0 := blk_frozen BK392.out 0; have hfz62_1 := blk_frozen BK392.out 1; have hfz62_2 := blk_frozen BK392.out 2))
      refine bodyPost_ret (results_cell_row rfl _ _ gb392 61 #[.int .i64 a0_0, .int .u64 a0_1, .int .u64 a0_2] (0, 0) _ rfl (by (with_reducible repeat (first | refine blk_drewN ?_ _ | refine blk_drew ?_ | refine blk_alloc ?_ _)); refine blk_put (cs := #[.int .i64 a0_0, .int .u64 a0_1, .int .u64 0]) ?_ 2 _ rfl; (with_reducible repeat (first | refine blk_drewN ?_ _ | refine blk_drew ?_ | refine blk_alloc ?_ _)); refine blk_put (cs := #[.int .i64 a0_0, .int .u64 0, .int .u64 0]) ?_ 1 _ rfl; (with_reducible repeat (first | refine blk_drewN ?_ _ | refine blk_drew ?_ | refine blk_alloc ?_ _)); refine blk_put (cs := #[.int .i64 0, .int .u64 0, .int .u64 0]) ?_ 0 _ rfl; (with_reducible repeat (first | refine blk_drewN ?_ _ | refine blk_drew ?_ | refine blk_alloc ?_ _)); exact BK392.out) Try.underlying61 rfl (by kernel_rfl)) rfl ?_
      exact ⟨by first | rfl | (simp [errW_none, errW_some] <;> rfl) | (simp [*, errW_none, errW_some] <;> rfl), by repeat (first | (with_reducible first | exact HB.out | apply below_alloc | apply pw_below_drewN | apply below_drew1 | refine below_set ?_ GE391.out | refine below_set ?_ GE392.out) | exact HB.out)⟩

/-! ### treillageref16_places: function 67 -/
def treillageref16_places.l0 : Nat → Int → Int → Int → Int → Option (Int)
 | 0, _, _, _, _ => none
 | k + 1, x3, x4, x394000, x394001 => if x4 < x394001 then (if x4 < 64 then (treillageref16_places.l0 k (IntKind.u64.wrap (x3 * 2)) (wrap64 (x4 + 1)) x394000 x394001) else (some x3)) else (some x3)
def treillageref16_places.f (k : Nat) (a0_0 : Int) (a0_1 : Int) : Option (Int) := treillageref16_places.l0 k 1 0 a0_0 a0_1
theorem treillageref16_places.mono_l : ∀ k, (∀ y0 y1 y2 y3, LeO (treillageref16_places.l0 k y0 y1 y2 y3) (treillageref16_places.l0 (k + 1) y0 y1 y2 y3))
 | 0 => fun _ _ _ _ r h => by simp [treillageref16_places.l0] at h
 | k + 1 => by
  have ih0 := treillageref16_places.mono_l k
  ·intro y0 y1 y2 y3
   unfold treillageref16_places.l0
   repeat' first
   | (with_reducible exact ih0 _ _ _ _)
   | (with_reducible exact LeO.refl _)
   | (with_reducible exact LeO.none _)
   | (with_reducible refine LeO.ite ?_ ?_)
   | (with_reducible refine LeO.bind ?_ (fun _ => ?_))
   | exact ih0 _ _ _ _
   | exact LeO.none _
   | refine LeO.ite ?_ ?_
   | refine LeO.bind ?_ (fun _ => ?_)
theorem treillageref16_places.mono : ∀ a0 a1 k, LeO (treillageref16_places.f k a0 a1) (treillageref16_places.f (k + 1) a0 a1) := by
 intro a0 a1 k
 have ih0 := treillageref16_places.mono_l k
 unfold treillageref16_places.f
 repeat' first
   | (with_reducible exact ih0 _ _ _ _)
   | (with_reducible exact LeO.refl _)
   | (with_reducible exact LeO.none _)
   | (with_reducible refine LeO.ite ?_ ?_)
   | (with_reducible refine LeO.bind ?_ (fun _ => ?_))
   | exact ih0 _ _ _ _
   | exact LeO.none _
   | refine LeO.ite ?_ ?_
   | refine LeO.bind ?_ (fun _ => ?_)
set_option maxHeartbeats 8000000 in
set_option maxRecDepth 100000 in
theorem treillageref16_places.calls (k : Nat) (a0_0 : Int) (a0_1 : Int) (r : Int) (w : World) (h : treillageref16_places.f k a0_0 a0_1 = some r) :
  Calls Try.prog 67 #[.agg #[.int .i64 a0_0, .int .i64 a0_1]] w fun e w' => e = .returned (.int .u64 r) ∧ Below w.heap.size w w' := by
 have hu39 := Try.underlying39
 have HB := aA (Below.refl w.heap.size w)
 have H : (treillageref16_places.l0 k 1 0 a0_0 a0_1) = some r := h
 clear h
 have H' := aA H
 clear H
 go_enter Try.func67, Try.ntmps67
 go_wp2_with (first | ((with_reducible refine gate_dst (N := 1) rfl ?_); refine box_event ?hg (N := 1) ?hd (cs := #[.int .i64 a0_0, .int .i64 a0_1]) (t := 39) ?hr ?_; (case hd => rfl); (case hg => rfl); (case hr => first | (go_simp; done) | (go_simp; rfl)); intro gb393 hg w2 hbox hb; have n0_ := aA (below_step (blw HB.out) hb); have n1_ := aA (hbox); have n2_ := aA ((by rw [hg]; exact (below_size (blw HB.out)) : w.heap.size ≤ gb393)); have n3_ := aA ((by rw [hg]; exact (below_size (blw HB.out)) : w.heap.size ≤ gb393)); clear HB; have HB := n0_; have BK393 := n1_; have GW393 := n2_; have GE393 := n3_; clear n0_ n1_ n2_ n3_ hb hbox hg))
 go_loopg [3, 4] k (fun kq v3 v4 w' => ∃ (x3_1 : Int) (x4_1 : Int), v3 = .int .u64 x3_1 ∧ v4 = .int .i64 x4_1 ∧ Aside0 (treillageref16_places.l0 kq x3_1 x4_1 a0_0 a0_1 = some r) ∧ Aside0 (kq ≤ k) ∧ Aside0 (w'.heap[gb393]? = some (.cells #[.int .i64 a0_0, .int .i64 a0_1] 39 (0, 0))) ∧ Aside0 (Below w.heap.size w w'))
 case atStart => exact ⟨(1), (0), (by first | rfl | (simp; done) | (simp [*]; done)), (by first | rfl | (simp; done) | (simp [*]; done)), H', ⟨Nat.le_refl _⟩, ⟨by (with_reducible repeat (first | refine blk_drewN ?_ _ | refine blk_drew ?_ | refine blk_alloc ?_ _)); exact BK393.out⟩, ⟨by repeat (first | (with_reducible first | exact HB.out | apply below_alloc | apply pw_below_drewN | apply below_drew1 | refine below_set ?_ GE393.out) | exact HB.out)⟩⟩
 case round =>
  clear H'
  try clear p2
  obtain ⟨x3_1, x4_1, rfl, rfl, HA, HK1, BK393, HB⟩ := hrel
  cases gk with
  | zero => exact absurd HA.out (by simp [treillageref16_places.l0])
  | succ k1 =>
   have H := HA.out
   clear HA
   simp only [treillageref16_places.l0] at H
   by_cases c3 : x4_1 < a0_1
   ·rw [if_pos c3] at H
    have c3b0 : decide (x4_1 < a0_1) = true := decide_eq_true c3
    clear c3
    by_cases c4 : x4_1 < 64
    ·rw [if_pos c4] at H
     have c4b0 : decide (x4_1 < 64) = true := decide_eq_true c4
     clear c4
     have H' := aA H
     clear H
     have hcz5_0 : wr.cell? ⟨gb393, 0, none⟩ = some (.int .i64 a0_0) := (blk_cell BK393.out 0).trans rfl
     have hcz5_1 : wr.cell? ⟨gb393, 1, none⟩ = some (.int .i64 a0_1) := (blk_cell BK393.out 1).trans rfl
     have hfz5_0 := blk_frozen BK393.out 0
     have hfz5_1 := blk_frozen BK393.out 1
     go_wp2
     go_roundg k1
     case measure => have := HK1.out; omega
     case rel => exact ⟨(IntKind.u64.wrap (x3_1 * 2)), (wrap64 (x4_1 + 1)), (by first | rfl | (simp; done) | (simp [*]; done)), (by first | rfl | (simp; done) | (simp [*]; done)), H', ⟨by have := HK1.out; omega⟩, ⟨by (with_reducible repeat (first | refine blk_drewN ?_ _ | refine blk_drew ?_ | refine blk_alloc ?_ _)); exact BK393.out⟩, ⟨by repeat (first | (with_reducible first | exact HB.out | apply below_alloc | apply pw_below_drewN | apply below_drew1 | refine below_set ?_ GE393.out) | exact HB.out)⟩⟩
    ·rw [if_neg c4] at H
     have c4b0 : decide (x4_1 < 64) = false := decide_eq_false c4
     clear c4
     obtain rfl := Option.some.inj H
     have hcz6_0 : wr.cell? ⟨gb393, 0, none⟩ = some (.int .i64 a0_0) := (blk_cell BK393.out 0).trans rfl
     have hcz6_1 : wr.cell? ⟨gb393, 1, none⟩ = some (.int .i64 a0_1) := (blk_cell BK393.out 1).trans rfl
     have hfz6_0 := blk_frozen BK393.out 0
     have hfz6_1 := blk_frozen BK393.out 1
     go_wp2
     go_ret
     exact ⟨by first | rfl | (simp [errW_none, errW_some] <;> rfl) | (simp [*, errW_none, errW_some] <;> rfl), by repeat (first | (with_reducible first | exact HB.out | apply below_alloc | apply pw_below_drewN | apply below_drew1 | refine below_set ?_ GE393.out) | exact HB.out)⟩
   ·rw [if_neg c3] at H
    have c3b0 : decide (x4_1 < a0_1) = false := decide_eq_false c3
    clear c3
    obtain rfl := Option.some.inj H
    have hcz7_0 : wr.cell? ⟨gb393, 0, none⟩ = some (.int .i64 a0_0) := (blk_cell BK393.out 0).trans rfl
    have hcz7_1 : wr.cell? ⟨gb393, 1, none⟩ = some (.int .i64 a0_1) := (blk_cell BK393.out 1).trans rfl
    have hfz7_0 := blk_frozen BK393.out 0
    have hfz7_1 := blk_frozen BK393.out 1
    go_wp2
    go_ret
    exact ⟨by first | rfl | (simp [errW_none, errW_some] <;> rfl) | (simp [*, errW_none, errW_some] <;> rfl), by repeat (first | (with_reducible first | exact HB.out | apply below_alloc | apply pw_below_drewN | apply below_drew1 | refine below_set ?_ GE393.out) | exact HB.out)⟩

end Go.Proofs.Ytcjkjlopbjijaaa.PQ
