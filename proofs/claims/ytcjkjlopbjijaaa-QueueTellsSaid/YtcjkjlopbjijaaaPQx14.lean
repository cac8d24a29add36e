-- Written by wip/hprint/hprint.py (a program of this session, over the print): not typed by hand
import Derived.Test.YtcjkjlopbjijaaaPQx0
import Derived.Test.YtcjkjlopbjijaaaPQx12
import Derived.Test.YtcjkjlopbjijaaaPQx13
namespace Go.Proofs.Ytcjkjlopbjijaaa.PQ
open Go.RowKit Go.Proofs.YtcjkjlopbjijaaaW.PrintWords Go.Proofs.YtcjkjlopbjijaaaW.PrintLast Go.Proofs.YtcjkjlopbjijaaaW.PrintMore
attribute [local go_sem] max2_int min2_int max_two min_two max_three min_three max_four min_four   -- for this text's walks alone
open Go.Proofs.YtcjkjlopbjijaaaH
set_option linter.unusedVariables false
set_option linter.unusedSimpArgs false

/-! ### treillageref16_Next: function 54 -/
def treillageref16_Next.f (k : Nat) (a0_0 : Int) (a0_1 : Int) (a1_0 : Int) (a1_1 : Int) (a1_2 : Int) : Option (Int × Int × Int × Int) := if a1_0 = 0 then ((treillageref15_Seq.f k a0_0 a0_1 a1_1).bind fun t397 => (some (1, t397, 0, 0))) else (if a1_0 = 1 then ((treillageref15_Item.f k a0_0 a0_1 a1_1).bind fun t398 => (some (1, t398, 0, 0))) else ((treillageref15_Seq.f k a0_0 a0_1 a1_1).bind fun t399 => ((treillageref16_places.f k a0_0 a0_1).bind fun t400 => (some (2, t399, 0, IntKind.u64.wrap (a1_1 + t400))))))
theorem treillageref16_Next.mono : ∀ a0 a1 a2 a3 a4 k, LeO (treillageref16_Next.f k a0 a1 a2 a3 a4) (treillageref16_Next.f (k + 1) a0 a1 a2 a3 a4) := by
 intro a0 a1 a2 a3 a4 k
 unfold treillageref16_Next.f
 repeat' first
   | (with_reducible exact treillageref15_Item.mono _ _ _ _)
   | (with_reducible exact treillageref15_Seq.mono _ _ _ _)
   | (with_reducible exact treillageref16_places.mono _ _ _)
   | (with_reducible exact LeO.refl _)
   | (with_reducible exact LeO.none _)
   | (with_reducible refine LeO.ite ?_ ?_)
   | (with_reducible refine LeO.bind ?_ (fun _ => ?_))
   | exact treillageref15_Item.mono _ _ _ _
   | exact treillageref15_Seq.mono _ _ _ _
   | exact treillageref16_places.mono _ _ _
   | exact LeO.none _
   | refine LeO.ite ?_ ?_
   | refine LeO.bind ?_ (fun _ => ?_)
def treillageref16_Next.T6 : Bool × List (List Nat × List Nat) := (true, [([], []), ([], []), ([1], [1]), ([0, 2], [0, 2]), ([], []), ([4], [4]), ([], []), ([6, 3], [6]), ([5, 7], [5, 7]), ([3, 8], [3, 8]), ([9, 7, 0, 1, 2, 3, 4, 5, 6, 7, 8, 9], [9])])
def treillageref16_Next.B6 : List Nat := [0, 0, 2, 7, 0, 16, 0, 79, 255, 511, 1023]
theorem treillageref16_Next.tab6 : rtab .any (opsOf Try.f54 6) = treillageref16_Next.T6 := by kernel_rfl
theorem treillageref16_Next.bits6 : waitsOk treillageref16_Next.T6.2 treillageref16_Next.B6 = true := by kernel_rfl
set_option maxHeartbeats 8000000 in
set_option maxRecDepth 100000 in
theorem treillageref16_Next.calls (k : Nat) (a0_0 : Int) (a0_1 : Int) (a1_0 : Int) (a1_1 : Int) (a1_2 : Int) (r1 : Int) (r2 : Int) (r3 : Int) (r4 : Int) (w : World) (h : treillageref16_Next.f k a0_0 a0_1 a1_0 a1_1 a1_2 = some (r1, r2, r3, r4)) :
  Calls Try.prog 54 #[.agg #[.int .i64 a0_0, .int .i64 a0_1], .agg #[.int .i64 a1_0, .int .u64 a1_1, .int .u64 a1_2]] w fun e w' => e = .returned (.agg #[.int .i64 r1, .int .i64 r2, .int .u64 r3, .int .u64 r4]) ∧ Below w.heap.size w w' := by
 have hu39 := Try.underlying39
 have hu64 := Try.underlying64
 have hu30 := Try.underlying30
 have HB := aA (Below.refl w.heap.size w)
 have H : (if a1_0 = 0 then ((treillageref15_Seq.f k a0_0 a0_1 a1_1).bind fun t397 => (some (1, t397, 0, 0))) else (if a1_0 = 1 then ((treillageref15_Item.f k a0_0 a0_1 a1_1).bind fun t398 => (some (1, t398, 0, 0))) else ((treillageref15_Seq.f k a0_0 a0_1 a1_1).bind fun t399 => ((treillageref16_places.f k a0_0 a0_1).bind fun t400 => (some (2, t399, 0, IntKind.u64.wrap (a1_1 + t400))))))) = some (r1, r2, r3, r4) := h
 clear h
 by_cases c3 : a1_0 = 0
 ·rw [if_pos c3] at H
  have c3b0 : (a1_0 == 0) = true := beq_iff_eq.mpr c3
  have c3b1 : (a1_0 != 0) = false := bne_eq_false_iff_eq.mpr c3
  clear c3
  replace H := Option.bind_eq_some_iff.mp H
  obtain ⟨t397, A40, H⟩ := H
  replace H : (some (1, t397, 0, 0)) = some (r1, r2, r3, r4) := H
  have A4 := aA A40
  clear A40
  simp only [Option.some.injEq, Prod.mk.injEq] at H
  obtain ⟨rfl, rfl, rfl, rfl⟩ := H
  go_enter Try.func54, Try.ntmps54
  go_wp2_with (first | ((with_reducible refine gate_dst (N := 2) rfl ?_); refine box_event ?hg (N := 2) ?hd (cs := #[.int .i64 a0_0, .int .i64 a0_1]) (t := 39) ?hr ?_; (case hd => rfl); (case hg => rfl); (case hr => first | (go_simp; done) | (go_simp; rfl)); intro gb394 hg w5 hbox hb; have n0_ := aA (below_step (blw HB.out) hb); have n1_ := aA (hbox); have n2_ := aA ((by rw [hg]; exact (below_size (blw HB.out)) : w.heap.size ≤ gb394)); have n3_ := aA ((by rw [hg]; exact (below_size (blw HB.out)) : w.heap.size ≤ gb394)); clear HB; have HB := n0_; have BK394 := n1_; have GW394 := n2_; have GE394 := n3_; clear n0_ n1_ n2_ n3_ hb hbox hg) | ((with_reducible refine gate_dst (N := 3) rfl ?_); refine box_event ?hg (N := 3) ?hd (cs := #[.int .i64 a1_0, .int .u64 a1_1, .int .u64 a1_2]) (t := 64) ?hr ?_; (case hd => rfl); (case hg => rfl); (case hr => first | (go_simp; done) | (go_simp; rfl)); intro gb395 hg w6 hbox hb; have n0_ := aA (blk_below (g := gb394) (o := .cells #[.int .i64 a0_0, .int .i64 a0_1] 39 (0, 0)) (bku BK394.out) hb); have n1_ := aA (below_step (bls HB.out) hb); have n2_ := aA (hbox); have n3_ := aA ((by rw [hg]; exact (below_size (bls HB.out)) : w.heap.size ≤ gb395)); have n4_ := aA ((by rw [hg]; exact (below_size (bls HB.out)) : w.heap.size ≤ gb395)); have n5_ := aA ((by rw [hg]; exact Nat.ne_of_lt (blk_lt (g := gb394) (o := .cells #[.int .i64 a0_0, .int .i64 a0_1] 39 (0, 0)) (bku BK394.out)) : gb394 ≠ gb395)); have n6_ := aA ((by rw [hg]; exact Nat.ne_of_gt (blk_lt (g := gb394) (o := .cells #[.int .i64 a0_0, .int .i64 a0_1] 39 (0, 0)) (bku BK394.out)) : gb395 ≠ gb394)); clear BK394 HB; have BK394 := n0_; have HB := n1_; have BK395 := n2_; have GW395 := n3_; have GE395 := n4_; have NB394_395 := n5_; have NB395_394 := n6_; clear n0_ n1_ n2_ n3_ n4_ n5_ n6_ hb hbox hg) | ((with_reducible refine gate_dst (N := 4) rfl ?_); refine box_event ?hg (N := 4) ?hd (cs := #[.int .i64 0, .int .i64 0, .int .u64 0, .int .u64 0]) (t := 30) ?hr ?_; (case hd => rfl); (case hg => rfl); (case hr => first | (go_simp; done) | (go_simp; rfl)); intro gb396 hg w7 hbox hb; have n0_ := aA (blk_below (g := gb394) (o := .cells #[.int .i64 a0_0, .int .i64 a0_1] 39 (0, 0)) (bku BK394.out) hb); have n1_ := aA (blk_below (g := gb395) (o := .cells #[.int .i64 a1_0, .int .u64 a1_1, .int .u64 a1_2] 64 (0, 0)) (bku BK395.out) hb); have n2_ := aA (below_step (bls HB.out) hb); have n3_ := aA (hbox); have n4_ := aA ((by rw [hg]; exact (below_size (bls HB.out)) : w.heap.size ≤ gb396)); have n5_ := aA ((by rw [hg]; exact (below_size (bls HB.out)) : w.heap.size ≤ gb396)); have n6_ := aA ((by rw [hg]; exact Nat.ne_of_lt (blk_lt (g := gb394) (o := .cells #[.int .i64 a0_0, .int .i64 a0_1] 39 (0, 0)) (bku BK394.out)) : gb394 ≠ gb396)); have n7_ := aA ((by rw [hg]; exact Nat.ne_of_gt (blk_lt (g := gb394) (o := .cells #[.int .i64 a0_0, .int .i64 a0_1] 39 (0, 0)) (bku BK394.out)) : gb396 ≠ gb394)); have n8_ := aA ((by rw [hg]; exact Nat.ne_of_lt (blk_lt (g := gb395) (o := .cells #[.int .i64 a1_0, .int .u64 a1_1, .int .u64 a1_2] 64 (0, 0)) (bku BK395.out)) : gb395 ≠ gb396)); have n9_ := aA ((by rw [hg]; exact Nat.ne_of_gt (blk_lt (g := gb395) (o := .cells #[.int .i64 a1_0, .int .u64 a1_1, .int .u64 a1_2] 64 (0, 0)) (bku BK395.out)) : gb396 ≠ gb395)); clear BK394 BK395 HB; have BK394 := n0_; have BK395 := n1_; have HB := n2_; have BK396 := n3_; have GW396 := n4_; have GE396 := n5_; have NB394_396 := n6_; have NB396_394 := n7_; have NB395_396 := n8_; have NB396_395 := n9_; clear n0_ n1_ n2_ n3_ n4_ n5_ n6_ n7_ n8_ n9_ hb hbox hg; have hnb8 := NB395_394.out; have hnc8 := NB394_395.out; have hnb9 := NB395_396.out; have hnc9 := NB396_395.out; have hcz10_0 : w7.cell? ⟨gb395, 0, none⟩ = some (.int .i64 a1_0) := (blk_cell BK395.out 0).trans rfl; have hcz10_1 : w7.cell? ⟨gb395, 1, none⟩ = some (.int .u64 a1_1) := (blk_cell BK395.out 1).trans rfl; have hcz10_2 : w7.cell? ⟨gb395, 2, none⟩ = some (.int .u64 a1_2) := (blk_cell BK395.out 2).trans rfl; have hfz10_0 := blk_frozen BK395.out 0; have hfz10_1 := blk_frozen BK395.out 1; have hfz10_2 := blk_frozen BK395.out 2; have hnb11 := NB394_396.out; have hnc11 := NB396_394.out; have hcz12_0 : w7.cell? ⟨gb394, 0, none⟩ = some (.int .i64 a0_0) := (blk_cell BK394.out 0).trans rfl; have hcz12_1 : w7.cell? ⟨gb394, 1, none⟩ = some (.int .i64 a0_1) := (blk_cell BK394.out 1).trans rfl; have hfz12_0 := blk_frozen BK394.out 0; have hfz12_1 := blk_frozen BK394.out 1) | ((with_reducible refine gate_callee (f := 43) rfl ?_); refine goesL_ (some 12) rfl rfl Try.func43 (by kernel_rfl) rfl #[.agg #[.int .i64 a0_0, .int .i64 a0_1], .int .u64 a1_1] rfl (by (try simp only [List.map_toArray, List.map_cons, List.map_nil]); first | done | rfl | (simp only [List.length_drop, List.length_take]; rfl)) ?_; (with_reducible refine (treillageref15_Seq.calls k a0_0 a0_1 a1_1 t397 _ A4.out).mono ?_); rintro e w13 ⟨rfl, hb⟩; refine ⟨_, rfl, ?_⟩; have n0_ := aA (blk_below (g := gb394) (o := .cells #[.int .i64 a0_0, .int .i64 a0_1] 39 (0, 0)) (bku BK394.out) hb); have n1_ := aA (blk_below (g := gb395) (o := .cells #[.int .i64 a1_0, .int .u64 a1_1, .int .u64 a1_2] 64 (0, 0)) (bku BK395.out) hb); have n2_ := aA (blk_below (g := gb396) (o := .cells #[.int .i64 0, .int .i64 0, .int .u64 0, .int .u64 0] 30 (0, 0)) (bku BK396.out) hb); have n3_ := aA (below_step (bls HB.out) hb); clear BK394 BK395 BK396 HB; have BK394 := n0_; have BK395 := n1_; have BK396 := n2_; have HB := n3_; clear n0_ n1_ n2_ n3_; (try clear hb); (try clear hb2); (try clear hk); (try clear hi); have hcz14_0 : w13.cell? ⟨gb396, 0, none⟩ = some (.int .i64 0) := (blk_cell BK396.out 0).trans rfl; have hcz14_1 : w13.cell? ⟨gb396, 1, none⟩ = some (.int .i64 0) := (blk_cell BK396.out 1).trans rfl; have hcz14_2 : w13.cell? ⟨gb396, 2, none⟩ = some (.int .u64 0) := (blk_cell BK396.out 2).trans rfl; have hcz14_3 : w13.cell? ⟨gb396, 3, none⟩ = some (.int .u64 0) := (blk_cell BK396.out 3).trans rfl; have hfz14_0 := blk_frozen BK396.out 0; have hfz14_1 := blk_frozen BK396.out 1; have hfz14_2 := blk_frozen BK396.out 2; have hfz14_3 := blk_frozen BK396.out 3))
  refine bodyPost_ret (results_cell_row rfl _ _ gb396 30 #[.int .i64 1, .int .i64 t397, .int .u64 0, .int .u64 0] (0, 0) _ rfl (by refine bku ?_; refine blk_put (cs := #[.int .i64 1, .int .i64 t397, .int .u64 0, .int .u64 0]) ?_ 3 _ rfl; refine bku ?_; refine blk_put (cs := #[.int .i64 1, .int .i64 t397, .int .u64 0, .int .u64 0]) ?_ 2 _ rfl; refine bku ?_; refine blk_put (cs := #[.int .i64 1, .int .i64 0, .int .u64 0, .int .u64 0]) ?_ 1 _ rfl; refine bku ?_; refine blk_put (cs := #[.int .i64 0, .int .i64 0, .int .u64 0, .int .u64 0]) ?_ 0 _ rfl; refine bku ?_; exact BK396.out) Try.underlying30 rfl (by kernel_rfl)) rfl ?_
  exact ⟨by first | rfl | (simp [errW_none, errW_some] <;> rfl) | (simp [*, errW_none, errW_some] <;> rfl), by repeat (first | (with_reducible first | exact HB.out | apply below_alloc | apply pw_below_drewN | apply below_drew1 | refine below_set ?_ GE394.out | refine below_set ?_ GE395.out | refine below_set ?_ GE396.out) | exact HB.out)⟩
 ·rw [if_neg c3] at H
  have c3b0 : (a1_0 == 0) = false := beq_eq_false_iff_ne.mpr c3
  have c3b1 : (a1_0 != 0) = true := bne_iff_ne.mpr c3
  by_cases c15 : a1_0 = 1
  ·rw [if_pos c15] at H
   have c15b0 : (a1_0 == 1) = true := beq_iff_eq.mpr c15
   have c15b1 : (a1_0 != 1) = false := bne_eq_false_iff_eq.mpr c15
   clear c15
   replace H := Option.bind_eq_some_iff.mp H
   obtain ⟨t398, A160, H⟩ := H
   replace H : (some (1, t398, 0, 0)) = some (r1, r2, r3, r4) := H
   have A16 := aA A160
   clear A160
   simp only [Option.some.injEq, Prod.mk.injEq] at H
   obtain ⟨rfl, rfl, rfl, rfl⟩ := H
   go_enter Try.func54, Try.ntmps54
   go_wp2_with (first | ((with_reducible refine gate_dst (N := 2) rfl ?_); refine box_event ?hg (N := 2) ?hd (cs := #[.int .i64 a0_0, .int .i64 a0_1]) (t := 39) ?hr ?_; (case hd => rfl); (case hg => rfl); (case hr => first | (go_simp; done) | (go_simp; rfl)); intro gb394 hg w17 hbox hb; have n0_ := aA (below_step (blw HB.out) hb); have n1_ := aA (hbox); have n2_ := aA ((by rw [hg]; exact (below_size (blw HB.out)) : w.heap.size ≤ gb394)); have n3_ := aA ((by rw [hg]; exact (below_size (blw HB.out)) : w.heap.size ≤ gb394)); clear HB; have HB := n0_; have BK394 := n1_; have GW394 := n2_; have GE394 := n3_; clear n0_ n1_ n2_ n3_ hb hbox hg) | ((with_reducible refine gate_dst (N := 3) rfl ?_); refine box_event ?hg (N := 3) ?hd (cs := #[.int .i64 a1_0, .int .u64 a1_1, .int .u64 a1_2]) (t := 64) ?hr ?_; (case hd => rfl); (case hg => rfl); (case hr => first | (go_simp; done) | (go_simp; rfl)); intro gb395 hg w18 hbox hb; have n0_ := aA (blk_below (g := gb394) (o := .cells #[.int .i64 a0_0, .int .i64 a0_1] 39 (0, 0)) (bku BK394.out) hb); have n1_ := aA (below_step (bls HB.out) hb); have n2_ := aA (hbox); have n3_ := aA ((by rw [hg]; exact (below_size (bls HB.out)) : w.heap.size ≤ gb395)); have n4_ := aA ((by rw [hg]; exact (below_size (bls HB.out)) : w.heap.size ≤ gb395)); have n5_ := aA ((by rw [hg]; exact Nat.ne_of_lt (blk_lt (g := gb394) (o := .cells #[.int .i64 a0_0, .int .i64 a0_1] 39 (0, 0)) (bku BK394.out)) : gb394 ≠ gb395)); have n6_ := aA ((by rw [hg]; exact Nat.ne_of_gt (blk_lt (g := gb394) (o := .cells #[.int .i64 a0_0, .int .i64 a0_1] 39 (0, 0)) (bku BK394.out)) : gb395 ≠ gb394)); clear BK394 HB; have BK394 := n0_; have HB := n1_; have BK395 := n2_; have GW395 := n3_; have GE395 := n4_; have NB394_395 := n5_; have NB395_394 := n6_; clear n0_ n1_ n2_ n3_ n4_ n5_ n6_ hb hbox hg) | ((with_reducible refine gate_dst (N := 4) rfl ?_); refine box_event ?hg (N := 4) ?hd (cs := #[.int .i64 0, .int .i64 0, .int .u64 0, .int .u64 0]) (t := 30) ?hr ?_; (case hd => rfl); (case hg => rfl); (case hr => first | (go_simp; done) | (go_simp; rfl)); intro gb396 hg w19 hbox hb; have n0_ := aA (blk_below (g := gb394) (o := .cells #[.int .i64 a0_0, .int .i64 a0_1] 39 (0, 0)) (bku BK394.out) hb); have n1_ := aA (blk_below (g := gb395) (o := .cells #[.int .i64 a1_0, .int .u64 a1_1, .int .u64 a1_2] 64 (0, 0)) (bku BK395.out) hb); have n2_ := aA (below_step (bls HB.out) hb); have n3_ := aA (hbox); have n4_ := aA ((by rw [hg]; exact (below_size (bls HB.out)) : w.heap.size ≤ gb396)); have n5_ := aA ((by rw [hg]; exact (below_size (bls HB.out)) : w.heap.size ≤ gb396)); have n6_ := aA ((by rw [hg]; exact Nat.ne_of_lt (blk_lt (g := gb394) (o := .cells #[.int .i64 a0_0, .int .i64 a0_1] 39 (0, 0)) (bku BK394.out)) : gb394 ≠ gb396)); have n7_ := aA ((by rw [hg]; exact Nat.ne_of_gt (blk_lt (g := gb394) (o := .cells #[.int .i64 a0_0, .int .i64 a0_1] 39 (0, 0)) (bku BK394.out)) : gb396 ≠ gb394)); have n8_ := aA ((by rw [hg]; exact Nat.ne_of_lt (blk_lt (g := gb395) (o := .cells #[.int .i64 a1_0, .int .u64 a1_1, .int .u64 a1_2] 64 (0, 0)) (bku BK395.out)) : gb395 ≠ gb396)); have n9_ := aA ((by rw [hg]; exact Nat.ne_of_gt (blk_lt (g := gb395) (o := .cells #[.int .i64 a1_0, .int .u64 a1_1, .int .u64 a1_2] 64 (0, 0)) (bku BK395.out)) : gb396 ≠ gb395)); clear BK394 BK395 HB; have BK394 := n0_; have BK395 := n1_; have HB := n2_; have BK396 := n3_; have GW396 := n4_; have GE396 := n5_; have NB394_396 := n6_; have NB396_394 := n7_; have NB395_396 := n8_; have NB396_395 := n9_; clear n0_ n1_ n2_ n3_ n4_ n5_ n6_ n7_ n8_ n9_ hb hbox hg; have hnb20 := NB395_394.out; have hnc20 := NB394_395.out; have hnb21 := NB395_396.out; have hnc21 := NB396_395.out; have hcz22_0 : w19.cell? ⟨gb395, 0, none⟩ = some (.int .i64 a1_0) := (blk_cell BK395.out 0).trans rfl; have hcz22_1 : w19.cell? ⟨gb395, 1, none⟩ = some (.int .u64 a1_1) := (blk_cell BK395.out 1).trans rfl; have hcz22_2 : w19.cell? ⟨gb395, 2, none⟩ = some (.int .u64 a1_2) := (blk_cell BK395.out 2).trans rfl; have hfz22_0 := blk_frozen BK395.out 0; have hfz22_1 := blk_frozen BK395.out 1; have hfz22_2 := blk_frozen BK395.out 2; have hnb23 := NB394_396.out; have hnc23 := NB396_394.out; have hcz24_0 : w19.cell? ⟨gb394, 0, none⟩ = some (.int .i64 a0_0) := (blk_cell BK394.out 0).trans rfl; have hcz24_1 : w19.cell? ⟨gb394, 1, none⟩ = some (.int .i64 a0_1) := (blk_cell BK394.out 1).trans rfl; have hfz24_0 := blk_frozen BK394.out 0; have hfz24_1 := blk_frozen BK394.out 1) | ((with_reducible refine gate_callee (f := 44) rfl ?_); refine goesL_ (some 19) rfl rfl Try.func44 (by kernel_rfl) rfl #[.agg #[.int .i64 a0_0, .int .i64 a0_1], .int .u64 a1_1] rfl (by (try simp only [List.map_toArray, List.map_cons, List.map_nil]); first | done | rfl | (simp only [List.length_drop, List.length_take]; rfl)) ?_; (with_reducible refine (treillageref15_Item.calls k a0_0 a0_1 a1_1 t398 _ A16.out).mono ?_); rintro e w25 ⟨rfl, hb⟩; refine ⟨_, rfl, ?_⟩; have n0_ := aA (blk_below (g := gb394) (o := .cells #[.int .i64 a0_0, .int .i64 a0_1] 39 (0, 0)) (bku BK394.out) hb); have n1_ := aA (blk_below (g := gb395) (o := .cells #[.int .i64 a1_0, .int .u64 a1_1, .int .u64 a1_2] 64 (0, 0)) (bku BK395.out) hb); have n2_ := aA (blk_below (g := gb396) (o := .cells #[.int .i64 0, .int .i64 0, .int .u64 0, .int .u64 0] 30 (0, 0)) (bku BK396.out) hb); have n3_ := aA (below_step (bls HB.out) hb); clear BK394 BK395 BK396 HB; have BK394 := n0_; have BK395 := n1_; have BK396 := n2_; have HB := n3_; clear n0_ n1_ n2_ n3_; (try clear hb); (try clear hb2); (try clear hk); (try clear hi); have hcz26_0 : w25.cell? ⟨gb396, 0, none⟩ = some (.int .i64 0) := (blk_cell BK396.out 0).trans rfl; have hcz26_1 : w25.cell? ⟨gb396, 1, none⟩ = some (.int .i64 0) := (blk_cell BK396.out 1).trans rfl; have hcz26_2 : w25.cell? ⟨gb396, 2, none⟩ = some (.int .u64 0) := (blk_cell BK396.out 2).trans rfl; have hcz26_3 : w25.cell? ⟨gb396, 3, none⟩ = some (.int .u64 0) := (blk_cell BK396.out 3).trans rfl; have hfz26_0 := blk_frozen BK396.out 0; have hfz26_1 := blk_frozen BK396.out 1; have hfz26_2 := blk_frozen BK396.out 2; have hfz26_3 := blk_frozen BK396.out 3))
   refine bodyPost_ret (results_cell_row rfl _ _ gb396 30 #[.int .i64 1, .int .i64 t398, .int .u64 0, .int .u64 0] (0, 0) _ rfl (by refine bku ?_; refine blk_put (cs := #[.int .i64 1, .int .i64 t398, .int .u64 0, .int .u64 0]) ?_ 3 _ rfl; refine bku ?_; refine blk_put (cs := #[.int .i64 1, .int .i64 t398, .int .u64 0, .int .u64 0]) ?_ 2 _ rfl; refine bku ?_; refine blk_put (cs := #[.int .i64 1, .int .i64 0, .int .u64 0, .int .u64 0]) ?_ 1 _ rfl; refine bku ?_; refine blk_put (cs := #[.int .i64 0, .int .i64 0, .int .u64 0, .int .u64 0]) ?_ 0 _ rfl; refine bku ?_; exact BK396.out) Try.underlying30 rfl (by kernel_rfl)) rfl ?_
   exact ⟨by first | rfl | (simp [errW_none, errW_some] <;> rfl) | (simp [*, errW_none, errW_some] <;> rfl), by repeat (first | (with_reducible first | exact HB.out | apply below_alloc | apply pw_below_drewN | apply below_drew1 | refine below_set ?_ GE394.out | refine below_set ?_ GE395.out | refine below_set ?_ GE396.out) | exact HB.out)⟩
  ·rw [if_neg c15] at H
   have c15b0 : (a1_0 == 1) = false := beq_eq_false_iff_ne.mpr c15
   have c15b1 : (a1_0 != 1) = true := bne_iff_ne.mpr c15
   replace H := Option.bind_eq_some_iff.mp H
   obtain ⟨t399, A270, H⟩ := H
   replace H : ((treillageref16_places.f k a0_0 a0_1).bind fun t400 => (some (2, t399, 0, IntKind.u64.wrap (a1_1 + t400)))) = some (r1, r2, r3, r4) := H
   have A27 := aA A270
   clear A270
   replace H := Option.bind_eq_some_iff.mp H
   obtain ⟨t400, A280, H⟩ := H
   replace H : (some (2, t399, 0, IntKind.u64.wrap (a1_1 + t400))) = some (r1, r2, r3, r4) := H
   have A28 := aA A280
   clear A280
   simp only [Option.some.injEq, Prod.mk.injEq] at H
   obtain ⟨rfl, rfl, rfl, rfl⟩ := H
   go_enter Try.func54, Try.ntmps54
   try go_wp2_with (first | ((with_reducible refine gate_dst (N := 2) rfl ?_); refine box_event ?hg (N := 2) ?hd (cs := #[.int .i64 a0_0, .int .i64 a0_1]) (t := 39) ?hr ?_; (case hd => rfl); (case hg => rfl); (case hr => first | (go_simp; done) | (go_simp; rfl)); intro gb394 hg w29 hbox hb; have n0_ := aA (below_step (blw HB.out) hb); have n1_ := aA (hbox); have n2_ := aA ((by rw [hg]; exact (below_size (blw HB.out)) : w.heap.size ≤ gb394)); have n3_ := aA ((by rw [hg]; exact (below_size (blw HB.out)) : w.heap.size ≤ gb394)); clear HB; have HB := n0_; have BK394 := n1_; have GW394 := n2_; have GE394 := n3_; clear n0_ n1_ n2_ n3_ hb hbox hg) | ((with_reducible refine gate_dst (N := 3) rfl ?_); refine box_event ?hg (N := 3) ?hd (cs := #[.int .i64 a1_0, .int .u64 a1_1, .int .u64 a1_2]) (t := 64) ?hr ?_; (case hd => rfl); (case hg => rfl); (case hr => first | (go_simp; done) | (go_simp; rfl)); intro gb395 hg w30 hbox hb; have n0_ := aA (blk_below (g := gb394) (o := .cells #[.int .i64 a0_0, .int .i64 a0_1] 39 (0, 0)) (bku BK394.out) hb); have n1_ := aA (below_step (bls HB.out) hb); have n2_ := aA (hbox); have n3_ := aA ((by rw [hg]; exact (below_size (bls HB.out)) : w.heap.size ≤ gb395)); have n4_ := aA ((by rw [hg]; exact (below_size (bls HB.out)) : w.heap.size ≤ gb395)); have n5_ := aA ((by rw [hg]; exact Nat.ne_of_lt (blk_lt (g := gb394) (o := .cells #[.int .i64 a0_0, .int .i64 a0_1] 39 (0, 0)) (bku BK394.out)) : gb394 ≠ gb395)); have n6_ := aA ((by rw [hg]; exact Nat.ne_of_gt (blk_lt (g := gb394) (o := .cells #[.int .i64 a0_0, .int .i64 a0_1] 39 (0, 0)) (bku BK394.out)) : gb395 ≠ gb394)); clear BK394 HB; have BK394 := n0_; have HB := n1_; have BK395 := n2_; have GW395 := n3_; have GE395 := n4_; have NB394_395 := n5_; have NB395_394 := n6_; clear n0_ n1_ n2_ n3_ n4_ n5_ n6_ hb hbox hg) | ((with_reducible refine gate_dst (N := 4) rfl ?_); refine box_event ?hg (N := 4) ?hd (cs := #[.int .i64 0, .int .i64 0, .int .u64 0, .int .u64 0]) (t := 30) ?hr ?_; (case hd => rfl); (case hg => rfl); (case hr => first | (go_simp; done) | (go_simp; rfl)); intro gb396 hg w31 hbox hb; have n0_ := aA (blk_below (g := gb394) (o := .cells #[.int .i64 a0_0, .int .i64 a0_1] 39 (0, 0)) (bku BK394.out) hb); have n1_ := aA (blk_below (g := gb395) (o := .cells #[.int .i64 a1_0, .int .u64 a1_1, .int .u64 a1_2] 64 (0, 0)) (bku BK395.out) hb); have n2_ := aA (below_step (bls HB.out) hb); have n3_ := aA (hbox); have n4_ := aA ((by rw [hg]; exact (below_size (bls HB.out)) : w.heap.size ≤ gb396)); have n5_ := aA ((by rw [hg]; exact (below_size (bls HB.out)) : w.heap.size ≤ gb396)); have n6_ := aA ((by rw [hg]; exact Nat.ne_of_lt (blk_lt (g := gb394) (o := .cells #[.int .i64 a0_0, .int .i64 a0_1] 39 (0, 0)) (bku BK394.out)) : gb394 ≠ gb396)); have n7_ := aA ((by rw [hg]; exact Nat.ne_of_gt (blk_lt (g := gb394) (o := .cells #[.int .i64 a0_0, .int .i64 a0_1] 39 (0, 0)) (bku BK394.out)) : gb396 ≠ gb394)); have n8_ := aA ((by rw [hg]; exact Nat.ne_of_lt (blk_lt (g := gb395) (o := .cells #[.int .i64 a1_0, .int .u64 a1_1, .int .u64 a1_2] 64 (0, 0)) (bku BK395.out)) : gb395 ≠ gb396)); have n9_ := aA ((by rw [hg]; exact Nat.ne_of_gt (blk_lt (g := gb395) (o := .cells #[.int .i64 a1_0, .int .u64 a1_1, .int .u64 a1_2] 64 (0, 0)) (bku BK395.out)) : gb396 ≠ gb395)); clear BK394 BK395 HB; have BK394 := n0_; have BK395 := n1_; have HB := n2_; have BK396 := n3_; have GW396 := n4_; have GE396 := n5_; have NB394_396 := n6_; have NB396_394 := n7_; have NB395_396 := n8_; have NB396_395 := n9_; clear n0_ n1_ n2_ n3_ n4_ n5_ n6_ n7_ n8_ n9_ hb hbox hg; have hnb32 := NB395_394.out; have hnc32 := NB394_395.out; have hnb33 := NB395_396.out; have hnc33 := NB396_395.out; have hcz34_0 : w31.cell? ⟨gb395, 0, none⟩ = some (.int .i64 a1_0) := (blk_cell BK395.out 0).trans rfl; have hcz34_1 : w31.cell? ⟨gb395, 1, none⟩ = some (.int .u64 a1_1) := (blk_cell BK395.out 1).trans rfl; have hcz34_2 : w31.cell? ⟨gb395, 2, none⟩ = some (.int .u64 a1_2) := (blk_cell BK395.out 2).trans rfl; have hfz34_0 := blk_frozen BK395.out 0; have hfz34_1 := blk_frozen BK395.out 1; have hfz34_2 := blk_frozen BK395.out 2))
   have n0_ := aA (blk_drew BK394.out)
   have n1_ := aA (blk_drew BK395.out)
   have n2_ := aA (blk_drew BK396.out)
   have n3_ := aA (below_drew1 HB.out)
   clear BK394
   clear BK395
   clear BK396
   clear HB
   have BK394 := n0_
   have BK395 := n1_
   have BK396 := n2_
   have HB := n3_
   clear n0_ n1_ n2_ n3_
   refine start_ (n := 11) (S := fun w' => w'.cell? ⟨gb394, 0, none⟩ = some (.int .i64 a0_0) ∧ w'.cell? ⟨gb394, 1, none⟩ = some (.int .i64 a0_1) ∧ w'.cell? ⟨gb395, 0, none⟩ = some (.int .i64 a1_0) ∧ w'.cell? ⟨gb395, 1, none⟩ = some (.int .u64 a1_1) ∧ w'.cell? ⟨gb395, 2, none⟩ = some (.int .u64 a1_2)) (ds := []) #[false, false, false, false, false, false, false, false, false, false, false] (by kernel_rfl) rfl rfl ⟨(blk_cell BK394.out 0).trans rfl, (blk_cell BK394.out 1).trans rfl, (blk_cell BK395.out 0).trans rfl, (blk_cell BK395.out 1).trans rfl, (blk_cell BK395.out 2).trans rfl⟩ (fun hHeld => ?_); refine with_tabW treillageref16_Next.tab6 treillageref16_Next.bits6 (fun HT_ HW_ => ?_)
   generalize w31.drew = w35 at BK394 BK395 BK396 HB hHeld ⊢
   refine pure_ (i := 1) (N := some 22) (v := ?_) (a' := ?_) #[false, true, false, false, false, false, false, false, false, false, false] rfl rfl (any_of HT_.out (by kernel_rfl)) (fun _ _ _ h => h) (Or.inl ⟨by rfl, ?_⟩) ?_ ?_
   rotate_left
   ·intro w'
    go_simp
    with_reducible rfl
   rotate_left
   ·simp only [Act.put, List.setIfInBounds_toArray, List.set_cons_zero, List.set_cons_succ, i64_w, i32_w]
    rfl
   refine pure_ (i := 4) (N := some 25) (v := ?_) (a' := ?_) #[false, true, false, false, true, false, false, false, false, false, false] rfl rfl (any_of HT_.out (by kernel_rfl)) (fun _ _ _ h => h) (Or.inl ⟨by rfl, ?_⟩) ?_ ?_
   rotate_left
   ·intro w'
    go_simp
    with_reducible rfl
   rotate_left
   ·simp only [Act.put, List.setIfInBounds_toArray, List.set_cons_zero, List.set_cons_succ, i64_w, i32_w]
    rfl
   refine take_ (i := 0) (N := some 21) (v := ?_) (a' := ?_) #[true, true, false, false, true, false, false, false, false, false, false] rfl rfl (take_ofW HT_.out HW_.out (by kernel_rfl)) (fun _ _ _ h => h) (Or.inl ⟨by rfl, ?_⟩) hHeld ?_ ?_
   rotate_left
   ·rintro w' ⟨s0, s1, s2, s3, s4⟩
    go_simp
    with_reducible rfl
   rotate_left
   ·simp only [Act.put, List.setIfInBounds_toArray, List.set_cons_zero, List.set_cons_succ, i64_w, i32_w]
    rfl
   refine take_ (i := 2) (N := some 23) (v := ?_) (a' := ?_) #[true, true, true, false, true, false, false, false, false, false, false] rfl rfl (take_ofW HT_.out HW_.out (by kernel_rfl)) (fun _ _ _ h => h) (Or.inl ⟨by rfl, ?_⟩) hHeld ?_ ?_
   rotate_left
   ·rintro w' ⟨s0, s1, s2, s3, s4⟩
    go_simp
    with_reducible rfl
   rotate_left
   ·simp only [Act.put, List.setIfInBounds_toArray, List.set_cons_zero, List.set_cons_succ, i64_w, i32_w]
    rfl
   refine take_ (i := 5) (N := some 26) (v := ?_) (a' := ?_) #[true, true, true, false, true, true, false, false, false, false, false] rfl rfl (take_ofW HT_.out HW_.out (by kernel_rfl)) (fun _ _ _ h => h) (Or.inl ⟨by rfl, ?_⟩) hHeld ?_ ?_
   rotate_left
   ·rintro w' ⟨s0, s1, s2, s3, s4⟩
    go_simp
    with_reducible rfl
   rotate_left
   ·simp only [Act.put, List.setIfInBounds_toArray, List.set_cons_zero, List.set_cons_succ, i64_w, i32_w]
    rfl
   refine take_ (i := 6) (N := some 27) (v := ?_) (a' := ?_) #[true, true, true, false, true, true, true, false, false, false, false] rfl rfl (take_ofW HT_.out HW_.out (by kernel_rfl)) (fun _ _ _ h => h) (Or.inl ⟨by rfl, ?_⟩) hHeld ?_ ?_
   rotate_left
   ·rintro w' ⟨s0, s1, s2, s3, s4⟩
    go_simp
    with_reducible rfl
   rotate_left
   ·simp only [Act.put, List.setIfInBounds_toArray, List.set_cons_zero, List.set_cons_succ, i64_w, i32_w]
    rfl
   refine one_ (i := 3) (N := some 24) #[true, true, true, true, true, true, true, false, false, false, false] rfl rfl (one_of HT_.out (by kernel_rfl)) (by decide) (fun K hK => ?_)
   refine goes_ Try.func43 (by kernel_rfl) rfl #[.agg #[.int .i64 a0_0, .int .i64 a0_1], .int .u64 a1_1] (by rfl) rfl rfl (by (try simp only [List.map_toArray, List.map_cons, List.map_nil]); first | done | rfl | (simp only [List.length_drop, List.length_take]; rfl)) ?_
   with_reducible refine (treillageref15_Seq.calls k a0_0 a0_1 a1_1 t399 _ A27.out).mono ?_
   rintro e w36 ⟨rfl, hb⟩
   refine ⟨_, rfl, ?_⟩
   have n0_ := aA (blk_below (g := gb394) (o := .cells #[.int .i64 a0_0, .int .i64 a0_1] 39 (0, 0)) (bku BK394.out) hb)
   have n1_ := aA (blk_below (g := gb395) (o := .cells #[.int .i64 a1_0, .int .u64 a1_1, .int .u64 a1_2] 64 (0, 0)) (bku BK395.out) hb)
   have n2_ := aA (blk_below (g := gb396) (o := .cells #[.int .i64 0, .int .i64 0, .int .u64 0, .int .u64 0] 30 (0, 0)) (bku BK396.out) hb)
   have n3_ := aA (below_step (bls HB.out) hb)
   clear BK394
   clear BK395
   clear BK396
   clear HB
   have BK394 := n0_
   have BK395 := n1_
   have BK396 := n2_
   have HB := n3_
   clear n0_ n1_ n2_ n3_
   (try clear hb)
   (try clear hb2)
   (try clear hk)
   (try clear hi)
   refine hK.out _ _ ⟨(blk_cell BK394.out 0).trans rfl, (blk_cell BK394.out 1).trans rfl, (blk_cell BK395.out 0).trans rfl, (blk_cell BK395.out 1).trans rfl, (blk_cell BK395.out 2).trans rfl⟩ (fun hHeld => ?_)
   clear hK K
   refine norm_ (a' := ?_) ?_ ?_
   rotate_left
   ·show Act.put _ (some 24) _ = _
    simp only [Act.put, List.setIfInBounds_toArray, List.set_cons_zero, List.set_cons_succ, i64_w, i32_w]
    rfl
   refine one_ (i := 7) (N := some 28) #[true, true, true, true, true, true, true, true, false, false, false] rfl rfl (one_of HT_.out (by kernel_rfl)) (by decide) (fun K hK => ?_)
   refine goes_ Try.func67 (by kernel_rfl) rfl #[.agg #[.int .i64 a0_0, .int .i64 a0_1]] (by rfl) rfl rfl (by (try simp only [List.map_toArray, List.map_cons, List.map_nil]); first | done | rfl | (simp only [List.length_drop, List.length_take]; rfl)) ?_
   with_reducible refine (treillageref16_places.calls k a0_0 a0_1 t400 _ A28.out).mono ?_
   rintro e w37 ⟨rfl, hb⟩
   refine ⟨_, rfl, ?_⟩
   have n0_ := aA (blk_below (g := gb394) (o := .cells #[.int .i64 a0_0, .int .i64 a0_1] 39 (0, 0)) (bku BK394.out) hb)
   have n1_ := aA (blk_below (g := gb395) (o := .cells #[.int .i64 a1_0, .int .u64 a1_1, .int .u64 a1_2] 64 (0, 0)) (bku BK395.out) hb)
   have n2_ := aA (blk_below (g := gb396) (o := .cells #[.int .i64 0, .int .i64 0, .int .u64 0, .int .u64 0] 30 (0, 0)) (bku BK396.out) hb)
   have n3_ := aA (below_step (bls HB.out) hb)
   clear BK394
   clear BK395
   clear BK396
   clear HB
   have BK394 := n0_
   have BK395 := n1_
   have BK396 := n2_
   have HB := n3_
   clear n0_ n1_ n2_ n3_
   (try clear hb)
   (try clear hb2)
   (try clear hk)
   (try clear hi)
   refine hK.out _ _ ⟨(blk_cell BK394.out 0).trans rfl, (blk_cell BK394.out 1).trans rfl, (blk_cell BK395.out 0).trans rfl, (blk_cell BK395.out 1).trans rfl, (blk_cell BK395.out 2).trans rfl⟩ (fun hHeld => ?_)
   clear hK K
   refine norm_ (a' := ?_) ?_ ?_
   rotate_left
   ·show Act.put _ (some 28) _ = _
    simp only [Act.put, List.setIfInBounds_toArray, List.set_cons_zero, List.set_cons_succ, i64_w, i32_w]
    rfl
   refine pure_ (i := 8) (N := some 29) (v := ?_) (a' := ?_) #[true, true, true, true, true, true, true, true, true, false, false] rfl rfl (any_of HT_.out (by kernel_rfl)) (fun _ _ _ h => h) (Or.inl ⟨by rfl, ?_⟩) ?_ ?_
   rotate_left
   ·intro w'
    go_simp
    with_reducible rfl
   rotate_left
   ·simp only [Act.put, List.setIfInBounds_toArray, List.set_cons_zero, List.set_cons_succ, i64_w, i32_w]
    rfl
   refine pure_ (i := 9) (N := some 30) (v := ?_) (a' := ?_) #[true, true, true, true, true, true, true, true, true, true, false] rfl rfl (any_of HT_.out (by kernel_rfl)) (fun _ _ _ h => h) (Or.inl ⟨by rfl, ?_⟩) ?_ ?_
   rotate_left
   ·intro w'
    go_simp
    with_reducible rfl
   rotate_left
   ·simp only [Act.put, List.setIfInBounds_toArray, List.set_cons_zero, List.set_cons_succ, i64_w, i32_w]
    rfl
   refine one_ (i := 10) (N := none) #[true, true, true, true, true, true, true, true, true, true, true] rfl rfl (one_of HT_.out (by kernel_rfl)) (by decide) (fun K hK => ?_)
   have hs38 : w37.cell? ⟨gb396, 0, none⟩ = some (.int .i64 0) := (blk_cell BK396.out 0).trans rfl
   have hfs38 := blk_frozen BK396.out 0
   have hns38_0 := NB394_396.out
   have hns38_1 := NB395_396.out
   have hms38_0 := NB396_394.out
   have hms38_1 := NB396_395.out
   have hs39 : w37.cell? ⟨gb396, 1, none⟩ = some (.int .i64 0) := (blk_cell BK396.out 1).trans rfl
   have hfs39 := blk_frozen BK396.out 1
   have hns39_0 := NB394_396.out
   have hns39_1 := NB395_396.out
   have hms39_0 := NB396_394.out
   have hms39_1 := NB396_395.out
   have hs40 : w37.cell? ⟨gb396, 2, none⟩ = some (.int .u64 0) := (blk_cell BK396.out 2).trans rfl
   have hfs40 := blk_frozen BK396.out 2
   have hns40_0 := NB394_396.out
   have hns40_1 := NB395_396.out
   have hms40_0 := NB396_394.out
   have hms40_1 := NB396_395.out
   have hs41 : w37.cell? ⟨gb396, 3, none⟩ = some (.int .u64 0) := (blk_cell BK396.out 3).trans rfl
   have hfs41 := blk_frozen BK396.out 3
   have hns41_0 := NB394_396.out
   have hns41_1 := NB395_396.out
   have hms41_0 := NB396_394.out
   have hms41_1 := NB396_395.out
   refine skip_ (w1 := ?_) (by rfl) rfl ?_ ?_
   rotate_left
   ·go_simp
    rfl
   refine hK.out _ _ ⟨((cell_far (p := ⟨gb396, _, none⟩) NB394_396.out _).trans (((cell_far (p := ⟨gb396, _, none⟩) NB394_396.out _).trans (((cell_far (p := ⟨gb396, _, none⟩) NB394_396.out _).trans (((cell_far (p := ⟨gb396, _, none⟩) NB394_396.out _).trans (hHeld.1)))))))), ((cell_far (p := ⟨gb396, _, none⟩) NB394_396.out _).trans (((cell_far (p := ⟨gb396, _, none⟩) NB394_396.out _).trans (((cell_far (p := ⟨gb396, _, none⟩) NB394_396.out _).trans (((cell_far (p := ⟨gb396, _, none⟩) NB394_396.out _).trans (hHeld.2.1)))))))), ((cell_far (p := ⟨gb396, _, none⟩) NB395_396.out _).trans (((cell_far (p := ⟨gb396, _, none⟩) NB395_396.out _).trans (((cell_far (p := ⟨gb396, _, none⟩) NB395_396.out _).trans (((cell_far (p := ⟨gb396, _, none⟩) NB395_396.out _).trans (hHeld.2.2.1)))))))), ((cell_far (p := ⟨gb396, _, none⟩) NB395_396.out _).trans (((cell_far (p := ⟨gb396, _, none⟩) NB395_396.out _).trans (((cell_far (p := ⟨gb396, _, none⟩) NB395_396.out _).trans (((cell_far (p := ⟨gb396, _, none⟩) NB395_396.out _).trans (hHeld.2.2.2.1)))))))), ((cell_far (p := ⟨gb396, _, none⟩) NB395_396.out _).trans (((cell_far (p := ⟨gb396, _, none⟩) NB395_396.out _).trans (((cell_far (p := ⟨gb396, _, none⟩) NB395_396.out _).trans (((cell_far (p := ⟨gb396, _, none⟩) NB395_396.out _).trans (hHeld.2.2.2.2))))))))⟩ (fun hHeld => ?_)
   clear hK K
   refine done_ (done_of HT_.out (by kernel_rfl)) ?_
   try go_wp2
   refine bodyPost_ret (results_cell_row rfl _ _ gb396 30 #[.int .i64 2, .int .i64 t399, .int .u64 0, .int .u64 (IntKind.u64.wrap (a1_1 + t400))] (0, 0) _ rfl (by refine bku ?_; refine blk_put (cs := #[.int .i64 2, .int .i64 t399, .int .u64 0, .int .u64 0]) ?_ 3 _ rfl; refine bku ?_; refine blk_put (cs := #[.int .i64 2, .int .i64 t399, .int .u64 0, .int .u64 0]) ?_ 2 _ rfl; refine bku ?_; refine blk_put (cs := #[.int .i64 2, .int .i64 0, .int .u64 0, .int .u64 0]) ?_ 1 _ rfl; refine bku ?_; refine blk_put (cs := #[.int .i64 0, .int .i64 0, .int .u64 0, .int .u64 0]) ?_ 0 _ rfl; refine bku ?_; exact BK396.out) Try.underlying30 rfl (by kernel_rfl)) rfl ?_
   exact ⟨by first | rfl | (simp [errW_none, errW_some] <;> rfl) | (simp [*, errW_none, errW_some] <;> rfl), by repeat (first | (with_reducible first | exact HB.out | apply below_alloc | apply pw_below_drewN | apply below_drew1 | refine below_set ?_ GE394.out | refine below_set ?_ GE395.out | refine below_set ?_ GE396.out) | exact HB.out)⟩

end Go.Proofs.Ytcjkjlopbjijaaa.PQ
