-- Written by wip/hprint/hprint.py (a program of this session, over the print): not typed by hand
import Derived.Test.YtcjkjlopbjijaaaPQx0
import Derived.Test.YtcjkjlopbjijaaaPQx4
import Derived.Test.YtcjkjlopbjijaaaPQx5
import Derived.Test.YtcjkjlopbjijaaaPQx6
namespace Go.Proofs.Ytcjkjlopbjijaaa.PQ
open Go.RowKit Go.Proofs.YtcjkjlopbjijaaaW.PrintWords Go.Proofs.YtcjkjlopbjijaaaW.PrintLast Go.Proofs.YtcjkjlopbjijaaaW.PrintMore
attribute [local go_sem] max2_int min2_int max_two min_two max_three min_three max_four min_four   -- for this text's walks alone
open Go.Proofs.YtcjkjlopbjijaaaH
set_option linter.unusedVariables false
set_option linter.unusedSimpArgs false

/-! ### queue_Next: function 53 -/
def queue_Next.f (a0_0 : Int) (a0_1 : Int) (a1_0 : Int) (a1_1 : Int) (a1_2 : Int) : Option (Int × Int × Int × Int) := if a1_0 = 0 then ((mem_Seq.f a0_0 a0_1 a1_1).bind fun t133 => ((queue_load.f t133).bind fun bt134 => (some (bt134.1, bt134.2.1, bt134.2.2.1, bt134.2.2.2)))) else (if a1_0 = 1 then ((mem_Item.f a0_0 a0_1 a1_1).bind fun t138 => ((queue_load.f t138).bind fun bt139 => (some (bt139.1, bt139.2.1, bt139.2.2.1, bt139.2.2.2)))) else ((mem_Seq.f a0_0 a0_1 a1_1).bind fun t143 => (if 0 ≤ a0_1 then ((queue_store.f t143 (IntKind.u64.wrap (a1_1 + (shl .u64 1 a0_1)))).bind fun bt144 => (some (bt144.1, bt144.2.1, bt144.2.2.1, bt144.2.2.2))) else (none))))
def queue_Next.T6 : Bool × List (List Nat × List Nat) := (true, [([], []), ([], []), ([1], [1]), ([0, 2], [0, 2]), ([], []), ([4], [4]), ([], []), ([6], [6]), ([7], [7]), ([5, 8], [5, 8]), ([3, 9, 3], [3, 9]), ([10, 10, 0, 1, 2, 3, 4, 5, 6, 7, 8, 9, 10], [10])])
def queue_Next.B6 : List Nat := [0, 0, 2, 7, 0, 16, 0, 64, 192, 496, 1023, 2047]
theorem queue_Next.tab6 : rtab .any (opsOf Try.f53 6) = queue_Next.T6 := by kernel_rfl
theorem queue_Next.bits6 : waitsOk queue_Next.T6.2 queue_Next.B6 = true := by kernel_rfl
set_option maxHeartbeats 8000000 in
set_option maxRecDepth 100000 in
theorem queue_Next.calls (a0_0 : Int) (a0_1 : Int) (a1_0 : Int) (a1_1 : Int) (a1_2 : Int) (r1 : Int) (r2 : Int) (r3 : Int) (r4 : Int) (w : World) (h : queue_Next.f a0_0 a0_1 a1_0 a1_1 a1_2 = some (r1, r2, r3, r4)) :
  Calls Try.prog 53 #[.agg #[.int .i64 a0_0, .int .i64 a0_1], .agg #[.int .i64 a1_0, .int .u64 a1_1, .int .u64 a1_2]] w fun e w' => e = .returned (.agg #[.int .i64 r1, .int .i64 r2, .int .u64 r3, .int .u64 r4]) ∧ Below w.heap.size w w' := by
 have hu38 := Try.underlying38
 have hu56 := Try.underlying56
 have hu25 := Try.underlying25
 have HB := aA (Below.refl w.heap.size w)
 have H : (if a1_0 = 0 then ((mem_Seq.f a0_0 a0_1 a1_1).bind fun t133 => ((queue_load.f t133).bind fun bt134 => (some (bt134.1, bt134.2.1, bt134.2.2.1, bt134.2.2.2)))) else (if a1_0 = 1 then ((mem_Item.f a0_0 a0_1 a1_1).bind fun t138 => ((queue_load.f t138).bind fun bt139 => (some (bt139.1, bt139.2.1, bt139.2.2.1, bt139.2.2.2)))) else ((mem_Seq.f a0_0 a0_1 a1_1).bind fun t143 => (if 0 ≤ a0_1 then ((queue_store.f t143 (IntKind.u64.wrap (a1_1 + (shl .u64 1 a0_1)))).bind fun bt144 => (some (bt144.1, bt144.2.1, bt144.2.2.1, bt144.2.2.2))) else (none))))) = some (r1, r2, r3, r4) := h
 clear h
 by_cases c3 : a1_0 = 0
 ·rw [if_pos c3] at H
  have c3b0 : (a1_0 == 0) = true := beq_iff_eq.mpr c3
  have c3b1 : (a1_0 != 0) = false := bne_eq_false_iff_eq.mpr c3
  clear c3
  replace H := Option.bind_eq_some_iff.mp H
  obtain ⟨t133, A40, H⟩ := H
  replace H : ((queue_load.f t133).bind fun bt134 => (some (bt134.1, bt134.2.1, bt134.2.2.1, bt134.2.2.2))) = some (r1, r2, r3, r4) := H
  have A4 := aA A40
  clear A40
  replace H := Option.bind_eq_some_iff.mp H
  obtain ⟨⟨t134, t135, t136, t137⟩, A50, H⟩ := H
  replace H : (some (t134, t135, t136, t137)) = some (r1, r2, r3, r4) := H
  have A5 := aA A50
  clear A50
  simp only [Option.some.injEq, Prod.mk.injEq] at H
  obtain ⟨rfl, rfl, rfl, rfl⟩ := H
  go_enter Try.func53, Try.ntmps53
  go_wp2_with (first | ((with_reducible refine gate_dst (N := 2) rfl ?_); refine box_event ?hg (N := 2) ?hd (cs := #[.int .i64 a0_0, .int .i64 a0_1]) (t := 38) ?hr ?_; (case hd => rfl); (case hg => rfl); (case hr => first | (go_simp; done) | (go_simp; rfl)); intro gb130 hg w6 hbox hb; have n0_ := aA (below_step (blw HB.out) hb); have n1_ := aA (hbox); have n2_ := aA ((by rw [hg]; exact (below_size (blw HB.out)) : w.heap.size ≤ gb130)); have n3_ := aA ((by rw [hg]; exact (below_size (blw HB.out)) : w.heap.size ≤ gb130)); clear HB; have HB := n0_; have BK130 := n1_; have GW130 := n2_; have GE130 := n3_; clear n0_ n1_ n2_ n3_ hb hbox hg) | ((with_reducible refine gate_dst (N := 3) rfl ?_); refine box_event ?hg (N := 3) ?hd (cs := #[.int .i64 a1_0, .int .u64 a1_1, .int .u64 a1_2]) (t := 56) ?hr ?_; (case hd => rfl); (case hg => rfl); (case hr => first | (go_simp; done) | (go_simp; rfl)); intro gb131 hg w7 hbox hb; have n0_ := aA (blk_below (g := gb130) (o := .cells #[.int .i64 a0_0, .int .i64 a0_1] 38 (0, 0)) (bku BK130.out) hb); have n1_ := aA (below_step (bls HB.out) hb); have n2_ := aA (hbox); have n3_ := aA ((by rw [hg]; exact (below_size (bls HB.out)) : w.heap.size ≤ gb131)); have n4_ := aA ((by rw [hg]; exact (below_size (bls HB.out)) : w.heap.size ≤ gb131)); have n5_ := aA ((by rw [hg]; exact Nat.ne_of_lt (blk_lt (g := gb130) (o := .cells #[.int .i64 a0_0, .int .i64 a0_1] 38 (0, 0)) (bku BK130.out)) : gb130 ≠ gb131)); have n6_ := aA ((by rw [hg]; exact Nat.ne_of_gt (blk_lt (g := gb130) (o := .cells #[.int .i64 a0_0, .int .i64 a0_1] 38 (0, 0)) (bku BK130.out)) : gb131 ≠ gb130)); clear BK130 HB; have BK130 := n0_; have HB := n1_; have BK131 := n2_; have GW131 := n3_; have GE131 := n4_; have NB130_131 := n5_; have NB131_130 := n6_; clear n0_ n1_ n2_ n3_ n4_ n5_ n6_ hb hbox hg) | ((with_reducible refine gate_dst (N := 4) rfl ?_); refine box_event ?hg (N := 4) ?hd (cs := #[.int .i64 0, .int .i64 0, .int .u64 0, .int .u64 0]) (t := 25) ?hr ?_; (case hd => rfl); (case hg => rfl); (case hr => first | (go_simp; done) | (go_simp; rfl)); intro gb132 hg w8 hbox hb; have n0_ := aA (blk_below (g := gb130) (o := .cells #[.int .i64 a0_0, .int .i64 a0_1] 38 (0, 0)) (bku BK130.out) hb); have n1_ := aA (blk_below (g := gb131) (o := .cells #[.int .i64 a1_0, .int .u64 a1_1, .int .u64 a1_2] 56 (0, 0)) (bku BK131.out) hb); have n2_ := aA (below_step (bls HB.out) hb); have n3_ := aA (hbox); have n4_ := aA ((by rw [hg]; exact (below_size (bls HB.out)) : w.heap.size ≤ gb132)); have n5_ := aA ((by rw [hg]; exact (below_size (bls HB.out)) : w.heap.size ≤ gb132)); have n6_ := aA ((by rw [hg]; exact Nat.ne_of_lt (blk_lt (g := gb130) (o := .cells #[.int .i64 a0_0, .int .i64 a0_1] 38 (0, 0)) (bku BK130.out)) : gb130 ≠ gb132)); have n7_ := aA ((by rw [hg]; exact Nat.ne_of_gt (blk_lt (g := gb130) (o := .cells #[.int .i64 a0_0, .int .i64 a0_1] 38 (0, 0)) (bku BK130.out)) : gb132 ≠ gb130)); have n8_ := aA ((by rw [hg]; exact Nat.ne_of_lt (blk_lt (g := gb131) (o := .cells #[.int .i64 a1_0, .int .u64 a1_1, .int .u64 a1_2] 56 (0, 0)) (bku BK131.out)) : gb131 ≠ gb132)); have n9_ := aA ((by rw [hg]; exact Nat.ne_of_gt (blk_lt (g := gb131) (o := .cells #[.int .i64 a1_0, .int .u64 a1_1, .int .u64 a1_2] 56 (0, 0)) (bku BK131.out)) : gb132 ≠ gb131)); clear BK130 BK131 HB; have BK130 := n0_; have BK131 := n1_; have HB := n2_; have BK132 := n3_; have GW132 := n4_; have GE132 := n5_; have NB130_132 := n6_; have NB132_130 := n7_; have NB131_132 := n8_; have NB132_131 := n9_; clear n0_ n1_ n2_ n3_ n4_ n5_ n6_ n7_ n8_ n9_ hb hbox hg; have hnb9 := NB131_130.out; have hnc9 := NB130_131.out; have hnb10 := NB131_132.out; have hnc10 := NB132_131.out; have hcz11_0 : w8.cell? ⟨gb131, 0, none⟩ = some (.int .i64 a1_0) := (blk_cell BK131.out 0).trans rfl; have hcz11_1 : w8.cell? ⟨gb131, 1, none⟩ = some (.int .u64 a1_1) := (blk_cell BK131.out 1).trans rfl; have hcz11_2 : w8.cell? ⟨gb131, 2, none⟩ = some (.int .u64 a1_2) := (blk_cell BK131.out 2).trans rfl; have hfz11_0 := blk_frozen BK131.out 0; have hfz11_1 := blk_frozen BK131.out 1; have hfz11_2 := blk_frozen BK131.out 2; have hnb12 := NB130_132.out; have hnc12 := NB132_130.out; have hcz13_0 : w8.cell? ⟨gb130, 0, none⟩ = some (.int .i64 a0_0) := (blk_cell BK130.out 0).trans rfl; have hcz13_1 : w8.cell? ⟨gb130, 1, none⟩ = some (.int .i64 a0_1) := (blk_cell BK130.out 1).trans rfl; have hfz13_0 := blk_frozen BK130.out 0; have hfz13_1 := blk_frozen BK130.out 1) | ((with_reducible refine gate_callee (f := 39) rfl ?_); refine goesL_ (some 12) rfl rfl Try.func39 (by kernel_rfl) rfl #[.agg #[.int .i64 a0_0, .int .i64 a0_1], .int .u64 a1_1] rfl (by (try simp only [List.map_toArray, List.map_cons, List.map_nil]); first | done | rfl | (simp only [List.length_drop, List.length_take]; rfl)) ?_; (with_reducible refine (mem_Seq.calls a0_0 a0_1 a1_1 t133 _ A4.out).mono ?_); rintro e w14 ⟨rfl, hb⟩; refine ⟨_, rfl, ?_⟩; have n0_ := aA (blk_below (g := gb130) (o := .cells #[.int .i64 a0_0, .int .i64 a0_1] 38 (0, 0)) (bku BK130.out) hb); have n1_ := aA (blk_below (g := gb131) (o := .cells #[.int .i64 a1_0, .int .u64 a1_1, .int .u64 a1_2] 56 (0, 0)) (bku BK131.out) hb); have n2_ := aA (blk_below (g := gb132) (o := .cells #[.int .i64 0, .int .i64 0, .int .u64 0, .int .u64 0] 25 (0, 0)) (bku BK132.out) hb); have n3_ := aA (below_step (bls HB.out) hb); clear BK130 BK131 BK132 HB; have BK130 := n0_; have BK131 := n1_; have BK132 := n2_; have HB := n3_; clear n0_ n1_ n2_ n3_; (try clear hb); (try clear hb2); (try clear hk); (try clear hi)) | ((with_reducible refine gate_callee (f := 61) rfl ?_); refine goesL_ (some 13) rfl rfl Try.func61 (by kernel_rfl) rfl #[.int .i64 t133] rfl (by (try simp only [List.map_toArray, List.map_cons, List.map_nil]); first | done | rfl | (simp only [List.length_drop, List.length_take]; rfl)) ?_; (with_reducible refine (queue_load.calls t133 t134 t135 t136 t137 _ A5.out).mono ?_); rintro e w15 ⟨rfl, hb⟩; refine ⟨_, rfl, ?_⟩; have n0_ := aA (blk_below (g := gb130) (o := .cells #[.int .i64 a0_0, .int .i64 a0_1] 38 (0, 0)) (bku BK130.out) hb); have n1_ := aA (blk_below (g := gb131) (o := .cells #[.int .i64 a1_0, .int .u64 a1_1, .int .u64 a1_2] 56 (0, 0)) (bku BK131.out) hb); have n2_ := aA (blk_below (g := gb132) (o := .cells #[.int .i64 0, .int .i64 0, .int .u64 0, .int .u64 0] 25 (0, 0)) (bku BK132.out) hb); have n3_ := aA (below_step (bls HB.out) hb); clear BK130 BK131 BK132 HB; have BK130 := n0_; have BK131 := n1_; have BK132 := n2_; have HB := n3_; clear n0_ n1_ n2_ n3_; (try clear hb); (try clear hb2); (try clear hk); (try clear hi); have hcz16_0 : w15.cell? ⟨gb132, 0, none⟩ = some (.int .i64 0) := (blk_cell BK132.out 0).trans rfl; have hcz16_1 : w15.cell? ⟨gb132, 1, none⟩ = some (.int .i64 0) := (blk_cell BK132.out 1).trans rfl; have hcz16_2 : w15.cell? ⟨gb132, 2, none⟩ = some (.int .u64 0) := (blk_cell BK132.out 2).trans rfl; have hcz16_3 : w15.cell? ⟨gb132, 3, none⟩ = some (.int .u64 0) := (blk_cell BK132.out 3).trans rfl; have hfz16_0 := blk_frozen BK132.out 0; have hfz16_1 := blk_frozen BK132.out 1; have hfz16_2 := blk_frozen BK132.out 2; have hfz16_3 := blk_frozen BK132.out 3))
  refine bodyPost_ret (results_cell_row rfl _ _ gb132 25 #[.int .i64 t134, .int .i64 t135, .int .u64 t136, .int .u64 t137] (0, 0) _ rfl (by refine bku ?_; refine blk_put (cs := #[.int .i64 t134, .int .i64 t135, .int .u64 t136, .int .u64 0]) ?_ 3 _ rfl; refine bku ?_; refine blk_put (cs := #[.int .i64 t134, .int .i64 t135, .int .u64 0, .int .u64 0]) ?_ 2 _ rfl; refine bku ?_; refine blk_put (cs := #[.int .i64 t134, .int .i64 0, .int .u64 0, .int .u64 0]) ?_ 1 _ rfl; refine bku ?_; refine blk_put (cs := #[.int .i64 0, .int .i64 0, .int .u64 0, .int .u64 0]) ?_ 0 _ rfl; refine bku ?_; exact BK132.out) Try.underlying25 rfl (by kernel_rfl)) rfl ?_
  exact ⟨by first | rfl | (simp [errW_none, errW_some] <;> rfl) | (simp [*, errW_none, errW_some] <;> rfl), by repeat (first | (with_reducible first | exact HB.out | apply below_alloc | apply pw_below_drewN | apply below_drew1 | refine below_set ?_ GE130.out | refine below_set ?_ GE131.out | refine below_set ?_ GE132.out) | exact HB.out)⟩
 ·rw [if_neg c3] at H
  have c3b0 : (a1_0 == 0) = false := beq_eq_false_iff_ne.mpr c3
  have c3b1 : (a1_0 != 0) = true := bne_iff_ne.mpr c3
  by_cases c17 : a1_0 = 1
  ·rw [if_pos c17] at H
   have c17b0 : (a1_0 == 1) = true := beq_iff_eq.mpr c17
   have c17b1 : (a1_0 != 1) = false := bne_eq_false_iff_eq.mpr c17
   clear c17
   replace H := Option.bind_eq_some_iff.mp H
   obtain ⟨t138, A180, H⟩ := H
   replace H : ((queue_load.f t138).bind fun bt139 => (some (bt139.1, bt139.2.1, bt139.2.2.1, bt139.2.2.2))) = some (r1, r2, r3, r4) := H
   have A18 := aA A180
   clear A180
   replace H := Option.bind_eq_some_iff.mp H
   obtain ⟨⟨t139, t140, t141, t142⟩, A190, H⟩ := H
   replace H : (some (t139, t140, t141, t142)) = some (r1, r2, r3, r4) := H
   have A19 := aA A190
   clear A190
   simp only [Option.some.injEq, Prod.mk.injEq] at H
   obtain ⟨rfl, rfl, rfl, rfl⟩ := H
   go_enter Try.func53, Try.ntmps53
   go_wp2_with (first | ((with_reducible refine gate_dst (N := 2) rfl ?_); refine box_event ?hg (N := 2) ?hd (cs := #[.int .i64 a0_0, .int .i64 a0_1]) (t := 38) ?hr ?_; (case hd => rfl); (case hg => rfl); (case hr => first | (go_simp; done) | (go_simp; rfl)); intro gb130 hg w20 hbox hb; have n0_ := aA (below_step (blw HB.out) hb); have n1_ := aA (hbox); have n2_ := aA ((by rw [hg]; exact (below_size (blw HB.out)) : w.heap.size ≤ gb130)); have n3_ := aA ((by rw [hg]; exact (below_size (blw HB.out)) : w.heap.size ≤ gb130)); clear HB; have HB := n0_; have BK130 := n1_; have GW130 := n2_; have GE130 := n3_; clear n0_ n1_ n2_ n3_ hb hbox hg) | ((with_reducible refine gate_dst (N := 3) rfl ?_); refine box_event ?hg (N := 3) ?hd (cs := #[.int .i64 a1_0, .int .u64 a1_1, .int .u64 a1_2]) (t := 56) ?hr ?_; (case hd => rfl); (case hg => rfl); (case hr => first | (go_simp; done) | (go_simp; rfl)); intro gb131 hg w21 hbox hb; have n0_ := aA (blk_below (g := gb130) (o := .cells #[.int .i64 a0_0, .int .i64 a0_1] 38 (0, 0)) (bku BK130.out) hb); have n1_ := aA (below_step (bls HB.out) hb); have n2_ := aA (hbox); have n3_ := aA ((by rw [hg]; exact (below_size (bls HB.out)) : w.heap.size ≤ gb131)); have n4_ := aA ((by rw [hg]; exact (below_size (bls HB.out)) : w.heap.size ≤ gb131)); have n5_ := aA ((by rw [hg]; exact Nat.ne_of_lt (blk_lt (g := gb130) (o := .cells #[.int .i64 a0_0, .int .i64 a0_1] 38 (0, 0)) (bku BK130.out)) : gb130 ≠ gb131)); have n6_ := aA ((by rw [hg]; exact Nat.ne_of_gt (blk_lt (g := gb130) (o := .cells #[.int .i64 a0_0, .int .i64 a0_1] 38 (0, 0)) (bku BK130.out)) : gb131 ≠ gb130)); clear BK130 HB; have BK130 := n0_; have HB := n1_; have BK131 := n2_; have GW131 := n3_; have GE131 := n4_; have NB130_131 := n5_; have NB131_130 := n6_; clear n0_ n1_ n2_ n3_ n4_ n5_ n6_ hb hbox hg) | ((with_reducible refine gate_dst (N := 4) rfl ?_); refine box_event ?hg (N := 4) ?hd (cs := #[.int .i64 0, .int .i64 0, .int .u64 0, .int .u64 0]) (t := 25) ?hr ?_; (case hd => rfl); (case hg => rfl); (case hr => first | (go_simp; done) | (go_simp; rfl)); intro gb132 hg w22 hbox hb; have n0_ := aA (blk_below (g := gb130) (o := .cells #[.int .i64 a0_0, .int .i64 a0_1] 38 (0, 0)) (bku BK130.out) hb); have n1_ := aA (blk_below (g := gb131) (o := .cells #[.int .i64 a1_0, .int .u64 a1_1, .int .u64 a1_2] 56 (0, 0)) (bku BK131.out) hb); have n2_ := aA (below_step (bls HB.out) hb); have n3_ := aA (hbox); have n4_ := aA ((by rw [hg]; exact (below_size (bls HB.out)) : w.heap.size ≤ gb132)); have n5_ := aA ((by rw [hg]; exact (below_size (bls HB.out)) : w.heap.size ≤ gb132)); have n6_ := aA ((by rw [hg]; exact Nat.ne_of_lt (blk_lt (g := gb130) (o := .cells #[.int .i64 a0_0, .int .i64 a0_1] 38 (0, 0)) (bku BK130.out)) : gb130 ≠ gb132)); have n7_ := aA ((by rw [hg]; exact Nat.ne_of_gt (blk_lt (g := gb130) (o := .cells #[.int .i64 a0_0, .int .i64 a0_1] 38 (0, 0)) (bku BK130.out)) : gb132 ≠ gb130)); have n8_ := aA ((by rw [hg]; exact Nat.ne_of_lt (blk_lt (g := gb131) (o := .cells #[.int .i64 a1_0, .int .u64 a1_1, .int .u64 a1_2] 56 (0, 0)) (bku BK131.out)) : gb131 ≠ gb132)); have n9_ := aA ((by rw [hg]; exact Nat.ne_of_gt (blk_lt (g := gb131) (o := .cells #[.int .i64 a1_0, .int .u64 a1_1, .int .u64 a1_2] 56 (0, 0)) (bku BK131.out)) : gb132 ≠ gb131)); clear BK130 BK131 HB; have BK130 := n0_; have BK131 := n1_; have HB := n2_; have BK132 := n3_; have GW132 := n4_; have GE132 := n5_; have NB130_132 := n6_; have NB132_130 := n7_; have NB131_132 := n8_; have NB132_131 := n9_; clear n0_ n1_ n2_ n3_ n4_ n5_ n6_ n7_ n8_ n9_ hb hbox hg; have hnb23 := NB131_130.out; have hnc23 := NB130_131.out; have hnb24 := NB131_132.out; have hnc24 := NB132_131.out; have hcz25_0 : w22.cell? ⟨gb131, 0, none⟩ = some (.int .i64 a1_0) := (blk_cell BK131.out 0).trans rfl; have hcz25_1 : w22.cell? ⟨gb131, 1, none⟩ = some (.int .u64 a1_1) := (blk_cell BK131.out 1).trans rfl; have hcz25_2 : w22.cell? ⟨gb131, 2, none⟩ = some (.int .u64 a1_2) := (blk_cell BK131.out 2).trans rfl; have hfz25_0 := blk_frozen BK131.out 0; have hfz25_1 := blk_frozen BK131.out 1; have hfz25_2 := blk_frozen BK131.out 2; have hnb26 := NB130_132.out; have hnc26 := NB132_130.out; have hcz27_0 : w22.cell? ⟨gb130, 0, none⟩ = some (.int .i64 a0_0) := (blk_cell BK130.out 0).trans rfl; have hcz27_1 : w22.cell? ⟨gb130, 1, none⟩ = some (.int .i64 a0_1) := (blk_cell BK130.out 1).trans rfl; have hfz27_0 := blk_frozen BK130.out 0; have hfz27_1 := blk_frozen BK130.out 1) | ((with_reducible refine gate_callee (f := 40) rfl ?_); refine goesL_ (some 19) rfl rfl Try.func40 (by kernel_rfl) rfl #[.agg #[.int .i64 a0_0, .int .i64 a0_1], .int .u64 a1_1] rfl (by (try simp only [List.map_toArray, List.map_cons, List.map_nil]); first | done | rfl | (simp only [List.length_drop, List.length_take]; rfl)) ?_; (with_reducible refine (mem_Item.calls a0_0 a0_1 a1_1 t138 _ A18.out).mono ?_); rintro e w28 ⟨rfl, hb⟩; refine ⟨_, rfl, ?_⟩; have n0_ := aA (blk_below (g := gb130) (o := .cells #[.int .i64 a0_0, .int .i64 a0_1] 38 (0, 0)) (bku BK130.out) hb); have n1_ := aA (blk_below (g := gb131) (o := .cells #[.int .i64 a1_0, .int .u64 a1_1, .int .u64 a1_2] 56 (0, 0)) (bku BK131.out) hb); have n2_ := aA (blk_below (g := gb132) (o := .cells #[.int .i64 0, .int .i64 0, .int .u64 0, .int .u64 0] 25 (0, 0)) (bku BK132.out) hb); have n3_ := aA (below_step (bls HB.out) hb); clear BK130 BK131 BK132 HB; have BK130 := n0_; have BK131 := n1_; have BK132 := n2_; have HB := n3_; clear n0_ n1_ n2_ n3_; (try clear hb); (try clear hb2); (try clear hk); (try clear hi)) | ((with_reducible refine gate_callee (f := 61) rfl ?_); refine goesL_ (some 20) rfl rfl Try.func61 (by kernel_rfl) rfl #[.int .i64 t138] rfl (by (try simp only [List.map_toArray, List.map_cons, List.map_nil]); first | done | rfl | (simp only [List.length_drop, List.length_take]; rfl)) ?_; (with_reducible refine (queue_load.calls t138 t139 t140 t141 t142 _ A19.out).mono ?_); rintro e w29 ⟨rfl, hb⟩; refine ⟨_, rfl, ?_⟩; have n0_ := aA (blk_below (g := gb130) (o := .cells #[.int .i64 a0_0, .int .i64 a0_1] 38 (0, 0)) (bku BK130.out) hb); have n1_ := aA (blk_below (g := gb131) (o := .cells #[.int .i64 a1_0, .int .u64 a1_1, .int .u64 a1_2] 56 (0, 0)) (bku BK131.out) hb); have n2_ := aA (blk_below (g := gb132) (o := .cells #[.int .i64 0, .int .i64 0, .int .u64 0, .int .u64 0] 25 (0, 0)) (bku BK132.out) hb); have n3_ := aA (below_step (bls HB.out) hb); clear BK130 BK131 BK132 HB; have BK130 := n0_; have BK131 := n1_; have BK132 := n2_; have HB := n3_; clear n0_ n1_ n2_ n3_; (try clear hb); (try clear hb2); (try clear hk); (try clear hi); have hcz30_0 : w29.cell? ⟨gb132, 0, none⟩ = some (.int .i64 0) := (blk_cell BK132.out 0).trans rfl; have hcz30_1 : w29.cell? ⟨gb132, 1, none⟩ = some (.int .i64 0) := (blk_cell BK132.out 1).trans rfl; have hcz30_2 : w29.cell? ⟨gb132, 2, none⟩ = some (.int .u64 0) := (blk_cell BK132.out 2).trans rfl; have hcz30_3 : w29.cell? ⟨gb132, 3, none⟩ = some (.int .u64 0) := (blk_cell BK132.out 3).trans rfl; have hfz30_0 := blk_frozen BK132.out 0; have hfz30_1 := blk_frozen BK132.out 1; have hfz30_2 := blk_frozen BK132.out 2; have hfz30_3 := blk_frozen BK132.out 3))
   refine bodyPost_ret (results_cell_row rfl _ _ gb132 25 #[.int .i64 t139, .int .i64 t140, .int .u64 t141, .int .u64 t142] (0, 0) _ rfl (by refine bku ?_; refine blk_put (cs := #[.int .i64 t139, .int .i64 t140, .int .u64 t141, .int .u64 0]) ?_ 3 _ rfl; refine bku ?_; refine blk_put (cs := #[.int .i64 t139, .int .i64 t140, .int .u64 0, .int .u64 0]) ?_ 2 _ rfl; refine bku ?_; refine blk_put (cs := #[.int .i64 t139, .int .i64 0, .int .u64 0, .int .u64 0]) ?_ 1 _ rfl; refine bku ?_; refine blk_put (cs := #[.int .i64 0, .int .i64 0, .int .u64 0, .int .u64 0]) ?_ 0 _ rfl; refine bku ?_; exact BK132.out) Try.underlying25 rfl (by kernel_rfl)) rfl ?_
   exact ⟨by first | rfl | (simp [errW_none, errW_some] <;> rfl) | (simp [*, errW_none, errW_some] <;> rfl), by repeat (first | (with_reducible first | exact HB.out | apply below_alloc | apply pw_below_drewN | apply below_drew1 | refine below_set ?_ GE130.out | refine below_set ?_ GE131.out | refine below_set ?_ GE132.out) | exact HB.out)⟩
  ·rw [if_neg c17] at H
   have c17b0 : (a1_0 == 1) = false := beq_eq_false_iff_ne.mpr c17
   have c17b1 : (a1_0 != 1) = true := bne_iff_ne.mpr c17
   replace H := Option.bind_eq_some_iff.mp H
   obtain ⟨t143, A310, H⟩ := H
   replace H : (if 0 ≤ a0_1 then ((queue_store.f t143 (IntKind.u64.wrap (a1_1 + (shl .u64 1 a0_1)))).bind fun bt144 => (some (bt144.1, bt144.2.1, bt144.2.2.1, bt144.2.2.2))) else (none)) = some (r1, r2, r3, r4) := H
   have A31 := aA A310
   clear A310
   by_cases c32 : 0 ≤ a0_1
   ·rw [if_pos c32] at H
    have c32b0 := eq_true c32
    have c32b1 : decide (0 ≤ a0_1) = true := decide_eq_true c32
    clear c32
    obtain ⟨ji33, hji33⟩ : ∃ j_ : Int, (shl .u64 1 a0_1) = j_ := ⟨_, rfl⟩
    replace H : ((queue_store.f t143 (IntKind.u64.wrap (a1_1 + (ji33)))).bind fun bt144 => (some (bt144.1, bt144.2.1, bt144.2.2.1, bt144.2.2.2))) = some (r1, r2, r3, r4) := by first | (rw [hji33] at H; exact H) | (simp only [hji33] at H ⊢; exact H)
    (try rw [hji33] at A31)
    have hji33_ : (IntKind.u64.wrap (1 * 2 ^ min a0_1.toNat 64)) = ji33 := hji33
    have hji33z : a0_1 ≤ 64 → (IntKind.u64.wrap (1 * 2 ^ a0_1.toNat)) = ji33 := shl_small hji33
    have hji33u : (IntKind.u64.wrap (2 ^ min a0_1.toNat 64)) = ji33 := by have h_ := hji33_; rw [Int.one_mul] at h_; exact h_
    have hji33v : a0_1 ≤ 64 → (IntKind.u64.wrap (2 ^ a0_1.toNat)) = ji33 := fun hle_ => by have h_ := hji33z hle_; rw [Int.one_mul] at h_; exact h_
    replace H := Option.bind_eq_some_iff.mp H
    obtain ⟨⟨t144, t145, t146, t147⟩, A340, H⟩ := H
    replace H : (some (t144, t145, t146, t147)) = some (r1, r2, r3, r4) := H
    have A34 := aA A340
    clear A340
    simp only [Option.some.injEq, Prod.mk.injEq] at H
    obtain ⟨rfl, rfl, rfl, rfl⟩ := H
    go_enter Try.func53, Try.ntmps53
    try go_wp2_with (first | ((with_reducible refine gate_dst (N := 2) rfl ?_); refine box_event ?hg (N := 2) ?hd (cs := #[.int .i64 a0_0, .int .i64 a0_1]) (t := 38) ?hr ?_; (case hd => rfl); (case hg => rfl); (case hr => first | (go_simp; done) | (go_simp; rfl)); intro gb130 hg w35 hbox hb; have n0_ := aA (below_step (blw HB.out) hb); have n1_ := aA (hbox); have n2_ := aA ((by rw [hg]; exact (below_size (blw HB.out)) : w.heap.size ≤ gb130)); have n3_ := aA ((by rw [hg]; exact (below_size (blw HB.out)) : w.heap.size ≤ gb130)); clear HB; have HB := n0_; have BK130 := n1_; have GW130 := n2_; have GE130 := n3_; clear n0_ n1_ n2_ n3_ hb hbox hg) | ((with_reducible refine gate_dst (N := 3) rfl ?_); refine box_event ?hg (N := 3) ?hd (cs := #[.int .i64 a1_0, .int .u64 a1_1, .int .u64 a1_2]) (t := 56) ?hr ?_; (case hd => rfl); (case hg => rfl); (case hr => first | (go_simp; done) | (go_simp; rfl)); intro gb131 hg w36 hbox hb; have n0_ := aA (blk_below (g := gb130) (o := .cells #[.int .i64 a0_0, .int .i64 a0_1] 38 (0, 0)) (bku BK130.out) hb); have n1_ := aA (below_step (bls HB.out) hb); have n2_ := aA (hbox); have n3_ := aA ((by rw [hg]; exact (below_size (bls HB.out)) : w.heap.size ≤ gb131)); have n4_ := aA ((by rw [hg]; exact (below_size (bls HB.out)) : w.heap.size ≤ gb131)); have n5_ := aA ((by rw [hg]; exact Nat.ne_of_lt (blk_lt (g := gb130) (o := .cells #[.int .i64 a0_0, .int .i64 a0_1] 38 (0, 0)) (bku BK130.out)) : gb130 ≠ gb131)); have n6_ := aA ((by rw [hg]; exact Nat.ne_of_gt (blk_lt (g := gb130) (o := .cells #[.int .i64 a0_0, .int .i64 a0_1] 38 (0, 0)) (bku BK130.out)) : gb131 ≠ gb130)); clear BK130 HB; have BK130 := n0_; have HB := n1_; have BK131 := n2_; have GW131 := n3_; have GE131 := n4_; have NB130_131 := n5_; have NB131_130 := n6_; clear n0_ n1_ n2_ n3_ n4_ n5_ n6_ hb hbox hg) | ((with_reducible refine gate_dst (N := 4) rfl ?_); refine box_event ?hg (N := 4) ?hd (cs := #[.int .i64 0, .int .i64 0, .int .u64 0, .int .u64 0]) (t := 25) ?hr ?_; (case hd => rfl); (case hg => rfl); (case hr => first | (go_simp; done) | (go_simp; rfl)); intro gb132 hg w37 hbox hb; have n0_ := aA (blk_below (g := gb130) (o := .cells #[.int .i64 a0_0, .int .i64 a0_1] 38 (0, 0)) (bku BK130.out) hb); have n1_ := aA (blk_below (g := gb131) (o := .cells #[.int .i64 a1_0, .int .u64 a1_1, .int .u64 a1_2] 56 (0, 0)) (bku BK131.out) hb); have n2_ := aA (below_step (bls HB.out) hb); have n3_ := aA (hbox); have n4_ := aA ((by rw [hg]; exact (below_size (bls HB.out)) : w.heap.size ≤ gb132)); have n5_ := aA ((by rw [hg]; exact (below_size (bls HB.out)) : w.heap.size ≤ gb132)); have n6_ := aA ((by rw [hg]; exact Nat.ne_of_lt (blk_lt (g := gb130) (o := .cells #[.int .i64 a0_0, .int .i64 a0_1] 38 (0, 0)) (bku BK130.out)) : gb130 ≠ gb132)); have n7_ := aA ((by rw [hg]; exact Nat.ne_of_gt (blk_lt (g := gb130) (o := .cells #[.int .i64 a0_0, .int .i64 a0_1] 38 (0, 0)) (bku BK130.out)) : gb132 ≠ gb130)); have n8_ := aA ((by rw [hg]; exact Nat.ne_of_lt (blk_lt (g := gb131) (o := .cells #[.int .i64 a1_0, .int .u64 a1_1, .int .u64 a1_2] 56 (0, 0)) (bku BK131.out)) : gb131 ≠ gb132)); have n9_ := aA ((by rw [hg]; exact Nat.ne_of_gt (blk_lt (g := gb131) (o := .cells #[.int .i64 a1_0, .int .u64 a1_1, .int .u64 a1_2] 56 (0, 0)) (bku BK131.out)) : gb132 ≠ gb131)); clear BK130 BK131 HB; have BK130 := n0_; have BK131 := n1_; have HB := n2_; have BK132 := n3_; have GW132 := n4_; have GE132 := n5_; have NB130_132 := n6_; have NB132_130 := n7_; have NB131_132 := n8_; have NB132_131 := n9_; clear n0_ n1_ n2_ n3_ n4_ n5_ n6_ n7_ n8_ n9_ hb hbox hg; have hnb38 := NB131_130.out; have hnc38 := NB130_131.out; have hnb39 := NB131_132.out; have hnc39 := NB132_131.out; have hcz40_0 : w37.cell? ⟨gb131, 0, none⟩ = some (.int .i64 a1_0) := (blk_cell BK131.out 0).trans rfl; have hcz40_1 : w37.cell? ⟨gb131, 1, none⟩ = some (.int .u64 a1_1) := (blk_cell BK131.out 1).trans rfl; have hcz40_2 : w37.cell? ⟨gb131, 2, none⟩ = some (.int .u64 a1_2) := (blk_cell BK131.out 2).trans rfl; have hfz40_0 := blk_frozen BK131.out 0; have hfz40_1 := blk_frozen BK131.out 1; have hfz40_2 := blk_frozen BK131.out 2))
    have n0_ := aA (blk_drew BK130.out)
    have n1_ := aA (blk_drew BK131.out)
    have n2_ := aA (blk_drew BK132.out)
    have n3_ := aA (below_drew1 HB.out)
    clear BK130
    clear BK131
    clear BK132
    clear HB
    have BK130 := n0_
    have BK131 := n1_
    have BK132 := n2_
    have HB := n3_
    clear n0_ n1_ n2_ n3_
    refine start_ (n := 12) (S := fun w' => w'.cell? ⟨gb130, 0, none⟩ = some (.int .i64 a0_0) ∧ w'.cell? ⟨gb130, 1, none⟩ = some (.int .i64 a0_1) ∧ w'.cell? ⟨gb131, 0, none⟩ = some (.int .i64 a1_0) ∧ w'.cell? ⟨gb131, 1, none⟩ = some (.int .u64 a1_1) ∧ w'.cell? ⟨gb131, 2, none⟩ = some (.int .u64 a1_2)) (ds := []) #[false, false, false, false, false, false, false, false, false, false, false, false] (by kernel_rfl) rfl rfl ⟨(blk_cell BK130.out 0).trans rfl, (blk_cell BK130.out 1).trans rfl, (blk_cell BK131.out 0).trans rfl, (blk_cell BK131.out 1).trans rfl, (blk_cell BK131.out 2).trans rfl⟩ (fun hHeld => ?_); refine with_tabW queue_Next.tab6 queue_Next.bits6 (fun HT_ HW_ => ?_)
    generalize w37.drew = w41 at BK130 BK131 BK132 HB hHeld ⊢
    refine pure_ (i := 1) (N := some 22) (v := ?_) (a' := ?_) #[false, true, false, false, false, false, false, false, false, false, false, false] rfl rfl (any_of HT_.out (by kernel_rfl)) (fun _ _ _ h => h) (Or.inl ⟨by rfl, ?_⟩) ?_ ?_
    rotate_left
    ·intro w'
     go_simp
     with_reducible rfl
    rotate_left
    ·simp only [Act.put, List.setIfInBounds_toArray, List.set_cons_zero, List.set_cons_succ, i64_w, i32_w]
     rfl
    refine pure_ (i := 4) (N := some 25) (v := ?_) (a' := ?_) #[false, true, false, false, true, false, false, false, false, false, false, false] rfl rfl (any_of HT_.out (by kernel_rfl)) (fun _ _ _ h => h) (Or.inl ⟨by rfl, ?_⟩) ?_ ?_
    rotate_left
    ·intro w'
     go_simp
     with_reducible rfl
    rotate_left
    ·simp only [Act.put, List.setIfInBounds_toArray, List.set_cons_zero, List.set_cons_succ, i64_w, i32_w]
     rfl
    refine pure_ (i := 6) (N := some 27) (v := ?_) (a' := ?_) #[false, true, false, false, true, false, true, false, false, false, false, false] rfl rfl (any_of HT_.out (by kernel_rfl)) (fun _ _ _ h => h) (Or.inl ⟨by rfl, ?_⟩) ?_ ?_
    rotate_left
    ·intro w'
     go_simp
     with_reducible rfl
    rotate_left
    ·simp only [Act.put, List.setIfInBounds_toArray, List.set_cons_zero, List.set_cons_succ, i64_w, i32_w]
     rfl
    refine take_ (i := 0) (N := some 21) (v := ?_) (a' := ?_) #[true, true, false, false, true, false, true, false, false, false, false, false] rfl rfl (take_ofW HT_.out HW_.out (by kernel_rfl)) (fun _ _ _ h => h) (Or.inl ⟨by rfl, ?_⟩) hHeld ?_ ?_
    rotate_left
    ·rintro w' ⟨s0, s1, s2, s3, s4⟩
     go_simp
     with_reducible rfl
    rotate_left
    ·simp only [Act.put, List.setIfInBounds_toArray, List.set_cons_zero, List.set_cons_succ, i64_w, i32_w]
     rfl
    refine take_ (i := 2) (N := some 23) (v := ?_) (a' := ?_) #[true, true, true, false, true, false, true, false, false, false, false, false] rfl rfl (take_ofW HT_.out HW_.out (by kernel_rfl)) (fun _ _ _ h => h) (Or.inl ⟨by rfl, ?_⟩) hHeld ?_ ?_
    rotate_left
    ·rintro w' ⟨s0, s1, s2, s3, s4⟩
     go_simp
     with_reducible rfl
    rotate_left
    ·simp only [Act.put, List.setIfInBounds_toArray, List.set_cons_zero, List.set_cons_succ, i64_w, i32_w]
     rfl
    refine take_ (i := 5) (N := some 26) (v := ?_) (a' := ?_) #[true, true, true, false, true, true, true, false, false, false, false, false] rfl rfl (take_ofW HT_.out HW_.out (by kernel_rfl)) (fun _ _ _ h => h) (Or.inl ⟨by rfl, ?_⟩) hHeld ?_ ?_
    rotate_left
    ·rintro w' ⟨s0, s1, s2, s3, s4⟩
     go_simp
     with_reducible rfl
    rotate_left
    ·simp only [Act.put, List.setIfInBounds_toArray, List.set_cons_zero, List.set_cons_succ, i64_w, i32_w]
     rfl
    refine take_ (i := 7) (N := some 28) (v := ?_) (a' := ?_) #[true, true, true, false, true, true, true, true, false, false, false, false] rfl rfl (take_ofW HT_.out HW_.out (by kernel_rfl)) (fun _ _ _ h => h) (Or.inl ⟨by rfl, ?_⟩) hHeld ?_ ?_
    rotate_left
    ·rintro w' ⟨s0, s1, s2, s3, s4⟩
     go_simp
     with_reducible rfl
    rotate_left
    ·simp only [Act.put, List.setIfInBounds_toArray, List.set_cons_zero, List.set_cons_succ, i64_w, i32_w]
     rfl
    refine pure_ (i := 8) (N := some 29) (v := ?_) (a' := ?_) #[true, true, true, false, true, true, true, true, true, false, false, false] rfl rfl (any_of HT_.out (by kernel_rfl)) (fun _ _ _ h => h) (Or.inl ⟨by rfl, ?_⟩) ?_ ?_
    rotate_left
    ·intro w'
     go_simp
     with_reducible rfl
    rotate_left
    ·simp only [Act.put, List.setIfInBounds_toArray, List.set_cons_zero, List.set_cons_succ, i64_w, i32_w]
     rfl
    refine pure_ (i := 9) (N := some 30) (v := ?_) (a' := ?_) #[true, true, true, false, true, true, true, true, true, true, false, false] rfl rfl (any_of HT_.out (by kernel_rfl)) (fun _ _ _ h => h) (Or.inl ⟨by rfl, ?_⟩) ?_ ?_
    rotate_left
    ·intro w'
     go_simp
     with_reducible rfl
    rotate_left
    ·simp only [Act.put, List.setIfInBounds_toArray, List.set_cons_zero, List.set_cons_succ, i64_w, i32_w]
     rfl
    refine one_ (i := 3) (N := some 24) #[true, true, true, true, true, true, true, true, true, true, false, false] rfl rfl (one_of HT_.out (by kernel_rfl)) (by decide) (fun K hK => ?_)
    refine goes_ Try.func39 (by kernel_rfl) rfl #[.agg #[.int .i64 a0_0, .int .i64 a0_1], .int .u64 a1_1] (by rfl) rfl rfl (by (try simp only [List.map_toArray, List.map_cons, List.map_nil]); first | done | rfl | (simp only [List.length_drop, List.length_take]; rfl)) ?_
    with_reducible refine (mem_Seq.calls a0_0 a0_1 a1_1 t143 _ A31.out).mono ?_
    rintro e w42 ⟨rfl, hb⟩
    refine ⟨_, rfl, ?_⟩
    have n0_ := aA (blk_below (g := gb130) (o := .cells #[.int .i64 a0_0, .int .i64 a0_1] 38 (0, 0)) (bku BK130.out) hb)
    have n1_ := aA (blk_below (g := gb131) (o := .cells #[.int .i64 a1_0, .int .u64 a1_1, .int .u64 a1_2] 56 (0, 0)) (bku BK131.out) hb)
    have n2_ := aA (blk_below (g := gb132) (o := .cells #[.int .i64 0, .int .i64 0, .int .u64 0, .int .u64 0] 25 (0, 0)) (bku BK132.out) hb)
    have n3_ := aA (below_step (bls HB.out) hb)
    clear BK130
    clear BK131
    clear BK132
    clear HB
    have BK130 := n0_
    have BK131 := n1_
    have BK132 := n2_
    have HB := n3_
    clear n0_ n1_ n2_ n3_
    (try clear hb)
    (try clear hb2)
    (try clear hk)
    (try clear hi)
    refine hK.out _ _ ⟨(blk_cell BK130.out 0).trans rfl, (blk_cell BK130.out 1).trans rfl, (blk_cell BK131.out 0).trans rfl, (blk_cell BK131.out 1).trans rfl, (blk_cell BK131.out 2).trans rfl⟩ (fun hHeld => ?_)
    clear hK K
    refine norm_ (a' := ?_) ?_ ?_
    rotate_left
    ·show Act.put _ (some 24) _ = _
     simp only [Act.put, List.setIfInBounds_toArray, List.set_cons_zero, List.set_cons_succ, i64_w, i32_w]
     rfl
    refine one_ (i := 10) (N := some 31) #[true, true, true, true, true, true, true, true, true, true, true, false] rfl rfl (one_of HT_.out (by kernel_rfl)) (by decide) (fun K hK => ?_)
    refine goes_ Try.func65 (by kernel_rfl) rfl #[.int .i64 t143, .int .u64 (IntKind.u64.wrap (a1_1 + (ji33)))] (by rfl) rfl rfl (by (try simp only [List.map_toArray, List.map_cons, List.map_nil]); first | done | (simp only [hji33]; rfl) | rfl | (simp only [List.length_drop, List.length_take]; rfl)) ?_
    with_reducible refine (queue_store.calls t143 (IntKind.u64.wrap (a1_1 + (ji33))) t144 t145 t146 t147 _ A34.out).mono ?_
    rintro e w43 ⟨rfl, hb⟩
    refine ⟨_, rfl, ?_⟩
    have n0_ := aA (blk_below (g := gb130) (o := .cells #[.int .i64 a0_0, .int .i64 a0_1] 38 (0, 0)) (bku BK130.out) hb)
    have n1_ := aA (blk_below (g := gb131) (o := .cells #[.int .i64 a1_0, .int .u64 a1_1, .int .u64 a1_2] 56 (0, 0)) (bku BK131.out) hb)
    have n2_ := aA (blk_below (g := gb132) (o := .cells #[.int .i64 0, .int .i64 0, .int .u64 0, .int .u64 0] 25 (0, 0)) (bku BK132.out) hb)
    have n3_ := aA (below_step (bls HB.out) hb)
    clear BK130
    clear BK131
    clear BK132
    clear HB
    have BK130 := n0_
    have BK131 := n1_
    have BK132 := n2_
    have HB := n3_
    clear n0_ n1_ n2_ n3_
    (try clear hb)
    (try clear hb2)
    (try clear hk)
    (try clear hi)
    refine hK.out _ _ ⟨(blk_cell BK130.out 0).trans rfl, (blk_cell BK130.out 1).trans rfl, (blk_cell BK131.out 0).trans rfl, (blk_cell BK131.out 1).trans rfl, (blk_cell BK131.out 2).trans rfl⟩ (fun hHeld => ?_)
    clear hK K
    refine norm_ (a' := ?_) ?_ ?_
    rotate_left
    ·show Act.put _ (some 31) _ = _
     simp only [Act.put, List.setIfInBounds_toArray, List.set_cons_zero, List.set_cons_succ, i64_w, i32_w]
     rfl
    refine one_ (i := 11) (N := none) #[true, true, true, true, true, true, true, true, true, true, true, true] rfl rfl (one_of HT_.out (by kernel_rfl)) (by decide) (fun K hK => ?_)
    have hs44 : w43.cell? ⟨gb132, 0, none⟩ = some (.int .i64 0) := (blk_cell BK132.out 0).trans rfl
    have hfs44 := blk_frozen BK132.out 0
    have hns44_0 := NB130_132.out
    have hns44_1 := NB131_132.out
    have hms44_0 := NB132_130.out
    have hms44_1 := NB132_131.out
    have hs45 : w43.cell? ⟨gb132, 1, none⟩ = some (.int .i64 0) := (blk_cell BK132.out 1).trans rfl
    have hfs45 := blk_frozen BK132.out 1
    have hns45_0 := NB130_132.out
    have hns45_1 := NB131_132.out
    have hms45_0 := NB132_130.out
    have hms45_1 := NB132_131.out
    have hs46 : w43.cell? ⟨gb132, 2, none⟩ = some (.int .u64 0) := (blk_cell BK132.out 2).trans rfl
    have hfs46 := blk_frozen BK132.out 2
    have hns46_0 := NB130_132.out
    have hns46_1 := NB131_132.out
    have hms46_0 := NB132_130.out
    have hms46_1 := NB132_131.out
    have hs47 : w43.cell? ⟨gb132, 3, none⟩ = some (.int .u64 0) := (blk_cell BK132.out 3).trans rfl
    have hfs47 := blk_frozen BK132.out 3
    have hns47_0 := NB130_132.out
    have hns47_1 := NB131_132.out
    have hms47_0 := NB132_130.out
    have hms47_1 := NB132_131.out
    refine skip_ (w1 := ?_) (by rfl) rfl ?_ ?_
    rotate_left
    ·go_simp
     rfl
    refine hK.out _ _ ⟨((cell_far (p := ⟨gb132, _, none⟩) NB130_132.out _).trans (((cell_far (p := ⟨gb132, _, none⟩) NB130_132.out _).trans (((cell_far (p := ⟨gb132, _, none⟩) NB130_132.out _).trans (((cell_far (p := ⟨gb132, _, none⟩) NB130_132.out _).trans (hHeld.1)))))))), ((cell_far (p := ⟨gb132, _, none⟩) NB130_132.out _).trans (((cell_far (p := ⟨gb132, _, none⟩) NB130_132.out _).trans (((cell_far (p := ⟨gb132, _, none⟩) NB130_132.out _).trans (((cell_far (p := ⟨gb132, _, none⟩) NB130_132.out _).trans (hHeld.2.1)))))))), ((cell_far (p := ⟨gb132, _, none⟩) NB131_132.out _).trans (((cell_far (p := ⟨gb132, _, none⟩) NB131_132.out _).trans (((cell_far (p := ⟨gb132, _, none⟩) NB131_132.out _).trans (((cell_far (p := ⟨gb132, _, none⟩) NB131_132.out _).trans (hHeld.2.2.1)))))))), ((cell_far (p := ⟨gb132, _, none⟩) NB131_132.out _).trans (((cell_far (p := ⟨gb132, _, none⟩) NB131_132.out _).trans (((cell_far (p := ⟨gb132, _, none⟩) NB131_132.out _).trans (((cell_far (p := ⟨gb132, _, none⟩) NB131_132.out _).trans (hHeld.2.2.2.1)))))))), ((cell_far (p := ⟨gb132, _, none⟩) NB131_132.out _).trans (((cell_far (p := ⟨gb132, _, none⟩) NB131_132.out _).trans (((cell_far (p := ⟨gb132, _, none⟩) NB131_132.out _).trans (((cell_far (p := ⟨gb132, _, none⟩) NB131_132.out _).trans (hHeld.2.2.2.2))))))))⟩ (fun hHeld => ?_)
    clear hK K
    refine done_ (done_of HT_.out (by kernel_rfl)) ?_
    try go_wp2
    refine bodyPost_ret (results_cell_row rfl _ _ gb132 25 #[.int .i64 t144, .int .i64 t145, .int .u64 t146, .int .u64 t147] (0, 0) _ rfl (by refine bku ?_; refine blk_put (cs := #[.int .i64 t144, .int .i64 t145, .int .u64 t146, .int .u64 0]) ?_ 3 _ rfl; refine bku ?_; refine blk_put (cs := #[.int .i64 t144, .int .i64 t145, .int .u64 0, .int .u64 0]) ?_ 2 _ rfl; refine bku ?_; refine blk_put (cs := #[.int .i64 t144, .int .i64 0, .int .u64 0, .int .u64 0]) ?_ 1 _ rfl; refine bku ?_; refine blk_put (cs := #[.int .i64 0, .int .i64 0, .int .u64 0, .int .u64 0]) ?_ 0 _ rfl; refine bku ?_; exact BK132.out) Try.underlying25 rfl (by kernel_rfl)) rfl ?_
    exact ⟨by first | rfl | (simp [errW_none, errW_some] <;> rfl) | (simp only [← hji33]; first | rfl | (simp [errW_none, errW_some] <;> rfl)) | (simp [*, errW_none, errW_some] <;> rfl), by repeat (first | (with_reducible first | exact HB.out | apply below_alloc | apply pw_below_drewN | apply below_drew1 | refine below_set ?_ GE130.out | refine below_set ?_ GE131.out | refine below_set ?_ GE132.out) | exact HB.out)⟩
   ·rw [if_neg c32] at H
    exact absurd H (by simp)

/-! ### treillagelaw16_shown: function 46 -/
mutual
def treillagelaw16_shown.l0 : Nat → List Int → Int → Int → Int → Int → Int → Int → Option (Bool)
 | 0, _, _, _, _, _, _, _ => none
 | k + 1, x2, x4, x149000, x149001, x153000, x153001, x153002 => if x4 < 5 then ((queue_Want.f x149000 x149001 x153000 x153001 x153002).bind fun bt153 => ((mem_Do.f x2 bt153.1 bt153.2.1 bt153.2.2.1 bt153.2.2.2.1).bind fun bt159 => (if bt153.2.2.2.2 = true then ((queue_Got.f k x153000 x153001 x153002 bt159.2.1 bt159.2.2).bind fun bt164 => (treillagelaw16_shown.l0 k bt159.1 (wrap64 (x4 + 1)) x149000 x149001 bt164.1 bt164.2.1 bt164.2.2)) else (some false)))) else (treillagelaw16_shown.l1 k x2 false 0 x149000 x149001 x153000 x153001 x153002 0 0 0)
def treillagelaw16_shown.l1 : Nat → List Int → Bool → Int → Int → Int → Int → Int → Int → Int → Int → Int → Option (Bool)
 | 0, _, _, _, _, _, _, _, _, _, _, _ => none
 | k + 1, x2, x11, x12, x149000, x149001, x153000, x153001, x153002, x168000, x168001, x168002 => if x12 < 3 then ((queue_Next.f x149000 x149001 x168000 x168001 x168002).bind fun bt168 => ((mem_Do.f x2 bt168.1 bt168.2.1 bt168.2.2.1 bt168.2.2.2).bind fun bt172 => ((queue_Given.f k x149000 x149001 x168000 x168001 x168002 bt172.2.1).bind fun bt177 => (treillagelaw16_shown.l1 k bt172.1 bt177.2.2.2 (wrap64 (x12 + 1)) x149000 x149001 x153000 x153001 x153002 bt177.1 bt177.2.1 bt177.2.2.1)))) else ((queue_Want.f x149000 x149001 x153000 x153001 x153002).bind fun bt181 => (if x153000 = 5 then (if bt181.2.2.2.2 = true then (some false) else (if x11 = true then (if x168002 = 7 then (some (x168001 == 1)) else (some false)) else (some false))) else (some false)))
end
def treillagelaw16_shown.f (k : Nat)  : Option (Bool) := (mem_New.f k 1 1).bind fun t149 => (treillagelaw16_shown.l0 k t149 0 1 1 0 0 7)
theorem treillagelaw16_shown.mono_l : ∀ k, (∀ y0 y1 y2 y3 y4 y5 y6, LeO (treillagelaw16_shown.l0 k y0 y1 y2 y3 y4 y5 y6) (treillagelaw16_shown.l0 (k + 1) y0 y1 y2 y3 y4 y5 y6)) ∧ (∀ y0 y1 y2 y3 y4 y5 y6 y7 y8 y9 y10, LeO (treillagelaw16_shown.l1 k y0 y1 y2 y3 y4 y5 y6 y7 y8 y9 y10) (treillagelaw16_shown.l1 (k + 1) y0 y1 y2 y3 y4 y5 y6 y7 y8 y9 y10))
 | 0 => ⟨fun _ _ _ _ _ _ _ r h => by simp [treillagelaw16_shown.l0] at h, fun _ _ _ _ _ _ _ _ _ _ _ r h => by simp [treillagelaw16_shown.l1] at h⟩
 | k + 1 => by
  obtain ⟨ih0, ih1⟩ := treillagelaw16_shown.mono_l k
  refine ⟨?_, ?_⟩
  ·intro y0 y1 y2 y3 y4 y5 y6
   unfold treillagelaw16_shown.l0
   repeat' first
   | (with_reducible exact ih0 _ _ _ _ _ _ _)
   | (with_reducible exact ih1 _ _ _ _ _ _ _ _ _ _ _)
   | (with_reducible exact mem_New.mono _ _ _)
   | (with_reducible exact queue_Given.mono _ _ _ _ _ _ _)
   | (with_reducible exact queue_Got.mono _ _ _ _ _ _)
   | (with_reducible exact LeO.refl _)
   | (with_reducible exact LeO.none _)
   | (with_reducible refine LeO.ite ?_ ?_)
   | (with_reducible refine LeO.bind ?_ (fun _ => ?_))
   | exact ih0 _ _ _ _ _ _ _
   | exact ih1 _ _ _ _ _ _ _ _ _ _ _
   | exact mem_New.mono _ _ _
   | exact queue_Given.mono _ _ _ _ _ _ _
   | exact queue_Got.mono _ _ _ _ _ _
   | exact LeO.none _
   | refine LeO.ite ?_ ?_
   | refine LeO.bind ?_ (fun _ => ?_)
  ·intro y0 y1 y2 y3 y4 y5 y6 y7 y8 y9 y10
   unfold treillagelaw16_shown.l1
   repeat' first
   | (with_reducible exact ih0 _ _ _ _ _ _ _)
   | (with_reducible exact ih1 _ _ _ _ _ _ _ _ _ _ _)
   | (with_reducible exact mem_New.mono _ _ _)
   | (with_reducible exact queue_Given.mono _ _ _ _ _ _ _)
   | (with_reducible exact queue_Got.mono _ _ _ _ _ _)
   | (with_reducible exact LeO.refl _)
   | (with_reducible exact LeO.none _)
   | (with_reducible refine LeO.ite ?_ ?_)
   | (with_reducible refine LeO.bind ?_ (fun _ => ?_))
   | exact ih0 _ _ _ _ _ _ _
   | exact ih1 _ _ _ _ _ _ _ _ _ _ _
   | exact mem_New.mono _ _ _
   | exact queue_Given.mono _ _ _ _ _ _ _
   | exact queue_Got.mono _ _ _ _ _ _
   | exact LeO.none _
   | refine LeO.ite ?_ ?_
   | refine LeO.bind ?_ (fun _ => ?_)
theorem treillagelaw16_shown.mono : ∀ k, LeO (treillagelaw16_shown.f k ) (treillagelaw16_shown.f (k + 1) ) := by
 intro  k
 obtain ⟨ih0, ih1⟩ := treillagelaw16_shown.mono_l k
 unfold treillagelaw16_shown.f
 repeat' first
   | (with_reducible exact ih0 _ _ _ _ _ _ _)
   | (with_reducible exact ih1 _ _ _ _ _ _ _ _ _ _ _)
   | (with_reducible exact mem_New.mono _ _ _)
   | (with_reducible exact queue_Given.mono _ _ _ _ _ _ _)
   | (with_reducible exact queue_Got.mono _ _ _ _ _ _)
   | (with_reducible exact LeO.refl _)
   | (with_reducible exact LeO.none _)
   | (with_reducible refine LeO.ite ?_ ?_)
   | (with_reducible refine LeO.bind ?_ (fun _ => ?_))
   | exact ih0 _ _ _ _ _ _ _
   | exact ih1 _ _ _ _ _ _ _ _ _ _ _
   | exact mem_New.mono _ _ _
   | exact queue_Given.mono _ _ _ _ _ _ _
   | exact queue_Got.mono _ _ _ _ _ _
   | exact LeO.none _
   | refine LeO.ite ?_ ?_
   | refine LeO.bind ?_ (fun _ => ?_)
set_option maxHeartbeats 8000000 in
set_option maxRecDepth 100000 in
theorem treillagelaw16_shown.calls (k : Nat)  (r : Bool) (w : World) (h : treillagelaw16_shown.f k  = some r) :
  Calls Try.prog 46 #[] w fun e w' => e = .returned (.bool r) ∧ Below w.heap.size w w' := by
 have hu38 := Try.underlying38
 have hu54 := Try.underlying54
 have hu25 := Try.underlying25
 have hu56 := Try.underlying56
 have HB := aA (Below.refl w.heap.size w)
 have H : ((mem_New.f k 1 1).bind fun t149 => (treillagelaw16_shown.l0 k t149 0 1 1 0 0 7)) = some r := h
 clear h
 replace H := Option.bind_eq_some_iff.mp H
 obtain ⟨t149, A10, H⟩ := H
 replace H : (treillagelaw16_shown.l0 k t149 0 1 1 0 0 7) = some r := H
 have A1 := aA A10
 clear A10
 have H' := aA H
 clear H
 go_enter Try.func46, Try.ntmps46
 go_wp2_with (first | ((with_reducible refine gate_dst (N := 1) rfl ?_); refine box_event ?hg (N := 1) ?hd (cs := #[.int .i64 0, .int .i64 0]) (t := 38) ?hr ?_; (case hd => rfl); (case hg => rfl); (case hr => first | (go_simp; done) | (go_simp; rfl)); intro gb148 hg w2 hbox hb; have n0_ := aA (below_step (blw HB.out) hb); have n1_ := aA (hbox); have n2_ := aA ((by rw [hg]; exact (below_size (blw HB.out)) : w.heap.size ≤ gb148)); have n3_ := aA ((by rw [hg]; exact (below_size (blw HB.out)) : w.heap.size ≤ gb148)); clear HB; have HB := n0_; have BK148 := n1_; have GW148 := n2_; have GE148 := n3_; clear n0_ n1_ n2_ n3_ hb hbox hg; have hcz3_0 : w2.cell? ⟨gb148, 0, none⟩ = some (.int .i64 0) := (blk_cell BK148.out 0).trans rfl; have hcz3_1 : w2.cell? ⟨gb148, 1, none⟩ = some (.int .i64 0) := (blk_cell BK148.out 1).trans rfl; have hfz3_0 := blk_frozen BK148.out 0; have hfz3_1 := blk_frozen BK148.out 1) | ((with_reducible refine gate_callee (f := 36) rfl ?_); refine goesL_ (some 20) rfl rfl Try.func36 (by kernel_rfl) rfl #[.agg #[.int .i64 1, .int .i64 1]] rfl (by (try simp only [List.map_toArray, List.map_cons, List.map_nil]); first | done | rfl | (simp only [List.length_drop, List.length_take]; rfl)) ?_; (with_reducible refine (mem_New.calls k 1 1 t149 _ A1.out).mono ?_); rintro e w4 ⟨v150, rfl, ho0, hb⟩; refine ⟨_, rfl, ?_⟩; have n0_ := aA (Kd.R_lower ho0 (below_size (bls HB.out))); have n1_ := aA (blk_below (g := gb148) (o := .cells #[.int .i64 1, .int .i64 1] 38 (0, 0)) (by refine bku ?_; refine blk_put (cs := #[.int .i64 1, .int .i64 0]) ?_ 1 _ rfl; refine bku ?_; refine blk_put (cs := #[.int .i64 0, .int .i64 0]) ?_ 0 _ rfl; refine bku ?_; exact BK148.out) hb); have n2_ := aA (below_step (bls HB.out) hb); clear BK148 HB; have HO151 := n0_; have BK148 := n1_; have HB := n2_; clear n0_ n1_ n2_; (try clear hb); (try clear hb2); (try clear hk); (try clear hi); (try clear ho0)) | ((with_reducible refine gate_dst (N := 3) rfl ?_); refine box_event ?hg (N := 3) ?hd (cs := #[.int .i64 0, .int .u64 0, .int .u64 0]) (t := 54) ?hr ?_; (case hd => rfl); (case hg => rfl); (case hr => first | (go_simp; done) | (go_simp; rfl)); intro gb152 hg w5 hbox hb; have n0_ := aA (Kd.R_below (rlu HO151.out) hb); have n1_ := aA (blk_below (g := gb148) (o := .cells #[.int .i64 1, .int .i64 1] 38 (0, 0)) (bku BK148.out) hb); have n2_ := aA (below_step (bls HB.out) hb); have n3_ := aA (hbox); have n4_ := aA ((by rw [hg]; exact (below_size (bls HB.out)) : w.heap.size ≤ gb152)); have n5_ := aA ((by rw [hg]; exact (below_size (bls HB.out)) : w.heap.size ≤ gb152)); have n6_ := aA ((by rw [hg]; exact Nat.ne_of_lt (blk_lt (g := gb148) (o := .cells #[.int .i64 1, .int .i64 1] 38 (0, 0)) (bku BK148.out)) : gb148 ≠ gb152)); have n7_ := aA ((by rw [hg]; exact Nat.ne_of_gt (blk_lt (g := gb148) (o := .cells #[.int .i64 1, .int .i64 1] 38 (0, 0)) (bku BK148.out)) : gb152 ≠ gb148)); clear HO151 BK148 HB; have HO151 := n0_; have BK148 := n1_; have HB := n2_; have BK152 := n3_; have GW152 := n4_; have GE152 := n5_; have NB148_152 := n6_; have NB152_148 := n7_; clear n0_ n1_ n2_ n3_ n4_ n5_ n6_ n7_ hb hbox hg; have hnb6 := NB152_148.out; have hnc6 := NB148_152.out; have hcz7_0 : w5.cell? ⟨gb152, 0, none⟩ = some (.int .i64 0) := (blk_cell BK152.out 0).trans rfl; have hcz7_1 : w5.cell? ⟨gb152, 1, none⟩ = some (.int .u64 0) := (blk_cell BK152.out 1).trans rfl; have hcz7_2 : w5.cell? ⟨gb152, 2, none⟩ = some (.int .u64 0) := (blk_cell BK152.out 2).trans rfl; have hfz7_0 := blk_frozen BK152.out 0; have hfz7_1 := blk_frozen BK152.out 1; have hfz7_2 := blk_frozen BK152.out 2))
 go_loopg [2, 4] k (fun kq v2 v4 w' => ∃ (x2_1 : List Int) (x4_1 : Int) (x153000_1 : Int) (x153001_1 : Int) (x153002_1 : Int), v4 = .int .i64 x4_1 ∧ Aside0 (treillagelaw16_shown.l0 kq x2_1 x4_1 1 1 x153000_1 x153001_1 x153002_1 = some r) ∧ Aside0 (kq ≤ k) ∧ Aside0 (Kd.V (Kd.int .u64) 23 w' w.heap.size (fun k_ => k_ ≠ gb148 ∧ k_ ≠ gb152) v2 x2_1) ∧ Aside0 (w'.heap[gb148]? = some (.cells #[.int .i64 1, .int .i64 1] 38 (0, 0))) ∧ Aside0 (w'.heap[gb152]? = some (.cells #[.int .i64 x153000_1, .int .u64 x153001_1, .int .u64 x153002_1] 54 (0, 0))) ∧ Aside0 (Below w.heap.size w w'))
 case atStart => exact ⟨(t149), (0), (0), (0), (7), (by first | rfl | (simp; done) | (simp [*]; done)), H', ⟨Nat.le_refl _⟩, ⟨Kd.R_V (rlu (Kd.R_mono (Kd.R_far (p := ⟨gb152, 2, none⟩) (Kd.R_far (p := ⟨gb152, 1, none⟩) (Kd.R_far (p := ⟨gb152, 0, none⟩) (Kd.R_types (Kd.R_types (Kd.R_types HO151.out BK148.out (by decide)) BK152.out (by decide)) BK152.out (by decide)) (fun _ hk => hk.2) (.int .i64 0)) (fun _ hk => hk.2) (.int .u64 0)) (fun _ hk => hk.2) (.int .u64 7)) (fun _ hk => ⟨hk.1.1.2, hk.1.2⟩)))⟩, ⟨by refine bku ?_; refine blk_far ?_ NB148_152.out _; refine bku ?_; refine blk_far ?_ NB148_152.out _; refine bku ?_; refine blk_far ?_ NB148_152.out _; refine bku ?_; exact BK148.out⟩, ⟨by refine bku ?_; refine blk_put (cs := #[.int .i64 0, .int .u64 0, .int .u64 0]) ?_ 2 _ rfl; refine bku ?_; refine blk_put (cs := #[.int .i64 0, .int .u64 0, .int .u64 0]) ?_ 1 _ rfl; refine bku ?_; refine blk_put (cs := #[.int .i64 0, .int .u64 0, .int .u64 0]) ?_ 0 _ rfl; refine bku ?_; exact BK152.out⟩, ⟨by repeat (first | (with_reducible first | exact HB.out | apply below_alloc | apply pw_below_drewN | apply below_drew1 | refine below_set ?_ GE148.out | refine below_set ?_ GE152.out) | exact HB.out)⟩⟩
 case round =>
  clear H'
  try clear p2
  try clear c3
  try clear c4
  try clear c6
  try clear hcz3_0
  try clear hcz3_1
  try clear hcz7_0
  try clear hcz7_1
  try clear hcz7_2
  try clear hfz3_0
  try clear hfz3_1
  try clear hfz7_0
  try clear hfz7_1
  try clear hfz7_2
  obtain ⟨x2_1, x4_1, x153000_1, x153001_1, x153002_1, rfl, HA, HK1, HO_2, BK148, BK152, HB⟩ := hrel
  cases gk with
  | zero => exact absurd HA.out (by simp [treillagelaw16_shown.l0])
  | succ k1 =>
   have H := HA.out
   clear HA
   simp only [treillagelaw16_shown.l0] at H
   by_cases c8 : x4_1 < 5
   ·rw [if_pos c8] at H
    have c8b0 : decide (x4_1 < 5) = true := decide_eq_true c8
    clear c8
    replace H := Option.bind_eq_some_iff.mp H
    obtain ⟨⟨t153, t154, t155, t156, t157⟩, A90, H⟩ := H
    replace H : ((mem_Do.f x2_1 t153 t154 t155 t156).bind fun bt159 => (if t157 = true then ((queue_Got.f k1 x153000_1 x153001_1 x153002_1 bt159.2.1 bt159.2.2).bind fun bt164 => (treillagelaw16_shown.l0 k1 bt159.1 (wrap64 (x4_1 + 1)) 1 1 bt164.1 bt164.2.1 bt164.2.2)) else (some false))) = some r := H
    have A9 := aA A90
    clear A90
    replace H := Option.bind_eq_some_iff.mp H
    obtain ⟨⟨t159, t162, t163⟩, A100, H⟩ := H
    replace H : (if t157 = true then ((queue_Got.f k1 x153000_1 x153001_1 x153002_1 t162 t163).bind fun bt164 => (treillagelaw16_shown.l0 k1 t159 (wrap64 (x4_1 + 1)) 1 1 bt164.1 bt164.2.1 bt164.2.2)) else (some false)) = some r := H
    have A10 := aA A100
    clear A100
    by_cases c11 : t157 = true
    ·subst c11
     have H1 : ((queue_Got.f k1 x153000_1 x153001_1 x153002_1 t162 t163).bind fun bt164 => (treillagelaw16_shown.l0 k1 t159 (wrap64 (x4_1 + 1)) 1 1 bt164.1 bt164.2.1 bt164.2.2)) = some r := by rw [if_pos rfl] at H; exact H
     clear H
     have H := H1
     clear H1
     replace H := Option.bind_eq_some_iff.mp H
     obtain ⟨⟨t164, t165, t166⟩, A120, H⟩ := H
     replace H : (treillagelaw16_shown.l0 k1 t159 (wrap64 (x4_1 + 1)) 1 1 t164 t165 t166) = some r := H
     have A12 := aA A120
     clear A120
     have H' := aA H
     clear H
     have hnb13 := NB148_152.out
     have hnc13 := NB152_148.out
     have hcz14_0 : wr.cell? ⟨gb148, 0, none⟩ = some (.int .i64 1) := (blk_cell BK148.out 0).trans rfl
     have hcz14_1 : wr.cell? ⟨gb148, 1, none⟩ = some (.int .i64 1) := (blk_cell BK148.out 1).trans rfl
     have hfz14_0 := blk_frozen BK148.out 0
     have hfz14_1 := blk_frozen BK148.out 1
     have hcz15_0 : wr.cell? ⟨gb152, 0, none⟩ = some (.int .i64 x153000_1) := (blk_cell BK152.out 0).trans rfl
     have hcz15_1 : wr.cell? ⟨gb152, 1, none⟩ = some (.int .u64 x153001_1) := (blk_cell BK152.out 1).trans rfl
     have hcz15_2 : wr.cell? ⟨gb152, 2, none⟩ = some (.int .u64 x153002_1) := (blk_cell BK152.out 2).trans rfl
     have hfz15_0 := blk_frozen BK152.out 0
     have hfz15_1 := blk_frozen BK152.out 1
     have hfz15_2 := blk_frozen BK152.out 2
     go_wp2_with (first | ((with_reducible refine gate_callee (f := 47) rfl ?_); refine goesL_ (some 29) rfl rfl Try.func47 (by kernel_rfl) rfl #[.agg #[.int .i64 1, .int .i64 1], .agg #[.int .i64 x153000_1, .int .u64 x153001_1, .int .u64 x153002_1]] rfl (by (try simp only [List.map_toArray, List.map_cons, List.map_nil]); first | done | rfl | (simp only [List.length_drop, List.length_take]; rfl)) ?_; (with_reducible refine (queue_Want.calls 1 1 x153000_1 x153001_1 x153002_1 t153 t154 t155 t156 true _ A9.out).mono ?_); rintro e w16 ⟨rfl, hb⟩; refine ⟨_, rfl, ?_⟩; have n0_ := aA (Kd.V_below (vlu HO_2.out) hb); have n1_ := aA (blk_below (g := gb148) (o := .cells #[.int .i64 1, .int .i64 1] 38 (0, 0)) (bku BK148.out) hb); have n2_ := aA (blk_below (g := gb152) (o := .cells #[.int .i64 x153000_1, .int .u64 x153001_1, .int .u64 x153002_1] 54 (0, 0)) (bku BK152.out) hb); have n3_ := aA (below_step (bls HB.out) hb); clear HO_2 BK148 BK152 HB; have HO_2 := n0_; have BK148 := n1_; have BK152 := n2_; have HB := n3_; clear n0_ n1_ n2_ n3_; (try clear hb); (try clear hb2); (try clear hk); (try clear hi)) | ((with_reducible refine gate_dst (N := 5) rfl ?_); refine box_event ?hg (N := 5) ?hd (cs := #[.int .i64 0, .int .i64 0, .int .u64 0, .int .u64 0]) (t := 25) ?hr ?_; (case hd => rfl); (case hg => rfl); (case hr => first | (go_simp; done) | (go_simp; rfl)); intro gb158 hg w17 hbox hb; have n0_ := aA (Kd.V_below (Kd.V_elderB (vlu HO_2.out) gb158 (Nat.le_of_eq hg.symm)) hb); have n1_ := aA (blk_below (g := gb148) (o := .cells #[.int .i64 1, .int .i64 1] 38 (0, 0)) (bku BK148.out) hb); have n2_ := aA (blk_below (g := gb152) (o := .cells #[.int .i64 x153000_1, .int .u64 x153001_1, .int .u64 x153002_1] 54 (0, 0)) (bku BK152.out) hb); have n3_ := aA (below_step (bls HB.out) hb); have n4_ := aA (hbox); have n5_ := aA ((by rw [hg]; exact (below_size (bls HB.out)) : w.heap.size ≤ gb158)); have n6_ := aA ((by rw [hg]; exact (below_size (bls HB.out)) : w.heap.size ≤ gb158)); have n7_ := aA ((by rw [hg]; exact Nat.ne_of_lt (blk_lt (g := gb148) (o := .cells #[.int .i64 1, .int .i64 1] 38 (0, 0)) (bku BK148.out)) : gb148 ≠ gb158)); have n8_ := aA ((by rw [hg]; exact Nat.ne_of_gt (blk_lt (g := gb148) (o := .cells #[.int .i64 1, .int .i64 1] 38 (0, 0)) (bku BK148.out)) : gb158 ≠ gb148)); have n9_ := aA ((by rw [hg]; exact Nat.ne_of_lt (blk_lt (g := gb152) (o := .cells #[.int .i64 x153000_1, .int .u64 x153001_1, .int .u64 x153002_1] 54 (0, 0)) (bku BK152.out)) : gb152 ≠ gb158)); have n10_ := aA ((by rw [hg]; exact Nat.ne_of_gt (blk_lt (g := gb152) (o := .cells #[.int .i64 x153000_1, .int .u64 x153001_1, .int .u64 x153002_1] 54 (0, 0)) (bku BK152.out)) : gb158 ≠ gb152)); clear HO_2 BK148 BK152 HB; have HO_2 := n0_; have BK148 := n1_; have BK152 := n2_; have HB := n3_; have BK158 := n4_; have GW158 := n5_; have GE158 := n6_; have NB148_158 := n7_; have NB158_148 := n8_; have NB152_158 := n9_; have NB158_152 := n10_; clear n0_ n1_ n2_ n3_ n4_ n5_ n6_ n7_ n8_ n9_ n10_ hb hbox hg; have hnb18 := NB158_148.out; have hnc18 := NB148_158.out; have hnb19 := NB158_152.out; have hnc19 := NB152_158.out; have hcz20_0 : w17.cell? ⟨gb158, 0, none⟩ = some (.int .i64 0) := (blk_cell BK158.out 0).trans rfl; have hcz20_1 : w17.cell? ⟨gb158, 1, none⟩ = some (.int .i64 0) := (blk_cell BK158.out 1).trans rfl; have hcz20_2 : w17.cell? ⟨gb158, 2, none⟩ = some (.int .u64 0) := (blk_cell BK158.out 2).trans rfl; have hcz20_3 : w17.cell? ⟨gb158, 3, none⟩ = some (.int .u64 0) := (blk_cell BK158.out 3).trans rfl; have hfz20_0 := blk_frozen BK158.out 0; have hfz20_1 := blk_frozen BK158.out 1; have hfz20_2 := blk_frozen BK158.out 2; have hfz20_3 := blk_frozen BK158.out 3) | ((with_reducible refine gate_store (t := 25) (p := 5) rfl ?_); refine store_event (t := 25) (p := 5) (v := ?vo_w21) (w1 := ((((w17.setCell ⟨gb158, 0, none⟩ (.int .i64 t153)).setCell ⟨gb158, 1, none⟩ (.int .i64 t154)).setCell ⟨gb158, 2, none⟩ (.int .u64 t155)).setCell ⟨gb158, 3, none⟩ (.int .u64 t156))) ?hg ?ho ?hn ?hr ?_; (case ho => rfl); (case hg => rfl); (case hn => rfl); (case hr => first | (go_simp; done) | (go_simp; rfl)); intro w21 hw; have n0_ : Aside0 (Kd.V (Kd.int .u64) 23 w21 w.heap.size (fun k_ => k_ ≠ gb148 ∧ k_ ≠ gb152 ∧ k_ ≠ gb158) u2 x2_1) := ⟨(by rw [hw]; exact (vlu (Kd.V_mono (Kd.V_far (p := ⟨gb158, 3, none⟩) (Kd.V_far (p := ⟨gb158, 2, none⟩) (Kd.V_far (p := ⟨gb158, 1, none⟩) (Kd.V_far (p := ⟨gb158, 0, none⟩) (Kd.V_mono HO_2.out (fun k_ hk => (⟨hk, hk.2⟩ : _ ∧ k_ ≠ gb158))) (fun _ hk => hk.2) (.int .i64 t153)) (fun _ hk => hk.2) (.int .i64 t154)) (fun _ hk => hk.2) (.int .u64 t155)) (fun _ hk => hk.2) (.int .u64 t156)) (fun _ hk => ⟨hk.1.1.1, ⟨hk.1.1.2, hk.1.2⟩⟩))))⟩; have n1_ : Aside0 (w21.heap[gb148]? = some (.cells #[.int .i64 1, .int .i64 1] 38 (0, 0))) := ⟨(by rw [hw]; exact (by refine bku ?_; refine blk_far ?_ NB148_158.out _; refine bku ?_; refine blk_far ?_ NB148_158.out _; refine bku ?_; refine blk_far ?_ NB148_158.out _; refine bku ?_; refine blk_far ?_ NB148_158.out _; refine bku ?_; exact BK148.out))⟩; have n2_ : Aside0 (w21.heap[gb152]? = some (.cells #[.int .i64 x153000_1, .int .u64 x153001_1, .int .u64 x153002_1] 54 (0, 0))) := ⟨(by rw [hw]; exact (by refine bku ?_; refine blk_far ?_ NB152_158.out _; refine bku ?_; refine blk_far ?_ NB152_158.out _; refine bku ?_; refine blk_far ?_ NB152_158.out _; refine bku ?_; refine blk_far ?_ NB152_158.out _; refine bku ?_; exact BK152.out))⟩; have n3_ : Aside0 (w21.heap[gb158]? = some (.cells #[.int .i64 t153, .int .i64 t154, .int .u64 t155, .int .u64 t156] 25 (0, 0))) := ⟨(by rw [hw]; exact (by refine bku ?_; refine blk_put (cs := #[.int .i64 t153, .int .i64 t154, .int .u64 t155, .int .u64 0]) ?_ 3 _ rfl; refine bku ?_; refine blk_put (cs := #[.int .i64 t153, .int .i64 t154, .int .u64 0, .int .u64 0]) ?_ 2 _ rfl; refine bku ?_; refine blk_put (cs := #[.int .i64 t153, .int .i64 0, .int .u64 0, .int .u64 0]) ?_ 1 _ rfl; refine bku ?_; refine blk_put (cs := #[.int .i64 0, .int .i64 0, .int .u64 0, .int .u64 0]) ?_ 0 _ rfl; refine bku ?_; exact BK158.out))⟩; have n4_ : Aside0 (Below w.heap.size w w21) := ⟨(by rw [hw]; exact (bls HB.out))⟩; clear hw HO_2 BK148 BK152 BK158 HB; have HO_2 := n0_; have BK148 := n1_; have BK152 := n2_; have BK158 := n3_; have HB := n4_; clear n0_ n1_ n2_ n3_ n4_; have hcz22_0 : w21.cell? ⟨gb158, 0, none⟩ = some (.int .i64 t153) := (blk_cell BK158.out 0).trans rfl; have hcz22_1 : w21.cell? ⟨gb158, 1, none⟩ = some (.int .i64 t154) := (blk_cell BK158.out 1).trans rfl; have hcz22_2 : w21.cell? ⟨gb158, 2, none⟩ = some (.int .u64 t155) := (blk_cell BK158.out 2).trans rfl; have hcz22_3 : w21.cell? ⟨gb158, 3, none⟩ = some (.int .u64 t156) := (blk_cell BK158.out 3).trans rfl; have hfz22_0 := blk_frozen BK158.out 0; have hfz22_1 := blk_frozen BK158.out 1; have hfz22_2 := blk_frozen BK158.out 2; have hfz22_3 := blk_frozen BK158.out 3; obtain ⟨Ao23, co23, eo23⟩ := Kd.V_slice HO_2.out; subst eo23) | ((with_reducible refine gate_callee (f := 15) rfl ?_); refine goesL_ (some 35) rfl rfl Try.func15 (by kernel_rfl) rfl #[.slice Ao23 x2_1.length co23, .agg #[.int .i64 t153, .int .i64 t154, .int .u64 t155, .int .u64 t156]] rfl (by (try simp only [List.map_toArray, List.map_cons, List.map_nil]); first | done | rfl | (simp only [List.length_drop, List.length_take]; rfl)) ?_; (with_reducible refine (mem_Do.calls (fun k_ => (k_ ≠ gb148 ∧ (k_ ≠ gb152 ∧ k_ ≠ gb158))) _ _ x2_1 t153 t154 t155 t156 t159 t162 t163 _ ?side1 A10.out).mono ?_); (case side1 => exact HO_2.out); rintro e w24 ⟨v160, rfl, ho0, hb⟩; refine ⟨_, rfl, ?_⟩; have n0_ := aA (Kd.V_below (vlu HO_2.out) hb); have n1_ := aA (Kd.V_lower (Kd.V_mono (ok' := fun k_ => k_ ≠ gb148 ∧ k_ ≠ gb152 ∧ k_ ≠ gb158) ho0 (fun k_ hk_ => ⟨Or.elim hk_ (fun hs_ => hs_.1) (fun hn_ => (Kd.freshB (g := gb148) (o := .cells #[.int .i64 1, .int .i64 1] 38 (0, 0)) (bku BK148.out) k_ hn_)), Or.elim hk_ (fun hs_ => hs_.2.1) (fun hn_ => (Kd.freshB (g := gb152) (o := .cells #[.int .i64 x153000_1, .int .u64 x153001_1, .int .u64 x153002_1] 54 (0, 0)) (bku BK152.out) k_ hn_)), Or.elim hk_ (fun hs_ => hs_.2.2) (fun hn_ => (Kd.freshB (g := gb158) (o := .cells #[.int .i64 t153, .int .i64 t154, .int .u64 t155, .int .u64 t156] 25 (0, 0)) (bku BK158.out) k_ hn_))⟩)) (below_size (bls HB.out))); have n2_ := aA (blk_below (g := gb148) (o := .cells #[.int .i64 1, .int .i64 1] 38 (0, 0)) (bku BK148.out) hb); have n3_ := aA (blk_below (g := gb152) (o := .cells #[.int .i64 x153000_1, .int .u64 x153001_1, .int .u64 x153002_1] 54 (0, 0)) (bku BK152.out) hb); have n4_ := aA (blk_below (g := gb158) (o := .cells #[.int .i64 t153, .int .i64 t154, .int .u64 t155, .int .u64 t156] 25 (0, 0)) (bku BK158.out) hb); have n5_ := aA (below_step (bls HB.out) hb); clear HO_2 BK148 BK152 BK158 HB; have HO_2 := n0_; have HO161 := n1_; have BK148 := n2_; have BK152 := n3_; have BK158 := n4_; have HB := n5_; clear n0_ n1_ n2_ n3_ n4_ n5_; (try clear hb); (try clear hb2); (try clear hk); (try clear hi); (try clear ho0); have hcz25_0 : w24.cell? ⟨gb152, 0, none⟩ = some (.int .i64 x153000_1) := (blk_cell BK152.out 0).trans rfl; have hcz25_1 : w24.cell? ⟨gb152, 1, none⟩ = some (.int .u64 x153001_1) := (blk_cell BK152.out 1).trans rfl; have hcz25_2 : w24.cell? ⟨gb152, 2, none⟩ = some (.int .u64 x153002_1) := (blk_cell BK152.out 2).trans rfl; have hfz25_0 := blk_frozen BK152.out 0; have hfz25_1 := blk_frozen BK152.out 1; have hfz25_2 := blk_frozen BK152.out 2) | ((with_reducible refine gate_callee (f := 51) rfl ?_); refine goesL_ (some 45) rfl rfl Try.func51 (by kernel_rfl) rfl #[.agg #[.int .i64 x153000_1, .int .u64 x153001_1, .int .u64 x153002_1], .int .u64 t162, .bool t163] rfl (by (try simp only [List.map_toArray, List.map_cons, List.map_nil]); first | done | rfl | (simp only [List.length_drop, List.length_take]; rfl)) ?_; (with_reducible refine (queue_Got.calls k1 x153000_1 x153001_1 x153002_1 t162 t163 t164 t165 t166 _ A12.out).mono ?_); rintro e w26 ⟨rfl, hb⟩; refine ⟨_, rfl, ?_⟩; have n0_ := aA (Kd.V_below (vlu HO_2.out) hb); have n1_ := aA (Kd.V_below (vlu HO161.out) hb); have n2_ := aA (blk_below (g := gb148) (o := .cells #[.int .i64 1, .int .i64 1] 38 (0, 0)) (bku BK148.out) hb); have n3_ := aA (blk_below (g := gb152) (o := .cells #[.int .i64 x153000_1, .int .u64 x153001_1, .int .u64 x153002_1] 54 (0, 0)) (bku BK152.out) hb); have n4_ := aA (blk_below (g := gb158) (o := .cells #[.int .i64 t153, .int .i64 t154, .int .u64 t155, .int .u64 t156] 25 (0, 0)) (bku BK158.out) hb); have n5_ := aA (below_step (bls HB.out) hb); clear HO_2 HO161 BK148 BK152 BK158 HB; have HO_2 := n0_; have HO161 := n1_; have BK148 := n2_; have BK152 := n3_; have BK158 := n4_; have HB := n5_; clear n0_ n1_ n2_ n3_ n4_ n5_; (try clear hb); (try clear hb2); (try clear hk); (try clear hi); have hcz27_0 : w26.cell? ⟨gb152, 0, none⟩ = some (.int .i64 x153000_1) := (blk_cell BK152.out 0).trans rfl; have hcz27_1 : w26.cell? ⟨gb152, 1, none⟩ = some (.int .u64 x153001_1) := (blk_cell BK152.out 1).trans rfl; have hcz27_2 : w26.cell? ⟨gb152, 2, none⟩ = some (.int .u64 x153002_1) := (blk_cell BK152.out 2).trans rfl; have hfz27_0 := blk_frozen BK152.out 0; have hfz27_1 := blk_frozen BK152.out 1; have hfz27_2 := blk_frozen BK152.out 2))
     go_roundg k1
     case measure => have := HK1.out; omega
     case rel => exact ⟨(t159), (wrap64 (x4_1 + 1)), (t164), (t165), (t166), (by first | rfl | (simp; done) | (simp [*]; done)), H', ⟨by have := HK1.out; omega⟩, ⟨by (with_reducible repeat (first | apply Kd.V_alloc | apply Kd.V_drewN | apply Kd.V_drew)); exact Kd.V_mono (Kd.V_far (p := ⟨gb152, 2, none⟩) (Kd.V_far (p := ⟨gb152, 1, none⟩) (Kd.V_far (p := ⟨gb152, 0, none⟩) (Kd.V_mono HO161.out (fun k_ hk => (⟨hk, hk.2.1⟩ : _ ∧ k_ ≠ gb152))) (fun _ hk => hk.2) (.int .i64 t164)) (fun _ hk => hk.2) (.int .u64 t165)) (fun _ hk => hk.2) (.int .u64 t166)) (fun _ hk => ⟨hk.1.1, hk.1.2.1⟩)⟩, ⟨by refine bku ?_; refine blk_far ?_ NB148_152.out _; refine bku ?_; refine blk_far ?_ NB148_152.out _; refine bku ?_; refine blk_far ?_ NB148_152.out _; refine bku ?_; exact BK148.out⟩, ⟨by refine bku ?_; refine blk_put (cs := #[.int .i64 t164, .int .u64 t165, .int .u64 x153002_1]) ?_ 2 _ rfl; refine bku ?_; refine blk_put (cs := #[.int .i64 t164, .int .u64 x153001_1, .int .u64 x153002_1]) ?_ 1 _ rfl; refine bku ?_; refine blk_put (cs := #[.int .i64 x153000_1, .int .u64 x153001_1, .int .u64 x153002_1]) ?_ 0 _ rfl; refine bku ?_; exact BK152.out⟩, ⟨by repeat (first | (with_reducible first | exact HB.out | apply below_alloc | apply pw_below_drewN | apply below_drew1 | refine below_set ?_ GE148.out | refine below_set ?_ GE152.out | refine below_set ?_ GE158.out) | exact HB.out)⟩⟩
    ·replace c11 := Bool.eq_false_iff.mpr c11
     subst c11
     have H1 : (some false) = some r := by rw [if_neg (show ¬ (false = true) by decide)] at H; exact H
     clear H
     have H := H1
     clear H1
     obtain rfl := Option.some.inj H
     have hnb28 := NB148_152.out
     have hnc28 := NB152_148.out
     have hcz29_0 : wr.cell? ⟨gb148, 0, none⟩ = some (.int .i64 1) := (blk_cell BK148.out 0).trans rfl
     have hcz29_1 : wr.cell? ⟨gb148, 1, none⟩ = some (.int .i64 1) := (blk_cell BK148.out 1).trans rfl
     have hfz29_0 := blk_frozen BK148.out 0
     have hfz29_1 := blk_frozen BK148.out 1
     have hcz30_0 : wr.cell? ⟨gb152, 0, none⟩ = some (.int .i64 x153000_1) := (blk_cell BK152.out 0).trans rfl
     have hcz30_1 : wr.cell? ⟨gb152, 1, none⟩ = some (.int .u64 x153001_1) := (blk_cell BK152.out 1).trans rfl
     have hcz30_2 : wr.cell? ⟨gb152, 2, none⟩ = some (.int .u64 x153002_1) := (blk_cell BK152.out 2).trans rfl
     have hfz30_0 := blk_frozen BK152.out 0
     have hfz30_1 := blk_frozen BK152.out 1
     have hfz30_2 := blk_frozen BK152.out 2
     go_wp2_with (first | ((with_reducible refine gate_callee (f := 47) rfl ?_); refine goesL_ (some 29) rfl rfl Try.func47 (by kernel_rfl) rfl #[.agg #[.int .i64 1, .int .i64 1], .agg #[.int .i64 x153000_1, .int .u64 x153001_1, .int .u64 x153002_1]] rfl (by (try simp only [List.map_toArray, List.map_cons, List.map_nil]); first | done | rfl | (simp only [List.length_drop, List.length_take]; rfl)) ?_; (with_reducible refine (queue_Want.calls 1 1 x153000_1 x153001_1 x153002_1 t153 t154 t155 t156 false _ A9.out).mono ?_); rintro e w31 ⟨rfl, hb⟩; refine ⟨_, rfl, ?_⟩; have n0_ := aA (Kd.V_below (vlu HO_2.out) hb); have n1_ := aA (blk_below (g := gb148) (o := .cells #[.int .i64 1, .int .i64 1] 38 (0, 0)) (bku BK148.out) hb); have n2_ := aA (blk_below (g := gb152) (o := .cells #[.int .i64 x153000_1, .int .u64 x153001_1, .int .u64 x153002_1] 54 (0, 0)) (bku BK152.out) hb); have n3_ := aA (below_step (bls HB.out) hb); clear HO_2 BK148 BK152 HB; have HO_2 := n0_; have BK148 := n1_; have BK152 := n2_; have HB := n3_; clear n0_ n1_ n2_ n3_; (try clear hb); (try clear hb2); (try clear hk); (try clear hi)) | ((with_reducible refine gate_dst (N := 5) rfl ?_); refine box_event ?hg (N := 5) ?hd (cs := #[.int .i64 0, .int .i64 0, .int .u64 0, .int .u64 0]) (t := 25) ?hr ?_; (case hd => rfl); (case hg => rfl); (case hr => first | (go_simp; done) | (go_simp; rfl)); intro gb158 hg w32 hbox hb; have n0_ := aA (Kd.V_below (Kd.V_elderB (vlu HO_2.out) gb158 (Nat.le_of_eq hg.symm)) hb); have n1_ := aA (blk_below (g := gb148) (o := .cells #[.int .i64 1, .int .i64 1] 38 (0, 0)) (bku BK148.out) hb); have n2_ := aA (blk_below (g := gb152) (o := .cells #[.int .i64 x153000_1, .int .u64 x153001_1, .int .u64 x153002_1] 54 (0, 0)) (bku BK152.out) hb); have n3_ := aA (below_step (bls HB.out) hb); have n4_ := aA (hbox); have n5_ := aA ((by rw [hg]; exact (below_size (bls HB.out)) : w.heap.size ≤ gb158)); have n6_ := aA ((by rw [hg]; exact (below_size (bls HB.out)) : w.heap.size ≤ gb158)); have n7_ := aA ((by rw [hg]; exact Nat.ne_of_lt (blk_lt (g := gb148) (o := .cells #[.int .i64 1, .int .i64 1] 38 (0, 0)) (bku BK148.out)) : gb148 ≠ gb158)); have n8_ := aA ((by rw [hg]; exact Nat.ne_of_gt (blk_lt (g := gb148) (o := .cells #[.int .i64 1, .int .i64 1] 38 (0, 0)) (bku BK148.out)) : gb158 ≠ gb148)); have n9_ := aA ((by rw [hg]; exact Nat.ne_of_lt (blk_lt (g := gb152) (o := .cells #[.int .i64 x153000_1, .int .u64 x153001_1, .int .u64 x153002_1] 54 (0, 0)) (bku BK152.out)) : gb152 ≠ gb158)); have n10_ := aA ((by rw [hg]; exact Nat.ne_of_gt (blk_lt (g := gb152) (o := .cells #[.int .i64 x153000_1, .int .u64 x153001_1, .int .u64 x153002_1] 54 (0, 0)) (bku BK152.out)) : gb158 ≠ gb152)); clear HO_2 BK148 BK152 HB; have HO_2 := n0_; have BK148 := n1_; have BK152 := n2_; have HB := n3_; have BK158 := n4_; have GW158 := n5_; have GE158 := n6_; have NB148_158 := n7_; have NB158_148 := n8_; have NB152_158 := n9_; have NB158_152 := n10_; clear n0_ n1_ n2_ n3_ n4_ n5_ n6_ n7_ n8_ n9_ n10_ hb hbox hg; have hnb33 := NB158_148.out; have hnc33 := NB148_158.out; have hnb34 := NB158_152.out; have hnc34 := NB152_158.out; have hcz35_0 : w32.cell? ⟨gb158, 0, none⟩ = some (.int .i64 0) := (blk_cell BK158.out 0).trans rfl; have hcz35_1 : w32.cell? ⟨gb158, 1, none⟩ = some (.int .i64 0) := (blk_cell BK158.out 1).trans rfl; have hcz35_2 : w32.cell? ⟨gb158, 2, none⟩ = some (.int .u64 0) := (blk_cell BK158.out 2).trans rfl; have hcz35_3 : w32.cell? ⟨gb158, 3, none⟩ = some (.int .u64 0) := (blk_cell BK158.out 3).trans rfl; have hfz35_0 := blk_frozen BK158.out 0; have hfz35_1 := blk_frozen BK158.out 1; have hfz35_2 := blk_frozen BK158.out 2; have hfz35_3 := blk_frozen BK158.out 3) | ((with_reducible refine gate_store (t := 25) (p := 5) rfl ?_); refine store_event (t := 25) (p := 5) (v := ?vo_w36) (w1 := ((((w32.setCell ⟨gb158, 0, none⟩ (.int .i64 t153)).setCell ⟨gb158, 1, none⟩ (.int .i64 t154)).setCell ⟨gb158, 2, none⟩ (.int .u64 t155)).setCell ⟨gb158, 3, none⟩ (.int .u64 t156))) ?hg ?ho ?hn ?hr ?_; (case ho => rfl); (case hg => rfl); (case hn => rfl); (case hr => first | (go_simp; done) | (go_simp; rfl)); intro w36 hw; have n0_ : Aside0 (Kd.V (Kd.int .u64) 23 w36 w.heap.size (fun k_ => k_ ≠ gb148 ∧ k_ ≠ gb152 ∧ k_ ≠ gb158) u2 x2_1) := ⟨(by rw [hw]; exact (vlu (Kd.V_mono (Kd.V_far (p := ⟨gb158, 3, none⟩) (Kd.V_far (p := ⟨gb158, 2, none⟩) (Kd.V_far (p := ⟨gb158, 1, none⟩) (Kd.V_far (p := ⟨gb158, 0, none⟩) (Kd.V_mono HO_2.out (fun k_ hk => (⟨hk, hk.2⟩ : _ ∧ k_ ≠ gb158))) (fun _ hk => hk.2) (.int .i64 t153)) (fun _ hk => hk.2) (.int .i64 t154)) (fun _ hk => hk.2) (.int .u64 t155)) (fun _ hk => hk.2) (.int .u64 t156)) (fun _ hk => ⟨hk.1.1.1, ⟨hk.1.1.2, hk.1.2⟩⟩))))⟩; have n1_ : Aside0 (w36.heap[gb148]? = some (.cells #[.int .i64 1, .int .i64 1] 38 (0, 0))) := ⟨(by rw [hw]; exact (by refine bku ?_; refine blk_far ?_ NB148_158.out _; refine bku ?_; refine blk_far ?_ NB148_158.out _; refine bku ?_; refine blk_far ?_ NB148_158.out _; refine bku ?_; refine blk_far ?_ NB148_158.out _; refine bku ?_; exact BK148.out))⟩; have n2_ : Aside0 (w36.heap[gb152]? = some (.cells #[.int .i64 x153000_1, .int .u64 x153001_1, .int .u64 x153002_1] 54 (0, 0))) := ⟨(by rw [hw]; exact (by refine bku ?_; refine blk_far ?_ NB152_158.out _; refine bku ?_; refine blk_far ?_ NB152_158.out _; refine bku ?_; refine blk_far ?_ NB152_158.out _; refine bku ?_; refine blk_far ?_ NB152_158.out _; refine bku ?_; exact BK152.out))⟩; have n3_ : Aside0 (w36.heap[gb158]? = some (.cells #[.int .i64 t153, .int .i64 t154, .int .u64 t155, .int .u64 t156] 25 (0, 0))) := ⟨(by rw [hw]; exact (by refine bku ?_; refine blk_put (cs := #[.int .i64 t153, .int .i64 t154, .int .u64 t155, .int .u64 0]) ?_ 3 _ rfl; refine bku ?_; refine blk_put (cs := #[.int .i64 t153, .int .i64 t154, .int .u64 0, .int .u64 0]) ?_ 2 _ rfl; refine bku ?_; refine blk_put (cs := #[.int .i64 t153, .int .i64 0, .int .u64 0, .int .u64 0]) ?_ 1 _ rfl; refine bku ?_; refine blk_put (cs := #[.int .i64 0, .int .i64 0, .int .u64 0, .int .u64 0]) ?_ 0 _ rfl; refine bku ?_; exact BK158.out))⟩; have n4_ : Aside0 (Below w.heap.size w w36) := ⟨(by rw [hw]; exact (bls HB.out))⟩; clear hw HO_2 BK148 BK152 BK158 HB; have HO_2 := n0_; have BK148 := n1_; have BK152 := n2_; have BK158 := n3_; have HB := n4_; clear n0_ n1_ n2_ n3_ n4_; have hcz37_0 : w36.cell? ⟨gb158, 0, none⟩ = some (.int .i64 t153) := (blk_cell BK158.out 0).trans rfl; have hcz37_1 : w36.cell? ⟨gb158, 1, none⟩ = some (.int .i64 t154) := (blk_cell BK158.out 1).trans rfl; have hcz37_2 : w36.cell? ⟨gb158, 2, none⟩ = some (.int .u64 t155) := (blk_cell BK158.out 2).trans rfl; have hcz37_3 : w36.cell? ⟨gb158, 3, none⟩ = some (.int .u64 t156) := (blk_cell BK158.out 3).trans rfl; have hfz37_0 := blk_frozen BK158.out 0; have hfz37_1 := blk_frozen BK158.out 1; have hfz37_2 := blk_frozen BK158.out 2; have hfz37_3 := blk_frozen BK158.out 3; obtain ⟨Ao38, co38, eo38⟩ := Kd.V_slice HO_2.out; subst eo38) | ((with_reducible refine gate_callee (f := 15) rfl ?_); refine goesL_ (some 35) rfl rfl Try.func15 (by kernel_rfl) rfl #[.slice Ao38 x2_1.length co38, .agg #[.int .i64 t153, .int .i64 t154, .int .u64 t155, .int .u64 t156]] rfl (by (try simp only [List.map_toArray, List.map_cons, List.map_nil]); first | done | rfl | (simp only [List.length_drop, List.length_take]; rfl)) ?_; (with_reducible refine (mem_Do.calls (fun k_ => (k_ ≠ gb148 ∧ (k_ ≠ gb152 ∧ k_ ≠ gb158))) _ _ x2_1 t153 t154 t155 t156 t159 t162 t163 _ ?side1 A10.out).mono ?_); (case side1 => exact HO_2.out); rintro e w39 ⟨v160, rfl, ho0, hb⟩; refine ⟨_, rfl, ?_⟩; have n0_ := aA (Kd.V_below (vlu HO_2.out) hb); have n1_ := aA (Kd.V_lower (Kd.V_mono (ok' := fun k_ => k_ ≠ gb148 ∧ k_ ≠ gb152 ∧ k_ ≠ gb158) ho0 (fun k_ hk_ => ⟨Or.elim hk_ (fun hs_ => hs_.1) (fun hn_ => (Kd.freshB (g := gb148) (o := .cells #[.int .i64 1, .int .i64 1] 38 (0, 0)) (bku BK148.out) k_ hn_)), Or.elim hk_ (fun hs_ => hs_.2.1) (fun hn_ => (Kd.freshB (g := gb152) (o := .cells #[.int .i64 x153000_1, .int .u64 x153001_1, .int .u64 x153002_1] 54 (0, 0)) (bku BK152.out) k_ hn_)), Or.elim hk_ (fun hs_ => hs_.2.2) (fun hn_ => (Kd.freshB (g := gb158) (o := .cells #[.int .i64 t153, .int .i64 t154, .int .u64 t155, .int .u64 t156] 25 (0, 0)) (bku BK158.out) k_ hn_))⟩)) (below_size (bls HB.out))); have n2_ := aA (blk_below (g := gb148) (o := .cells #[.int .i64 1, .int .i64 1] 38 (0, 0)) (bku BK148.out) hb); have n3_ := aA (blk_below (g := gb152) (o := .cells #[.int .i64 x153000_1, .int .u64 x153001_1, .int .u64 x153002_1] 54 (0, 0)) (bku BK152.out) hb); have n4_ := aA (blk_below (g := gb158) (o := .cells #[.int .i64 t153, .int .i64 t154, .int .u64 t155, .int .u64 t156] 25 (0, 0)) (bku BK158.out) hb); have n5_ := aA (below_step (bls HB.out) hb); clear HO_2 BK148 BK152 BK158 HB; have HO_2 := n0_; have HO161 := n1_; have BK148 := n2_; have BK152 := n3_; have BK158 := n4_; have HB := n5_; clear n0_ n1_ n2_ n3_ n4_ n5_; (try clear hb); (try clear hb2); (try clear hk); (try clear hi); (try clear ho0)))
     go_ret
     exact ⟨by first | rfl | (simp [errW_none, errW_some] <;> rfl) | (simp [*, errW_none, errW_some] <;> rfl), by repeat (first | (with_reducible first | exact HB.out | apply below_alloc | apply pw_below_drewN | apply below_drew1 | refine below_set ?_ GE148.out | refine below_set ?_ GE152.out | refine below_set ?_ GE158.out) | exact HB.out)⟩
   ·rw [if_neg c8] at H
    have c8b0 : decide (x4_1 < 5) = false := decide_eq_false c8
    clear c8
    have H' := aA H
    clear H
    go_wp2_with (first | ((with_reducible refine gate_dst (N := 10) rfl ?_); refine box_event ?hg (N := 10) ?hd (cs := #[.int .i64 0, .int .u64 0, .int .u64 0]) (t := 56) ?hr ?_; (case hd => rfl); (case hg => rfl); (case hr => first | (go_simp; done) | (go_simp; rfl)); intro gb167 hg w40 hbox hb; have n0_ := aA (Kd.V_below (Kd.V_elderB (vlu HO_2.out) gb167 (Nat.le_of_eq hg.symm)) hb); have n1_ := aA (blk_below (g := gb148) (o := .cells #[.int .i64 1, .int .i64 1] 38 (0, 0)) (bku BK148.out) hb); have n2_ := aA (blk_below (g := gb152) (o := .cells #[.int .i64 x153000_1, .int .u64 x153001_1, .int .u64 x153002_1] 54 (0, 0)) (bku BK152.out) hb); have n3_ := aA (below_step (bls HB.out) hb); have n4_ := aA (hbox); have n5_ := aA ((by rw [hg]; exact (below_size (bls HB.out)) : w.heap.size ≤ gb167)); have n6_ := aA ((by rw [hg]; exact (below_size (bls HB.out)) : w.heap.size ≤ gb167)); have n7_ := aA ((by rw [hg]; exact Nat.ne_of_lt (blk_lt (g := gb148) (o := .cells #[.int .i64 1, .int .i64 1] 38 (0, 0)) (bku BK148.out)) : gb148 ≠ gb167)); have n8_ := aA ((by rw [hg]; exact Nat.ne_of_gt (blk_lt (g := gb148) (o := .cells #[.int .i64 1, .int .i64 1] 38 (0, 0)) (bku BK148.out)) : gb167 ≠ gb148)); have n9_ := aA ((by rw [hg]; exact Nat.ne_of_lt (blk_lt (g := gb152) (o := .cells #[.int .i64 x153000_1, .int .u64 x153001_1, .int .u64 x153002_1] 54 (0, 0)) (bku BK152.out)) : gb152 ≠ gb167)); have n10_ := aA ((by rw [hg]; exact Nat.ne_of_gt (blk_lt (g := gb152) (o := .cells #[.int .i64 x153000_1, .int .u64 x153001_1, .int .u64 x153002_1] 54 (0, 0)) (bku BK152.out)) : gb167 ≠ gb152)); clear HO_2 BK148 BK152 HB; have HO_2 := n0_; have BK148 := n1_; have BK152 := n2_; have HB := n3_; have BK167 := n4_; have GW167 := n5_; have GE167 := n6_; have NB148_167 := n7_; have NB167_148 := n8_; have NB152_167 := n9_; have NB167_152 := n10_; clear n0_ n1_ n2_ n3_ n4_ n5_ n6_ n7_ n8_ n9_ n10_ hb hbox hg; have hnb41 := NB167_148.out; have hnc41 := NB148_167.out; have hnb42 := NB167_152.out; have hnc42 := NB152_167.out; have hcz43_0 : w40.cell? ⟨gb167, 0, none⟩ = some (.int .i64 0) := (blk_cell BK167.out 0).trans rfl; have hcz43_1 : w40.cell? ⟨gb167, 1, none⟩ = some (.int .u64 0) := (blk_cell BK167.out 1).trans rfl; have hcz43_2 : w40.cell? ⟨gb167, 2, none⟩ = some (.int .u64 0) := (blk_cell BK167.out 2).trans rfl; have hfz43_0 := blk_frozen BK167.out 0; have hfz43_1 := blk_frozen BK167.out 1; have hfz43_2 := blk_frozen BK167.out 2))
    go_loopg [2, 11, 12] k1 (fun kq v2 v11 v12 w' => ∃ (x2_2 : List Int) (x11_2 : Bool) (x12_2 : Int) (x168000_2 : Int) (x168001_2 : Int) (x168002_2 : Int), v11 = .bool x11_2 ∧ v12 = .int .i64 x12_2 ∧ Aside0 (treillagelaw16_shown.l1 kq x2_2 x11_2 x12_2 1 1 x153000_1 x153001_1 x153002_1 x168000_2 x168001_2 x168002_2 = some r) ∧ Aside0 (kq ≤ k1) ∧ Aside0 (Kd.V (Kd.int .u64) 23 w' w.heap.size (fun k_ => k_ ≠ gb148 ∧ k_ ≠ gb152 ∧ k_ ≠ gb167) v2 x2_2) ∧ Aside0 (w'.heap[gb148]? = some (.cells #[.int .i64 1, .int .i64 1] 38 (0, 0))) ∧ Aside0 (w'.heap[gb152]? = some (.cells #[.int .i64 x153000_1, .int .u64 x153001_1, .int .u64 x153002_1] 54 (0, 0))) ∧ Aside0 (w'.heap[gb167]? = some (.cells #[.int .i64 x168000_2, .int .u64 x168001_2, .int .u64 x168002_2] 56 (0, 0))) ∧ Aside0 (Below w.heap.size w w'))
    case atStart => exact ⟨(x2_1), (false), (0), (0), (0), (0), (by first | rfl | (simp; done) | (simp [*]; done)), (by first | rfl | (simp; done) | (simp [*]; done)), H', ⟨Nat.le_refl _⟩, ⟨by (with_reducible repeat (first | apply Kd.V_alloc | apply Kd.V_drewN | apply Kd.V_drew)); exact Kd.V_mono (Kd.V_far (p := ⟨gb167, 2, none⟩) (Kd.V_far (p := ⟨gb167, 1, none⟩) (Kd.V_far (p := ⟨gb167, 0, none⟩) (Kd.V_mono HO_2.out (fun k_ hk => (⟨hk, hk.2⟩ : _ ∧ k_ ≠ gb167))) (fun _ hk => hk.2) (.int .i64 0)) (fun _ hk => hk.2) (.int .u64 0)) (fun _ hk => hk.2) (.int .u64 0)) (fun _ hk => ⟨hk.1.1.1, ⟨hk.1.1.2, hk.1.2⟩⟩)⟩, ⟨by refine bku ?_; refine blk_far ?_ NB148_167.out _; refine bku ?_; refine blk_far ?_ NB148_167.out _; refine bku ?_; refine blk_far ?_ NB148_167.out _; refine bku ?_; exact BK148.out⟩, ⟨by refine bku ?_; refine blk_far ?_ NB152_167.out _; refine bku ?_; refine blk_far ?_ NB152_167.out _; refine bku ?_; refine blk_far ?_ NB152_167.out _; refine bku ?_; exact BK152.out⟩, ⟨by refine bku ?_; refine blk_put (cs := #[.int .i64 0, .int .u64 0, .int .u64 0]) ?_ 2 _ rfl; refine bku ?_; refine blk_put (cs := #[.int .i64 0, .int .u64 0, .int .u64 0]) ?_ 1 _ rfl; refine bku ?_; refine blk_put (cs := #[.int .i64 0, .int .u64 0, .int .u64 0]) ?_ 0 _ rfl; refine bku ?_; exact BK167.out⟩, ⟨by repeat (first | (with_reducible first | exact HB.out | apply below_alloc | apply pw_below_drewN | apply below_drew1 | refine below_set ?_ GE148.out | refine below_set ?_ GE152.out | refine below_set ?_ GE167.out) | exact HB.out)⟩⟩
    case round =>
     clear H'
     try clear c1
     try clear c2
     try clear p2
     try clear c3
     try clear c4
     try clear c5
     try clear c6
     try clear p6
     try clear c8
     try clear c8b0
     try clear c11
     try clear c13
     try clear c15
     try clear c18
     try clear c19
     try clear c28
     try clear c33
     try clear c34
     try clear c36
     try clear c41
     try clear c42
     try clear hcz14_0
     try clear hcz14_1
     try clear hcz15_0
     try clear hcz15_1
     try clear hcz15_2
     try clear hcz20_0
     try clear hcz20_1
     try clear hcz20_2
     try clear hcz20_3
     try clear hcz22_0
     try clear hcz22_1
     try clear hcz22_2
     try clear hcz22_3
     try clear hcz25_0
     try clear hcz25_1
     try clear hcz25_2
     try clear hcz27_0
     try clear hcz27_1
     try clear hcz27_2
     try clear hcz29_0
     try clear hcz29_1
     try clear hcz30_0
     try clear hcz30_1
     try clear hcz30_2
     try clear hcz35_0
     try clear hcz35_1
     try clear hcz35_2
     try clear hcz35_3
     try clear hcz37_0
     try clear hcz37_1
     try clear hcz37_2
     try clear hcz37_3
     try clear hcz3_0
     try clear hcz3_1
     try clear hcz43_0
     try clear hcz43_1
     try clear hcz43_2
     try clear hcz7_0
     try clear hcz7_1
     try clear hcz7_2
     try clear hfz14_0
     try clear hfz14_1
     try clear hfz15_0
     try clear hfz15_1
     try clear hfz15_2
     try clear hfz20_0
     try clear hfz20_1
     try clear hfz20_2
     try clear hfz20_3
     try clear hfz22_0
     try clear hfz22_1
     try clear hfz22_2
     try clear hfz22_3
     try clear hfz25_0
     try clear hfz25_1
     try clear hfz25_2
     try clear hfz27_0
     try clear hfz27_1
     try clear hfz27_2
     try clear hfz29_0
     try clear hfz29_1
     try clear hfz30_0
     try clear hfz30_1
     try clear hfz30_2
     try clear hfz35_0
     try clear hfz35_1
     try clear hfz35_2
     try clear hfz35_3
     try clear hfz37_0
     try clear hfz37_1
     try clear hfz37_2
     try clear hfz37_3
     try clear hfz3_0
     try clear hfz3_1
     try clear hfz43_0
     try clear hfz43_1
     try clear hfz43_2
     try clear hfz7_0
     try clear hfz7_1
     try clear hfz7_2
     try clear p2
     obtain ⟨x2_2, x11_2, x12_2, x168000_2, x168001_2, x168002_2, rfl, rfl, HA, HK2, HO_2, BK148, BK152, BK167, HB⟩ := hrel
     cases gk with
     | zero => exact absurd HA.out (by simp [treillagelaw16_shown.l1])
     | succ k2 =>
      have H := HA.out
      clear HA
      simp only [treillagelaw16_shown.l1] at H
      by_cases c44 : x12_2 < 3
      ·rw [if_pos c44] at H
       have c44b0 : decide (x12_2 < 3) = true := decide_eq_true c44
       clear c44
       replace H := Option.bind_eq_some_iff.mp H
       obtain ⟨⟨t168, t169, t170, t171⟩, A450, H⟩ := H
       replace H : ((mem_Do.f x2_2 t168 t169 t170 t171).bind fun bt172 => ((queue_Given.f k2 1 1 x168000_2 x168001_2 x168002_2 bt172.2.1).bind fun bt177 => (treillagelaw16_shown.l1 k2 bt172.1 bt177.2.2.2 (wrap64 (x12_2 + 1)) 1 1 x153000_1 x153001_1 x153002_1 bt177.1 bt177.2.1 bt177.2.2.1))) = some r := H
       have A45 := aA A450
       clear A450
       replace H := Option.bind_eq_some_iff.mp H
       obtain ⟨⟨t172, t175, t176⟩, A460, H⟩ := H
       replace H : ((queue_Given.f k2 1 1 x168000_2 x168001_2 x168002_2 t175).bind fun bt177 => (treillagelaw16_shown.l1 k2 t172 bt177.2.2.2 (wrap64 (x12_2 + 1)) 1 1 x153000_1 x153001_1 x153002_1 bt177.1 bt177.2.1 bt177.2.2.1)) = some r := H
       have A46 := aA A460
       clear A460
       replace H := Option.bind_eq_some_iff.mp H
       obtain ⟨⟨t177, t178, t179, t180⟩, A470, H⟩ := H
       replace H : (treillagelaw16_shown.l1 k2 t172 t180 (wrap64 (x12_2 + 1)) 1 1 x153000_1 x153001_1 x153002_1 t177 t178 t179) = some r := H
       have A47 := aA A470
       clear A470
       have H' := aA H
       clear H
       have hnb48 := NB148_152.out
       have hnc48 := NB152_148.out
       have hnb49 := NB148_167.out
       have hnc49 := NB167_148.out
       have hcz50_0 : wr.cell? ⟨gb148, 0, none⟩ = some (.int .i64 1) := (blk_cell BK148.out 0).trans rfl
       have hcz50_1 : wr.cell? ⟨gb148, 1, none⟩ = some (.int .i64 1) := (blk_cell BK148.out 1).trans rfl
       have hfz50_0 := blk_frozen BK148.out 0
       have hfz50_1 := blk_frozen BK148.out 1
       have hnb51 := NB167_152.out
       have hnc51 := NB152_167.out
       have hcz52_0 : wr.cell? ⟨gb167, 0, none⟩ = some (.int .i64 x168000_2) := (blk_cell BK167.out 0).trans rfl
       have hcz52_1 : wr.cell? ⟨gb167, 1, none⟩ = some (.int .u64 x168001_2) := (blk_cell BK167.out 1).trans rfl
       have hcz52_2 : wr.cell? ⟨gb167, 2, none⟩ = some (.int .u64 x168002_2) := (blk_cell BK167.out 2).trans rfl
       have hfz52_0 := blk_frozen BK167.out 0
       have hfz52_1 := blk_frozen BK167.out 1
       have hfz52_2 := blk_frozen BK167.out 2
       go_wp2_with (first | ((with_reducible refine gate_callee (f := 53) rfl ?_); refine goesL_ (some 55) rfl rfl Try.func53 (by kernel_rfl) rfl #[.agg #[.int .i64 1, .int .i64 1], .agg #[.int .i64 x168000_2, .int .u64 x168001_2, .int .u64 x168002_2]] rfl (by (try simp only [List.map_toArray, List.map_cons, List.map_nil]); first | done | rfl | (simp only [List.length_drop, List.length_take]; rfl)) ?_; (with_reducible refine (queue_Next.calls 1 1 x168000_2 x168001_2 x168002_2 t168 t169 t170 t171 _ A45.out).mono ?_); rintro e w53 ⟨rfl, hb⟩; refine ⟨_, rfl, ?_⟩; have n0_ := aA (Kd.V_below (vlu HO_2.out) hb); have n1_ := aA (blk_below (g := gb148) (o := .cells #[.int .i64 1, .int .i64 1] 38 (0, 0)) (bku BK148.out) hb); have n2_ := aA (blk_below (g := gb152) (o := .cells #[.int .i64 x153000_1, .int .u64 x153001_1, .int .u64 x153002_1] 54 (0, 0)) (bku BK152.out) hb); have n3_ := aA (blk_below (g := gb167) (o := .cells #[.int .i64 x168000_2, .int .u64 x168001_2, .int .u64 x168002_2] 56 (0, 0)) (bku BK167.out) hb); have n4_ := aA (below_step (bls HB.out) hb); clear HO_2 BK148 BK152 BK167 HB; have HO_2 := n0_; have BK148 := n1_; have BK152 := n2_; have BK167 := n3_; have HB := n4_; clear n0_ n1_ n2_ n3_ n4_; (try clear hb); (try clear hb2); (try clear hk); (try clear hi); obtain ⟨Ao54, co54, eo54⟩ := Kd.V_slice HO_2.out; subst eo54) | ((with_reducible refine gate_callee (f := 15) rfl ?_); refine goesL_ (some 56) rfl rfl Try.func15 (by kernel_rfl) rfl #[.slice Ao54 x2_2.length co54, .agg #[.int .i64 t168, .int .i64 t169, .int .u64 t170, .int .u64 t171]] rfl (by (try simp only [List.map_toArray, List.map_cons, List.map_nil]); first | done | rfl | (simp only [List.length_drop, List.length_take]; rfl)) ?_; (with_reducible refine (mem_Do.calls (fun k_ => (k_ ≠ gb148 ∧ (k_ ≠ gb152 ∧ k_ ≠ gb167))) _ _ x2_2 t168 t169 t170 t171 t172 t175 t176 _ ?side1 A46.out).mono ?_); (case side1 => exact HO_2.out); rintro e w55 ⟨v173, rfl, ho0, hb⟩; refine ⟨_, rfl, ?_⟩; have n0_ := aA (Kd.V_below (vlu HO_2.out) hb); have n1_ := aA (Kd.V_lower (Kd.V_mono (ok' := fun k_ => k_ ≠ gb148 ∧ k_ ≠ gb152 ∧ k_ ≠ gb167) ho0 (fun k_ hk_ => ⟨Or.elim hk_ (fun hs_ => hs_.1) (fun hn_ => (Kd.freshB (g := gb148) (o := .cells #[.int .i64 1, .int .i64 1] 38 (0, 0)) (bku BK148.out) k_ hn_)), Or.elim hk_ (fun hs_ => hs_.2.1) (fun hn_ => (Kd.freshB (g := gb152) (o := .cells #[.int .i64 x153000_1, .int .u64 x153001_1, .int .u64 x153002_1] 54 (0, 0)) (bku BK152.out) k_ hn_)), Or.elim hk_ (fun hs_ => hs_.2.2) (fun hn_ => (Kd.freshB (g := gb167) (o := .cells #[.int .i64 x168000_2, .int .u64 x168001_2, .int .u64 x168002_2] 56 (0, 0)) (bku BK167.out) k_ hn_))⟩)) (below_size (bls HB.out))); have n2_ := aA (blk_below (g := gb148) (o := .cells #[.int .i64 1, .int .i64 1] 38 (0, 0)) (bku BK148.out) hb); have n3_ := aA (blk_below (g := gb152) (o := .cells #[.int .i64 x153000_1, .int .u64 x153001_1, .int .u64 x153002_1] 54 (0, 0)) (bku BK152.out) hb); have n4_ := aA (blk_below (g := gb167) (o := .cells #[.int .i64 x168000_2, .int .u64 x168001_2, .int .u64 x168002_2] 56 (0, 0)) (bku BK167.out) hb); have n5_ := aA (below_step (bls HB.out) hb); clear HO_2 BK148 BK152 BK167 HB; have HO_2 := n0_; have HO174 := n1_; have BK148 := n2_; have BK152 := n3_; have BK167 := n4_; have HB := n5_; clear n0_ n1_ n2_ n3_ n4_ n5_; (try clear hb); (try clear hb2); (try clear hk); (try clear hi); (try clear ho0); have hcz56_0 : w55.cell? ⟨gb148, 0, none⟩ = some (.int .i64 1) := (blk_cell BK148.out 0).trans rfl; have hcz56_1 : w55.cell? ⟨gb148, 1, none⟩ = some (.int .i64 1) := (blk_cell BK148.out 1).trans rfl; have hfz56_0 := blk_frozen BK148.out 0; have hfz56_1 := blk_frozen BK148.out 1; have hcz57_0 : w55.cell? ⟨gb167, 0, none⟩ = some (.int .i64 x168000_2) := (blk_cell BK167.out 0).trans rfl; have hcz57_1 : w55.cell? ⟨gb167, 1, none⟩ = some (.int .u64 x168001_2) := (blk_cell BK167.out 1).trans rfl; have hcz57_2 : w55.cell? ⟨gb167, 2, none⟩ = some (.int .u64 x168002_2) := (blk_cell BK167.out 2).trans rfl; have hfz57_0 := blk_frozen BK167.out 0; have hfz57_1 := blk_frozen BK167.out 1; have hfz57_2 := blk_frozen BK167.out 2) | ((with_reducible refine gate_callee (f := 49) rfl ?_); refine goesL_ (some 65) rfl rfl Try.func49 (by kernel_rfl) rfl #[.agg #[.int .i64 1, .int .i64 1], .agg #[.int .i64 x168000_2, .int .u64 x168001_2, .int .u64 x168002_2], .int .u64 t175] rfl (by (try simp only [List.map_toArray, List.map_cons, List.map_nil]); first | done | rfl | (simp only [List.length_drop, List.length_take]; rfl)) ?_; (with_reducible refine (queue_Given.calls k2 1 1 x168000_2 x168001_2 x168002_2 t175 t177 t178 t179 t180 _ A47.out).mono ?_); rintro e w58 ⟨rfl, hb⟩; refine ⟨_, rfl, ?_⟩; have n0_ := aA (Kd.V_below (vlu HO_2.out) hb); have n1_ := aA (Kd.V_below (vlu HO174.out) hb); have n2_ := aA (blk_below (g := gb148) (o := .cells #[.int .i64 1, .int .i64 1] 38 (0, 0)) (bku BK148.out) hb); have n3_ := aA (blk_below (g := gb152) (o := .cells #[.int .i64 x153000_1, .int .u64 x153001_1, .int .u64 x153002_1] 54 (0, 0)) (bku BK152.out) hb); have n4_ := aA (blk_below (g := gb167) (o := .cells #[.int .i64 x168000_2, .int .u64 x168001_2, .int .u64 x168002_2] 56 (0, 0)) (bku BK167.out) hb); have n5_ := aA (below_step (bls HB.out) hb); clear HO_2 HO174 BK148 BK152 BK167 HB; have HO_2 := n0_; have HO174 := n1_; have BK148 := n2_; have BK152 := n3_; have BK167 := n4_; have HB := n5_; clear n0_ n1_ n2_ n3_ n4_ n5_; (try clear hb); (try clear hb2); (try clear hk); (try clear hi); have hcz59_0 : w58.cell? ⟨gb167, 0, none⟩ = some (.int .i64 x168000_2) := (blk_cell BK167.out 0).trans rfl; have hcz59_1 : w58.cell? ⟨gb167, 1, none⟩ = some (.int .u64 x168001_2) := (blk_cell BK167.out 1).trans rfl; have hcz59_2 : w58.cell? ⟨gb167, 2, none⟩ = some (.int .u64 x168002_2) := (blk_cell BK167.out 2).trans rfl; have hfz59_0 := blk_frozen BK167.out 0; have hfz59_1 := blk_frozen BK167.out 1; have hfz59_2 := blk_frozen BK167.out 2))
       go_roundg k2
       case measure => have := HK1.out; have := HK2.out; omega
       case rel => exact ⟨(t172), (t180), (wrap64 (x12_2 + 1)), (t177), (t178), (t179), (by first | rfl | (simp; done) | (simp [*]; done)), (by first | rfl | (simp; done) | (simp [*]; done)), H', ⟨by have := HK1.out; have := HK2.out; omega⟩, ⟨by (with_reducible repeat (first | apply Kd.V_alloc | apply Kd.V_drewN | apply Kd.V_drew)); exact Kd.V_mono (Kd.V_far (p := ⟨gb167, 2, none⟩) (Kd.V_far (p := ⟨gb167, 1, none⟩) (Kd.V_far (p := ⟨gb167, 0, none⟩) (Kd.V_mono HO174.out (fun k_ hk => (⟨hk, hk.2.2⟩ : _ ∧ k_ ≠ gb167))) (fun _ hk => hk.2) (.int .i64 t177)) (fun _ hk => hk.2) (.int .u64 t178)) (fun _ hk => hk.2) (.int .u64 t179)) (fun _ hk => ⟨hk.1.1, ⟨hk.1.2.1, hk.1.2.2⟩⟩)⟩, ⟨by refine bku ?_; refine blk_far ?_ NB148_167.out _; refine bku ?_; refine blk_far ?_ NB148_167.out _; refine bku ?_; refine blk_far ?_ NB148_167.out _; refine bku ?_; exact BK148.out⟩, ⟨by refine bku ?_; refine blk_far ?_ NB152_167.out _; refine bku ?_; refine blk_far ?_ NB152_167.out _; refine bku ?_; refine blk_far ?_ NB152_167.out _; refine bku ?_; exact BK152.out⟩, ⟨by refine bku ?_; refine blk_put (cs := #[.int .i64 t177, .int .u64 t178, .int .u64 x168002_2]) ?_ 2 _ rfl; refine bku ?_; refine blk_put (cs := #[.int .i64 t177, .int .u64 x168001_2, .int .u64 x168002_2]) ?_ 1 _ rfl; refine bku ?_; refine blk_put (cs := #[.int .i64 x168000_2, .int .u64 x168001_2, .int .u64 x168002_2]) ?_ 0 _ rfl; refine bku ?_; exact BK167.out⟩, ⟨by repeat (first | (with_reducible first | exact HB.out | apply below_alloc | apply pw_below_drewN | apply below_drew1 | refine below_set ?_ GE148.out | refine below_set ?_ GE152.out | refine below_set ?_ GE167.out) | exact HB.out)⟩⟩
      ·rw [if_neg c44] at H
       have c44b0 : decide (x12_2 < 3) = false := decide_eq_false c44
       clear c44
       replace H := Option.bind_eq_some_iff.mp H
       obtain ⟨⟨t181, t182, t183, t184, t185⟩, A600, H⟩ := H
       replace H : (if x153000_1 = 5 then (if t185 = true then (some false) else (if x11_2 = true then (if x168002_2 = 7 then (some (x168001_2 == 1)) else (some false)) else (some false))) else (some false)) = some r := H
       have A60 := aA A600
       clear A600
       by_cases c61 : x153000_1 = 5
       ·rw [if_pos c61] at H
        have c61b0 : (x153000_1 == 5) = true := beq_iff_eq.mpr c61
        have c61b1 : (x153000_1 != 5) = false := bne_eq_false_iff_eq.mpr c61
        clear c61
        by_cases c62 : t185 = true
        ·subst c62
         have H1 : (some false) = some r := by rw [if_pos rfl] at H; exact H
         clear H
         have H := H1
         clear H1
         obtain rfl := Option.some.inj H
         have hnb63 := NB148_152.out
         have hnc63 := NB152_148.out
         have hnb64 := NB148_167.out
         have hnc64 := NB167_148.out
         have hcz65_0 : wr.cell? ⟨gb148, 0, none⟩ = some (.int .i64 1) := (blk_cell BK148.out 0).trans rfl
         have hcz65_1 : wr.cell? ⟨gb148, 1, none⟩ = some (.int .i64 1) := (blk_cell BK148.out 1).trans rfl
         have hfz65_0 := blk_frozen BK148.out 0
         have hfz65_1 := blk_frozen BK148.out 1
         have hnb66 := NB152_167.out
         have hnc66 := NB167_152.out
         have hcz67_0 : wr.cell? ⟨gb152, 0, none⟩ = some (.int .i64 x153000_1) := (blk_cell BK152.out 0).trans rfl
         have hcz67_1 : wr.cell? ⟨gb152, 1, none⟩ = some (.int .u64 x153001_1) := (blk_cell BK152.out 1).trans rfl
         have hcz67_2 : wr.cell? ⟨gb152, 2, none⟩ = some (.int .u64 x153002_1) := (blk_cell BK152.out 2).trans rfl
         have hfz67_0 := blk_frozen BK152.out 0
         have hfz67_1 := blk_frozen BK152.out 1
         have hfz67_2 := blk_frozen BK152.out 2
         go_wp2_with (first | ((with_reducible refine gate_callee (f := 47) rfl ?_); refine goesL_ (some 71) rfl rfl Try.func47 (by kernel_rfl) rfl #[.agg #[.int .i64 1, .int .i64 1], .agg #[.int .i64 x153000_1, .int .u64 x153001_1, .int .u64 x153002_1]] rfl (by (try simp only [List.map_toArray, List.map_cons, List.map_nil]); first | done | rfl | (simp only [List.length_drop, List.length_take]; rfl)) ?_; (with_reducible refine (queue_Want.calls 1 1 x153000_1 x153001_1 x153002_1 t181 t182 t183 t184 true _ A60.out).mono ?_); rintro e w68 ⟨rfl, hb⟩; refine ⟨_, rfl, ?_⟩; have n0_ := aA (Kd.V_below (vlu HO_2.out) hb); have n1_ := aA (blk_below (g := gb148) (o := .cells #[.int .i64 1, .int .i64 1] 38 (0, 0)) (bku BK148.out) hb); have n2_ := aA (blk_below (g := gb152) (o := .cells #[.int .i64 x153000_1, .int .u64 x153001_1, .int .u64 x153002_1] 54 (0, 0)) (bku BK152.out) hb); have n3_ := aA (blk_below (g := gb167) (o := .cells #[.int .i64 x168000_2, .int .u64 x168001_2, .int .u64 x168002_2] 56 (0, 0)) (bku BK167.out) hb); have n4_ := aA (below_step (bls HB.out) hb); clear HO_2 BK148 BK152 BK167 HB; have HO_2 := n0_; have BK148 := n1_; have BK152 := n2_; have BK167 := n3_; have HB := n4_; clear n0_ n1_ n2_ n3_ n4_; (try clear hb); (try clear hb2); (try clear hk); (try clear hi)) | ((with_reducible refine gate_dst (N := 16) rfl ?_); refine box_event ?hg (N := 16) ?hd (cs := #[.int .i64 0, .int .i64 0, .int .u64 0, .int .u64 0]) (t := 25) ?hr ?_; (case hd => rfl); (case hg => rfl); (case hr => first | (go_simp; done) | (go_simp; rfl)); intro gb186 hg w69 hbox hb; have n0_ := aA (Kd.V_below (Kd.V_elderB (vlu HO_2.out) gb186 (Nat.le_of_eq hg.symm)) hb); have n1_ := aA (blk_below (g := gb148) (o := .cells #[.int .i64 1, .int .i64 1] 38 (0, 0)) (bku BK148.out) hb); have n2_ := aA (blk_below (g := gb152) (o := .cells #[.int .i64 x153000_1, .int .u64 x153001_1, .int .u64 x153002_1] 54 (0, 0)) (bku BK152.out) hb); have n3_ := aA (blk_below (g := gb167) (o := .cells #[.int .i64 x168000_2, .int .u64 x168001_2, .int .u64 x168002_2] 56 (0, 0)) (bku BK167.out) hb); have n4_ := aA (below_step (bls HB.out) hb); have n5_ := aA (hbox); have n6_ := aA ((by rw [hg]; exact (below_size (bls HB.out)) : w.heap.size ≤ gb186)); have n7_ := aA ((by rw [hg]; exact (below_size (bls HB.out)) : w.heap.size ≤ gb186)); have n8_ := aA ((by rw [hg]; exact Nat.ne_of_lt (blk_lt (g := gb148) (o := .cells #[.int .i64 1, .int .i64 1] 38 (0, 0)) (bku BK148.out)) : gb148 ≠ gb186)); have n9_ := aA ((by rw [hg]; exact Nat.ne_of_gt (blk_lt (g := gb148) (o := .cells #[.int .i64 1, .int .i64 1] 38 (0, 0)) (bku BK148.out)) : gb186 ≠ gb148)); have n10_ := aA ((by rw [hg]; exact Nat.ne_of_lt (blk_lt (g := gb152) (o := .cells #[.int .i64 x153000_1, .int .u64 x153001_1, .int .u64 x153002_1] 54 (0, 0)) (bku BK152.out)) : gb152 ≠ gb186)); have n11_ := aA ((by rw [hg]; exact Nat.ne_of_gt (blk_lt (g := gb152) (o := .cells #[.int .i64 x153000_1, .int .u64 x153001_1, .int .u64 x153002_1] 54 (0, 0)) (bku BK152.out)) : gb186 ≠ gb152)); have n12_ := aA ((by rw [hg]; exact Nat.ne_of_lt (blk_lt (g := gb167) (o := .cells #[.int .i64 x168000_2, .int .u64 x168001_2, .int .u64 x168002_2] 56 (0, 0)) (bku BK167.out)) : gb167 ≠ gb186)); have n13_ := aA ((by rw [hg]; exact Nat.ne_of_gt (blk_lt (g := gb167) (o := .cells #[.int .i64 x168000_2, .int .u64 x168001_2, .int .u64 x168002_2] 56 (0, 0)) (bku BK167.out)) : gb186 ≠ gb167)); clear HO_2 BK148 BK152 BK167 HB; have HO_2 := n0_; have BK148 := n1_; have BK152 := n2_; have BK167 := n3_; have HB := n4_; have BK186 := n5_; have GW186 := n6_; have GE186 := n7_; have NB148_186 := n8_; have NB186_148 := n9_; have NB152_186 := n10_; have NB186_152 := n11_; have NB167_186 := n12_; have NB186_167 := n13_; clear n0_ n1_ n2_ n3_ n4_ n5_ n6_ n7_ n8_ n9_ n10_ n11_ n12_ n13_ hb hbox hg; have hnb70 := NB186_148.out; have hnc70 := NB148_186.out; have hnb71 := NB186_152.out; have hnc71 := NB152_186.out; have hnb72 := NB186_167.out; have hnc72 := NB167_186.out; have hcz73_0 : w69.cell? ⟨gb186, 0, none⟩ = some (.int .i64 0) := (blk_cell BK186.out 0).trans rfl; have hcz73_1 : w69.cell? ⟨gb186, 1, none⟩ = some (.int .i64 0) := (blk_cell BK186.out 1).trans rfl; have hcz73_2 : w69.cell? ⟨gb186, 2, none⟩ = some (.int .u64 0) := (blk_cell BK186.out 2).trans rfl; have hcz73_3 : w69.cell? ⟨gb186, 3, none⟩ = some (.int .u64 0) := (blk_cell BK186.out 3).trans rfl; have hfz73_0 := blk_frozen BK186.out 0; have hfz73_1 := blk_frozen BK186.out 1; have hfz73_2 := blk_frozen BK186.out 2; have hfz73_3 := blk_frozen BK186.out 3; have hcz74_0 : w69.cell? ⟨gb152, 0, none⟩ = some (.int .i64 x153000_1) := (blk_cell BK152.out 0).trans rfl; have hcz74_1 : w69.cell? ⟨gb152, 1, none⟩ = some (.int .u64 x153001_1) := (blk_cell BK152.out 1).trans rfl; have hcz74_2 : w69.cell? ⟨gb152, 2, none⟩ = some (.int .u64 x153002_1) := (blk_cell BK152.out 2).trans rfl; have hfz74_0 := blk_frozen BK152.out 0; have hfz74_1 := blk_frozen BK152.out 1; have hfz74_2 := blk_frozen BK152.out 2))
         go_ret
         exact ⟨by first | rfl | (simp [errW_none, errW_some] <;> rfl) | (simp [*, errW_none, errW_some] <;> rfl), by repeat (first | (with_reducible first | exact HB.out | apply below_alloc | apply pw_below_drewN | apply below_drew1 | refine below_set ?_ GE148.out | refine below_set ?_ GE152.out | refine below_set ?_ GE167.out | refine below_set ?_ GE186.out) | exact HB.out)⟩
        ·replace c62 := Bool.eq_false_iff.mpr c62
         subst c62
         have H1 : (if x11_2 = true then (if x168002_2 = 7 then (some (x168001_2 == 1)) else (some false)) else (some false)) = some r := by rw [if_neg (show ¬ (false = true) by decide)] at H; exact H
         clear H
         have H := H1
         clear H1
         by_cases c75 : x11_2 = true
         ·subst c75
          have H1 : (if x168002_2 = 7 then (some (x168001_2 == 1)) else (some false)) = some r := by rw [if_pos rfl] at H; exact H
          clear H
          have H := H1
          clear H1
          by_cases c76 : x168002_2 = 7
          ·rw [if_pos c76] at H
           have c76b0 : (x168002_2 == 7) = true := beq_iff_eq.mpr c76
           have c76b1 : (x168002_2 != 7) = false := bne_eq_false_iff_eq.mpr c76
           clear c76
           obtain rfl := Option.some.inj H
           have hnb77 := NB148_152.out
           have hnc77 := NB152_148.out
           have hnb78 := NB148_167.out
           have hnc78 := NB167_148.out
           have hcz79_0 : wr.cell? ⟨gb148, 0, none⟩ = some (.int .i64 1) := (blk_cell BK148.out 0).trans rfl
           have hcz79_1 : wr.cell? ⟨gb148, 1, none⟩ = some (.int .i64 1) := (blk_cell BK148.out 1).trans rfl
           have hfz79_0 := blk_frozen BK148.out 0
           have hfz79_1 := blk_frozen BK148.out 1
           have hnb80 := NB152_167.out
           have hnc80 := NB167_152.out
           have hcz81_0 : wr.cell? ⟨gb152, 0, none⟩ = some (.int .i64 x153000_1) := (blk_cell BK152.out 0).trans rfl
           have hcz81_1 : wr.cell? ⟨gb152, 1, none⟩ = some (.int .u64 x153001_1) := (blk_cell BK152.out 1).trans rfl
           have hcz81_2 : wr.cell? ⟨gb152, 2, none⟩ = some (.int .u64 x153002_1) := (blk_cell BK152.out 2).trans rfl
           have hfz81_0 := blk_frozen BK152.out 0
           have hfz81_1 := blk_frozen BK152.out 1
           have hfz81_2 := blk_frozen BK152.out 2
           go_wp2_with (first | ((with_reducible refine gate_callee (f := 47) rfl ?_); refine goesL_ (some 71) rfl rfl Try.func47 (by kernel_rfl) rfl #[.agg #[.int .i64 1, .int .i64 1], .agg #[.int .i64 x153000_1, .int .u64 x153001_1, .int .u64 x153002_1]] rfl (by (try simp only [List.map_toArray, List.map_cons, List.map_nil]); first | done | rfl | (simp only [List.length_drop, List.length_take]; rfl)) ?_; (with_reducible refine (queue_Want.calls 1 1 x153000_1 x153001_1 x153002_1 t181 t182 t183 t184 false _ A60.out).mono ?_); rintro e w82 ⟨rfl, hb⟩; refine ⟨_, rfl, ?_⟩; have n0_ := aA (Kd.V_below (vlu HO_2.out) hb); have n1_ := aA (blk_below (g := gb148) (o := .cells #[.int .i64 1, .int .i64 1] 38 (0, 0)) (bku BK148.out) hb); have n2_ := aA (blk_below (g := gb152) (o := .cells #[.int .i64 x153000_1, .int .u64 x153001_1, .int .u64 x153002_1] 54 (0, 0)) (bku BK152.out) hb); have n3_ := aA (blk_below (g := gb167) (o := .cells #[.int .i64 x168000_2, .int .u64 x168001_2, .int .u64 x168002_2] 56 (0, 0)) (bku BK167.out) hb); have n4_ := aA (below_step (bls HB.out) hb); clear HO_2 BK148 BK152 BK167 HB; have HO_2 := n0_; have BK148 := n1_; have BK152 := n2_; have BK167 := n3_; have HB := n4_; clear n0_ n1_ n2_ n3_ n4_; (try clear hb); (try clear hb2); (try clear hk); (try clear hi)) | ((with_reducible refine gate_dst (N := 16) rfl ?_); refine box_event ?hg (N := 16) ?hd (cs := #[.int .i64 0, .int .i64 0, .int .u64 0, .int .u64 0]) (t := 25) ?hr ?_; (case hd => rfl); (case hg => rfl); (case hr => first | (go_simp; done) | (go_simp; rfl)); intro gb186 hg w83 hbox hb; have n0_ := aA (Kd.V_below (Kd.V_elderB (vlu HO_2.out) gb186 (Nat.le_of_eq hg.symm)) hb); have n1_ := aA (blk_below (g := gb148) (o := .cells #[.int .i64 1, .int .i64 1] 38 (0, 0)) (bku BK148.out) hb); have n2_ := aA (blk_below (g := gb152) (o := .cells #[.int .i64 x153000_1, .int .u64 x153001_1, .int .u64 x153002_1] 54 (0, 0)) (bku BK152.out) hb); have n3_ := aA (blk_below (g := gb167) (o := .cells #[.int .i64 x168000_2, .int .u64 x168001_2, .int .u64 x168002_2] 56 (0, 0)) (bku BK167.out) hb); have n4_ := aA (below_step (bls HB.out) hb); have n5_ := aA (hbox); have n6_ := aA ((by rw [hg]; exact (below_size (bls HB.out)) : w.heap.size ≤ gb186)); have n7_ := aA ((by rw [hg]; exact (below_size (bls HB.out)) : w.heap.size ≤ gb186)); have n8_ := aA ((by rw [hg]; exact Nat.ne_of_lt (blk_lt (g := gb148) (o := .cells #[.int .i64 1, .int .i64 1] 38 (0, 0)) (bku BK148.out)) : gb148 ≠ gb186)); have n9_ := aA ((by rw [hg]; exact Nat.ne_of_gt (blk_lt (g := gb148) (o := .cells #[.int .i64 1, .int .i64 1] 38 (0, 0)) (bku BK148.out)) : gb186 ≠ gb148)); have n10_ := aA ((by rw [hg]; exact Nat.ne_of_lt (blk_lt (g := gb152) (o := .cells #[.int .i64 x153000_1, .int .u64 x153001_1, .int .u64 x153002_1] 54 (0, 0)) (bku BK152.out)) : gb152 ≠ gb186)); have n11_ := aA ((by rw [hg]; exact Nat.ne_of_gt (blk_lt (g := gb152) (o := .cells #[.int .i64 x153000_1, .int .u64 x153001_1, .int .u64 x153002_1] 54 (0, 0)) (bku BK152.out)) : gb186 ≠ gb152)); have n12_ := aA ((by rw [hg]; exact Nat.ne_of_lt (blk_lt (g := gb167) (o := .cells #[.int .i64 x168000_2, .int .u64 x168001_2, .int .u64 x168002_2] 56 (0, 0)) (bku BK167.out)) : gb167 ≠ gb186)); have n13_ := aA ((by rw [hg]; exact Nat.ne_of_gt (blk_lt (g := gb167) (o := .cells #[.int .i64 x168000_2, .int .u64 x168001_2, .int .u64 x168002_2] 56 (0, 0)) (bku BK167.out)) : gb186 ≠ gb167)); clear HO_2 BK148 BK152 BK167 HB; have HO_2 := n0_; have BK148 := n1_; have BK152 := n2_; have BK167 := n3_; have HB := n4_; have BK186 := n5_; have GW186 := n6_; have GE186 := n7_; have NB148_186 := n8_; have NB186_148 := n9_; have NB152_186 := n10_; have NB186_152 := n11_; have NB167_186 := n12_; have NB186_167 := n13_; clear n0_ n1_ n2_ n3_ n4_ n5_ n6_ n7_ n8_ n9_ n10_ n11_ n12_ n13_ hb hbox hg; have hnb84 := NB186_148.out; have hnc84 := NB148_186.out; have hnb85 := NB186_152.out; have hnc85 := NB152_186.out; have hnb86 := NB186_167.out; have hnc86 := NB167_186.out; have hcz87_0 : w83.cell? ⟨gb186, 0, none⟩ = some (.int .i64 0) := (blk_cell BK186.out 0).trans rfl; have hcz87_1 : w83.cell? ⟨gb186, 1, none⟩ = some (.int .i64 0) := (blk_cell BK186.out 1).trans rfl; have hcz87_2 : w83.cell? ⟨gb186, 2, none⟩ = some (.int .u64 0) := (blk_cell BK186.out 2).trans rfl; have hcz87_3 : w83.cell? ⟨gb186, 3, none⟩ = some (.int .u64 0) := (blk_cell BK186.out 3).trans rfl; have hfz87_0 := blk_frozen BK186.out 0; have hfz87_1 := blk_frozen BK186.out 1; have hfz87_2 := blk_frozen BK186.out 2; have hfz87_3 := blk_frozen BK186.out 3; have hcz88_0 : w83.cell? ⟨gb152, 0, none⟩ = some (.int .i64 x153000_1) := (blk_cell BK152.out 0).trans rfl; have hcz88_1 : w83.cell? ⟨gb152, 1, none⟩ = some (.int .u64 x153001_1) := (blk_cell BK152.out 1).trans rfl; have hcz88_2 : w83.cell? ⟨gb152, 2, none⟩ = some (.int .u64 x153002_1) := (blk_cell BK152.out 2).trans rfl; have hfz88_0 := blk_frozen BK152.out 0; have hfz88_1 := blk_frozen BK152.out 1; have hfz88_2 := blk_frozen BK152.out 2; have hcz89_0 : w83.cell? ⟨gb167, 0, none⟩ = some (.int .i64 x168000_2) := (blk_cell BK167.out 0).trans rfl; have hcz89_1 : w83.cell? ⟨gb167, 1, none⟩ = some (.int .u64 x168001_2) := (blk_cell BK167.out 1).trans rfl; have hcz89_2 : w83.cell? ⟨gb167, 2, none⟩ = some (.int .u64 x168002_2) := (blk_cell BK167.out 2).trans rfl; have hfz89_0 := blk_frozen BK167.out 0; have hfz89_1 := blk_frozen BK167.out 1; have hfz89_2 := blk_frozen BK167.out 2))
           go_ret
           exact ⟨by first | rfl | (simp [errW_none, errW_some] <;> rfl) | (simp [*, errW_none, errW_some] <;> rfl), by repeat (first | (with_reducible first | exact HB.out | apply below_alloc | apply pw_below_drewN | apply below_drew1 | refine below_set ?_ GE148.out | refine below_set ?_ GE152.out | refine below_set ?_ GE167.out | refine below_set ?_ GE186.out) | exact HB.out)⟩
          ·rw [if_neg c76] at H
           have c76b0 : (x168002_2 == 7) = false := beq_eq_false_iff_ne.mpr c76
           have c76b1 : (x168002_2 != 7) = true := bne_iff_ne.mpr c76
           obtain rfl := Option.some.inj H
           have hnb90 := NB148_152.out
           have hnc90 := NB152_148.out
           have hnb91 := NB148_167.out
           have hnc91 := NB167_148.out
           have hcz92_0 : wr.cell? ⟨gb148, 0, none⟩ = some (.int .i64 1) := (blk_cell BK148.out 0).trans rfl
           have hcz92_1 : wr.cell? ⟨gb148, 1, none⟩ = some (.int .i64 1) := (blk_cell BK148.out 1).trans rfl
           have hfz92_0 := blk_frozen BK148.out 0
           have hfz92_1 := blk_frozen BK148.out 1
           have hnb93 := NB152_167.out
           have hnc93 := NB167_152.out
           have hcz94_0 : wr.cell? ⟨gb152, 0, none⟩ = some (.int .i64 x153000_1) := (blk_cell BK152.out 0).trans rfl
           have hcz94_1 : wr.cell? ⟨gb152, 1, none⟩ = some (.int .u64 x153001_1) := (blk_cell BK152.out 1).trans rfl
           have hcz94_2 : wr.cell? ⟨gb152, 2, none⟩ = some (.int .u64 x153002_1) := (blk_cell BK152.out 2).trans rfl
           have hfz94_0 := blk_frozen BK152.out 0
           have hfz94_1 := blk_frozen BK152.out 1
           have hfz94_2 := blk_frozen BK152.out 2
           go_wp2_with (first | ((with_reducible refine gate_callee (f := 47) rfl ?_); refine goesL_ (some 71) rfl rfl Try.func47 (by kernel_rfl) rfl #[.agg #[.int .i64 1, .int .i64 1], .agg #[.int .i64 x153000_1, .int .u64 x153001_1, .int .u64 x153002_1]] rfl (by (try simp only [List.map_toArray, List.map_cons, List.map_nil]); first | done | rfl | (simp only [List.length_drop, List.length_take]; rfl)) ?_; (with_reducible refine (queue_Want.calls 1 1 x153000_1 x153001_1 x153002_1 t181 t182 t183 t184 false _ A60.out).mono ?_); rintro e w95 ⟨rfl, hb⟩; refine ⟨_, rfl, ?_⟩; have n0_ := aA (Kd.V_below (vlu HO_2.out) hb); have n1_ := aA (blk_below (g := gb148) (o := .cells #[.int .i64 1, .int .i64 1] 38 (0, 0)) (bku BK148.out) hb); have n2_ := aA (blk_below (g := gb152) (o := .cells #[.int .i64 x153000_1, .int .u64 x153001_1, .int .u64 x153002_1] 54 (0, 0)) (bku BK152.out) hb); have n3_ := aA (blk_below (g := gb167) (o := .cells #[.int .i64 x168000_2, .int .u64 x168001_2, .int .u64 x168002_2] 56 (0, 0)) (bku BK167.out) hb); have n4_ := aA (below_step (bls HB.out) hb); clear HO_2 BK148 BK152 BK167 HB; have HO_2 := n0_; have BK148 := n1_; have BK152 := n2_; have BK167 := n3_; have HB := n4_; clear n0_ n1_ n2_ n3_ n4_; (try clear hb); (try clear hb2); (try clear hk); (try clear hi)) | ((with_reducible refine gate_dst (N := 16) rfl ?_); refine box_event ?hg (N := 16) ?hd (cs := #[.int .i64 0, .int .i64 0, .int .u64 0, .int .u64 0]) (t := 25) ?hr ?_; (case hd => rfl); (case hg => rfl); (case hr => first | (go_simp; done) | (go_simp; rfl)); intro gb186 hg w96 hbox hb; have n0_ := aA (Kd.V_below (Kd.V_elderB (vlu HO_2.out) gb186 (Nat.le_of_eq hg.symm)) hb); have n1_ := aA (blk_below (g := gb148) (o := .cells #[.int .i64 1, .int .i64 1] 38 (0, 0)) (bku BK148.out) hb); have n2_ := aA (blk_below (g := gb152) (o := .cells #[.int .i64 x153000_1, .int .u64 x153001_1, .int .u64 x153002_1] 54 (0, 0)) (bku BK152.out) hb); have n3_ := aA (blk_below (g := gb167) (o := .cells #[.int .i64 x168000_2, .int .u64 x168001_2, .int .u64 x168002_2] 56 (0, 0)) (bku BK167.out) hb); have n4_ := aA (below_step (bls HB.out) hb); have n5_ := aA (hbox); have n6_ := aA ((by rw [hg]; exact (below_size (bls HB.out)) : w.heap.size ≤ gb186)); have n7_ := aA ((by rw [hg]; exact (below_size (bls HB.out)) : w.heap.size ≤ gb186)); have n8_ := aA ((by rw [hg]; exact Nat.ne_of_lt (blk_lt (g := gb148) (o := .cells #[.int .i64 1, .int .i64 1] 38 (0, 0)) (bku BK148.out)) : gb148 ≠ gb186)); have n9_ := aA ((by rw [hg]; exact Nat.ne_of_gt (blk_lt (g := gb148) (o := .cells #[.int .i64 1, .int .i64 1] 38 (0, 0)) (bku BK148.out)) : gb186 ≠ gb148)); have n10_ := aA ((by rw [hg]; exact Nat.ne_of_lt (blk_lt (g := gb152) (o := .cells #[.int .i64 x153000_1, .int .u64 x153001_1, .int .u64 x153002_1] 54 (0, 0)) (bku BK152.out)) : gb152 ≠ gb186)); have n11_ := aA ((by rw [hg]; exact Nat.ne_of_gt (blk_lt (g := gb152) (o := .cells #[.int .i64 x153000_1, .int .u64 x153001_1, .int .u64 x153002_1] 54 (0, 0)) (bku BK152.out)) : gb186 ≠ gb152)); have n12_ := aA ((by rw [hg]; exact Nat.ne_of_lt (blk_lt (g := gb167) (o := .cells #[.int .i64 x168000_2, .int .u64 x168001_2, .int .u64 x168002_2] 56 (0, 0)) (bku BK167.out)) : gb167 ≠ gb186)); have n13_ := aA ((by rw [hg]; exact Nat.ne_of_gt (blk_lt (g := gb167) (o := .cells #[.int .i64 x168000_2, .int .u64 x168001_2, .int .u64 x168002_2] 56 (0, 0)) (bku BK167.out)) : gb186 ≠ gb167)); clear HO_2 BK148 BK152 BK167 HB; have HO_2 := n0_; have BK148 := n1_; have BK152 := n2_; have BK167 := n3_; have HB := n4_; have BK186 := n5_; have GW186 := n6_; have GE186 := n7_; have NB148_186 := n8_; have NB186_148 := n9_; have NB152_186 := n10_; have NB186_152 := n11_; have NB167_186 := n12_; have NB186_167 := n13_; clear n0_ n1_ n2_ n3_ n4_ n5_ n6_ n7_ n8_ n9_ n10_ n11_ n12_ n13_ hb hbox hg; have hnb97 := NB186_148.out; have hnc97 := NB148_186.out; have hnb98 := NB186_152.out; have hnc98 := NB152_186.out; have hnb99 := NB186_167.out; have hnc99 := NB167_186.out; have hcz100_0 : w96.cell? ⟨gb186, 0, none⟩ = some (.int .i64 0) := (blk_cell BK186.out 0).trans rfl; have hcz100_1 : w96.cell? ⟨gb186, 1, none⟩ = some (.int .i64 0) := (blk_cell BK186.out 1).trans rfl; have hcz100_2 : w96.cell? ⟨gb186, 2, none⟩ = some (.int .u64 0) := (blk_cell BK186.out 2).trans rfl; have hcz100_3 : w96.cell? ⟨gb186, 3, none⟩ = some (.int .u64 0) := (blk_cell BK186.out 3).trans rfl; have hfz100_0 := blk_frozen BK186.out 0; have hfz100_1 := blk_frozen BK186.out 1; have hfz100_2 := blk_frozen BK186.out 2; have hfz100_3 := blk_frozen BK186.out 3; have hcz101_0 : w96.cell? ⟨gb152, 0, none⟩ = some (.int .i64 x153000_1) := (blk_cell BK152.out 0).trans rfl; have hcz101_1 : w96.cell? ⟨gb152, 1, none⟩ = some (.int .u64 x153001_1) := (blk_cell BK152.out 1).trans rfl; have hcz101_2 : w96.cell? ⟨gb152, 2, none⟩ = some (.int .u64 x153002_1) := (blk_cell BK152.out 2).trans rfl; have hfz101_0 := blk_frozen BK152.out 0; have hfz101_1 := blk_frozen BK152.out 1; have hfz101_2 := blk_frozen BK152.out 2; have hcz102_0 : w96.cell? ⟨gb167, 0, none⟩ = some (.int .i64 x168000_2) := (blk_cell BK167.out 0).trans rfl; have hcz102_1 : w96.cell? ⟨gb167, 1, none⟩ = some (.int .u64 x168001_2) := (blk_cell BK167.out 1).trans rfl; have hcz102_2 : w96.cell? ⟨gb167, 2, none⟩ = some (.int .u64 x168002_2) := (blk_cell BK167.out 2).trans rfl; have hfz102_0 := blk_frozen BK167.out 0; have hfz102_1 := blk_frozen BK167.out 1; have hfz102_2 := blk_frozen BK167.out 2))
           go_ret
           exact ⟨by first | rfl | (simp [errW_none, errW_some] <;> rfl) | (simp [*, errW_none, errW_some] <;> rfl), by repeat (first | (with_reducible first | exact HB.out | apply below_alloc | apply pw_below_drewN | apply below_drew1 | refine below_set ?_ GE148.out | refine below_set ?_ GE152.out | refine below_set ?_ GE167.out | refine below_set ?_ GE186.out) | exact HB.out)⟩
         ·replace c75 := Bool.eq_false_iff.mpr c75
          subst c75
          have H1 : (some false) = some r := by rw [if_neg (show ¬ (false = true) by decide)] at H; exact H
          clear H
          have H := H1
          clear H1
          obtain rfl := Option.some.inj H
          have hnb103 := NB148_152.out
          have hnc103 := NB152_148.out
          have hnb104 := NB148_167.out
          have hnc104 := NB167_148.out
          have hcz105_0 : wr.cell? ⟨gb148, 0, none⟩ = some (.int .i64 1) := (blk_cell BK148.out 0).trans rfl
          have hcz105_1 : wr.cell? ⟨gb148, 1, none⟩ = some (.int .i64 1) := (blk_cell BK148.out 1).trans rfl
          have hfz105_0 := blk_frozen BK148.out 0
          have hfz105_1 := blk_frozen BK148.out 1
          have hnb106 := NB152_167.out
          have hnc106 := NB167_152.out
          have hcz107_0 : wr.cell? ⟨gb152, 0, none⟩ = some (.int .i64 x153000_1) := (blk_cell BK152.out 0).trans rfl
          have hcz107_1 : wr.cell? ⟨gb152, 1, none⟩ = some (.int .u64 x153001_1) := (blk_cell BK152.out 1).trans rfl
          have hcz107_2 : wr.cell? ⟨gb152, 2, none⟩ = some (.int .u64 x153002_1) := (blk_cell BK152.out 2).trans rfl
          have hfz107_0 := blk_frozen BK152.out 0
          have hfz107_1 := blk_frozen BK152.out 1
          have hfz107_2 := blk_frozen BK152.out 2
          go_wp2_with (first | ((with_reducible refine gate_callee (f := 47) rfl ?_); refine goesL_ (some 71) rfl rfl Try.func47 (by kernel_rfl) rfl #[.agg #[.int .i64 1, .int .i64 1], .agg #[.int .i64 x153000_1, .int .u64 x153001_1, .int .u64 x153002_1]] rfl (by (try simp only [List.map_toArray, List.map_cons, List.map_nil]); first | done | rfl | (simp only [List.length_drop, List.length_take]; rfl)) ?_; (with_reducible refine (queue_Want.calls 1 1 x153000_1 x153001_1 x153002_1 t181 t182 t183 t184 false _ A60.out).mono ?_); rintro e w108 ⟨rfl, hb⟩; refine ⟨_, rfl, ?_⟩; have n0_ := aA (Kd.V_below (vlu HO_2.out) hb); have n1_ := aA (blk_below (g := gb148) (o := .cells #[.int .i64 1, .int .i64 1] 38 (0, 0)) (bku BK148.out) hb); have n2_ := aA (blk_below (g := gb152) (o := .cells #[.int .i64 x153000_1, .int .u64 x153001_1, .int .u64 x153002_1] 54 (0, 0)) (bku BK152.out) hb); have n3_ := aA (blk_below (g := gb167) (o := .cells #[.int .i64 x168000_2, .int .u64 x168001_2, .int .u64 x168002_2] 56 (0, 0)) (bku BK167.out) hb); have n4_ := aA (below_step (bls HB.out) hb); clear HO_2 BK148 BK152 BK167 HB; have HO_2 := n0_; have BK148 := n1_; have BK152 := n2_; have BK167 := n3_; have HB := n4_; clear n0_ n1_ n2_ n3_ n4_; (try clear hb); (try clear hb2); (try clear hk); (try clear hi)) | ((with_reducible refine gate_dst (N := 16) rfl ?_); refine box_event ?hg (N := 16) ?hd (cs := #[.int .i64 0, .int .i64 0, .int .u64 0, .int .u64 0]) (t := 25) ?hr ?_; (case hd => rfl); (case hg => rfl); (case hr => first | (go_simp; done) | (go_simp; rfl)); intro gb186 hg w109 hbox hb; have n0_ := aA (Kd.V_below (Kd.V_elderB (vlu HO_2.out) gb186 (Nat.le_of_eq hg.symm)) hb); have n1_ := aA (blk_below (g := gb148) (o := .cells #[.int .i64 1, .int .i64 1] 38 (0, 0)) (bku BK148.out) hb); have n2_ := aA (blk_below (g := gb152) (o := .cells #[.int .i64 x153000_1, .int .u64 x153001_1, .int .u64 x153002_1] 54 (0, 0)) (bku BK152.out) hb); have n3_ := aA (blk_below (g := gb167) (o := .cells #[.int .i64 x168000_2, .int .u64 x168001_2, .int .u64 x168002_2] 56 (0, 0)) (bku BK167.out) hb); have n4_ := aA (below_step (bls HB.out) hb); have n5_ := aA (hbox); have n6_ := aA ((by rw [hg]; exact (below_size (bls HB.out)) : w.heap.size ≤ gb186)); have n7_ := aA ((by rw [hg]; exact (below_size (bls HB.out)) : w.heap.size ≤ gb186)); have n8_ := aA ((by rw [hg]; exact Nat.ne_of_lt (blk_lt (g := gb148) (o := .cells #[.int .i64 1, .int .i64 1] 38 (0, 0)) (bku BK148.out)) : gb148 ≠ gb186)); have n9_ := aA ((by rw [hg]; exact Nat.ne_of_gt (blk_lt (g := gb148) (o := .cells #[.int .i64 1, .int .i64 1] 38 (0, 0)) (bku BK148.out)) : gb186 ≠ gb148)); have n10_ := aA ((by rw [hg]; exact Nat.ne_of_lt (blk_lt (g := gb152) (o := .cells #[.int .i64 x153000_1, .int .u64 x153001_1, .int .u64 x153002_1] 54 (0, 0)) (bku BK152.out)) : gb152 ≠ gb186)); have n11_ := aA ((by rw [hg]; exact Nat.ne_of_gt (blk_lt (g := gb152) (o := .cells #[.int .i64 x153000_1, .int .u64 x153001_1, .int .u64 x153002_1] 54 (0, 0)) (bku BK152.out)) : gb186 ≠ gb152)); have n12_ := aA ((by rw [hg]; exact Nat.ne_of_lt (blk_lt (g := gb167) (o := .cells #[.int .i64 x168000_2, .int .u64 x168001_2, .int .u64 x168002_2] 56 (0, 0)) (bku BK167.out)) : gb167 ≠ gb186)); have n13_ := aA ((by rw [hg]; exact Nat.ne_of_gt (blk_lt (g := gb167) (o := .cells #[.int .i64 x168000_2, .int .u64 x168001_2, .int .u64 x168002_2] 56 (0, 0)) (bku BK167.out)) : gb186 ≠ gb167)); clear HO_2 BK148 BK152 BK167 HB; have HO_2 := n0_; have BK148 := n1_; have BK152 := n2_; have BK167 := n3_; have HB := n4_; have BK186 := n5_; have GW186 := n6_; have GE186 := n7_; have NB148_186 := n8_; have NB186_148 := n9_; have NB152_186 := n10_; have NB186_152 := n11_; have NB167_186 := n12_; have NB186_167 := n13_; clear n0_ n1_ n2_ n3_ n4_ n5_ n6_ n7_ n8_ n9_ n10_ n11_ n12_ n13_ hb hbox hg; have hnb110 := NB186_148.out; have hnc110 := NB148_186.out; have hnb111 := NB186_152.out; have hnc111 := NB152_186.out; have hnb112 := NB186_167.out; have hnc112 := NB167_186.out; have hcz113_0 : w109.cell? ⟨gb186, 0, none⟩ = some (.int .i64 0) := (blk_cell BK186.out 0).trans rfl; have hcz113_1 : w109.cell? ⟨gb186, 1, none⟩ = some (.int .i64 0) := (blk_cell BK186.out 1).trans rfl; have hcz113_2 : w109.cell? ⟨gb186, 2, none⟩ = some (.int .u64 0) := (blk_cell BK186.out 2).trans rfl; have hcz113_3 : w109.cell? ⟨gb186, 3, none⟩ = some (.int .u64 0) := (blk_cell BK186.out 3).trans rfl; have hfz113_0 := blk_frozen BK186.out 0; have hfz113_1 := blk_frozen BK186.out 1; have hfz113_2 := blk_frozen BK186.out 2; have hfz113_3 := blk_frozen BK186.out 3; have hcz114_0 : w109.cell? ⟨gb152, 0, none⟩ = some (.int .i64 x153000_1) := (blk_cell BK152.out 0).trans rfl; have hcz114_1 : w109.cell? ⟨gb152, 1, none⟩ = some (.int .u64 x153001_1) := (blk_cell BK152.out 1).trans rfl; have hcz114_2 : w109.cell? ⟨gb152, 2, none⟩ = some (.int .u64 x153002_1) := (blk_cell BK152.out 2).trans rfl; have hfz114_0 := blk_frozen BK152.out 0; have hfz114_1 := blk_frozen BK152.out 1; have hfz114_2 := blk_frozen BK152.out 2))
          go_ret
          exact ⟨by first | rfl | (simp [errW_none, errW_some] <;> rfl) | (simp [*, errW_none, errW_some] <;> rfl), by repeat (first | (with_reducible first | exact HB.out | apply below_alloc | apply pw_below_drewN | apply below_drew1 | refine below_set ?_ GE148.out | refine below_set ?_ GE152.out | refine below_set ?_ GE167.out | refine below_set ?_ GE186.out) | exact HB.out)⟩
       ·rw [if_neg c61] at H
        have c61b0 : (x153000_1 == 5) = false := beq_eq_false_iff_ne.mpr c61
        have c61b1 : (x153000_1 != 5) = true := bne_iff_ne.mpr c61
        obtain rfl := Option.some.inj H
        have hnb115 := NB148_152.out
        have hnc115 := NB152_148.out
        have hnb116 := NB148_167.out
        have hnc116 := NB167_148.out
        have hcz117_0 : wr.cell? ⟨gb148, 0, none⟩ = some (.int .i64 1) := (blk_cell BK148.out 0).trans rfl
        have hcz117_1 : wr.cell? ⟨gb148, 1, none⟩ = some (.int .i64 1) := (blk_cell BK148.out 1).trans rfl
        have hfz117_0 := blk_frozen BK148.out 0
        have hfz117_1 := blk_frozen BK148.out 1
        have hnb118 := NB152_167.out
        have hnc118 := NB167_152.out
        have hcz119_0 : wr.cell? ⟨gb152, 0, none⟩ = some (.int .i64 x153000_1) := (blk_cell BK152.out 0).trans rfl
        have hcz119_1 : wr.cell? ⟨gb152, 1, none⟩ = some (.int .u64 x153001_1) := (blk_cell BK152.out 1).trans rfl
        have hcz119_2 : wr.cell? ⟨gb152, 2, none⟩ = some (.int .u64 x153002_1) := (blk_cell BK152.out 2).trans rfl
        have hfz119_0 := blk_frozen BK152.out 0
        have hfz119_1 := blk_frozen BK152.out 1
        have hfz119_2 := blk_frozen BK152.out 2
        go_wp2_with (first | ((with_reducible refine gate_callee (f := 47) rfl ?_); refine goesL_ (some 71) rfl rfl Try.func47 (by kernel_rfl) rfl #[.agg #[.int .i64 1, .int .i64 1], .agg #[.int .i64 x153000_1, .int .u64 x153001_1, .int .u64 x153002_1]] rfl (by (try simp only [List.map_toArray, List.map_cons, List.map_nil]); first | done | rfl | (simp only [List.length_drop, List.length_take]; rfl)) ?_; (with_reducible refine (queue_Want.calls 1 1 x153000_1 x153001_1 x153002_1 t181 t182 t183 t184 t185 _ A60.out).mono ?_); rintro e w120 ⟨rfl, hb⟩; refine ⟨_, rfl, ?_⟩; have n0_ := aA (Kd.V_below (vlu HO_2.out) hb); have n1_ := aA (blk_below (g := gb148) (o := .cells #[.int .i64 1, .int .i64 1] 38 (0, 0)) (bku BK148.out) hb); have n2_ := aA (blk_below (g := gb152) (o := .cells #[.int .i64 x153000_1, .int .u64 x153001_1, .int .u64 x153002_1] 54 (0, 0)) (bku BK152.out) hb); have n3_ := aA (blk_below (g := gb167) (o := .cells #[.int .i64 x168000_2, .int .u64 x168001_2, .int .u64 x168002_2] 56 (0, 0)) (bku BK167.out) hb); have n4_ := aA (below_step (bls HB.out) hb); clear HO_2 BK148 BK152 BK167 HB; have HO_2 := n0_; have BK148 := n1_; have BK152 := n2_; have BK167 := n3_; have HB := n4_; clear n0_ n1_ n2_ n3_ n4_; (try clear hb); (try clear hb2); (try clear hk); (try clear hi)) | ((with_reducible refine gate_dst (N := 16) rfl ?_); refine box_event ?hg (N := 16) ?hd (cs := #[.int .i64 0, .int .i64 0, .int .u64 0, .int .u64 0]) (t := 25) ?hr ?_; (case hd => rfl); (case hg => rfl); (case hr => first | (go_simp; done) | (go_simp; rfl)); intro gb186 hg w121 hbox hb; have n0_ := aA (Kd.V_below (Kd.V_elderB (vlu HO_2.out) gb186 (Nat.le_of_eq hg.symm)) hb); have n1_ := aA (blk_below (g := gb148) (o := .cells #[.int .i64 1, .int .i64 1] 38 (0, 0)) (bku BK148.out) hb); have n2_ := aA (blk_below (g := gb152) (o := .cells #[.int .i64 x153000_1, .int .u64 x153001_1, .int .u64 x153002_1] 54 (0, 0)) (bku BK152.out) hb); have n3_ := aA (blk_below (g := gb167) (o := .cells #[.int .i64 x168000_2, .int .u64 x168001_2, .int .u64 x168002_2] 56 (0, 0)) (bku BK167.out) hb); have n4_ := aA (below_step (bls HB.out) hb); have n5_ := aA (hbox); have n6_ := aA ((by rw [hg]; exact (below_size (bls HB.out)) : w.heap.size ≤ gb186)); have n7_ := aA ((by rw [hg]; exact (below_size (bls HB.out)) : w.heap.size ≤ gb186)); have n8_ := aA ((by rw [hg]; exact Nat.ne_of_lt (blk_lt (g := gb148) (o := .cells #[.int .i64 1, .int .i64 1] 38 (0, 0)) (bku BK148.out)) : gb148 ≠ gb186)); have n9_ := aA ((by rw [hg]; exact Nat.ne_of_gt (blk_lt (g := gb148) (o := .cells #[.int .i64 1, .int .i64 1] 38 (0, 0)) (bku BK148.out)) : gb186 ≠ gb148)); have n10_ := aA ((by rw [hg]; exact Nat.ne_of_lt (blk_lt (g := gb152) (o := .cells #[.int .i64 x153000_1, .int .u64 x153001_1, .int .u64 x153002_1] 54 (0, 0)) (bku BK152.out)) : gb152 ≠ gb186)); have n11_ := aA ((by rw [hg]; exact Nat.ne_of_gt (blk_lt (g := gb152) (o := .cells #[.int .i64 x153000_1, .int .u64 x153001_1, .int .u64 x153002_1] 54 (0, 0)) (bku BK152.out)) : gb186 ≠ gb152)); have n12_ := aA ((by rw [hg]; exact Nat.ne_of_lt (blk_lt (g := gb167) (o := .cells #[.int .i64 x168000_2, .int .u64 x168001_2, .int .u64 x168002_2] 56 (0, 0)) (bku BK167.out)) : gb167 ≠ gb186)); have n13_ := aA ((by rw [hg]; exact Nat.ne_of_gt (blk_lt (g := gb167) (o := .cells #[.int .i64 x168000_2, .int .u64 x168001_2, .int .u64 x168002_2] 56 (0, 0)) (bku BK167.out)) : gb186 ≠ gb167)); clear HO_2 BK148 BK152 BK167 HB; have HO_2 := n0_; have BK148 := n1_; have BK152 := n2_; have BK167 := n3_; have HB := n4_; have BK186 := n5_; have GW186 := n6_; have GE186 := n7_; have NB148_186 := n8_; have NB186_148 := n9_; have NB152_186 := n10_; have NB186_152 := n11_; have NB167_186 := n12_; have NB186_167 := n13_; clear n0_ n1_ n2_ n3_ n4_ n5_ n6_ n7_ n8_ n9_ n10_ n11_ n12_ n13_ hb hbox hg; have hnb122 := NB186_148.out; have hnc122 := NB148_186.out; have hnb123 := NB186_152.out; have hnc123 := NB152_186.out; have hnb124 := NB186_167.out; have hnc124 := NB167_186.out; have hcz125_0 : w121.cell? ⟨gb186, 0, none⟩ = some (.int .i64 0) := (blk_cell BK186.out 0).trans rfl; have hcz125_1 : w121.cell? ⟨gb186, 1, none⟩ = some (.int .i64 0) := (blk_cell BK186.out 1).trans rfl; have hcz125_2 : w121.cell? ⟨gb186, 2, none⟩ = some (.int .u64 0) := (blk_cell BK186.out 2).trans rfl; have hcz125_3 : w121.cell? ⟨gb186, 3, none⟩ = some (.int .u64 0) := (blk_cell BK186.out 3).trans rfl; have hfz125_0 := blk_frozen BK186.out 0; have hfz125_1 := blk_frozen BK186.out 1; have hfz125_2 := blk_frozen BK186.out 2; have hfz125_3 := blk_frozen BK186.out 3; have hcz126_0 : w121.cell? ⟨gb152, 0, none⟩ = some (.int .i64 x153000_1) := (blk_cell BK152.out 0).trans rfl; have hcz126_1 : w121.cell? ⟨gb152, 1, none⟩ = some (.int .u64 x153001_1) := (blk_cell BK152.out 1).trans rfl; have hcz126_2 : w121.cell? ⟨gb152, 2, none⟩ = some (.int .u64 x153002_1) := (blk_cell BK152.out 2).trans rfl; have hfz126_0 := blk_frozen BK152.out 0; have hfz126_1 := blk_frozen BK152.out 1; have hfz126_2 := blk_frozen BK152.out 2))
        go_ret
        exact ⟨by first | rfl | (simp [errW_none, errW_some] <;> rfl) | (simp [*, errW_none, errW_some] <;> rfl), by repeat (first | (with_reducible first | exact HB.out | apply below_alloc | apply pw_below_drewN | apply below_drew1 | refine below_set ?_ GE148.out | refine below_set ?_ GE152.out | refine below_set ?_ GE167.out | refine below_set ?_ GE186.out) | exact HB.out)⟩

end Go.Proofs.Ytcjkjlopbjijaaa.PQ
