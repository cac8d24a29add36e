-- Written by wip/hprint/hprint.py (a program of this session, over the print): not typed by hand
import Derived.Test.YtieglelnpiogcaaPBx0
namespace Go.Proofs.Ytieglelnpiogcaa.PB
open Go.RowKit Go.Proofs.YtieglelnpiogcaaW.PrintWords Go.Proofs.YtieglelnpiogcaaW.PrintLast Go.Proofs.YtieglelnpiogcaaW.PrintMore
attribute [local go_sem] max2_int min2_int max_two min_two max_three min_three max_four min_four   -- for this text's walks alone
open Go.Proofs.YtieglelnpiogcaaH
set_option linter.unusedVariables false
set_option linter.unusedSimpArgs false

/-! ### queue_Got: function 72 -/
mutual
def queue_Got.j0 : Nat → Int → Bool → Bool → Int → Int → Int → Option (Int × Int × Int)
 | 0, _, _, _, _, _, _ => none
 | k + 1, x1, x2, x14, x139000, x139001, x139002 => if x14 = true then (some (6, x139001, x139002)) else (if x139000 = 1 then (queue_Got.j1 k x2 (decide (x1 > x139001)) x139000 x139001 x139002) else (queue_Got.j1 k x2 false x139000 x139001 x139002))
def queue_Got.j1 : Nat → Bool → Bool → Int → Int → Int → Option (Int × Int × Int)
 | 0, _, _, _, _, _ => none
 | k + 1, x2, x25, x139000, x139001, x139002 => if x25 = true then (queue_Got.j2 k x25 x139000 x139001 x139002) else (if x139000 = 2 then (queue_Got.j2 k (!x2) x139000 x139001 x139002) else (queue_Got.j2 k false x139000 x139001 x139002))
def queue_Got.j2 : Nat → Bool → Int → Int → Int → Option (Int × Int × Int)
 | 0, _, _, _, _ => none
 | k + 1, x25, x139000, x139001, x139002 => if x25 = true then (some (0, x139001, x139002)) else (if x139000 ≥ 1 then (if x139000 ≤ 4 then (some (wrap64 (x139000 + 1), x139001, x139002)) else (some (x139000, x139001, x139002))) else (some (x139000, x139001, x139002)))
end
def queue_Got.f (k : Nat) (a0_0 : Int) (a0_1 : Int) (a0_2 : Int) (a1 : Int) (a2 : Bool) : Option (Int × Int × Int) := if a0_0 = 0 then (some (1, a1, a0_2)) else (if a0_0 = 1 then (queue_Got.j0 k a1 a2 (decide (a1 < a0_1)) a0_0 a0_1 a0_2) else (queue_Got.j0 k a1 a2 false a0_0 a0_1 a0_2))
theorem queue_Got.mono_l : ∀ k, (∀ y0 y1 y2 y3 y4 y5, LeO (queue_Got.j0 k y0 y1 y2 y3 y4 y5) (queue_Got.j0 (k + 1) y0 y1 y2 y3 y4 y5)) ∧ (∀ y0 y1 y2 y3 y4, LeO (queue_Got.j1 k y0 y1 y2 y3 y4) (queue_Got.j1 (k + 1) y0 y1 y2 y3 y4)) ∧ (∀ y0 y1 y2 y3, LeO (queue_Got.j2 k y0 y1 y2 y3) (queue_Got.j2 (k + 1) y0 y1 y2 y3))
 | 0 => ⟨fun _ _ _ _ _ _ r h => by simp [queue_Got.j0] at h, fun _ _ _ _ _ r h => by simp [queue_Got.j1] at h, fun _ _ _ _ r h => by simp [queue_Got.j2] at h⟩
 | k + 1 => by
  obtain ⟨ih0, ih1, ih2⟩ := queue_Got.mono_l k; refine ⟨?_, ?_, ?_⟩
  ·intro y0 y1 y2 y3 y4 y5
   unfold queue_Got.j0; repeat' first
   | (with_reducible exact ih0 _ _ _ _ _ _)
   | (with_reducible exact ih1 _ _ _ _ _)
   | (with_reducible exact ih2 _ _ _ _)
   | (with_reducible exact LeO.refl _)
   | (with_reducible exact LeO.none _)
   | (with_reducible refine LeO.ite ?_ ?_)
   | (with_reducible refine LeO.bind ?_ (fun _ => ?_))
   | exact ih0 _ _ _ _ _ _
   | exact ih1 _ _ _ _ _
   | exact ih2 _ _ _ _
   | exact LeO.none _
   | refine LeO.ite ?_ ?_
   | refine LeO.bind ?_ (fun _ => ?_)
  ·intro y0 y1 y2 y3 y4
   unfold queue_Got.j1; repeat' first
   | (with_reducible exact ih0 _ _ _ _ _ _)
   | (with_reducible exact ih1 _ _ _ _ _)
   | (with_reducible exact ih2 _ _ _ _)
   | (with_reducible exact LeO.refl _)
   | (with_reducible exact LeO.none _)
   | (with_reducible refine LeO.ite ?_ ?_)
   | (with_reducible refine LeO.bind ?_ (fun _ => ?_))
   | exact ih0 _ _ _ _ _ _
   | exact ih1 _ _ _ _ _
   | exact ih2 _ _ _ _
   | exact LeO.none _
   | refine LeO.ite ?_ ?_
   | refine LeO.bind ?_ (fun _ => ?_)
  ·intro y0 y1 y2 y3
   unfold queue_Got.j2; repeat' first
   | (with_reducible exact ih0 _ _ _ _ _ _)
   | (with_reducible exact ih1 _ _ _ _ _)
   | (with_reducible exact ih2 _ _ _ _)
   | (with_reducible exact LeO.refl _)
   | (with_reducible exact LeO.none _)
   | (with_reducible refine LeO.ite ?_ ?_)
   | (with_reducible refine LeO.bind ?_ (fun _ => ?_))
   | exact ih0 _ _ _ _ _ _
   | exact ih1 _ _ _ _ _
   | exact ih2 _ _ _ _
   | exact LeO.none _
   | refine LeO.ite ?_ ?_
   | refine LeO.bind ?_ (fun _ => ?_)
theorem queue_Got.mono : ∀ a0 a1 a2 a3 a4 k, LeO (queue_Got.f k a0 a1 a2 a3 a4) (queue_Got.f (k + 1) a0 a1 a2 a3 a4) := by
 intro a0 a1 a2 a3 a4 k
 obtain ⟨ih0, ih1, ih2⟩ := queue_Got.mono_l k; unfold queue_Got.f
 repeat' first
   | (with_reducible exact ih0 _ _ _ _ _ _)
   | (with_reducible exact ih1 _ _ _ _ _)
   | (with_reducible exact ih2 _ _ _ _)
   | (with_reducible exact LeO.refl _)
   | (with_reducible exact LeO.none _)
   | (with_reducible refine LeO.ite ?_ ?_)
   | (with_reducible refine LeO.bind ?_ (fun _ => ?_))
   | exact ih0 _ _ _ _ _ _
   | exact ih1 _ _ _ _ _
   | exact ih2 _ _ _ _
   | exact LeO.none _
   | refine LeO.ite ?_ ?_
   | refine LeO.bind ?_ (fun _ => ?_)
set_option maxHeartbeats 8000000 in
set_option maxRecDepth 100000 in
theorem queue_Got.calls (k : Nat) (a0_0 : Int) (a0_1 : Int) (a0_2 : Int) (a1 : Int) (a2 : Bool) (r1 : Int) (r2 : Int) (r3 : Int) (w : World) (h : queue_Got.f k a0_0 a0_1 a0_2 a1 a2 = some (r1, r2, r3)) :
  Calls Try.prog 72 #[.agg #[.int .i64 a0_0, .int .u64 a0_1, .int .u64 a0_2], .int .u64 a1, .bool a2] w fun e w' => e = .returned (.agg #[.int .i64 r1, .int .u64 r2, .int .u64 r3]) ∧ Below w.heap.size w w' := by
 have hu36 := Try.underlying36; have HB := aA (Below.refl w.heap.size w); have H : (if a0_0 = 0 then (some (1, a1, a0_2)) else (if a0_0 = 1 then (queue_Got.j0 k a1 a2 (decide (a1 < a0_1)) a0_0 a0_1 a0_2) else (queue_Got.j0 k a1 a2 false a0_0 a0_1 a0_2))) = some (r1, r2, r3) := h; clear h; by_cases c4 : a0_0 = 0
 ·rw [if_pos c4] at H; have c4b0 : (a0_0 == 0) = true := beq_iff_eq.mpr c4; have c4b1 : (a0_0 != 0) = false := bne_eq_false_iff_eq.mpr c4; clear c4; simp only [Option.some.injEq, Prod.mk.injEq] at H; obtain ⟨rfl, rfl, rfl⟩ := H; go_enter Try.func72, Try.ntmps72; go_wp2_with (first | ((with_reducible refine gate_dst (N := 3) rfl ?_); refine box_event ?hg (N := 3) ?hd (cs := #[.int .i64 a0_0, .int .u64 a0_1, .int .u64 a0_2]) (t := 36) ?hr ?_; (case hd => rfl); (case hg => rfl); (case hr => first | (go_simp; done) | (go_simp; rfl)); intro gb138 hg w5 hbox hb; have n0_ := aA (below_step (blw HB.out) hb); have n1_ := aA (hbox); have n2_ := aA ((by rw [hg]; exact (below_size (blw HB.out)) : w.heap.size ≤ gb138)); have n3_ := aA ((by rw [hg]; exact (below_size (blw HB.out)) : w.heap.size ≤ gb138)); clear HB; have HB := n0_; have BK138 := n1_; have GW138 := n2_; have GE138 := n3_; clear n0_ n1_ n2_ n3_ hb hbox hg) | ((with_reducible refine gate_dst (N := 6) rfl ?_); refine box_event ?hg (N := 6) ?hd (cs := #[.int .i64 0, .int .u64 0, .int .u64 0]) (t := 36) ?hr ?_; (case hd => rfl); (case hg => rfl); (case hr => first | (go_simp; done) | (go_simp; rfl)); intro gb139 hg w6 hbox hb; have n0_ := aA (blk_below (g := gb138) (o := .cells #[.int .i64 a0_0, .int .u64 a0_1, .int .u64 a0_2] 36 (0, 0)) (bku BK138.out) hb); have n1_ := aA (below_step (bls HB.out) hb); have n2_ := aA (hbox); have n3_ := aA ((by rw [hg]; exact (below_size (bls HB.out)) : w.heap.size ≤ gb139)); have n4_ := aA ((by rw [hg]; exact (below_size (bls HB.out)) : w.heap.size ≤ gb139)); have n5_ := aA ((by rw [hg]; exact Nat.ne_of_lt (blk_lt (g := gb138) (o := .cells #[.int .i64 a0_0, .int .u64 a0_1, .int .u64 a0_2] 36 (0, 0)) (bku BK138.out)) : gb138 ≠ gb139)); have n6_ := aA ((by rw [hg]; exact Nat.ne_of_gt (blk_lt (g := gb138) (o := .cells #[.int .i64 a0_0, .int .u64 a0_1, .int .u64 a0_2] 36 (0, 0)) (bku BK138.out)) : gb139 ≠ gb138)); clear BK138 HB; have BK138 := n0_; have HB := n1_; have BK139 := n2_; have GW139 := n3_; have GE139 := n4_; have NB138_139 := n5_; have NB139_138 := n6_; clear n0_ n1_ n2_ n3_ n4_ n5_ n6_ hb hbox hg; have hnb7 := NB138_139.out; have hnc7 := NB139_138.out; have hcz8_0 : w6.cell? ⟨gb138, 0, none⟩ = some (.int .i64 a0_0) := (blk_cell BK138.out 0).trans rfl; have hcz8_1 : w6.cell? ⟨gb138, 1, none⟩ = some (.int .u64 a0_1) := (blk_cell BK138.out 1).trans rfl; have hcz8_2 : w6.cell? ⟨gb138, 2, none⟩ = some (.int .u64 a0_2) := (blk_cell BK138.out 2).trans rfl; have hfz8_0 := blk_frozen BK138.out 0; have hfz8_1 := blk_frozen BK138.out 1; have hfz8_2 := blk_frozen BK138.out 2; have hcz9_0 : w6.cell? ⟨gb139, 0, none⟩ = some (.int .i64 0) := (blk_cell BK139.out 0).trans rfl; have hcz9_1 : w6.cell? ⟨gb139, 1, none⟩ = some (.int .u64 0) := (blk_cell BK139.out 1).trans rfl; have hcz9_2 : w6.cell? ⟨gb139, 2, none⟩ = some (.int .u64 0) := (blk_cell BK139.out 2).trans rfl; have hfz9_0 := blk_frozen BK139.out 0; have hfz9_1 := blk_frozen BK139.out 1; have hfz9_2 := blk_frozen BK139.out 2))
  refine bodyPost_ret (results_cell_row rfl _ _ gb139 36 #[.int .i64 1, .int .u64 a1, .int .u64 a0_2] (0, 0) _ rfl (by (with_reducible repeat (first | refine blk_drewN ?_ _ | refine blk_drew ?_ | refine blk_alloc ?_ _)); refine blk_put (cs := #[.int .i64 1, .int .u64 a1, .int .u64 0]) ?_ 2 _ rfl; (with_reducible repeat (first | refine blk_drewN ?_ _ | refine blk_drew ?_ | refine blk_alloc ?_ _)); refine blk_put (cs := #[.int .i64 1, .int .u64 0, .int .u64 0]) ?_ 1 _ rfl; (with_reducible repeat (first | refine blk_drewN ?_ _ | refine blk_drew ?_ | refine blk_alloc ?_ _)); refine blk_put (cs := #[.int .i64 0, .int .u64 0, .int .u64 0]) ?_ 0 _ rfl; (with_reducible repeat (first | refine blk_drewN ?_ _ | refine blk_drew ?_ | refine blk_alloc ?_ _)); refine blk_far ?_ NB139_138.out _; (with_reducible repeat (first | refine blk_drewN ?_ _ | refine blk_drew ?_ | refine blk_alloc ?_ _)); refine blk_far ?_ NB139_138.out _; (with_reducible repeat (first | refine blk_drewN ?_ _ | refine blk_drew ?_ | refine blk_alloc ?_ _)); exact BK139.out) Try.underlying36 rfl (by kernel_rfl)) rfl ?_; exact ⟨by first | rfl | (simp [errW_none, errW_some] <;> rfl) | (simp [*, errW_none, errW_some] <;> rfl), by repeat (first | (with_reducible first | exact HB.out | apply below_alloc | apply pw_below_drewN | apply below_drew1 | refine below_set ?_ GE138.out | refine below_set ?_ GE139.out) | exact HB.out)⟩
 ·rw [if_neg c4] at H; have c4b0 : (a0_0 == 0) = false := beq_eq_false_iff_ne.mpr c4; have c4b1 : (a0_0 != 0) = true := bne_iff_ne.mpr c4; have HC10 := aA H; clear H; go_enter Try.func72, Try.ntmps72; go_upto_region 3 with (first | ((with_reducible refine gate_dst (N := 3) rfl ?_); refine box_event ?hg (N := 3) ?hd (cs := #[.int .i64 a0_0, .int .u64 a0_1, .int .u64 a0_2]) (t := 36) ?hr ?_; (case hd => rfl); (case hg => rfl); (case hr => first | (go_simp; done) | (go_simp; rfl)); intro gb138 hg w11 hbox hb; have n0_ := aA (below_step (blw HB.out) hb); have n1_ := aA (hbox); have n2_ := aA ((by rw [hg]; exact (below_size (blw HB.out)) : w.heap.size ≤ gb138)); have n3_ := aA ((by rw [hg]; exact (below_size (blw HB.out)) : w.heap.size ≤ gb138)); clear HB; have HB := n0_; have BK138 := n1_; have GW138 := n2_; have GE138 := n3_; clear n0_ n1_ n2_ n3_ hb hbox hg) | ((with_reducible refine gate_dst (N := 6) rfl ?_); refine box_event ?hg (N := 6) ?hd (cs := #[.int .i64 0, .int .u64 0, .int .u64 0]) (t := 36) ?hr ?_; (case hd => rfl); (case hg => rfl); (case hr => first | (go_simp; done) | (go_simp; rfl)); intro gb139 hg w12 hbox hb; have n0_ := aA (blk_below (g := gb138) (o := .cells #[.int .i64 a0_0, .int .u64 a0_1, .int .u64 a0_2] 36 (0, 0)) (bku BK138.out) hb); have n1_ := aA (below_step (bls HB.out) hb); have n2_ := aA (hbox); have n3_ := aA ((by rw [hg]; exact (below_size (bls HB.out)) : w.heap.size ≤ gb139)); have n4_ := aA ((by rw [hg]; exact (below_size (bls HB.out)) : w.heap.size ≤ gb139)); have n5_ := aA ((by rw [hg]; exact Nat.ne_of_lt (blk_lt (g := gb138) (o := .cells #[.int .i64 a0_0, .int .u64 a0_1, .int .u64 a0_2] 36 (0, 0)) (bku BK138.out)) : gb138 ≠ gb139)); have n6_ := aA ((by rw [hg]; exact Nat.ne_of_gt (blk_lt (g := gb138) (o := .cells #[.int .i64 a0_0, .int .u64 a0_1, .int .u64 a0_2] 36 (0, 0)) (bku BK138.out)) : gb139 ≠ gb138)); clear BK138 HB; have BK138 := n0_; have HB := n1_; have BK139 := n2_; have GW139 := n3_; have GE139 := n4_; have NB138_139 := n5_; have NB139_138 := n6_; clear n0_ n1_ n2_ n3_ n4_ n5_ n6_ hb hbox hg; have hnb13 := NB138_139.out; have hnc13 := NB139_138.out; have hcz14_0 : w12.cell? ⟨gb138, 0, none⟩ = some (.int .i64 a0_0) := (blk_cell BK138.out 0).trans rfl; have hcz14_1 : w12.cell? ⟨gb138, 1, none⟩ = some (.int .u64 a0_1) := (blk_cell BK138.out 1).trans rfl; have hcz14_2 : w12.cell? ⟨gb138, 2, none⟩ = some (.int .u64 a0_2) := (blk_cell BK138.out 2).trans rfl; have hfz14_0 := blk_frozen BK138.out 0; have hfz14_1 := blk_frozen BK138.out 1; have hfz14_2 := blk_frozen BK138.out 2))
  (try simp only [Act.put, List.setIfInBounds_toArray, List.set_cons_zero, List.set_cons_succ]); go_cut [14] (fun v14 wc => ∃ (kq : Nat) (x14_9 : Bool), v14 = .bool x14_9 ∧ Aside0 (queue_Got.j0 kq a1 a2 x14_9 a0_0 a0_1 a0_2 = some (r1, r2, r3)) ∧ Aside0 (kq ≤ k) ∧ Aside0 (wc.heap[gb138]? = some (.cells #[.int .i64 a0_0, .int .u64 a0_1, .int .u64 a0_2] 36 (0, 0))) ∧ Aside0 (wc.heap[gb139]? = some (.cells #[.int .i64 0, .int .u64 0, .int .u64 0] 36 (0, 0))) ∧ Aside0 (Below w.heap.size w wc))
  case first =>
   have H := HC10.out; clear HC10; by_cases c15 : a0_0 = 1
   ·rw [if_pos c15] at H; have c15b0 : (a0_0 == 1) = true := beq_iff_eq.mpr c15; have c15b1 : (a0_0 != 1) = false := bne_eq_false_iff_eq.mpr c15; clear c15; (first | rw [c15b0] | rw [c15b1] | (simp only [i64_w, i32_w]; rw [c15b0]) | skip)
    have H' := aA H; clear H; have hnb16 := NB138_139.out; have hnc16 := NB139_138.out; have hcz17_0 : w12.cell? ⟨gb138, 0, none⟩ = some (.int .i64 a0_0) := (blk_cell BK138.out 0).trans rfl; have hcz17_1 : w12.cell? ⟨gb138, 1, none⟩ = some (.int .u64 a0_1) := (blk_cell BK138.out 1).trans rfl; have hcz17_2 : w12.cell? ⟨gb138, 2, none⟩ = some (.int .u64 a0_2) := (blk_cell BK138.out 2).trans rfl; have hfz17_0 := blk_frozen BK138.out 0; have hfz17_1 := blk_frozen BK138.out 1; have hfz17_2 := blk_frozen BK138.out 2; go_wp2; go_meet
    case rel => exact ⟨_, (decide (a1 < a0_1)), (by first | rfl | (simp; done) | (simp [*]; done)), H', ⟨by first | omega | exact Nat.le_refl _⟩, ⟨by (with_reducible repeat (first | refine blk_drewN ?_ _ | refine blk_drew ?_ | refine blk_alloc ?_ _)); exact BK138.out⟩, ⟨by (with_reducible repeat (first | refine blk_drewN ?_ _ | refine blk_drew ?_ | refine blk_alloc ?_ _)); exact BK139.out⟩, ⟨by repeat (first | (with_reducible first | exact HB.out | apply below_alloc | apply pw_below_drewN | apply below_drew1 | refine below_set ?_ GE138.out | refine below_set ?_ GE139.out) | exact HB.out)⟩⟩
   ·rw [if_neg c15] at H; have c15b0 : (a0_0 == 1) = false := beq_eq_false_iff_ne.mpr c15; have c15b1 : (a0_0 != 1) = true := bne_iff_ne.mpr c15; (first | rw [c15b0] | rw [c15b1] | (simp only [i64_w, i32_w]; rw [c15b0]) | skip)
    have H' := aA H; clear H; have hnb18 := NB138_139.out; have hnc18 := NB139_138.out; have hcz19_0 : w12.cell? ⟨gb138, 0, none⟩ = some (.int .i64 a0_0) := (blk_cell BK138.out 0).trans rfl; have hcz19_1 : w12.cell? ⟨gb138, 1, none⟩ = some (.int .u64 a0_1) := (blk_cell BK138.out 1).trans rfl; have hcz19_2 : w12.cell? ⟨gb138, 2, none⟩ = some (.int .u64 a0_2) := (blk_cell BK138.out 2).trans rfl; have hfz19_0 := blk_frozen BK138.out 0; have hfz19_1 := blk_frozen BK138.out 1; have hfz19_2 := blk_frozen BK138.out 2; go_wp2; go_meet
    case rel => exact ⟨_, (false), (by first | rfl | (simp; done) | (simp [*]; done)), H', ⟨by first | omega | exact Nat.le_refl _⟩, ⟨by (with_reducible repeat (first | refine blk_drewN ?_ _ | refine blk_drew ?_ | refine blk_alloc ?_ _)); exact BK138.out⟩, ⟨by (with_reducible repeat (first | refine blk_drewN ?_ _ | refine blk_drew ?_ | refine blk_alloc ?_ _)); exact BK139.out⟩, ⟨by repeat (first | (with_reducible first | exact HB.out | apply below_alloc | apply pw_below_drewN | apply below_drew1 | refine below_set ?_ GE138.out | refine below_set ?_ GE139.out) | exact HB.out)⟩⟩
  case rest =>
   clear HC10; try clear c1
   try clear p2
   try clear c4
   try clear c4b0
   try clear c4b1
   try clear c7
   try clear c13
   try clear c15
   try clear c15b0
   try clear c15b1
   try clear c16
   try clear c18
   try clear hcz14_0
   try clear hcz14_1
   try clear hcz14_2
   try clear hcz17_0
   try clear hcz17_1
   try clear hcz17_2
   try clear hcz19_0
   try clear hcz19_1
   try clear hcz19_2
   try clear hcz8_0
   try clear hcz8_1
   try clear hcz8_2
   try clear hcz9_0
   try clear hcz9_1
   try clear hcz9_2
   try clear hfz14_0
   try clear hfz14_1
   try clear hfz14_2
   try clear hfz17_0
   try clear hfz17_1
   try clear hfz17_2
   try clear hfz19_0
   try clear hfz19_1
   try clear hfz19_2
   try clear hfz8_0
   try clear hfz8_1
   try clear hfz8_2
   try clear hfz9_0
   try clear hfz9_1
   try clear hfz9_2
   obtain ⟨kq, x14_9, rfl, HA, HJ9, BK138, BK139, HB⟩ := hcut; cases kq with
   | zero => exact absurd HA.out (by simp [queue_Got.j0])
   | succ kj9 =>
    have H := HA.out; clear HA; simp only [queue_Got.j0] at H; by_cases c20 : x14_9 = true
    ·subst c20; have H1 : (some (6, a0_1, a0_2)) = some (r1, r2, r3) := by rw [if_pos rfl] at H; exact H
     clear H; have H := H1; clear H1; simp only [Option.some.injEq, Prod.mk.injEq] at H; obtain ⟨rfl, rfl, rfl⟩ := H; have hnb21 := NB138_139.out; have hnc21 := NB139_138.out; have hcz22_0 : wc.cell? ⟨gb138, 0, none⟩ = some (.int .i64 a0_0) := (blk_cell BK138.out 0).trans rfl; have hcz22_1 : wc.cell? ⟨gb138, 1, none⟩ = some (.int .u64 a0_1) := (blk_cell BK138.out 1).trans rfl; have hcz22_2 : wc.cell? ⟨gb138, 2, none⟩ = some (.int .u64 a0_2) := (blk_cell BK138.out 2).trans rfl; have hfz22_0 := blk_frozen BK138.out 0; have hfz22_1 := blk_frozen BK138.out 1; have hfz22_2 := blk_frozen BK138.out 2; have hcz23_0 : wc.cell? ⟨gb139, 0, none⟩ = some (.int .i64 0) := (blk_cell BK139.out 0).trans rfl; have hcz23_1 : wc.cell? ⟨gb139, 1, none⟩ = some (.int .u64 0) := (blk_cell BK139.out 1).trans rfl; have hcz23_2 : wc.cell? ⟨gb139, 2, none⟩ = some (.int .u64 0) := (blk_cell BK139.out 2).trans rfl; have hfz23_0 := blk_frozen BK139.out 0; have hfz23_1 := blk_frozen BK139.out 1; have hfz23_2 := blk_frozen BK139.out 2; go_wp2; refine bodyPost_ret (results_cell_row rfl _ _ gb139 36 #[.int .i64 6, .int .u64 a0_1, .int .u64 a0_2] (0, 0) _ rfl (by (with_reducible repeat (first | refine blk_drewN ?_ _ | refine blk_drew ?_ | refine blk_alloc ?_ _)); refine blk_put (cs := #[.int .i64 6, .int .u64 a0_1, .int .u64 0]) ?_ 2 _ rfl; (with_reducible repeat (first | refine blk_drewN ?_ _ | refine blk_drew ?_ | refine blk_alloc ?_ _)); refine blk_put (cs := #[.int .i64 6, .int .u64 0, .int .u64 0]) ?_ 1 _ rfl; (with_reducible repeat (first | refine blk_drewN ?_ _ | refine blk_drew ?_ | refine blk_alloc ?_ _)); refine blk_put (cs := #[.int .i64 0, .int .u64 0, .int .u64 0]) ?_ 0 _ rfl; (with_reducible repeat (first | refine blk_drewN ?_ _ | refine blk_drew ?_ | refine blk_alloc ?_ _)); refine blk_far ?_ NB139_138.out _; (with_reducible repeat (first | refine blk_drewN ?_ _ | refine blk_drew ?_ | refine blk_alloc ?_ _)); exact BK139.out) Try.underlying36 rfl (by kernel_rfl)) rfl ?_; exact ⟨by first | rfl | (simp [errW_none, errW_some] <;> rfl) | (simp [*, errW_none, errW_some] <;> rfl), by repeat (first | (with_reducible first | exact HB.out | apply below_alloc | apply pw_below_drewN | apply below_drew1 | refine below_set ?_ GE138.out | refine below_set ?_ GE139.out) | exact HB.out)⟩
    ·replace c20 := Bool.eq_false_iff.mpr c20; subst c20; have H1 : (if a0_0 = 1 then (queue_Got.j1 kj9 a2 (decide (a1 > a0_1)) a0_0 a0_1 a0_2) else (queue_Got.j1 kj9 a2 false a0_0 a0_1 a0_2)) = some (r1, r2, r3) := by rw [if_neg (show ¬ (false = true) by decide)] at H; exact H
     clear H; have H := H1; clear H1; have HC24 := aA H; clear H; go_upto_region 5 with (fail)
     go_cut [25] (fun v25 wc => ∃ (kq : Nat) (x25_23 : Bool), v25 = .bool x25_23 ∧ Aside0 (queue_Got.j1 kq a2 x25_23 a0_0 a0_1 a0_2 = some (r1, r2, r3)) ∧ Aside0 (kq ≤ kj9) ∧ Aside0 (wc.heap[gb138]? = some (.cells #[.int .i64 a0_0, .int .u64 a0_1, .int .u64 a0_2] 36 (0, 0))) ∧ Aside0 (wc.heap[gb139]? = some (.cells #[.int .i64 0, .int .u64 0, .int .u64 0] 36 (0, 0))) ∧ Aside0 (Below w.heap.size w wc))
     case first =>
      have H := HC24.out; clear HC24; by_cases c25 : a0_0 = 1
      ·rw [if_pos c25] at H; have c25b0 : (a0_0 == 1) = true := beq_iff_eq.mpr c25; have c25b1 : (a0_0 != 1) = false := bne_eq_false_iff_eq.mpr c25; clear c25; (first | rw [c25b0] | rw [c25b1] | (simp only [i64_w, i32_w]; rw [c25b0]) | skip)
       have H' := aA H; clear H; have hnb26 := NB138_139.out; have hnc26 := NB139_138.out; have hcz27_0 : wc.cell? ⟨gb138, 0, none⟩ = some (.int .i64 a0_0) := (blk_cell BK138.out 0).trans rfl; have hcz27_1 : wc.cell? ⟨gb138, 1, none⟩ = some (.int .u64 a0_1) := (blk_cell BK138.out 1).trans rfl; have hcz27_2 : wc.cell? ⟨gb138, 2, none⟩ = some (.int .u64 a0_2) := (blk_cell BK138.out 2).trans rfl; have hfz27_0 := blk_frozen BK138.out 0; have hfz27_1 := blk_frozen BK138.out 1; have hfz27_2 := blk_frozen BK138.out 2; go_wp2; go_meet
       case rel => exact ⟨_, (decide (a1 > a0_1)), (by first | rfl | (simp; done) | (simp [*]; done)), H', ⟨by have := HJ9.out; first | omega | exact Nat.le_refl _⟩, ⟨by (with_reducible repeat (first | refine blk_drewN ?_ _ | refine blk_drew ?_ | refine blk_alloc ?_ _)); exact BK138.out⟩, ⟨by (with_reducible repeat (first | refine blk_drewN ?_ _ | refine blk_drew ?_ | refine blk_alloc ?_ _)); exact BK139.out⟩, ⟨by repeat (first | (with_reducible first | exact HB.out | apply below_alloc | apply pw_below_drewN | apply below_drew1 | refine below_set ?_ GE138.out | refine below_set ?_ GE139.out) | exact HB.out)⟩⟩
      ·rw [if_neg c25] at H; have c25b0 : (a0_0 == 1) = false := beq_eq_false_iff_ne.mpr c25; have c25b1 : (a0_0 != 1) = true := bne_iff_ne.mpr c25; (first | rw [c25b0] | rw [c25b1] | (simp only [i64_w, i32_w]; rw [c25b0]) | skip)
       have H' := aA H; clear H; have hnb28 := NB138_139.out; have hnc28 := NB139_138.out; have hcz29_0 : wc.cell? ⟨gb138, 0, none⟩ = some (.int .i64 a0_0) := (blk_cell BK138.out 0).trans rfl; have hcz29_1 : wc.cell? ⟨gb138, 1, none⟩ = some (.int .u64 a0_1) := (blk_cell BK138.out 1).trans rfl; have hcz29_2 : wc.cell? ⟨gb138, 2, none⟩ = some (.int .u64 a0_2) := (blk_cell BK138.out 2).trans rfl; have hfz29_0 := blk_frozen BK138.out 0; have hfz29_1 := blk_frozen BK138.out 1; have hfz29_2 := blk_frozen BK138.out 2; go_wp2; go_meet
       case rel => exact ⟨_, (false), (by first | rfl | (simp; done) | (simp [*]; done)), H', ⟨by have := HJ9.out; first | omega | exact Nat.le_refl _⟩, ⟨by (with_reducible repeat (first | refine blk_drewN ?_ _ | refine blk_drew ?_ | refine blk_alloc ?_ _)); exact BK138.out⟩, ⟨by (with_reducible repeat (first | refine blk_drewN ?_ _ | refine blk_drew ?_ | refine blk_alloc ?_ _)); exact BK139.out⟩, ⟨by repeat (first | (with_reducible first | exact HB.out | apply below_alloc | apply pw_below_drewN | apply below_drew1 | refine below_set ?_ GE138.out | refine below_set ?_ GE139.out) | exact HB.out)⟩⟩
     case rest =>
      clear HC24; try clear c1
      try clear c2
      try clear p2
      try clear c4
      try clear c4b0
      try clear c4b1
      try clear c7
      try clear c13
      try clear c15
      try clear c15b0
      try clear c15b1
      try clear c16
      try clear c18
      try clear c20
      try clear c21
      try clear c25
      try clear c25b0
      try clear c25b1
      try clear c26
      try clear c28
      try clear hcz14_0
      try clear hcz14_1
      try clear hcz14_2
      try clear hcz17_0
      try clear hcz17_1
      try clear hcz17_2
      try clear hcz19_0
      try clear hcz19_1
      try clear hcz19_2
      try clear hcz22_0
      try clear hcz22_1
      try clear hcz22_2
      try clear hcz23_0
      try clear hcz23_1
      try clear hcz23_2
      try clear hcz27_0
      try clear hcz27_1
      try clear hcz27_2
      try clear hcz29_0
      try clear hcz29_1
      try clear hcz29_2
      try clear hcz8_0
      try clear hcz8_1
      try clear hcz8_2
      try clear hcz9_0
      try clear hcz9_1
      try clear hcz9_2
      try clear hfz14_0
      try clear hfz14_1
      try clear hfz14_2
      try clear hfz17_0
      try clear hfz17_1
      try clear hfz17_2
      try clear hfz19_0
      try clear hfz19_1
      try clear hfz19_2
      try clear hfz22_0
      try clear hfz22_1
      try clear hfz22_2
      try clear hfz23_0
      try clear hfz23_1
      try clear hfz23_2
      try clear hfz27_0
      try clear hfz27_1
      try clear hfz27_2
      try clear hfz29_0
      try clear hfz29_1
      try clear hfz29_2
      try clear hfz8_0
      try clear hfz8_1
      try clear hfz8_2
      try clear hfz9_0
      try clear hfz9_1
      try clear hfz9_2
      try clear p2
      obtain ⟨kq, x25_23, rfl, HA, HJ23, BK138, BK139, HB⟩ := hcut; cases kq with
      | zero => exact absurd HA.out (by simp [queue_Got.j1])
      | succ kj23 =>
       have H := HA.out; clear HA; simp only [queue_Got.j1] at H; have HC30 := aA H; clear H; go_upto_if 25 with (fail)
       go_cut [25] (fun v25 wc => ∃ (kq : Nat) (x25_29 : Bool), v25 = .bool x25_29 ∧ Aside0 (queue_Got.j2 kq x25_29 a0_0 a0_1 a0_2 = some (r1, r2, r3)) ∧ Aside0 (kq ≤ kj23) ∧ Aside0 (wc.heap[gb138]? = some (.cells #[.int .i64 a0_0, .int .u64 a0_1, .int .u64 a0_2] 36 (0, 0))) ∧ Aside0 (wc.heap[gb139]? = some (.cells #[.int .i64 0, .int .u64 0, .int .u64 0] 36 (0, 0))) ∧ Aside0 (Below w.heap.size w wc))
       case first =>
        have H := HC30.out; clear HC30; by_cases c31 : x25_23 = true
        ·subst c31; have H1 : (queue_Got.j2 kj23 true a0_0 a0_1 a0_2) = some (r1, r2, r3) := by rw [if_pos rfl] at H; exact H
         clear H; have H := H1; clear H1; have H' := aA H; clear H; go_wp2; go_meet
         case rel => exact ⟨_, (true), (by first | rfl | (simp; done) | (simp [*]; done)), H', ⟨by have := HJ9.out; have := HJ23.out; first | omega | exact Nat.le_refl _⟩, ⟨by (with_reducible repeat (first | refine blk_drewN ?_ _ | refine blk_drew ?_ | refine blk_alloc ?_ _)); exact BK138.out⟩, ⟨by (with_reducible repeat (first | refine blk_drewN ?_ _ | refine blk_drew ?_ | refine blk_alloc ?_ _)); exact BK139.out⟩, ⟨by repeat (first | (with_reducible first | exact HB.out | apply below_alloc | apply pw_below_drewN | apply below_drew1 | refine below_set ?_ GE138.out | refine below_set ?_ GE139.out) | exact HB.out)⟩⟩
        ·replace c31 := Bool.eq_false_iff.mpr c31; subst c31; have H1 : (if a0_0 = 2 then (queue_Got.j2 kj23 (!a2) a0_0 a0_1 a0_2) else (queue_Got.j2 kj23 false a0_0 a0_1 a0_2)) = some (r1, r2, r3) := by rw [if_neg (show ¬ (false = true) by decide)] at H; exact H
         clear H; have H := H1; clear H1; by_cases c32 : a0_0 = 2
         ·rw [if_pos c32] at H; have c32b0 : (a0_0 == 2) = true := beq_iff_eq.mpr c32; have c32b1 : (a0_0 != 2) = false := bne_eq_false_iff_eq.mpr c32; clear c32; (first | rw [c32b0] | rw [c32b1] | (simp only [i64_w, i32_w]; rw [c32b0]) | skip)
          have H' := aA H; clear H; have hnb33 := NB138_139.out; have hnc33 := NB139_138.out; have hcz34_0 : wc.cell? ⟨gb138, 0, none⟩ = some (.int .i64 a0_0) := (blk_cell BK138.out 0).trans rfl; have hcz34_1 : wc.cell? ⟨gb138, 1, none⟩ = some (.int .u64 a0_1) := (blk_cell BK138.out 1).trans rfl; have hcz34_2 : wc.cell? ⟨gb138, 2, none⟩ = some (.int .u64 a0_2) := (blk_cell BK138.out 2).trans rfl; have hfz34_0 := blk_frozen BK138.out 0; have hfz34_1 := blk_frozen BK138.out 1; have hfz34_2 := blk_frozen BK138.out 2; go_wp2; go_meet
          case rel => exact ⟨_, (!a2), (by first | rfl | (simp; done) | (simp [*]; done)), H', ⟨by have := HJ9.out; have := HJ23.out; first | omega | exact Nat.le_refl _⟩, ⟨by (with_reducible repeat (first | refine blk_drewN ?_ _ | refine blk_drew ?_ | refine blk_alloc ?_ _)); exact BK138.out⟩, ⟨by (with_reducible repeat (first | refine blk_drewN ?_ _ | refine blk_drew ?_ | refine blk_alloc ?_ _)); exact BK139.out⟩, ⟨by repeat (first | (with_reducible first | exact HB.out | apply below_alloc | apply pw_below_drewN | apply below_drew1 | refine below_set ?_ GE138.out | refine below_set ?_ GE139.out) | exact HB.out)⟩⟩
         ·rw [if_neg c32] at H; have c32b0 : (a0_0 == 2) = false := beq_eq_false_iff_ne.mpr c32; have c32b1 : (a0_0 != 2) = true := bne_iff_ne.mpr c32; (first | rw [c32b0] | rw [c32b1] | (simp only [i64_w, i32_w]; rw [c32b0]) | skip)
          have H' := aA H; clear H; have hnb35 := NB138_139.out; have hnc35 := NB139_138.out; have hcz36_0 : wc.cell? ⟨gb138, 0, none⟩ = some (.int .i64 a0_0) := (blk_cell BK138.out 0).trans rfl; have hcz36_1 : wc.cell? ⟨gb138, 1, none⟩ = some (.int .u64 a0_1) := (blk_cell BK138.out 1).trans rfl; have hcz36_2 : wc.cell? ⟨gb138, 2, none⟩ = some (.int .u64 a0_2) := (blk_cell BK138.out 2).trans rfl; have hfz36_0 := blk_frozen BK138.out 0; have hfz36_1 := blk_frozen BK138.out 1; have hfz36_2 := blk_frozen BK138.out 2; go_wp2; go_meet
          case rel => exact ⟨_, (false), (by first | rfl | (simp; done) | (simp [*]; done)), H', ⟨by have := HJ9.out; have := HJ23.out; first | omega | exact Nat.le_refl _⟩, ⟨by (with_reducible repeat (first | refine blk_drewN ?_ _ | refine blk_drew ?_ | refine blk_alloc ?_ _)); exact BK138.out⟩, ⟨by (with_reducible repeat (first | refine blk_drewN ?_ _ | refine blk_drew ?_ | refine blk_alloc ?_ _)); exact BK139.out⟩, ⟨by repeat (first | (with_reducible first | exact HB.out | apply below_alloc | apply pw_below_drewN | apply below_drew1 | refine below_set ?_ GE138.out | refine below_set ?_ GE139.out) | exact HB.out)⟩⟩
       case rest =>
        clear HC30; try clear c1
        try clear c2
        try clear p2
        try clear c3
        try clear c4
        try clear c4b0
        try clear c4b1
        try clear c7
        try clear c13
        try clear c15
        try clear c15b0
        try clear c15b1
        try clear c16
        try clear c18
        try clear c20
        try clear c21
        try clear c25
        try clear c25b0
        try clear c25b1
        try clear c26
        try clear c28
        try clear c31
        try clear c32
        try clear c32b0
        try clear c32b1
        try clear c33
        try clear c35
        try clear hcz14_0
        try clear hcz14_1
        try clear hcz14_2
        try clear hcz17_0
        try clear hcz17_1
        try clear hcz17_2
        try clear hcz19_0
        try clear hcz19_1
        try clear hcz19_2
        try clear hcz22_0
        try clear hcz22_1
        try clear hcz22_2
        try clear hcz23_0
        try clear hcz23_1
        try clear hcz23_2
        try clear hcz27_0
        try clear hcz27_1
        try clear hcz27_2
        try clear hcz29_0
        try clear hcz29_1
        try clear hcz29_2
        try clear hcz34_0
        try clear hcz34_1
        try clear hcz34_2
        try clear hcz36_0
        try clear hcz36_1
        try clear hcz36_2
        try clear hcz8_0
        try clear hcz8_1
        try clear hcz8_2
        try clear hcz9_0
        try clear hcz9_1
        try clear hcz9_2
        try clear hfz14_0
        try clear hfz14_1
        try clear hfz14_2
        try clear hfz17_0
        try clear hfz17_1
        try clear hfz17_2
        try clear hfz19_0
        try clear hfz19_1
        try clear hfz19_2
        try clear hfz22_0
        try clear hfz22_1
        try clear hfz22_2
        try clear hfz23_0
        try clear hfz23_1
        try clear hfz23_2
        try clear hfz27_0
        try clear hfz27_1
        try clear hfz27_2
        try clear hfz29_0
        try clear hfz29_1
        try clear hfz29_2
        try clear hfz34_0
        try clear hfz34_1
        try clear hfz34_2
        try clear hfz36_0
        try clear hfz36_1
        try clear hfz36_2
        try clear hfz8_0
        try clear hfz8_1
        try clear hfz8_2
        try clear hfz9_0
        try clear hfz9_1
        try clear hfz9_2
        try clear p2
        obtain ⟨kq, x25_29, rfl, HA, HJ29, BK138, BK139, HB⟩ := hcut; cases kq with
        | zero => exact absurd HA.out (by simp [queue_Got.j2])
        | succ kj29 =>
         have H := HA.out; clear HA; simp only [queue_Got.j2] at H; by_cases c37 : x25_29 = true
         ·subst c37; have H1 : (some (0, a0_1, a0_2)) = some (r1, r2, r3) := by rw [if_pos rfl] at H; exact H
          clear H; have H := H1; clear H1; simp only [Option.some.injEq, Prod.mk.injEq] at H; obtain ⟨rfl, rfl, rfl⟩ := H; have hnb38 := NB138_139.out; have hnc38 := NB139_138.out; have hcz39_0 : wc.cell? ⟨gb138, 0, none⟩ = some (.int .i64 a0_0) := (blk_cell BK138.out 0).trans rfl; have hcz39_1 : wc.cell? ⟨gb138, 1, none⟩ = some (.int .u64 a0_1) := (blk_cell BK138.out 1).trans rfl; have hcz39_2 : wc.cell? ⟨gb138, 2, none⟩ = some (.int .u64 a0_2) := (blk_cell BK138.out 2).trans rfl; have hfz39_0 := blk_frozen BK138.out 0; have hfz39_1 := blk_frozen BK138.out 1; have hfz39_2 := blk_frozen BK138.out 2; have hcz40_0 : wc.cell? ⟨gb139, 0, none⟩ = some (.int .i64 0) := (blk_cell BK139.out 0).trans rfl; have hcz40_1 : wc.cell? ⟨gb139, 1, none⟩ = some (.int .u64 0) := (blk_cell BK139.out 1).trans rfl; have hcz40_2 : wc.cell? ⟨gb139, 2, none⟩ = some (.int .u64 0) := (blk_cell BK139.out 2).trans rfl; have hfz40_0 := blk_frozen BK139.out 0; have hfz40_1 := blk_frozen BK139.out 1; have hfz40_2 := blk_frozen BK139.out 2; go_wp2; refine bodyPost_ret (results_cell_row rfl _ _ gb139 36 #[.int .i64 0, .int .u64 a0_1, .int .u64 a0_2] (0, 0) _ rfl (by (with_reducible repeat (first | refine blk_drewN ?_ _ | refine blk_drew ?_ | refine blk_alloc ?_ _)); refine blk_put (cs := #[.int .i64 0, .int .u64 a0_1, .int .u64 0]) ?_ 2 _ rfl; (with_reducible repeat (first | refine blk_drewN ?_ _ | refine blk_drew ?_ | refine blk_alloc ?_ _)); refine blk_put (cs := #[.int .i64 0, .int .u64 0, .int .u64 0]) ?_ 1 _ rfl; (with_reducible repeat (first | refine blk_drewN ?_ _ | refine blk_drew ?_ | refine blk_alloc ?_ _)); refine blk_put (cs := #[.int .i64 0, .int .u64 0, .int .u64 0]) ?_ 0 _ rfl; (with_reducible repeat (first | refine blk_drewN ?_ _ | refine blk_drew ?_ | refine blk_alloc ?_ _)); refine blk_far ?_ NB139_138.out _; (with_reducible repeat (first | refine blk_drewN ?_ _ | refine blk_drew ?_ | refine blk_alloc ?_ _)); exact BK139.out) Try.underlying36 rfl (by kernel_rfl)) rfl ?_; exact ⟨by first | rfl | (simp [errW_none, errW_some] <;> rfl) | (simp [*, errW_none, errW_some] <;> rfl), by repeat (first | (with_reducible first | exact HB.out | apply below_alloc | apply pw_below_drewN | apply below_drew1 | refine below_set ?_ GE138.out | refine below_set ?_ GE139.out) | exact HB.out)⟩
         ·replace c37 := Bool.eq_false_iff.mpr c37; subst c37; have H1 : (if a0_0 ≥ 1 then (if a0_0 ≤ 4 then (some (wrap64 (a0_0 + 1), a0_1, a0_2)) else (some (a0_0, a0_1, a0_2))) else (some (a0_0, a0_1, a0_2))) = some (r1, r2, r3) := by rw [if_neg (show ¬ (false = true) by decide)] at H; exact H
          clear H; have H := H1; clear H1; by_cases c41 : a0_0 ≥ 1
          ·rw [if_pos c41] at H; have c41b0 : decide (1 ≤ a0_0) = true := decide_eq_true c41; clear c41; by_cases c42 : a0_0 ≤ 4
           ·rw [if_pos c42] at H; have c42b0 : decide (a0_0 ≤ 4) = true := decide_eq_true c42; clear c42; simp only [Option.some.injEq, Prod.mk.injEq] at H; obtain ⟨rfl, rfl, rfl⟩ := H; have hnb43 := NB138_139.out; have hnc43 := NB139_138.out; have hcz44_0 : wc.cell? ⟨gb138, 0, none⟩ = some (.int .i64 a0_0) := (blk_cell BK138.out 0).trans rfl; have hcz44_1 : wc.cell? ⟨gb138, 1, none⟩ = some (.int .u64 a0_1) := (blk_cell BK138.out 1).trans rfl; have hcz44_2 : wc.cell? ⟨gb138, 2, none⟩ = some (.int .u64 a0_2) := (blk_cell BK138.out 2).trans rfl; have hfz44_0 := blk_frozen BK138.out 0; have hfz44_1 := blk_frozen BK138.out 1; have hfz44_2 := blk_frozen BK138.out 2; have hcz45_0 : wc.cell? ⟨gb139, 0, none⟩ = some (.int .i64 0) := (blk_cell BK139.out 0).trans rfl; have hcz45_1 : wc.cell? ⟨gb139, 1, none⟩ = some (.int .u64 0) := (blk_cell BK139.out 1).trans rfl; have hcz45_2 : wc.cell? ⟨gb139, 2, none⟩ = some (.int .u64 0) := (blk_cell BK139.out 2).trans rfl; have hfz45_0 := blk_frozen BK139.out 0; have hfz45_1 := blk_frozen BK139.out 1; have hfz45_2 := blk_frozen BK139.out 2; go_wp2; refine bodyPost_ret (results_cell_row rfl _ _ gb139 36 #[.int .i64 (wrap64 (a0_0 + 1)), .int .u64 a0_1, .int .u64 a0_2] (0, 0) _ rfl (by (with_reducible repeat (first | refine blk_drewN ?_ _ | refine blk_drew ?_ | refine blk_alloc ?_ _)); refine blk_put (cs := #[.int .i64 (wrap64 (a0_0 + 1)), .int .u64 a0_1, .int .u64 0]) ?_ 2 _ rfl; (with_reducible repeat (first | refine blk_drewN ?_ _ | refine blk_drew ?_ | refine blk_alloc ?_ _)); refine blk_put (cs := #[.int .i64 (wrap64 (a0_0 + 1)), .int .u64 0, .int .u64 0]) ?_ 1 _ rfl; (with_reducible repeat (first | refine blk_drewN ?_ _ | refine blk_drew ?_ | refine blk_alloc ?_ _)); refine blk_put (cs := #[.int .i64 0, .int .u64 0, .int .u64 0]) ?_ 0 _ rfl; (with_reducible repeat (first | refine blk_drewN ?_ _ | refine blk_drew ?_ | refine blk_alloc ?_ _)); refine blk_far ?_ NB139_138.out _; (with_reducible repeat (first | refine blk_drewN ?_ _ | refine blk_drew ?_ | refine blk_alloc ?_ _)); exact BK139.out) Try.underlying36 rfl (by kernel_rfl)) rfl ?_; exact ⟨by first | rfl | (simp [errW_none, errW_some] <;> rfl) | (simp [*, errW_none, errW_some] <;> rfl), by repeat (first | (with_reducible first | exact HB.out | apply below_alloc | apply pw_below_drewN | apply below_drew1 | refine below_set ?_ GE138.out | refine below_set ?_ GE139.out) | exact HB.out)⟩
           ·rw [if_neg c42] at H; have c42b0 : decide (a0_0 ≤ 4) = false := decide_eq_false c42; clear c42; simp only [Option.some.injEq, Prod.mk.injEq] at H; obtain ⟨rfl, rfl, rfl⟩ := H; have hnb46 := NB138_139.out; have hnc46 := NB139_138.out; have hcz47_0 : wc.cell? ⟨gb138, 0, none⟩ = some (.int .i64 a0_0) := (blk_cell BK138.out 0).trans rfl; have hcz47_1 : wc.cell? ⟨gb138, 1, none⟩ = some (.int .u64 a0_1) := (blk_cell BK138.out 1).trans rfl; have hcz47_2 : wc.cell? ⟨gb138, 2, none⟩ = some (.int .u64 a0_2) := (blk_cell BK138.out 2).trans rfl; have hfz47_0 := blk_frozen BK138.out 0; have hfz47_1 := blk_frozen BK138.out 1; have hfz47_2 := blk_frozen BK138.out 2; have hcz48_0 : wc.cell? ⟨gb139, 0, none⟩ = some (.int .i64 0) := (blk_cell BK139.out 0).trans rfl; have hcz48_1 : wc.cell? ⟨gb139, 1, none⟩ = some (.int .u64 0) := (blk_cell BK139.out 1).trans rfl; have hcz48_2 : wc.cell? ⟨gb139, 2, none⟩ = some (.int .u64 0) := (blk_cell BK139.out 2).trans rfl; have hfz48_0 := blk_frozen BK139.out 0; have hfz48_1 := blk_frozen BK139.out 1; have hfz48_2 := blk_frozen BK139.out 2; go_wp2; refine bodyPost_ret (results_cell_row rfl _ _ gb139 36 #[.int .i64 a0_0, .int .u64 a0_1, .int .u64 a0_2] (0, 0) _ rfl (by (with_reducible repeat (first | refine blk_drewN ?_ _ | refine blk_drew ?_ | refine blk_alloc ?_ _)); refine blk_put (cs := #[.int .i64 a0_0, .int .u64 a0_1, .int .u64 0]) ?_ 2 _ rfl; (with_reducible repeat (first | refine blk_drewN ?_ _ | refine blk_drew ?_ | refine blk_alloc ?_ _)); refine blk_put (cs := #[.int .i64 a0_0, .int .u64 0, .int .u64 0]) ?_ 1 _ rfl; (with_reducible repeat (first | refine blk_drewN ?_ _ | refine blk_drew ?_ | refine blk_alloc ?_ _)); refine blk_put (cs := #[.int .i64 0, .int .u64 0, .int .u64 0]) ?_ 0 _ rfl; (with_reducible repeat (first | refine blk_drewN ?_ _ | refine blk_drew ?_ | refine blk_alloc ?_ _)); exact BK139.out) Try.underlying36 rfl (by kernel_rfl)) rfl ?_; exact ⟨by first | rfl | (simp [errW_none, errW_some] <;> rfl) | (simp [*, errW_none, errW_some] <;> rfl), by repeat (first | (with_reducible first | exact HB.out | apply below_alloc | apply pw_below_drewN | apply below_drew1 | refine below_set ?_ GE138.out | refine below_set ?_ GE139.out) | exact HB.out)⟩
          ·rw [if_neg c41] at H; have c41b0 : decide (1 ≤ a0_0) = false := decide_eq_false c41; clear c41; simp only [Option.some.injEq, Prod.mk.injEq] at H; obtain ⟨rfl, rfl, rfl⟩ := H; have hnb49 := NB138_139.out; have hnc49 := NB139_138.out; have hcz50_0 : wc.cell? ⟨gb138, 0, none⟩ = some (.int .i64 a0_0) := (blk_cell BK138.out 0).trans rfl; have hcz50_1 : wc.cell? ⟨gb138, 1, none⟩ = some (.int .u64 a0_1) := (blk_cell BK138.out 1).trans rfl; have hcz50_2 : wc.cell? ⟨gb138, 2, none⟩ = some (.int .u64 a0_2) := (blk_cell BK138.out 2).trans rfl; have hfz50_0 := blk_frozen BK138.out 0; have hfz50_1 := blk_frozen BK138.out 1; have hfz50_2 := blk_frozen BK138.out 2; have hcz51_0 : wc.cell? ⟨gb139, 0, none⟩ = some (.int .i64 0) := (blk_cell BK139.out 0).trans rfl; have hcz51_1 : wc.cell? ⟨gb139, 1, none⟩ = some (.int .u64 0) := (blk_cell BK139.out 1).trans rfl; have hcz51_2 : wc.cell? ⟨gb139, 2, none⟩ = some (.int .u64 0) := (blk_cell BK139.out 2).trans rfl; have hfz51_0 := blk_frozen BK139.out 0; have hfz51_1 := blk_frozen BK139.out 1; have hfz51_2 := blk_frozen BK139.out 2; go_wp2; refine bodyPost_ret (results_cell_row rfl _ _ gb139 36 #[.int .i64 a0_0, .int .u64 a0_1, .int .u64 a0_2] (0, 0) _ rfl (by (with_reducible repeat (first | refine blk_drewN ?_ _ | refine blk_drew ?_ | refine blk_alloc ?_ _)); refine blk_put (cs := #[.int .i64 a0_0, .int .u64 a0_1, .int .u64 0]) ?_ 2 _ rfl; (with_reducible repeat (first | refine blk_drewN ?_ _ | refine blk_drew ?_ | refine blk_alloc ?_ _)); refine blk_put (cs := #[.int .i64 a0_0, .int .u64 0, .int .u64 0]) ?_ 1 _ rfl; (with_reducible repeat (first | refine blk_drewN ?_ _ | refine blk_drew ?_ | refine blk_alloc ?_ _)); refine blk_put (cs := #[.int .i64 0, .int .u64 0, .int .u64 0]) ?_ 0 _ rfl; (with_reducible repeat (first | refine blk_drewN ?_ _ | refine blk_drew ?_ | refine blk_alloc ?_ _)); exact BK139.out) Try.underlying36 rfl (by kernel_rfl)) rfl ?_; exact ⟨by first | rfl | (simp [errW_none, errW_some] <;> rfl) | (simp [*, errW_none, errW_some] <;> rfl), by repeat (first | (with_reducible first | exact HB.out | apply below_alloc | apply pw_below_drewN | apply below_drew1 | refine below_set ?_ GE138.out | refine below_set ?_ GE139.out) | exact HB.out)⟩

end Go.Proofs.Ytieglelnpiogcaa.PB
