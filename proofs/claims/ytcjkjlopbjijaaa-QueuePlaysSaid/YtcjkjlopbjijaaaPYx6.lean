-- Written by wip/hprint/hprint.py (a program of this session, over the print): not typed by hand
import Derived.Test.YtcjkjlopbjijaaaPYx0
namespace Go.Proofs.Ytcjkjlopbjijaaa.PY
open Go.RowKit Go.Proofs.YtcjkjlopbjijaaaW.PrintWords Go.Proofs.YtcjkjlopbjijaaaW.PrintLast Go.Proofs.YtcjkjlopbjijaaaW.PrintMore
attribute [local go_sem] max2_int min2_int max_two min_two max_three min_three max_four min_four   -- for this text's walks alone
open Go.Proofs.YtcjkjlopbjijaaaH
set_option linter.unusedVariables false
set_option linter.unusedSimpArgs false

/-! ### queue_Given: function 49 -/
def queue_Given.j0 : Nat → Int → Bool → Int → Int → Int → Option (Int × Int × Int × Bool)
 | 0, _, _, _, _, _ => none
 | k + 1, x2, x14, x159000, x159001, x159002 => if x14 = true then (some (x159000, x159001, x159002, false)) else (if x159000 = 0 then (some (1, x159001, x159002, false)) else (if x159000 = 1 then (some (2, x159001, x2, false)) else (some (0, IntKind.u64.wrap (x159001 + 1), x159002, true))))
def queue_Given.f (k : Nat) (a0_0 : Int) (a0_1 : Int) (a1_0 : Int) (a1_1 : Int) (a1_2 : Int) (a2 : Int) : Option (Int × Int × Int × Bool) := if a1_0 = 0 then (queue_Given.j0 k a2 (a2 != (IntKind.u64.wrap (a1_1 + 1))) a1_0 a1_1 a1_2) else (queue_Given.j0 k a2 false a1_0 a1_1 a1_2)
theorem queue_Given.mono_l : ∀ k, (∀ y0 y1 y2 y3 y4, LeO (queue_Given.j0 k y0 y1 y2 y3 y4) (queue_Given.j0 (k + 1) y0 y1 y2 y3 y4))
 | 0 => fun _ _ _ _ _ r h => by simp [queue_Given.j0] at h
 | k + 1 => by
  have ih0 := queue_Given.mono_l k
  ·intro y0 y1 y2 y3 y4
   unfold queue_Given.j0; repeat' first
   | (with_reducible exact ih0 _ _ _ _ _)
   | (with_reducible exact LeO.refl _)
   | (with_reducible exact LeO.none _)
   | (with_reducible refine LeO.ite ?_ ?_)
   | (with_reducible refine LeO.bind ?_ (fun _ => ?_))
   | exact ih0 _ _ _ _ _
   | exact LeO.none _
   | refine LeO.ite ?_ ?_
   | refine LeO.bind ?_ (fun _ => ?_)
theorem queue_Given.mono : ∀ a0 a1 a2 a3 a4 a5 k, LeO (queue_Given.f k a0 a1 a2 a3 a4 a5) (queue_Given.f (k + 1) a0 a1 a2 a3 a4 a5) := by
 intro a0 a1 a2 a3 a4 a5 k
 have ih0 := queue_Given.mono_l k; unfold queue_Given.f
 repeat' first
   | (with_reducible exact ih0 _ _ _ _ _)
   | (with_reducible exact LeO.refl _)
   | (with_reducible exact LeO.none _)
   | (with_reducible refine LeO.ite ?_ ?_)
   | (with_reducible refine LeO.bind ?_ (fun _ => ?_))
   | exact ih0 _ _ _ _ _
   | exact LeO.none _
   | refine LeO.ite ?_ ?_
   | refine LeO.bind ?_ (fun _ => ?_)
set_option maxHeartbeats 8000000 in
set_option maxRecDepth 100000 in
theorem queue_Given.calls (k : Nat) (a0_0 : Int) (a0_1 : Int) (a1_0 : Int) (a1_1 : Int) (a1_2 : Int) (a2 : Int) (r1 : Int) (r2 : Int) (r3 : Int) (r4 : Bool) (w : World) (h : queue_Given.f k a0_0 a0_1 a1_0 a1_1 a1_2 a2 = some (r1, r2, r3, r4)) :
  Calls Try.prog 49 #[.agg #[.int .i64 a0_0, .int .i64 a0_1], .agg #[.int .i64 a1_0, .int .u64 a1_1, .int .u64 a1_2], .int .u64 a2] w fun e w' => e = .returned (.tuple #[.agg #[.int .i64 r1, .int .u64 r2, .int .u64 r3], .bool r4]) ∧ Below w.heap.size w w' := by
 have hu38 := Try.underlying38; have hu56 := Try.underlying56; have HB := aA (Below.refl w.heap.size w); have H : (if a1_0 = 0 then (queue_Given.j0 k a2 (a2 != (IntKind.u64.wrap (a1_1 + 1))) a1_0 a1_1 a1_2) else (queue_Given.j0 k a2 false a1_0 a1_1 a1_2)) = some (r1, r2, r3, r4) := h; clear h; have HC4 := aA H; clear H; go_enter Try.func49, Try.ntmps49; go_upto_region 3 with (first | ((with_reducible refine gate_dst (N := 3) rfl ?_); refine box_event ?hg (N := 3) ?hd (cs := #[.int .i64 a0_0, .int .i64 a0_1]) (t := 38) ?hr ?_; (case hd => rfl); (case hg => rfl); (case hr => first | (go_simp; done) | (go_simp; rfl)); intro Ji hg w5 hbox hb; have n0_ := aA (below_step (blw HB.out) hb); have n1_ := aA (hbox); have n2_ := aA ((by rw [hg]; exact (below_size (blw HB.out)) : w.heap.size ≤ Ji)); have n3_ := aA ((by rw [hg]; exact (below_size (blw HB.out)) : w.heap.size ≤ Ji)); clear HB; have HB := n0_; have Jj := n1_; have GW157 := n2_; have Jp := n3_; clear n0_ n1_ n2_ n3_ hb hbox hg) | ((with_reducible refine gate_dst (N := 4) rfl ?_); refine box_event ?hg (N := 4) ?hd (cs := #[.int .i64 a1_0, .int .u64 a1_1, .int .u64 a1_2]) (t := 56) ?hr ?_; (case hd => rfl); (case hg => rfl); (case hr => first | (go_simp; done) | (go_simp; rfl)); intro Jc hg w6 hbox hb; have n0_ := aA (blk_below (g := Ji) (o := .cells #[.int .i64 a0_0, .int .i64 a0_1] 38 (0, 0)) (bku Jj.out) hb); have n1_ := aA (below_step (bls HB.out) hb); have n2_ := aA (hbox); have n3_ := aA ((by rw [hg]; exact (below_size (bls HB.out)) : w.heap.size ≤ Jc)); have n4_ := aA ((by rw [hg]; exact (below_size (bls HB.out)) : w.heap.size ≤ Jc)); have n5_ := aA ((by rw [hg]; exact Nat.ne_of_lt (blk_lt (g := Ji) (o := .cells #[.int .i64 a0_0, .int .i64 a0_1] 38 (0, 0)) (bku Jj.out)) : Ji ≠ Jc)); have n6_ := aA ((by rw [hg]; exact Nat.ne_of_gt (blk_lt (g := Ji) (o := .cells #[.int .i64 a0_0, .int .i64 a0_1] 38 (0, 0)) (bku Jj.out)) : Jc ≠ Ji)); clear Jj HB; have Jj := n0_; have HB := n1_; have Ja := n2_; have GW158 := n3_; have Jq := n4_; have Jk := n5_; have Jl := n6_; clear n0_ n1_ n2_ n3_ n4_ n5_ n6_ hb hbox hg) | ((with_reducible refine gate_dst (N := 6) rfl ?_); refine box_event ?hg (N := 6) ?hd (cs := #[.int .i64 0, .int .u64 0, .int .u64 0]) (t := 56) ?hr ?_; (case hd => rfl); (case hg => rfl); (case hr => first | (go_simp; done) | (go_simp; rfl)); intro Jd hg w7 hbox hb; have n0_ := aA (blk_below (g := Ji) (o := .cells #[.int .i64 a0_0, .int .i64 a0_1] 38 (0, 0)) (bku Jj.out) hb); have n1_ := aA (blk_below (g := Jc) (o := .cells #[.int .i64 a1_0, .int .u64 a1_1, .int .u64 a1_2] 56 (0, 0)) (bku Ja.out) hb); have n2_ := aA (below_step (bls HB.out) hb); have n3_ := aA (hbox); have n4_ := aA ((by rw [hg]; exact (below_size (bls HB.out)) : w.heap.size ≤ Jd)); have n5_ := aA ((by rw [hg]; exact (below_size (bls HB.out)) : w.heap.size ≤ Jd)); have n6_ := aA ((by rw [hg]; exact Nat.ne_of_lt (blk_lt (g := Ji) (o := .cells #[.int .i64 a0_0, .int .i64 a0_1] 38 (0, 0)) (bku Jj.out)) : Ji ≠ Jd)); have n7_ := aA ((by rw [hg]; exact Nat.ne_of_gt (blk_lt (g := Ji) (o := .cells #[.int .i64 a0_0, .int .i64 a0_1] 38 (0, 0)) (bku Jj.out)) : Jd ≠ Ji)); have n8_ := aA ((by rw [hg]; exact Nat.ne_of_lt (blk_lt (g := Jc) (o := .cells #[.int .i64 a1_0, .int .u64 a1_1, .int .u64 a1_2] 56 (0, 0)) (bku Ja.out)) : Jc ≠ Jd)); have n9_ := aA ((by rw [hg]; exact Nat.ne_of_gt (blk_lt (g := Jc) (o := .cells #[.int .i64 a1_0, .int .u64 a1_1, .int .u64 a1_2] 56 (0, 0)) (bku Ja.out)) : Jd ≠ Jc)); clear Jj Ja HB; have Jj := n0_; have Ja := n1_; have HB := n2_; have Jb := n3_; have GW159 := n4_; have Jr := n5_; have Jn := n6_; have Jo := n7_; have Jm := n8_; have Je := n9_; clear n0_ n1_ n2_ n3_ n4_ n5_ n6_ n7_ n8_ n9_ hb hbox hg))
 (try simp only [Act.put, List.setIfInBounds_toArray, List.set_cons_zero, List.set_cons_succ]); go_cut [14] (fun v14 wc => ∃ (kq : Nat) (Js : Bool), v14 = .bool Js ∧ Aside0 (queue_Given.j0 kq a2 Js a1_0 a1_1 a1_2 = some (r1, r2, r3, r4)) ∧ Aside0 (kq ≤ k) ∧ Aside0 (wc.heap[Ji]? = some (.cells #[.int .i64 a0_0, .int .i64 a0_1] 38 (0, 0))) ∧ Aside0 (wc.heap[Jc]? = some (.cells #[.int .i64 a1_0, .int .u64 a1_1, .int .u64 a1_2] 56 (0, 0))) ∧ Aside0 (wc.heap[Jd]? = some (.cells #[.int .i64 0, .int .u64 0, .int .u64 0] 56 (0, 0))) ∧ Aside0 (Below w.heap.size w wc))
 case first =>
  have H := HC4.out; clear HC4; by_cases c8 : a1_0 = 0
  ·rw [if_pos c8] at H; have c8b0 : (a1_0 == 0) = true := beq_iff_eq.mpr c8; have c8b1 : (a1_0 != 0) = false := bne_eq_false_iff_eq.mpr c8; clear c8; (first | rw [c8b0] | (simp only [i64_w, i32_w]; rw [c8b0]) | skip)
   have H' := aA H; clear H; have hnb9 := Jl.out; have hnc9 := Jk.out; have hnb10 := Jm.out; have hnc10 := Je.out; have hcz11_0 : w7.cell? ⟨Jc, 0, none⟩ = some (.int .i64 a1_0) := (blk_cell Ja.out 0).trans rfl; have hcz11_1 : w7.cell? ⟨Jc, 1, none⟩ = some (.int .u64 a1_1) := (blk_cell Ja.out 1).trans rfl; have hcz11_2 : w7.cell? ⟨Jc, 2, none⟩ = some (.int .u64 a1_2) := (blk_cell Ja.out 2).trans rfl; have hfz11_0 := blk_frozen Ja.out 0; have hfz11_1 := blk_frozen Ja.out 1; have hfz11_2 := blk_frozen Ja.out 2; go_wp2; (first | go_meet | (refine Met.intro ?_; go_step; (try rw [c8b0]); (repeat apply Exists.intro); refine ⟨?rel, rfl⟩))
   case rel => exact ⟨_, ((a2 != (IntKind.u64.wrap (a1_1 + 1)))), (by first | rfl | (simp; done) | (simp [*]; done)), H', ⟨by first | omega | exact Nat.le_refl _⟩, ⟨by (with_reducible repeat (first | refine blk_drewN ?_ _ | refine blk_drew ?_ | refine blk_alloc ?_ _)); exact Jj.out⟩, ⟨by (with_reducible repeat (first | refine blk_drewN ?_ _ | refine blk_drew ?_ | refine blk_alloc ?_ _)); exact Ja.out⟩, ⟨by (with_reducible repeat (first | refine blk_drewN ?_ _ | refine blk_drew ?_ | refine blk_alloc ?_ _)); exact Jb.out⟩, ⟨by repeat (first | (with_reducible first | exact HB.out | apply below_alloc | apply pw_below_drewN | apply below_drew1 | refine below_set ?_ Jp.out | refine below_set ?_ Jq.out | refine below_set ?_ Jr.out) | exact HB.out)⟩⟩
  ·rw [if_neg c8] at H; have c8b0 : (a1_0 == 0) = false := beq_eq_false_iff_ne.mpr c8; have c8b1 : (a1_0 != 0) = true := bne_iff_ne.mpr c8; (first | rw [c8b0] | (simp only [i64_w, i32_w]; rw [c8b0]) | skip)
   have H' := aA H; clear H; have hnb12 := Jl.out; have hnc12 := Jk.out; have hnb13 := Jm.out; have hnc13 := Je.out; have hcz14_0 : w7.cell? ⟨Jc, 0, none⟩ = some (.int .i64 a1_0) := (blk_cell Ja.out 0).trans rfl; have hcz14_1 : w7.cell? ⟨Jc, 1, none⟩ = some (.int .u64 a1_1) := (blk_cell Ja.out 1).trans rfl; have hcz14_2 : w7.cell? ⟨Jc, 2, none⟩ = some (.int .u64 a1_2) := (blk_cell Ja.out 2).trans rfl; have hfz14_0 := blk_frozen Ja.out 0; have hfz14_1 := blk_frozen Ja.out 1; have hfz14_2 := blk_frozen Ja.out 2; go_wp2; (first | go_meet | (refine Met.intro ?_; go_step; (try rw [c8b0]); (repeat apply Exists.intro); refine ⟨?rel, rfl⟩))
   case rel => exact ⟨_, (false), (by first | rfl | (simp; done) | (simp [*]; done)), H', ⟨by first | omega | exact Nat.le_refl _⟩, ⟨by (with_reducible repeat (first | refine blk_drewN ?_ _ | refine blk_drew ?_ | refine blk_alloc ?_ _)); exact Jj.out⟩, ⟨by (with_reducible repeat (first | refine blk_drewN ?_ _ | refine blk_drew ?_ | refine blk_alloc ?_ _)); exact Ja.out⟩, ⟨by (with_reducible repeat (first | refine blk_drewN ?_ _ | refine blk_drew ?_ | refine blk_alloc ?_ _)); exact Jb.out⟩, ⟨by repeat (first | (with_reducible first | exact HB.out | apply below_alloc | apply pw_below_drewN | apply below_drew1 | refine below_set ?_ Jp.out | refine below_set ?_ Jq.out | refine below_set ?_ Jr.out) | exact HB.out)⟩⟩
 case rest =>
  clear HC4; try clear c1
  try clear p2
  try clear c4
  try clear c8
  try clear c8b0
  try clear c8b1
  try clear c9
  try clear c10
  try clear c12
  try clear c13
  try clear hcz11_0
  try clear hcz11_1
  try clear hcz11_2
  try clear hcz14_0
  try clear hcz14_1
  try clear hcz14_2
  try clear hfz11_0
  try clear hfz11_1
  try clear hfz11_2
  try clear hfz14_0
  try clear hfz14_1
  try clear hfz14_2
  obtain ⟨kq, Js, rfl, HA, HJ3, Jj, Ja, Jb, HB⟩ := hcut; cases kq with
  | zero => exact absurd HA.out (by simp [queue_Given.j0])
  | succ kj3 =>
   have H := HA.out; clear HA; simp only [queue_Given.j0] at H; by_cases c15 : Js = true
   ·subst c15; have H1 : (some (a1_0, a1_1, a1_2, false)) = some (r1, r2, r3, r4) := by rw [if_pos rfl] at H; exact H
    clear H; have H := H1; clear H1; simp only [Option.some.injEq, Prod.mk.injEq] at H; obtain ⟨rfl, rfl, rfl, rfl⟩ := H; have hnb16 := Jl.out; have hnc16 := Jk.out; have hnb17 := Jm.out; have hnc17 := Je.out; have hcz18_0 : wc.cell? ⟨Jc, 0, none⟩ = some (.int .i64 a1_0) := (blk_cell Ja.out 0).trans rfl; have hcz18_1 : wc.cell? ⟨Jc, 1, none⟩ = some (.int .u64 a1_1) := (blk_cell Ja.out 1).trans rfl; have hcz18_2 : wc.cell? ⟨Jc, 2, none⟩ = some (.int .u64 a1_2) := (blk_cell Ja.out 2).trans rfl; have hfz18_0 := blk_frozen Ja.out 0; have hfz18_1 := blk_frozen Ja.out 1; have hfz18_2 := blk_frozen Ja.out 2; have hnb19 := Jo.out; have hnc19 := Jn.out; have hcz20_0 : wc.cell? ⟨Jd, 0, none⟩ = some (.int .i64 0) := (blk_cell Jb.out 0).trans rfl; have hcz20_1 : wc.cell? ⟨Jd, 1, none⟩ = some (.int .u64 0) := (blk_cell Jb.out 1).trans rfl; have hcz20_2 : wc.cell? ⟨Jd, 2, none⟩ = some (.int .u64 0) := (blk_cell Jb.out 2).trans rfl; have hfz20_0 := blk_frozen Jb.out 0; have hfz20_1 := blk_frozen Jb.out 1; have hfz20_2 := blk_frozen Jb.out 2; go_wp2; refine bodyPost_ret (results_ct rfl _ _ Jd 56 #[.int .i64 a1_0, .int .u64 a1_1, .int .u64 a1_2] (0, 0) _ rfl (by (with_reducible repeat (first | refine blk_drewN ?_ _ | refine blk_drew ?_ | refine blk_alloc ?_ _)); refine blk_put (cs := #[.int .i64 a1_0, .int .u64 a1_1, .int .u64 0]) ?_ 2 _ rfl; (with_reducible repeat (first | refine blk_drewN ?_ _ | refine blk_drew ?_ | refine blk_alloc ?_ _)); refine blk_put (cs := #[.int .i64 a1_0, .int .u64 0, .int .u64 0]) ?_ 1 _ rfl; (with_reducible repeat (first | refine blk_drewN ?_ _ | refine blk_drew ?_ | refine blk_alloc ?_ _)); refine blk_put (cs := #[.int .i64 0, .int .u64 0, .int .u64 0]) ?_ 0 _ rfl; (with_reducible repeat (first | refine blk_drewN ?_ _ | refine blk_drew ?_ | refine blk_alloc ?_ _)); exact Jb.out) Try.underlying56 rfl (by kernel_rfl)) rfl ?_; exact ⟨by first | rfl | (simp [errW_none, errW_some] <;> rfl) | (simp [*, errW_none, errW_some] <;> rfl), by repeat (first | (with_reducible first | exact HB.out | apply below_alloc | apply pw_below_drewN | apply below_drew1 | refine below_set ?_ Jp.out | refine below_set ?_ Jq.out | refine below_set ?_ Jr.out) | exact HB.out)⟩
   ·replace c15 := Bool.eq_false_iff.mpr c15; subst c15; have H1 : (if a1_0 = 0 then (some (1, a1_1, a1_2, false)) else (if a1_0 = 1 then (some (2, a1_1, a2, false)) else (some (0, IntKind.u64.wrap (a1_1 + 1), a1_2, true)))) = some (r1, r2, r3, r4) := by rw [if_neg (show ¬ (false = true) by decide)] at H; exact H
    clear H; have H := H1; clear H1; by_cases c21 : a1_0 = 0
    ·rw [if_pos c21] at H; have c21b0 : (a1_0 == 0) = true := beq_iff_eq.mpr c21; have c21b1 : (a1_0 != 0) = false := bne_eq_false_iff_eq.mpr c21; clear c21; simp only [Option.some.injEq, Prod.mk.injEq] at H; obtain ⟨rfl, rfl, rfl, rfl⟩ := H; have hnb22 := Jl.out; have hnc22 := Jk.out; have hnb23 := Jm.out; have hnc23 := Je.out; have hcz24_0 : wc.cell? ⟨Jc, 0, none⟩ = some (.int .i64 a1_0) := (blk_cell Ja.out 0).trans rfl; have hcz24_1 : wc.cell? ⟨Jc, 1, none⟩ = some (.int .u64 a1_1) := (blk_cell Ja.out 1).trans rfl; have hcz24_2 : wc.cell? ⟨Jc, 2, none⟩ = some (.int .u64 a1_2) := (blk_cell Ja.out 2).trans rfl; have hfz24_0 := blk_frozen Ja.out 0; have hfz24_1 := blk_frozen Ja.out 1; have hfz24_2 := blk_frozen Ja.out 2; have hnb25 := Jo.out; have hnc25 := Jn.out; have hcz26_0 : wc.cell? ⟨Jd, 0, none⟩ = some (.int .i64 0) := (blk_cell Jb.out 0).trans rfl; have hcz26_1 : wc.cell? ⟨Jd, 1, none⟩ = some (.int .u64 0) := (blk_cell Jb.out 1).trans rfl; have hcz26_2 : wc.cell? ⟨Jd, 2, none⟩ = some (.int .u64 0) := (blk_cell Jb.out 2).trans rfl; have hfz26_0 := blk_frozen Jb.out 0; have hfz26_1 := blk_frozen Jb.out 1; have hfz26_2 := blk_frozen Jb.out 2; go_wp2; refine bodyPost_ret (results_ct rfl _ _ Jd 56 #[.int .i64 1, .int .u64 a1_1, .int .u64 a1_2] (0, 0) _ rfl (by (with_reducible repeat (first | refine blk_drewN ?_ _ | refine blk_drew ?_ | refine blk_alloc ?_ _)); refine blk_put (cs := #[.int .i64 1, .int .u64 a1_1, .int .u64 0]) ?_ 2 _ rfl; (with_reducible repeat (first | refine blk_drewN ?_ _ | refine blk_drew ?_ | refine blk_alloc ?_ _)); refine blk_put (cs := #[.int .i64 1, .int .u64 0, .int .u64 0]) ?_ 1 _ rfl; (with_reducible repeat (first | refine blk_drewN ?_ _ | refine blk_drew ?_ | refine blk_alloc ?_ _)); refine blk_put (cs := #[.int .i64 0, .int .u64 0, .int .u64 0]) ?_ 0 _ rfl; (with_reducible repeat (first | refine blk_drewN ?_ _ | refine blk_drew ?_ | refine blk_alloc ?_ _)); refine blk_far ?_ Je.out _; (with_reducible repeat (first | refine blk_drewN ?_ _ | refine blk_drew ?_ | refine blk_alloc ?_ _)); exact Jb.out) Try.underlying56 rfl (by kernel_rfl)) rfl ?_; exact ⟨by first | rfl | (simp [errW_none, errW_some] <;> rfl) | (simp [*, errW_none, errW_some] <;> rfl), by repeat (first | (with_reducible first | exact HB.out | apply below_alloc | apply pw_below_drewN | apply below_drew1 | refine below_set ?_ Jp.out | refine below_set ?_ Jq.out | refine below_set ?_ Jr.out) | exact HB.out)⟩
    ·rw [if_neg c21] at H; have c21b0 : (a1_0 == 0) = false := beq_eq_false_iff_ne.mpr c21; have c21b1 : (a1_0 != 0) = true := bne_iff_ne.mpr c21; by_cases c27 : a1_0 = 1
     ·rw [if_pos c27] at H; have c27b0 : (a1_0 == 1) = true := beq_iff_eq.mpr c27; have c27b1 : (a1_0 != 1) = false := bne_eq_false_iff_eq.mpr c27; clear c27; simp only [Option.some.injEq, Prod.mk.injEq] at H; obtain ⟨rfl, rfl, rfl, rfl⟩ := H; have hnb28 := Jl.out; have hnc28 := Jk.out; have hnb29 := Jm.out; have hnc29 := Je.out; have hcz30_0 : wc.cell? ⟨Jc, 0, none⟩ = some (.int .i64 a1_0) := (blk_cell Ja.out 0).trans rfl; have hcz30_1 : wc.cell? ⟨Jc, 1, none⟩ = some (.int .u64 a1_1) := (blk_cell Ja.out 1).trans rfl; have hcz30_2 : wc.cell? ⟨Jc, 2, none⟩ = some (.int .u64 a1_2) := (blk_cell Ja.out 2).trans rfl; have hfz30_0 := blk_frozen Ja.out 0; have hfz30_1 := blk_frozen Ja.out 1; have hfz30_2 := blk_frozen Ja.out 2; have hnb31 := Jo.out; have hnc31 := Jn.out; have hcz32_0 : wc.cell? ⟨Jd, 0, none⟩ = some (.int .i64 0) := (blk_cell Jb.out 0).trans rfl; have hcz32_1 : wc.cell? ⟨Jd, 1, none⟩ = some (.int .u64 0) := (blk_cell Jb.out 1).trans rfl; have hcz32_2 : wc.cell? ⟨Jd, 2, none⟩ = some (.int .u64 0) := (blk_cell Jb.out 2).trans rfl; have hfz32_0 := blk_frozen Jb.out 0; have hfz32_1 := blk_frozen Jb.out 1; have hfz32_2 := blk_frozen Jb.out 2; go_wp2; refine bodyPost_ret (results_ct rfl _ _ Jd 56 #[.int .i64 2, .int .u64 a1_1, .int .u64 a2] (0, 0) _ rfl (by (with_reducible repeat (first | refine blk_drewN ?_ _ | refine blk_drew ?_ | refine blk_alloc ?_ _)); refine blk_put (cs := #[.int .i64 2, .int .u64 a1_1, .int .u64 0]) ?_ 2 _ rfl; (with_reducible repeat (first | refine blk_drewN ?_ _ | refine blk_drew ?_ | refine blk_alloc ?_ _)); refine blk_put (cs := #[.int .i64 2, .int .u64 0, .int .u64 0]) ?_ 1 _ rfl; (with_reducible repeat (first | refine blk_drewN ?_ _ | refine blk_drew ?_ | refine blk_alloc ?_ _)); refine blk_put (cs := #[.int .i64 0, .int .u64 0, .int .u64 0]) ?_ 0 _ rfl; (with_reducible repeat (first | refine blk_drewN ?_ _ | refine blk_drew ?_ | refine blk_alloc ?_ _)); refine blk_far ?_ Je.out _; (with_reducible repeat (first | refine blk_drewN ?_ _ | refine blk_drew ?_ | refine blk_alloc ?_ _)); refine blk_far ?_ Je.out _; (with_reducible repeat (first | refine blk_drewN ?_ _ | refine blk_drew ?_ | refine blk_alloc ?_ _)); exact Jb.out) Try.underlying56 rfl (by kernel_rfl)) rfl ?_; exact ⟨by first | rfl | (simp [errW_none, errW_some] <;> rfl) | (simp [*, errW_none, errW_some] <;> rfl), by repeat (first | (with_reducible first | exact HB.out | apply below_alloc | apply pw_below_drewN | apply below_drew1 | refine below_set ?_ Jp.out | refine below_set ?_ Jq.out | refine below_set ?_ Jr.out) | exact HB.out)⟩
     ·rw [if_neg c27] at H; have c27b0 : (a1_0 == 1) = false := beq_eq_false_iff_ne.mpr c27; have c27b1 : (a1_0 != 1) = true := bne_iff_ne.mpr c27; simp only [Option.some.injEq, Prod.mk.injEq] at H; obtain ⟨rfl, rfl, rfl, rfl⟩ := H; have hnb33 := Jl.out; have hnc33 := Jk.out; have hnb34 := Jm.out; have hnc34 := Je.out; have hcz35_0 : wc.cell? ⟨Jc, 0, none⟩ = some (.int .i64 a1_0) := (blk_cell Ja.out 0).trans rfl; have hcz35_1 : wc.cell? ⟨Jc, 1, none⟩ = some (.int .u64 a1_1) := (blk_cell Ja.out 1).trans rfl; have hcz35_2 : wc.cell? ⟨Jc, 2, none⟩ = some (.int .u64 a1_2) := (blk_cell Ja.out 2).trans rfl; have hfz35_0 := blk_frozen Ja.out 0; have hfz35_1 := blk_frozen Ja.out 1; have hfz35_2 := blk_frozen Ja.out 2; have hnb36 := Jo.out; have hnc36 := Jn.out; have hcz37_0 : wc.cell? ⟨Jd, 0, none⟩ = some (.int .i64 0) := (blk_cell Jb.out 0).trans rfl; have hcz37_1 : wc.cell? ⟨Jd, 1, none⟩ = some (.int .u64 0) := (blk_cell Jb.out 1).trans rfl; have hcz37_2 : wc.cell? ⟨Jd, 2, none⟩ = some (.int .u64 0) := (blk_cell Jb.out 2).trans rfl; have hfz37_0 := blk_frozen Jb.out 0; have hfz37_1 := blk_frozen Jb.out 1; have hfz37_2 := blk_frozen Jb.out 2; go_wp2; refine bodyPost_ret (results_ct rfl _ _ Jd 56 #[.int .i64 0, .int .u64 (IntKind.u64.wrap (a1_1 + 1)), .int .u64 a1_2] (0, 0) _ rfl (by (with_reducible repeat (first | refine blk_drewN ?_ _ | refine blk_drew ?_ | refine blk_alloc ?_ _)); refine blk_put (cs := #[.int .i64 0, .int .u64 (IntKind.u64.wrap (a1_1 + 1)), .int .u64 0]) ?_ 2 _ rfl; (with_reducible repeat (first | refine blk_drewN ?_ _ | refine blk_drew ?_ | refine blk_alloc ?_ _)); refine blk_put (cs := #[.int .i64 0, .int .u64 0, .int .u64 0]) ?_ 1 _ rfl; (with_reducible repeat (first | refine blk_drewN ?_ _ | refine blk_drew ?_ | refine blk_alloc ?_ _)); refine blk_put (cs := #[.int .i64 0, .int .u64 0, .int .u64 0]) ?_ 0 _ rfl; (with_reducible repeat (first | refine blk_drewN ?_ _ | refine blk_drew ?_ | refine blk_alloc ?_ _)); refine blk_far ?_ Je.out _; (with_reducible repeat (first | refine blk_drewN ?_ _ | refine blk_drew ?_ | refine blk_alloc ?_ _)); refine blk_far ?_ Je.out _; (with_reducible repeat (first | refine blk_drewN ?_ _ | refine blk_drew ?_ | refine blk_alloc ?_ _)); exact Jb.out) Try.underlying56 rfl (by kernel_rfl)) rfl ?_; exact ⟨by first | rfl | (simp [errW_none, errW_some] <;> rfl) | (simp [*, errW_none, errW_some] <;> rfl), by repeat (first | (with_reducible first | exact HB.out | apply below_alloc | apply pw_below_drewN | apply below_drew1 | refine below_set ?_ Jp.out | refine below_set ?_ Jq.out | refine below_set ?_ Jr.out) | exact HB.out)⟩

/-! ### queue_Got: function 51 -/
mutual
def queue_Got.j0 : Nat → Int → Bool → Bool → Int → Int → Int → Option (Int × Int × Int)
 | 0, _, _, _, _, _, _ => none
 | k + 1, x1, x2, x14, Jf, Jg, Jh => if x14 = true then (some (6, Jg, Jh)) else (if Jf = 1 then (queue_Got.j1 k x2 (decide (x1 > Jg)) Jf Jg Jh) else (queue_Got.j1 k x2 false Jf Jg Jh))
def queue_Got.j1 : Nat → Bool → Bool → Int → Int → Int → Option (Int × Int × Int)
 | 0, _, _, _, _, _ => none
 | k + 1, x2, x25, Jf, Jg, Jh => if x25 = true then (queue_Got.j2 k x25 Jf Jg Jh) else (if Jf = 2 then (queue_Got.j2 k (!x2) Jf Jg Jh) else (queue_Got.j2 k false Jf Jg Jh))
def queue_Got.j2 : Nat → Bool → Int → Int → Int → Option (Int × Int × Int)
 | 0, _, _, _, _ => none
 | k + 1, x25, Jf, Jg, Jh => if x25 = true then (some (0, Jg, Jh)) else (if Jf ≥ 1 then (if Jf ≤ 4 then (some (wrap64 (Jf + 1), Jg, Jh)) else (some (Jf, Jg, Jh))) else (some (Jf, Jg, Jh)))
end
def queue_Got.f (k : Nat) (a0_0 : Int) (a0_1 : Int) (a0_2 : Int) (a1 : Int) (a2 : Bool) : Option (Int × Int × Int) := if a0_0 = 0 then (some (1, a1, a0_2)) else (if a0_0 = 1 then (queue_Got.j0 k a1 a2 (decide (a1 < a0_1)) a0_0 a0_1 a0_2) else (queue_Got.j0 k a1 a2 false a0_0 a0_1 a0_2))
theorem queue_Got.mono_l : ∀ k, (∀ y0 y1 y2 y3 y4 y5, LeO (queue_Got.j0 k y0 y1 y2 y3 y4 y5) (queue_Got.j0 (k + 1) y0 y1 y2 y3 y4 y5)) ∧ (∀ y0 y1 y2 y3 y4, LeO (queue_Got.j1 k y0 y1 y2 y3 y4) (queue_Got.j1 (k + 1) y0 y1 y2 y3 y4)) ∧ (∀ y0 y1 y2 y3, LeO (queue_Got.j2 k y0 y1 y2 y3) (queue_Got.j2 (k + 1) y0 y1 y2 y3))
 | 0 => ⟨fun _ _ _ _ _ _ r h => by simp [queue_Got.j0] at h, fun _ _ _ _ _ r h => by simp [queue_Got.j1] at h, fun _ _ _ _ r h => by simp [queue_Got.j2] at h⟩
 | k + 1 => by
  obtain ⟨ih0, ih1, ih2⟩ := queue_Got.mono_l k; refine ⟨?_, ?_, ?_⟩
  ·intro y0 y1 y2 y3 y4 y5
   unfold queue_Got.j0; repeat' first
   | (with_reducible exact ih0 _ _ _ _ _ _)
   | (with_reducible exact ih1 _ _ _ _ _)
   | (with_reducible exact ih2 _ _ _ _)
   | (with_reducible exact LeO.refl _)
   | (with_reducible exact LeO.none _)
   | (with_reducible refine LeO.ite ?_ ?_)
   | (with_reducible refine LeO.bind ?_ (fun _ => ?_))
   | exact ih0 _ _ _ _ _ _
   | exact ih1 _ _ _ _ _
   | exact ih2 _ _ _ _
   | exact LeO.none _
   | refine LeO.ite ?_ ?_
   | refine LeO.bind ?_ (fun _ => ?_)
  ·intro y0 y1 y2 y3 y4
   unfold queue_Got.j1; repeat' first
   | (with_reducible exact ih0 _ _ _ _ _ _)
   | (with_reducible exact ih1 _ _ _ _ _)
   | (with_reducible exact ih2 _ _ _ _)
   | (with_reducible exact LeO.refl _)
   | (with_reducible exact LeO.none _)
   | (with_reducible refine LeO.ite ?_ ?_)
   | (with_reducible refine LeO.bind ?_ (fun _ => ?_))
   | exact ih0 _ _ _ _ _ _
   | exact ih1 _ _ _ _ _
   | exact ih2 _ _ _ _
   | exact LeO.none _
   | refine LeO.ite ?_ ?_
   | refine LeO.bind ?_ (fun _ => ?_)
  ·intro y0 y1 y2 y3
   unfold queue_Got.j2; repeat' first
   | (with_reducible exact ih0 _ _ _ _ _ _)
   | (with_reducible exact ih1 _ _ _ _ _)
   | (with_reducible exact ih2 _ _ _ _)
   | (with_reducible exact LeO.refl _)
   | (with_reducible exact LeO.none _)
   | (with_reducible refine LeO.ite ?_ ?_)
   | (with_reducible refine LeO.bind ?_ (fun _ => ?_))
   | exact ih0 _ _ _ _ _ _
   | exact ih1 _ _ _ _ _
   | exact ih2 _ _ _ _
   | exact LeO.none _
   | refine LeO.ite ?_ ?_
   | refine LeO.bind ?_ (fun _ => ?_)
theorem queue_Got.mono : ∀ a0 a1 a2 a3 a4 k, LeO (queue_Got.f k a0 a1 a2 a3 a4) (queue_Got.f (k + 1) a0 a1 a2 a3 a4) := by
 intro a0 a1 a2 a3 a4 k
 obtain ⟨ih0, ih1, ih2⟩ := queue_Got.mono_l k; unfold queue_Got.f
 repeat' first
   | (with_reducible exact ih0 _ _ _ _ _ _)
   | (with_reducible exact ih1 _ _ _ _ _)
   | (with_reducible exact ih2 _ _ _ _)
   | (with_reducible exact LeO.refl _)
   | (with_reducible exact LeO.none _)
   | (with_reducible refine LeO.ite ?_ ?_)
   | (with_reducible refine LeO.bind ?_ (fun _ => ?_))
   | exact ih0 _ _ _ _ _ _
   | exact ih1 _ _ _ _ _
   | exact ih2 _ _ _ _
   | exact LeO.none _
   | refine LeO.ite ?_ ?_
   | refine LeO.bind ?_ (fun _ => ?_)
set_option maxHeartbeats 8000000 in
set_option maxRecDepth 100000 in
theorem queue_Got.calls (k : Nat) (a0_0 : Int) (a0_1 : Int) (a0_2 : Int) (a1 : Int) (a2 : Bool) (r1 : Int) (r2 : Int) (r3 : Int) (w : World) (h : queue_Got.f k a0_0 a0_1 a0_2 a1 a2 = some (r1, r2, r3)) :
  Calls Try.prog 51 #[.agg #[.int .i64 a0_0, .int .u64 a0_1, .int .u64 a0_2], .int .u64 a1, .bool a2] w fun e w' => e = .returned (.agg #[.int .i64 r1, .int .u64 r2, .int .u64 r3]) ∧ Below w.heap.size w w' := by
 have hu54 := Try.underlying54; have HB := aA (Below.refl w.heap.size w); have H : (if a0_0 = 0 then (some (1, a1, a0_2)) else (if a0_0 = 1 then (queue_Got.j0 k a1 a2 (decide (a1 < a0_1)) a0_0 a0_1 a0_2) else (queue_Got.j0 k a1 a2 false a0_0 a0_1 a0_2))) = some (r1, r2, r3) := h; clear h; by_cases c4 : a0_0 = 0
 ·rw [if_pos c4] at H; have c4b0 : (a0_0 == 0) = true := beq_iff_eq.mpr c4; have c4b1 : (a0_0 != 0) = false := bne_eq_false_iff_eq.mpr c4; clear c4; simp only [Option.some.injEq, Prod.mk.injEq] at H; obtain ⟨rfl, rfl, rfl⟩ := H; go_enter Try.func51, Try.ntmps51; go_wp2_with (first | ((with_reducible refine gate_dst (N := 3) rfl ?_); refine box_event ?hg (N := 3) ?hd (cs := #[.int .i64 a0_0, .int .u64 a0_1, .int .u64 a0_2]) (t := 54) ?hr ?_; (case hd => rfl); (case hg => rfl); (case hr => first | (go_simp; done) | (go_simp; rfl)); intro Jb hg w5 hbox hb; have n0_ := aA (below_step (blw HB.out) hb); have n1_ := aA (hbox); have n2_ := aA ((by rw [hg]; exact (below_size (blw HB.out)) : w.heap.size ≤ Jb)); have n3_ := aA ((by rw [hg]; exact (below_size (blw HB.out)) : w.heap.size ≤ Jb)); clear HB; have HB := n0_; have Ja := n1_; have GW160 := n2_; have Jg := n3_; clear n0_ n1_ n2_ n3_ hb hbox hg) | ((with_reducible refine gate_dst (N := 6) rfl ?_); refine box_event ?hg (N := 6) ?hd (cs := #[.int .i64 0, .int .u64 0, .int .u64 0]) (t := 54) ?hr ?_; (case hd => rfl); (case hg => rfl); (case hr => first | (go_simp; done) | (go_simp; rfl)); intro Jd hg w6 hbox hb; have n0_ := aA (blk_below (g := Jb) (o := .cells #[.int .i64 a0_0, .int .u64 a0_1, .int .u64 a0_2] 54 (0, 0)) (bku Ja.out) hb); have n1_ := aA (below_step (bls HB.out) hb); have n2_ := aA (hbox); have n3_ := aA ((by rw [hg]; exact (below_size (bls HB.out)) : w.heap.size ≤ Jd)); have n4_ := aA ((by rw [hg]; exact (below_size (bls HB.out)) : w.heap.size ≤ Jd)); have n5_ := aA ((by rw [hg]; exact Nat.ne_of_lt (blk_lt (g := Jb) (o := .cells #[.int .i64 a0_0, .int .u64 a0_1, .int .u64 a0_2] 54 (0, 0)) (bku Ja.out)) : Jb ≠ Jd)); have n6_ := aA ((by rw [hg]; exact Nat.ne_of_gt (blk_lt (g := Jb) (o := .cells #[.int .i64 a0_0, .int .u64 a0_1, .int .u64 a0_2] 54 (0, 0)) (bku Ja.out)) : Jd ≠ Jb)); clear Ja HB; have Ja := n0_; have HB := n1_; have Jc := n2_; have GW161 := n3_; have Jh := n4_; have Jf := n5_; have Je := n6_; clear n0_ n1_ n2_ n3_ n4_ n5_ n6_ hb hbox hg; have hnb7 := Jf.out; have hnc7 := Je.out; have J3 : w6.cell? ⟨Jb, 0, none⟩ = some (.int .i64 a0_0) := (blk_cell Ja.out 0).trans rfl; have J4 : w6.cell? ⟨Jb, 1, none⟩ = some (.int .u64 a0_1) := (blk_cell Ja.out 1).trans rfl; have J5 : w6.cell? ⟨Jb, 2, none⟩ = some (.int .u64 a0_2) := (blk_cell Ja.out 2).trans rfl; have J6 := blk_frozen Ja.out 0; have J7 := blk_frozen Ja.out 1; have J8 := blk_frozen Ja.out 2; have J9 : w6.cell? ⟨Jd, 0, none⟩ = some (.int .i64 0) := (blk_cell Jc.out 0).trans rfl; have Qa : w6.cell? ⟨Jd, 1, none⟩ = some (.int .u64 0) := (blk_cell Jc.out 1).trans rfl; have Qb : w6.cell? ⟨Jd, 2, none⟩ = some (.int .u64 0) := (blk_cell Jc.out 2).trans rfl; have Qc := blk_frozen Jc.out 0; have Qd := blk_frozen Jc.out 1; have Qe := blk_frozen Jc.out 2))
  refine bodyPost_ret (results_cell_row rfl _ _ Jd 54 #[.int .i64 1, .int .u64 a1, .int .u64 a0_2] (0, 0) _ rfl (by (with_reducible repeat (first | refine blk_drewN ?_ _ | refine blk_drew ?_ | refine blk_alloc ?_ _)); refine blk_put (cs := #[.int .i64 1, .int .u64 a1, .int .u64 0]) ?_ 2 _ rfl; (with_reducible repeat (first | refine blk_drewN ?_ _ | refine blk_drew ?_ | refine blk_alloc ?_ _)); refine blk_put (cs := #[.int .i64 1, .int .u64 0, .int .u64 0]) ?_ 1 _ rfl; (with_reducible repeat (first | refine blk_drewN ?_ _ | refine blk_drew ?_ | refine blk_alloc ?_ _)); refine blk_put (cs := #[.int .i64 0, .int .u64 0, .int .u64 0]) ?_ 0 _ rfl; (with_reducible repeat (first | refine blk_drewN ?_ _ | refine blk_drew ?_ | refine blk_alloc ?_ _)); refine blk_far ?_ Je.out _; (with_reducible repeat (first | refine blk_drewN ?_ _ | refine blk_drew ?_ | refine blk_alloc ?_ _)); refine blk_far ?_ Je.out _; (with_reducible repeat (first | refine blk_drewN ?_ _ | refine blk_drew ?_ | refine blk_alloc ?_ _)); exact Jc.out) Try.underlying54 rfl (by kernel_rfl)) rfl ?_; exact ⟨by first | rfl | (simp [errW_none, errW_some] <;> rfl) | (simp [*, errW_none, errW_some] <;> rfl), by repeat (first | (with_reducible first | exact HB.out | apply below_alloc | apply pw_below_drewN | apply below_drew1 | refine below_set ?_ Jg.out | refine below_set ?_ Jh.out) | exact HB.out)⟩
 ·rw [if_neg c4] at H; have c4b0 : (a0_0 == 0) = false := beq_eq_false_iff_ne.mpr c4; have c4b1 : (a0_0 != 0) = true := bne_iff_ne.mpr c4; have HC10 := aA H; clear H; go_enter Try.func51, Try.ntmps51; go_upto_region 3 with (first | ((with_reducible refine gate_dst (N := 3) rfl ?_); refine box_event ?hg (N := 3) ?hd (cs := #[.int .i64 a0_0, .int .u64 a0_1, .int .u64 a0_2]) (t := 54) ?hr ?_; (case hd => rfl); (case hg => rfl); (case hr => first | (go_simp; done) | (go_simp; rfl)); intro Jb hg w11 hbox hb; have n0_ := aA (below_step (blw HB.out) hb); have n1_ := aA (hbox); have n2_ := aA ((by rw [hg]; exact (below_size (blw HB.out)) : w.heap.size ≤ Jb)); have n3_ := aA ((by rw [hg]; exact (below_size (blw HB.out)) : w.heap.size ≤ Jb)); clear HB; have HB := n0_; have Ja := n1_; have GW160 := n2_; have Jg := n3_; clear n0_ n1_ n2_ n3_ hb hbox hg) | ((with_reducible refine gate_dst (N := 6) rfl ?_); refine box_event ?hg (N := 6) ?hd (cs := #[.int .i64 0, .int .u64 0, .int .u64 0]) (t := 54) ?hr ?_; (case hd => rfl); (case hg => rfl); (case hr => first | (go_simp; done) | (go_simp; rfl)); intro Jd hg w12 hbox hb; have n0_ := aA (blk_below (g := Jb) (o := .cells #[.int .i64 a0_0, .int .u64 a0_1, .int .u64 a0_2] 54 (0, 0)) (bku Ja.out) hb); have n1_ := aA (below_step (bls HB.out) hb); have n2_ := aA (hbox); have n3_ := aA ((by rw [hg]; exact (below_size (bls HB.out)) : w.heap.size ≤ Jd)); have n4_ := aA ((by rw [hg]; exact (below_size (bls HB.out)) : w.heap.size ≤ Jd)); have n5_ := aA ((by rw [hg]; exact Nat.ne_of_lt (blk_lt (g := Jb) (o := .cells #[.int .i64 a0_0, .int .u64 a0_1, .int .u64 a0_2] 54 (0, 0)) (bku Ja.out)) : Jb ≠ Jd)); have n6_ := aA ((by rw [hg]; exact Nat.ne_of_gt (blk_lt (g := Jb) (o := .cells #[.int .i64 a0_0, .int .u64 a0_1, .int .u64 a0_2] 54 (0, 0)) (bku Ja.out)) : Jd ≠ Jb)); clear Ja HB; have Ja := n0_; have HB := n1_; have Jc := n2_; have GW161 := n3_; have Jh := n4_; have Jf := n5_; have Je := n6_; clear n0_ n1_ n2_ n3_ n4_ n5_ n6_ hb hbox hg; have hnb13 := Jf.out; have hnc13 := Je.out; have Jk : w12.cell? ⟨Jb, 0, none⟩ = some (.int .i64 a0_0) := (blk_cell Ja.out 0).trans rfl; have Jl : w12.cell? ⟨Jb, 1, none⟩ = some (.int .u64 a0_1) := (blk_cell Ja.out 1).trans rfl; have Jm : w12.cell? ⟨Jb, 2, none⟩ = some (.int .u64 a0_2) := (blk_cell Ja.out 2).trans rfl; have Jn := blk_frozen Ja.out 0; have Jo := blk_frozen Ja.out 1; have Jp := blk_frozen Ja.out 2))
  (try simp only [Act.put, List.setIfInBounds_toArray, List.set_cons_zero, List.set_cons_succ]); go_cut [14] (fun v14 wc => ∃ (kq : Nat) (J2 : Bool), v14 = .bool J2 ∧ Aside0 (queue_Got.j0 kq a1 a2 J2 a0_0 a0_1 a0_2 = some (r1, r2, r3)) ∧ Aside0 (kq ≤ k) ∧ Aside0 (wc.heap[Jb]? = some (.cells #[.int .i64 a0_0, .int .u64 a0_1, .int .u64 a0_2] 54 (0, 0))) ∧ Aside0 (wc.heap[Jd]? = some (.cells #[.int .i64 0, .int .u64 0, .int .u64 0] 54 (0, 0))) ∧ Aside0 (Below w.heap.size w wc))
  case first =>
   have H := HC10.out; clear HC10; by_cases c15 : a0_0 = 1
   ·rw [if_pos c15] at H; have c15b0 : (a0_0 == 1) = true := beq_iff_eq.mpr c15; have c15b1 : (a0_0 != 1) = false := bne_eq_false_iff_eq.mpr c15; clear c15; (first | rw [c15b0] | (simp only [i64_w, i32_w]; rw [c15b0]) | skip)
    have H' := aA H; clear H; have hnb16 := Jf.out; have hnc16 := Je.out; have Jq : w12.cell? ⟨Jb, 0, none⟩ = some (.int .i64 a0_0) := (blk_cell Ja.out 0).trans rfl; have Jr : w12.cell? ⟨Jb, 1, none⟩ = some (.int .u64 a0_1) := (blk_cell Ja.out 1).trans rfl; have Js : w12.cell? ⟨Jb, 2, none⟩ = some (.int .u64 a0_2) := (blk_cell Ja.out 2).trans rfl; have Jt := blk_frozen Ja.out 0; have Ju := blk_frozen Ja.out 1; have Jv := blk_frozen Ja.out 2; go_wp2; (first | go_meet | (refine Met.intro ?_; go_step; (try rw [c15b0]); (repeat apply Exists.intro); refine ⟨?rel, rfl⟩))
    case rel => exact ⟨_, (decide (a1 < a0_1)), (by first | rfl | (simp; done) | (simp [*]; done)), H', ⟨by first | omega | exact Nat.le_refl _⟩, ⟨by (with_reducible repeat (first | refine blk_drewN ?_ _ | refine blk_drew ?_ | refine blk_alloc ?_ _)); exact Ja.out⟩, ⟨by (with_reducible repeat (first | refine blk_drewN ?_ _ | refine blk_drew ?_ | refine blk_alloc ?_ _)); exact Jc.out⟩, ⟨by repeat (first | (with_reducible first | exact HB.out | apply below_alloc | apply pw_below_drewN | apply below_drew1 | refine below_set ?_ Jg.out | refine below_set ?_ Jh.out) | exact HB.out)⟩⟩
   ·rw [if_neg c15] at H; have c15b0 : (a0_0 == 1) = false := beq_eq_false_iff_ne.mpr c15; have c15b1 : (a0_0 != 1) = true := bne_iff_ne.mpr c15; (first | rw [c15b0] | (simp only [i64_w, i32_w]; rw [c15b0]) | skip)
    have H' := aA H; clear H; have hnb18 := Jf.out; have hnc18 := Je.out; have Jw : w12.cell? ⟨Jb, 0, none⟩ = some (.int .i64 a0_0) := (blk_cell Ja.out 0).trans rfl; have Jx : w12.cell? ⟨Jb, 1, none⟩ = some (.int .u64 a0_1) := (blk_cell Ja.out 1).trans rfl; have Jy : w12.cell? ⟨Jb, 2, none⟩ = some (.int .u64 a0_2) := (blk_cell Ja.out 2).trans rfl; have Jz := blk_frozen Ja.out 0; have J0 := blk_frozen Ja.out 1; have J1 := blk_frozen Ja.out 2; go_wp2; (first | go_meet | (refine Met.intro ?_; go_step; (try rw [c15b0]); (repeat apply Exists.intro); refine ⟨?rel, rfl⟩))
    case rel => exact ⟨_, (false), (by first | rfl | (simp; done) | (simp [*]; done)), H', ⟨by first | omega | exact Nat.le_refl _⟩, ⟨by (with_reducible repeat (first | refine blk_drewN ?_ _ | refine blk_drew ?_ | refine blk_alloc ?_ _)); exact Ja.out⟩, ⟨by (with_reducible repeat (first | refine blk_drewN ?_ _ | refine blk_drew ?_ | refine blk_alloc ?_ _)); exact Jc.out⟩, ⟨by repeat (first | (with_reducible first | exact HB.out | apply below_alloc | apply pw_below_drewN | apply below_drew1 | refine below_set ?_ Jg.out | refine below_set ?_ Jh.out) | exact HB.out)⟩⟩
  case rest =>
   clear HC10; try clear c1
   try clear p2
   try clear c4
   try clear c4b0
   try clear c4b1
   try clear c5
   try clear c7
   try clear c13
   try clear c15
   try clear c15b0
   try clear c15b1
   try clear c16
   try clear c18
   try clear Jk
   try clear Jl
   try clear Jm
   try clear Jq
   try clear Jr
   try clear Js
   try clear Jw
   try clear Jx
   try clear Jy
   try clear J3
   try clear J4
   try clear J5
   try clear J9
   try clear Qa
   try clear Qb
   try clear Jn
   try clear Jo
   try clear Jp
   try clear Jt
   try clear Ju
   try clear Jv
   try clear Jz
   try clear J0
   try clear J1
   try clear J6
   try clear J7
   try clear J8
   try clear Qc
   try clear Qd
   try clear Qe
   obtain ⟨kq, J2, rfl, HA, HJ9, Ja, Jc, HB⟩ := hcut; cases kq with
   | zero => exact absurd HA.out (by simp [queue_Got.j0])
   | succ kj9 =>
    have H := HA.out; clear HA; simp only [queue_Got.j0] at H; by_cases c20 : J2 = true
    ·subst c20; have H1 : (some (6, a0_1, a0_2)) = some (r1, r2, r3) := by rw [if_pos rfl] at H; exact H
     clear H; have H := H1; clear H1; simp only [Option.some.injEq, Prod.mk.injEq] at H; obtain ⟨rfl, rfl, rfl⟩ := H; have hnb21 := Jf.out; have hnc21 := Je.out; have Qf : wc.cell? ⟨Jb, 0, none⟩ = some (.int .i64 a0_0) := (blk_cell Ja.out 0).trans rfl; have Qg : wc.cell? ⟨Jb, 1, none⟩ = some (.int .u64 a0_1) := (blk_cell Ja.out 1).trans rfl; have Qh : wc.cell? ⟨Jb, 2, none⟩ = some (.int .u64 a0_2) := (blk_cell Ja.out 2).trans rfl; have Qi := blk_frozen Ja.out 0; have Qj := blk_frozen Ja.out 1; have Qk := blk_frozen Ja.out 2; have Ql : wc.cell? ⟨Jd, 0, none⟩ = some (.int .i64 0) := (blk_cell Jc.out 0).trans rfl; have Qm : wc.cell? ⟨Jd, 1, none⟩ = some (.int .u64 0) := (blk_cell Jc.out 1).trans rfl; have Qn : wc.cell? ⟨Jd, 2, none⟩ = some (.int .u64 0) := (blk_cell Jc.out 2).trans rfl; have Qo := blk_frozen Jc.out 0; have Qp := blk_frozen Jc.out 1; have Qq := blk_frozen Jc.out 2; go_wp2; refine bodyPost_ret (results_cell_row rfl _ _ Jd 54 #[.int .i64 6, .int .u64 a0_1, .int .u64 a0_2] (0, 0) _ rfl (by (with_reducible repeat (first | refine blk_drewN ?_ _ | refine blk_drew ?_ | refine blk_alloc ?_ _)); refine blk_put (cs := #[.int .i64 6, .int .u64 a0_1, .int .u64 0]) ?_ 2 _ rfl; (with_reducible repeat (first | refine blk_drewN ?_ _ | refine blk_drew ?_ | refine blk_alloc ?_ _)); refine blk_put (cs := #[.int .i64 6, .int .u64 0, .int .u64 0]) ?_ 1 _ rfl; (with_reducible repeat (first | refine blk_drewN ?_ _ | refine blk_drew ?_ | refine blk_alloc ?_ _)); refine blk_put (cs := #[.int .i64 0, .int .u64 0, .int .u64 0]) ?_ 0 _ rfl; (with_reducible repeat (first | refine blk_drewN ?_ _ | refine blk_drew ?_ | refine blk_alloc ?_ _)); refine blk_far ?_ Je.out _; (with_reducible repeat (first | refine blk_drewN ?_ _ | refine blk_drew ?_ | refine blk_alloc ?_ _)); exact Jc.out) Try.underlying54 rfl (by kernel_rfl)) rfl ?_; exact ⟨by first | rfl | (simp [errW_none, errW_some] <;> rfl) | (simp [*, errW_none, errW_some] <;> rfl), by repeat (first | (with_reducible first | exact HB.out | apply below_alloc | apply pw_below_drewN | apply below_drew1 | refine below_set ?_ Jg.out | refine below_set ?_ Jh.out) | exact HB.out)⟩
    ·replace c20 := Bool.eq_false_iff.mpr c20; subst c20; have H1 : (if a0_0 = 1 then (queue_Got.j1 kj9 a2 (decide (a1 > a0_1)) a0_0 a0_1 a0_2) else (queue_Got.j1 kj9 a2 false a0_0 a0_1 a0_2)) = some (r1, r2, r3) := by rw [if_neg (show ¬ (false = true) by decide)] at H; exact H
     clear H; have H := H1; clear H1; have HC24 := aA H; clear H; go_upto_region 5 with (fail)
     go_cut [25] (fun v25 wc => ∃ (kq : Nat) (Ji : Bool), v25 = .bool Ji ∧ Aside0 (queue_Got.j1 kq a2 Ji a0_0 a0_1 a0_2 = some (r1, r2, r3)) ∧ Aside0 (kq ≤ kj9) ∧ Aside0 (wc.heap[Jb]? = some (.cells #[.int .i64 a0_0, .int .u64 a0_1, .int .u64 a0_2] 54 (0, 0))) ∧ Aside0 (wc.heap[Jd]? = some (.cells #[.int .i64 0, .int .u64 0, .int .u64 0] 54 (0, 0))) ∧ Aside0 (Below w.heap.size w wc))
     case first =>
      have H := HC24.out; clear HC24; by_cases c25 : a0_0 = 1
      ·rw [if_pos c25] at H; have c25b0 : (a0_0 == 1) = true := beq_iff_eq.mpr c25; have c25b1 : (a0_0 != 1) = false := bne_eq_false_iff_eq.mpr c25; clear c25; (first | rw [c25b0] | (simp only [i64_w, i32_w]; rw [c25b0]) | skip)
       have H' := aA H; clear H; have hnb26 := Jf.out; have hnc26 := Je.out; have Qr : wc.cell? ⟨Jb, 0, none⟩ = some (.int .i64 a0_0) := (blk_cell Ja.out 0).trans rfl; have Qs : wc.cell? ⟨Jb, 1, none⟩ = some (.int .u64 a0_1) := (blk_cell Ja.out 1).trans rfl; have Qt : wc.cell? ⟨Jb, 2, none⟩ = some (.int .u64 a0_2) := (blk_cell Ja.out 2).trans rfl; have Qu := blk_frozen Ja.out 0; have Qv := blk_frozen Ja.out 1; have Qw := blk_frozen Ja.out 2; go_wp2; (first | go_meet | (refine Met.intro ?_; go_step; (try rw [c25b0]); (repeat apply Exists.intro); refine ⟨?rel, rfl⟩))
       case rel => exact ⟨_, (decide (a1 > a0_1)), (by first | rfl | (simp; done) | (simp [*]; done)), H', ⟨by have := HJ9.out; first | omega | exact Nat.le_refl _⟩, ⟨by (with_reducible repeat (first | refine blk_drewN ?_ _ | refine blk_drew ?_ | refine blk_alloc ?_ _)); exact Ja.out⟩, ⟨by (with_reducible repeat (first | refine blk_drewN ?_ _ | refine blk_drew ?_ | refine blk_alloc ?_ _)); exact Jc.out⟩, ⟨by repeat (first | (with_reducible first | exact HB.out | apply below_alloc | apply pw_below_drewN | apply below_drew1 | refine below_set ?_ Jg.out | refine below_set ?_ Jh.out) | exact HB.out)⟩⟩
      ·rw [if_neg c25] at H; have c25b0 : (a0_0 == 1) = false := beq_eq_false_iff_ne.mpr c25; have c25b1 : (a0_0 != 1) = true := bne_iff_ne.mpr c25; (first | rw [c25b0] | (simp only [i64_w, i32_w]; rw [c25b0]) | skip)
       have H' := aA H; clear H; have hnb28 := Jf.out; have hnc28 := Je.out; have Qx : wc.cell? ⟨Jb, 0, none⟩ = some (.int .i64 a0_0) := (blk_cell Ja.out 0).trans rfl; have Qy : wc.cell? ⟨Jb, 1, none⟩ = some (.int .u64 a0_1) := (blk_cell Ja.out 1).trans rfl; have Qz : wc.cell? ⟨Jb, 2, none⟩ = some (.int .u64 a0_2) := (blk_cell Ja.out 2).trans rfl; have Q0 := blk_frozen Ja.out 0; have Q1 := blk_frozen Ja.out 1; have Q2 := blk_frozen Ja.out 2; go_wp2; (first | go_meet | (refine Met.intro ?_; go_step; (try rw [c25b0]); (repeat apply Exists.intro); refine ⟨?rel, rfl⟩))
       case rel => exact ⟨_, (false), (by first | rfl | (simp; done) | (simp [*]; done)), H', ⟨by have := HJ9.out; first | omega | exact Nat.le_refl _⟩, ⟨by (with_reducible repeat (first | refine blk_drewN ?_ _ | refine blk_drew ?_ | refine blk_alloc ?_ _)); exact Ja.out⟩, ⟨by (with_reducible repeat (first | refine blk_drewN ?_ _ | refine blk_drew ?_ | refine blk_alloc ?_ _)); exact Jc.out⟩, ⟨by repeat (first | (with_reducible first | exact HB.out | apply below_alloc | apply pw_below_drewN | apply below_drew1 | refine below_set ?_ Jg.out | refine below_set ?_ Jh.out) | exact HB.out)⟩⟩
     case rest =>
      clear HC24; try clear c1
      try clear c2
      try clear p2
      try clear c4
      try clear c4b0
      try clear c4b1
      try clear c5
      try clear c7
      try clear c13
      try clear c15
      try clear c15b0
      try clear c15b1
      try clear c16
      try clear c18
      try clear c20
      try clear c21
      try clear c25
      try clear c25b0
      try clear c25b1
      try clear c26
      try clear c28
      try clear Jk
      try clear Jl
      try clear Jm
      try clear Jq
      try clear Jr
      try clear Js
      try clear Jw
      try clear Jx
      try clear Jy
      try clear Qf
      try clear Qg
      try clear Qh
      try clear Ql
      try clear Qm
      try clear Qn
      try clear Qr
      try clear Qs
      try clear Qt
      try clear Qx
      try clear Qy
      try clear Qz
      try clear J3
      try clear J4
      try clear J5
      try clear J9
      try clear Qa
      try clear Qb
      try clear Jn
      try clear Jo
      try clear Jp
      try clear Jt
      try clear Ju
      try clear Jv
      try clear Jz
      try clear J0
      try clear J1
      try clear Qi
      try clear Qj
      try clear Qk
      try clear Qo
      try clear Qp
      try clear Qq
      try clear Qu
      try clear Qv
      try clear Qw
      try clear Q0
      try clear Q1
      try clear Q2
      try clear J6
      try clear J7
      try clear J8
      try clear Qc
      try clear Qd
      try clear Qe
      try clear p2
      obtain ⟨kq, Ji, rfl, HA, HJ23, Ja, Jc, HB⟩ := hcut; cases kq with
      | zero => exact absurd HA.out (by simp [queue_Got.j1])
      | succ kj23 =>
       have H := HA.out; clear HA; simp only [queue_Got.j1] at H; have HC30 := aA H; clear H; go_upto_if 25 with (fail)
       go_cut [25] (fun v25 wc => ∃ (kq : Nat) (Jj : Bool), v25 = .bool Jj ∧ Aside0 (queue_Got.j2 kq Jj a0_0 a0_1 a0_2 = some (r1, r2, r3)) ∧ Aside0 (kq ≤ kj23) ∧ Aside0 (wc.heap[Jb]? = some (.cells #[.int .i64 a0_0, .int .u64 a0_1, .int .u64 a0_2] 54 (0, 0))) ∧ Aside0 (wc.heap[Jd]? = some (.cells #[.int .i64 0, .int .u64 0, .int .u64 0] 54 (0, 0))) ∧ Aside0 (Below w.heap.size w wc))
       case first =>
        have H := HC30.out; clear HC30; by_cases c31 : Ji = true
        ·subst c31; have H1 : (queue_Got.j2 kj23 true a0_0 a0_1 a0_2) = some (r1, r2, r3) := by rw [if_pos rfl] at H; exact H
         clear H; have H := H1; clear H1; have H' := aA H; clear H; go_wp2; go_meet
         case rel => exact ⟨_, (true), (by first | rfl | (simp; done) | (simp [*]; done)), H', ⟨by have := HJ9.out; have := HJ23.out; first | omega | exact Nat.le_refl _⟩, ⟨by (with_reducible repeat (first | refine blk_drewN ?_ _ | refine blk_drew ?_ | refine blk_alloc ?_ _)); exact Ja.out⟩, ⟨by (with_reducible repeat (first | refine blk_drewN ?_ _ | refine blk_drew ?_ | refine blk_alloc ?_ _)); exact Jc.out⟩, ⟨by repeat (first | (with_reducible first | exact HB.out | apply below_alloc | apply pw_below_drewN | apply below_drew1 | refine below_set ?_ Jg.out | refine below_set ?_ Jh.out) | exact HB.out)⟩⟩
        ·replace c31 := Bool.eq_false_iff.mpr c31; subst c31; have H1 : (if a0_0 = 2 then (queue_Got.j2 kj23 (!a2) a0_0 a0_1 a0_2) else (queue_Got.j2 kj23 false a0_0 a0_1 a0_2)) = some (r1, r2, r3) := by rw [if_neg (show ¬ (false = true) by decide)] at H; exact H
         clear H; have H := H1; clear H1; by_cases c32 : a0_0 = 2
         ·rw [if_pos c32] at H; have c32b0 : (a0_0 == 2) = true := beq_iff_eq.mpr c32; have c32b1 : (a0_0 != 2) = false := bne_eq_false_iff_eq.mpr c32; clear c32; (first | rw [c32b0] | (simp only [i64_w, i32_w]; rw [c32b0]) | skip)
          have H' := aA H; clear H; have hnb33 := Jf.out; have hnc33 := Je.out; have hcz34_0 : wc.cell? ⟨Jb, 0, none⟩ = some (.int .i64 a0_0) := (blk_cell Ja.out 0).trans rfl; have hcz34_1 : wc.cell? ⟨Jb, 1, none⟩ = some (.int .u64 a0_1) := (blk_cell Ja.out 1).trans rfl; have hcz34_2 : wc.cell? ⟨Jb, 2, none⟩ = some (.int .u64 a0_2) := (blk_cell Ja.out 2).trans rfl; have hfz34_0 := blk_frozen Ja.out 0; have hfz34_1 := blk_frozen Ja.out 1; have hfz34_2 := blk_frozen Ja.out 2; go_wp2; (first | go_meet | (refine Met.intro ?_; go_step; (try rw [c32b0]); (repeat apply Exists.intro); refine ⟨?rel, rfl⟩))
          case rel => exact ⟨_, (!a2), (by first | rfl | (simp; done) | (simp [*]; done)), H', ⟨by have := HJ9.out; have := HJ23.out; first | omega | exact Nat.le_refl _⟩, ⟨by (with_reducible repeat (first | refine blk_drewN ?_ _ | refine blk_drew ?_ | refine blk_alloc ?_ _)); exact Ja.out⟩, ⟨by (with_reducible repeat (first | refine blk_drewN ?_ _ | refine blk_drew ?_ | refine blk_alloc ?_ _)); exact Jc.out⟩, ⟨by repeat (first | (with_reducible first | exact HB.out | apply below_alloc | apply pw_below_drewN | apply below_drew1 | refine below_set ?_ Jg.out | refine below_set ?_ Jh.out) | exact HB.out)⟩⟩
         ·rw [if_neg c32] at H; have c32b0 : (a0_0 == 2) = false := beq_eq_false_iff_ne.mpr c32; have c32b1 : (a0_0 != 2) = true := bne_iff_ne.mpr c32; (first | rw [c32b0] | (simp only [i64_w, i32_w]; rw [c32b0]) | skip)
          have H' := aA H; clear H; have hnb35 := Jf.out; have hnc35 := Je.out; have hcz36_0 : wc.cell? ⟨Jb, 0, none⟩ = some (.int .i64 a0_0) := (blk_cell Ja.out 0).trans rfl; have hcz36_1 : wc.cell? ⟨Jb, 1, none⟩ = some (.int .u64 a0_1) := (blk_cell Ja.out 1).trans rfl; have hcz36_2 : wc.cell? ⟨Jb, 2, none⟩ = some (.int .u64 a0_2) := (blk_cell Ja.out 2).trans rfl; have hfz36_0 := blk_frozen Ja.out 0; have hfz36_1 := blk_frozen Ja.out 1; have hfz36_2 := blk_frozen Ja.out 2; go_wp2; (first | go_meet | (refine Met.intro ?_; go_step; (try rw [c32b0]); (repeat apply Exists.intro); refine ⟨?rel, rfl⟩))
          case rel => exact ⟨_, (false), (by first | rfl | (simp; done) | (simp [*]; done)), H', ⟨by have := HJ9.out; have := HJ23.out; first | omega | exact Nat.le_refl _⟩, ⟨by (with_reducible repeat (first | refine blk_drewN ?_ _ | refine blk_drew ?_ | refine blk_alloc ?_ _)); exact Ja.out⟩, ⟨by (with_reducible repeat (first | refine blk_drewN ?_ _ | refine blk_drew ?_ | refine blk_alloc ?_ _)); exact Jc.out⟩, ⟨by repeat (first | (with_reducible first | exact HB.out | apply below_alloc | apply pw_below_drewN | apply below_drew1 | refine below_set ?_ Jg.out | refine below_set ?_ Jh.out) | exact HB.out)⟩⟩
       case rest =>
        clear HC30; try clear c1
        try clear c2
        try clear p2
        try clear c3
        try clear c4
        try clear c4b0
        try clear c4b1
        try clear c5
        try clear c7
        try clear c13
        try clear c15
        try clear c15b0
        try clear c15b1
        try clear c16
        try clear c18
        try clear c20
        try clear c21
        try clear c25
        try clear c25b0
        try clear c25b1
        try clear c26
        try clear c28
        try clear c31
        try clear c32
        try clear c32b0
        try clear c32b1
        try clear c33
        try clear c35
        try clear Jk
        try clear Jl
        try clear Jm
        try clear Jq
        try clear Jr
        try clear Js
        try clear Jw
        try clear Jx
        try clear Jy
        try clear Qf
        try clear Qg
        try clear Qh
        try clear Ql
        try clear Qm
        try clear Qn
        try clear Qr
        try clear Qs
        try clear Qt
        try clear Qx
        try clear Qy
        try clear Qz
        try clear hcz34_0
        try clear hcz34_1
        try clear hcz34_2
        try clear hcz36_0
        try clear hcz36_1
        try clear hcz36_2
        try clear J3
        try clear J4
        try clear J5
        try clear J9
        try clear Qa
        try clear Qb
        try clear Jn
        try clear Jo
        try clear Jp
        try clear Jt
        try clear Ju
        try clear Jv
        try clear Jz
        try clear J0
        try clear J1
        try clear Qi
        try clear Qj
        try clear Qk
        try clear Qo
        try clear Qp
        try clear Qq
        try clear Qu
        try clear Qv
        try clear Qw
        try clear Q0
        try clear Q1
        try clear Q2
        try clear hfz34_0
        try clear hfz34_1
        try clear hfz34_2
        try clear hfz36_0
        try clear hfz36_1
        try clear hfz36_2
        try clear J6
        try clear J7
        try clear J8
        try clear Qc
        try clear Qd
        try clear Qe
        try clear p2
        obtain ⟨kq, Jj, rfl, HA, HJ29, Ja, Jc, HB⟩ := hcut; cases kq with
        | zero => exact absurd HA.out (by simp [queue_Got.j2])
        | succ kj29 =>
         have H := HA.out; clear HA; simp only [queue_Got.j2] at H; by_cases c37 : Jj = true
         ·subst c37; have H1 : (some (0, a0_1, a0_2)) = some (r1, r2, r3) := by rw [if_pos rfl] at H; exact H
          clear H; have H := H1; clear H1; simp only [Option.some.injEq, Prod.mk.injEq] at H; obtain ⟨rfl, rfl, rfl⟩ := H; have hnb38 := Jf.out; have hnc38 := Je.out; have hcz39_0 : wc.cell? ⟨Jb, 0, none⟩ = some (.int .i64 a0_0) := (blk_cell Ja.out 0).trans rfl; have hcz39_1 : wc.cell? ⟨Jb, 1, none⟩ = some (.int .u64 a0_1) := (blk_cell Ja.out 1).trans rfl; have hcz39_2 : wc.cell? ⟨Jb, 2, none⟩ = some (.int .u64 a0_2) := (blk_cell Ja.out 2).trans rfl; have hfz39_0 := blk_frozen Ja.out 0; have hfz39_1 := blk_frozen Ja.out 1; have hfz39_2 := blk_frozen Ja.out 2; have hcz40_0 : wc.cell? ⟨Jd, 0, none⟩ = some (.int .i64 0) := (blk_cell Jc.out 0).trans rfl; have hcz40_1 : wc.cell? ⟨Jd, 1, none⟩ = some (.int .u64 0) := (blk_cell Jc.out 1).trans rfl; have hcz40_2 : wc.cell? ⟨Jd, 2, none⟩ = some (.int .u64 0) := (blk_cell Jc.out 2).trans rfl; have hfz40_0 := blk_frozen Jc.out 0; have hfz40_1 := blk_frozen Jc.out 1; have hfz40_2 := blk_frozen Jc.out 2; go_wp2; refine bodyPost_ret (results_cell_row rfl _ _ Jd 54 #[.int .i64 0, .int .u64 a0_1, .int .u64 a0_2] (0, 0) _ rfl (by (with_reducible repeat (first | refine blk_drewN ?_ _ | refine blk_drew ?_ | refine blk_alloc ?_ _)); refine blk_put (cs := #[.int .i64 0, .int .u64 a0_1, .int .u64 0]) ?_ 2 _ rfl; (with_reducible repeat (first | refine blk_drewN ?_ _ | refine blk_drew ?_ | refine blk_alloc ?_ _)); refine blk_put (cs := #[.int .i64 0, .int .u64 0, .int .u64 0]) ?_ 1 _ rfl; (with_reducible repeat (first | refine blk_drewN ?_ _ | refine blk_drew ?_ | refine blk_alloc ?_ _)); refine blk_put (cs := #[.int .i64 0, .int .u64 0, .int .u64 0]) ?_ 0 _ rfl; (with_reducible repeat (first | refine blk_drewN ?_ _ | refine blk_drew ?_ | refine blk_alloc ?_ _)); refine blk_far ?_ Je.out _; (with_reducible repeat (first | refine blk_drewN ?_ _ | refine blk_drew ?_ | refine blk_alloc ?_ _)); exact Jc.out) Try.underlying54 rfl (by kernel_rfl)) rfl ?_; exact ⟨by first | rfl | (simp [errW_none, errW_some] <;> rfl) | (simp [*, errW_none, errW_some] <;> rfl), by repeat (first | (with_reducible first | exact HB.out | apply below_alloc | apply pw_below_drewN | apply below_drew1 | refine below_set ?_ Jg.out | refine below_set ?_ Jh.out) | exact HB.out)⟩
         ·replace c37 := Bool.eq_false_iff.mpr c37; subst c37; have H1 : (if a0_0 ≥ 1 then (if a0_0 ≤ 4 then (some (wrap64 (a0_0 + 1), a0_1, a0_2)) else (some (a0_0, a0_1, a0_2))) else (some (a0_0, a0_1, a0_2))) = some (r1, r2, r3) := by rw [if_neg (show ¬ (false = true) by decide)] at H; exact H
          clear H; have H := H1; clear H1; by_cases c41 : a0_0 ≥ 1
          ·rw [if_pos c41] at H; have c41b0 : decide (1 ≤ a0_0) = true := decide_eq_true c41; clear c41; by_cases c42 : a0_0 ≤ 4
           ·rw [if_pos c42] at H; have c42b0 : decide (a0_0 ≤ 4) = true := decide_eq_true c42; clear c42; simp only [Option.some.injEq, Prod.mk.injEq] at H; obtain ⟨rfl, rfl, rfl⟩ := H; have hnb43 := Jf.out; have hnc43 := Je.out; have hcz44_0 : wc.cell? ⟨Jb, 0, none⟩ = some (.int .i64 a0_0) := (blk_cell Ja.out 0).trans rfl; have hcz44_1 : wc.cell? ⟨Jb, 1, none⟩ = some (.int .u64 a0_1) := (blk_cell Ja.out 1).trans rfl; have hcz44_2 : wc.cell? ⟨Jb, 2, none⟩ = some (.int .u64 a0_2) := (blk_cell Ja.out 2).trans rfl; have hfz44_0 := blk_frozen Ja.out 0; have hfz44_1 := blk_frozen Ja.out 1; have hfz44_2 := blk_frozen Ja.out 2; have hcz45_0 : wc.cell? ⟨Jd, 0, none⟩ = some (.int .i64 0) := (blk_cell Jc.out 0).trans rfl; have hcz45_1 : wc.cell? ⟨Jd, 1, none⟩ = some (.int .u64 0) := (blk_cell Jc.out 1).trans rfl; have hcz45_2 : wc.cell? ⟨Jd, 2, none⟩ = some (.int .u64 0) := (blk_cell Jc.out 2).trans rfl; have hfz45_0 := blk_frozen Jc.out 0; have hfz45_1 := blk_frozen Jc.out 1; have hfz45_2 := blk_frozen Jc.out 2; go_wp2; refine bodyPost_ret (results_cell_row rfl _ _ Jd 54 #[.int .i64 (wrap64 (a0_0 + 1)), .int .u64 a0_1, .int .u64 a0_2] (0, 0) _ rfl (by (with_reducible repeat (first | refine blk_drewN ?_ _ | refine blk_drew ?_ | refine blk_alloc ?_ _)); refine blk_put (cs := #[.int .i64 (wrap64 (a0_0 + 1)), .int .u64 a0_1, .int .u64 0]) ?_ 2 _ rfl; (with_reducible repeat (first | refine blk_drewN ?_ _ | refine blk_drew ?_ | refine blk_alloc ?_ _)); refine blk_put (cs := #[.int .i64 (wrap64 (a0_0 + 1)), .int .u64 0, .int .u64 0]) ?_ 1 _ rfl; (with_reducible repeat (first | refine blk_drewN ?_ _ | refine blk_drew ?_ | refine blk_alloc ?_ _)); refine blk_put (cs := #[.int .i64 0, .int .u64 0, .int .u64 0]) ?_ 0 _ rfl; (with_reducible repeat (first | refine blk_drewN ?_ _ | refine blk_drew ?_ | refine blk_alloc ?_ _)); refine blk_far ?_ Je.out _; (with_reducible repeat (first | refine blk_drewN ?_ _ | refine blk_drew ?_ | refine blk_alloc ?_ _)); exact Jc.out) Try.underlying54 rfl (by kernel_rfl)) rfl ?_; exact ⟨by first | rfl | (simp [errW_none, errW_some] <;> rfl) | (simp [*, errW_none, errW_some] <;> rfl), by repeat (first | (with_reducible first | exact HB.out | apply below_alloc | apply pw_below_drewN | apply below_drew1 | refine below_set ?_ Jg.out | refine below_set ?_ Jh.out) | exact HB.out)⟩
           ·rw [if_neg c42] at H; have c42b0 : decide (a0_0 ≤ 4) = false := decide_eq_false c42; clear c42; simp only [Option.some.injEq, Prod.mk.injEq] at H; obtain ⟨rfl, rfl, rfl⟩ := H; have hnb46 := Jf.out; have hnc46 := Je.out; have hcz47_0 : wc.cell? ⟨Jb, 0, none⟩ = some (.int .i64 a0_0) := (blk_cell Ja.out 0).trans rfl; have hcz47_1 : wc.cell? ⟨Jb, 1, none⟩ = some (.int .u64 a0_1) := (blk_cell Ja.out 1).trans rfl; have hcz47_2 : wc.cell? ⟨Jb, 2, none⟩ = some (.int .u64 a0_2) := (blk_cell Ja.out 2).trans rfl; have hfz47_0 := blk_frozen Ja.out 0; have hfz47_1 := blk_frozen Ja.out 1; have hfz47_2 := blk_frozen Ja.out 2; have hcz48_0 : wc.cell? ⟨Jd, 0, none⟩ = some (.int .i64 0) := (blk_cell Jc.out 0).trans rfl; have hcz48_1 : wc.cell? ⟨Jd, 1, none⟩ = some (.int .u64 0) := (blk_cell Jc.out 1).trans rfl; have hcz48_2 : wc.cell? ⟨Jd, 2, none⟩ = some (.int .u64 0) := (blk_cell Jc.out 2).trans rfl; have hfz48_0 := blk_frozen Jc.out 0; have hfz48_1 := blk_frozen Jc.out 1; have hfz48_2 := blk_frozen Jc.out 2; go_wp2; refine bodyPost_ret (results_cell_row rfl _ _ Jd 54 #[.int .i64 a0_0, .int .u64 a0_1, .int .u64 a0_2] (0, 0) _ rfl (by (with_reducible repeat (first | refine blk_drewN ?_ _ | refine blk_drew ?_ | refine blk_alloc ?_ _)); refine blk_put (cs := #[.int .i64 a0_0, .int .u64 a0_1, .int .u64 0]) ?_ 2 _ rfl; (with_reducible repeat (first | refine blk_drewN ?_ _ | refine blk_drew ?_ | refine blk_alloc ?_ _)); refine blk_put (cs := #[.int .i64 a0_0, .int .u64 0, .int .u64 0]) ?_ 1 _ rfl; (with_reducible repeat (first | refine blk_drewN ?_ _ | refine blk_drew ?_ | refine blk_alloc ?_ _)); refine blk_put (cs := #[.int .i64 0, .int .u64 0, .int .u64 0]) ?_ 0 _ rfl; (with_reducible repeat (first | refine blk_drewN ?_ _ | refine blk_drew ?_ | refine blk_alloc ?_ _)); exact Jc.out) Try.underlying54 rfl (by kernel_rfl)) rfl ?_; exact ⟨by first | rfl | (simp [errW_none, errW_some] <;> rfl) | (simp [*, errW_none, errW_some] <;> rfl), by repeat (first | (with_reducible first | exact HB.out | apply below_alloc | apply pw_below_drewN | apply below_drew1 | refine below_set ?_ Jg.out | refine below_set ?_ Jh.out) | exact HB.out)⟩
          ·rw [if_neg c41] at H; have c41b0 : decide (1 ≤ a0_0) = false := decide_eq_false c41; clear c41; simp only [Option.some.injEq, Prod.mk.injEq] at H; obtain ⟨rfl, rfl, rfl⟩ := H; have hnb49 := Jf.out; have hnc49 := Je.out; have hcz50_0 : wc.cell? ⟨Jb, 0, none⟩ = some (.int .i64 a0_0) := (blk_cell Ja.out 0).trans rfl; have hcz50_1 : wc.cell? ⟨Jb, 1, none⟩ = some (.int .u64 a0_1) := (blk_cell Ja.out 1).trans rfl; have hcz50_2 : wc.cell? ⟨Jb, 2, none⟩ = some (.int .u64 a0_2) := (blk_cell Ja.out 2).trans rfl; have hfz50_0 := blk_frozen Ja.out 0; have hfz50_1 := blk_frozen Ja.out 1; have hfz50_2 := blk_frozen Ja.out 2; have hcz51_0 : wc.cell? ⟨Jd, 0, none⟩ = some (.int .i64 0) := (blk_cell Jc.out 0).trans rfl; have hcz51_1 : wc.cell? ⟨Jd, 1, none⟩ = some (.int .u64 0) := (blk_cell Jc.out 1).trans rfl; have hcz51_2 : wc.cell? ⟨Jd, 2, none⟩ = some (.int .u64 0) := (blk_cell Jc.out 2).trans rfl; have hfz51_0 := blk_frozen Jc.out 0; have hfz51_1 := blk_frozen Jc.out 1; have hfz51_2 := blk_frozen Jc.out 2; go_wp2; refine bodyPost_ret (results_cell_row rfl _ _ Jd 54 #[.int .i64 a0_0, .int .u64 a0_1, .int .u64 a0_2] (0, 0) _ rfl (by (with_reducible repeat (first | refine blk_drewN ?_ _ | refine blk_drew ?_ | refine blk_alloc ?_ _)); refine blk_put (cs := #[.int .i64 a0_0, .int .u64 a0_1, .int .u64 0]) ?_ 2 _ rfl; (with_reducible repeat (first | refine blk_drewN ?_ _ | refine blk_drew ?_ | refine blk_alloc ?_ _)); refine blk_put (cs := #[.int .i64 a0_0, .int .u64 0, .int .u64 0]) ?_ 1 _ rfl; (with_reducible repeat (first | refine blk_drewN ?_ _ | refine blk_drew ?_ | refine blk_alloc ?_ _)); refine blk_put (cs := #[.int .i64 0, .int .u64 0, .int .u64 0]) ?_ 0 _ rfl; (with_reducible repeat (first | refine blk_drewN ?_ _ | refine blk_drew ?_ | refine blk_alloc ?_ _)); exact Jc.out) Try.underlying54 rfl (by kernel_rfl)) rfl ?_; exact ⟨by first | rfl | (simp [errW_none, errW_some] <;> rfl) | (simp [*, errW_none, errW_some] <;> rfl), by repeat (first | (with_reducible first | exact HB.out | apply below_alloc | apply pw_below_drewN | apply below_drew1 | refine below_set ?_ Jg.out | refine below_set ?_ Jh.out) | exact HB.out)⟩

end Go.Proofs.Ytcjkjlopbjijaaa.PY
