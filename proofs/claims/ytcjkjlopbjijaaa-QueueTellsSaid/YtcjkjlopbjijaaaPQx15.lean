-- Written by wip/hprint/hprint.py (a program of this session, over the print): not typed by hand
import Derived.Test.YtcjkjlopbjijaaaPQx0
import Derived.Test.YtcjkjlopbjijaaaPQx4
import Derived.Test.YtcjkjlopbjijaaaPQx5
import Derived.Test.YtcjkjlopbjijaaaPQx6
import Derived.Test.YtcjkjlopbjijaaaPQx7
import Derived.Test.YtcjkjlopbjijaaaPQx12
import Derived.Test.YtcjkjlopbjijaaaPQx13
import Derived.Test.YtcjkjlopbjijaaaPQx14
import Derived.Test.YtcjkjlopbjijaaaPQx21
import Derived.Test.YtcjkjlopbjijaaaPQx22
import Derived.Test.YtcjkjlopbjijaaaPQx23
namespace Go.Proofs.Ytcjkjlopbjijaaa.PQ
open Go.RowKit Go.Proofs.YtcjkjlopbjijaaaW.PrintWords Go.Proofs.YtcjkjlopbjijaaaW.PrintLast Go.Proofs.YtcjkjlopbjijaaaW.PrintMore
attribute [local go_sem] max2_int min2_int max_two min_two max_three min_three max_four min_four   -- for this text's walks alone
open Go.Proofs.YtcjkjlopbjijaaaH
set_option linter.unusedVariables false
set_option linter.unusedSimpArgs false

attribute [local go_sem high] eqA30 eqA61 eqA64
/-! ### treillagelaw16_QueueTells: function 8 -/
def treillagelaw16_QueueTells.j0 : Nat → Int → Bool → Bool → Int → Int → Int → Int → Int → Int → Int → Int → Option (Bool)
 | 0, _, _, _, _, _, _, _, _, _, _, _ => none
 | k + 1, x3, x4, x26, x221000, x221001, x222000, x222001, x222002, x223000, x223001, x223002 => if x26 = true then ((treillagelaw16_shown.f k).bind fun t225 => (some t225)) else ((queue_Want.f x221000 x221001 x222000 x222001 x222002).bind fun bt227 => ((treillageref16_Want.f k x221000 x221001 x222000 x222001 x222002).bind fun bt233 => ((queue_Given.f k x221000 x221001 x223000 x223001 x223002 x3).bind fun bt239 => ((treillageref16_Given.f x221000 x221001 x223000 x223001 x223002 x3).bind fun bt244 => (if (bt227.1 == bt233.1 && (bt227.2.1 == bt233.2.1 && (bt227.2.2.1 == bt233.2.2.1 && (bt227.2.2.2.1 == bt233.2.2.2.1)))) = true then (if (bt227.2.2.2.2 == bt233.2.2.2.2) = true then ((queue_Got.f k x222000 x222001 x222002 x3 x4).bind fun bt249 => ((treillageref16_Got.f x222000 x222001 x222002 x3 x4).bind fun bt252 => (if (bt249.1 == bt252.1 && (bt249.2.1 == bt252.2.1 && (bt249.2.2 == bt252.2.2))) = true then ((queue_Next.f x221000 x221001 x223000 x223001 x223002).bind fun bt255 => ((treillageref16_Next.f k x221000 x221001 x223000 x223001 x223002).bind fun bt259 => (if (bt255.1 == bt259.1 && (bt255.2.1 == bt259.2.1 && (bt255.2.2.1 == bt259.2.2.1 && (bt255.2.2.2 == bt259.2.2.2)))) = true then (if (bt239.1 == bt244.1 && (bt239.2.1 == bt244.2.1 && (bt239.2.2.1 == bt244.2.2.1))) = true then (some (bt239.2.2.2 == bt244.2.2.2)) else (some false)) else (some false)))) else (some false)))) else (some false)) else (some false))))))
def treillagelaw16_QueueTells.f (k : Nat) (a0_0 : Int) (a0_1 : Int) (a1_0 : Int) (a1_1 : Int) (a1_2 : Int) (a2_0 : Int) (a2_1 : Int) (a2_2 : Int) (a3 : Int) (a4 : Bool) : Option (Bool) := (mem_May.f a0_0 a0_1).bind fun t223 => (if t223 = true then ((treillagelaw16_shown.f k).bind fun t224 => (treillagelaw16_QueueTells.j0 k a3 a4 (!t224) a0_0 a0_1 a1_0 a1_1 a1_2 a2_0 a2_1 a2_2)) else (treillagelaw16_QueueTells.j0 k a3 a4 true a0_0 a0_1 a1_0 a1_1 a1_2 a2_0 a2_1 a2_2))
theorem treillagelaw16_QueueTells.mono_l : ∀ k, (∀ y0 y1 y2 y3 y4 y5 y6 y7 y8 y9 y10, LeO (treillagelaw16_QueueTells.j0 k y0 y1 y2 y3 y4 y5 y6 y7 y8 y9 y10) (treillagelaw16_QueueTells.j0 (k + 1) y0 y1 y2 y3 y4 y5 y6 y7 y8 y9 y10))
 | 0 => fun _ _ _ _ _ _ _ _ _ _ _ r h => by simp [treillagelaw16_QueueTells.j0] at h
 | k + 1 => by
  have ih0 := treillagelaw16_QueueTells.mono_l k
  ·intro y0 y1 y2 y3 y4 y5 y6 y7 y8 y9 y10
   unfold treillagelaw16_QueueTells.j0
   repeat' first
   | (with_reducible exact ih0 _ _ _ _ _ _ _ _ _ _ _)
   | (with_reducible exact queue_Given.mono _ _ _ _ _ _ _)
   | (with_reducible exact queue_Got.mono _ _ _ _ _ _)
   | (with_reducible exact treillagelaw16_shown.mono _)
   | (with_reducible exact treillageref16_Next.mono _ _ _ _ _ _)
   | (with_reducible exact treillageref16_Want.mono _ _ _ _ _ _)
   | (with_reducible exact LeO.refl _)
   | (with_reducible exact LeO.none _)
   | (with_reducible refine LeO.ite ?_ ?_)
   | (with_reducible refine LeO.bind ?_ (fun _ => ?_))
   | exact ih0 _ _ _ _ _ _ _ _ _ _ _
   | exact queue_Given.mono _ _ _ _ _ _ _
   | exact queue_Got.mono _ _ _ _ _ _
   | exact treillagelaw16_shown.mono _
   | exact treillageref16_Next.mono _ _ _ _ _ _
   | exact treillageref16_Want.mono _ _ _ _ _ _
   | exact LeO.none _
   | refine LeO.ite ?_ ?_
   | refine LeO.bind ?_ (fun _ => ?_)
theorem treillagelaw16_QueueTells.mono : ∀ a0 a1 a2 a3 a4 a5 a6 a7 a8 a9 k, LeO (treillagelaw16_QueueTells.f k a0 a1 a2 a3 a4 a5 a6 a7 a8 a9) (treillagelaw16_QueueTells.f (k + 1) a0 a1 a2 a3 a4 a5 a6 a7 a8 a9) := by
 intro a0 a1 a2 a3 a4 a5 a6 a7 a8 a9 k
 have ih0 := treillagelaw16_QueueTells.mono_l k
 unfold treillagelaw16_QueueTells.f
 repeat' first
   | (with_reducible exact ih0 _ _ _ _ _ _ _ _ _ _ _)
   | (with_reducible exact queue_Given.mono _ _ _ _ _ _ _)
   | (with_reducible exact queue_Got.mono _ _ _ _ _ _)
   | (with_reducible exact treillagelaw16_shown.mono _)
   | (with_reducible exact treillageref16_Next.mono _ _ _ _ _ _)
   | (with_reducible exact treillageref16_Want.mono _ _ _ _ _ _)
   | (with_reducible exact LeO.refl _)
   | (with_reducible exact LeO.none _)
   | (with_reducible refine LeO.ite ?_ ?_)
   | (with_reducible refine LeO.bind ?_ (fun _ => ?_))
   | exact ih0 _ _ _ _ _ _ _ _ _ _ _
   | exact queue_Given.mono _ _ _ _ _ _ _
   | exact queue_Got.mono _ _ _ _ _ _
   | exact treillagelaw16_shown.mono _
   | exact treillageref16_Next.mono _ _ _ _ _ _
   | exact treillageref16_Want.mono _ _ _ _ _ _
   | exact LeO.none _
   | refine LeO.ite ?_ ?_
   | refine LeO.bind ?_ (fun _ => ?_)
def treillagelaw16_QueueTells.T8 : Bool × List (List Nat × List Nat) := (true, [([], []), ([], []), ([0, 1], [0, 1]), ([2], [2]), ([3], [3]), ([3], [3]), ([4, 5, 3], [3, 4, 5]), ([3, 6], [3, 6]), ([7, 3], [7]), ([8], [8]), ([8], [8]), ([8], [8]), ([9, 10, 11, 8, 8], [8, 9, 10, 11]), ([8], [8]), ([8], [8]), ([8], [8]), ([13, 14, 15, 12, 8], [8, 13, 14, 15]), ([12, 16, 8], [8, 12, 16]), ([8, 17], [8, 17]), ([18, 16], [18]), ([19], [19]), ([19], [19]), ([20, 21, 19, 19], [19, 20, 21]), ([19], [19]), ([19], [19]), ([23, 24, 22, 19], [19, 23, 24]), ([22, 25, 19], [19, 22, 25]), ([19, 26], [19, 26]), ([27, 25], [27]), ([28], [28]), ([28], [28]), ([29, 30, 28], [28, 29, 30]), ([28, 31], [28, 31]), ([32, 28], [32]), ([33], [33]), ([33], [33]), ([34, 35, 33], [33, 34, 35]), ([33, 36], [33, 36]), ([37, 33, 0, 1, 2, 3, 4, 5, 6, 7, 8, 9, 10, 11, 12, 13, 14, 15, 16, 17, 18, 19, 20, 21, 22, 23, 24, 25, 26, 27, 28, 29, 30, 31, 32, 33, 34, 35, 36, 37], [37])])
def treillagelaw16_QueueTells.B8 : List Nat := [0, 0, 3, 7, 15, 15, 63, 127, 255, 511, 511, 511, 4095, 511, 511, 511, 65535, 131071, 262143, 524287, 1048575, 1048575, 4194303, 1048575, 1048575, 33554431, 67108863, 134217727, 268435455, 536870911, 536870911, 2147483647, 4294967295, 8589934591, 17179869183, 17179869183, 68719476735, 137438953471, 274877906943]
theorem treillagelaw16_QueueTells.tab8 : rtab .any (opsOf Try.f8 8) = treillagelaw16_QueueTells.T8 := by kernel_rfl
theorem treillagelaw16_QueueTells.bits8 : waitsOk treillagelaw16_QueueTells.T8.2 treillagelaw16_QueueTells.B8 = true := by kernel_rfl
set_option maxHeartbeats 8000000 in
set_option maxRecDepth 100000 in
theorem treillagelaw16_QueueTells.calls1 (k : Nat) (a0_0 : Int) (a0_1 : Int) (a1_0 : Int) (a1_1 : Int) (a1_2 : Int) (a2_0 : Int) (a2_1 : Int) (a2_2 : Int) (a3 : Int) (a4 : Bool) (r : Bool) (w : World) (h : treillagelaw16_QueueTells.f k a0_0 a0_1 a1_0 a1_1 a1_2 a2_0 a2_1 a2_2 a3 a4 = some r) (hr_ : r = true) :
  Calls Try.prog 8 #[.agg #[.int .i64 a0_0, .int .i64 a0_1], .agg #[.int .i64 a1_0, .int .u64 a1_1, .int .u64 a1_2], .agg #[.int .i64 a2_0, .int .u64 a2_1, .int .u64 a2_2], .int .u64 a3, .bool a4] w fun e w' => e = .returned (.bool r) ∧ Below w.heap.size w w' := by
 have hu38 := Try.underlying38
 have hu54 := Try.underlying54
 have hu56 := Try.underlying56
 have hu39 := Try.underlying39
 have hu25 := Try.underlying25
 have hu30 := Try.underlying30
 have hu64 := Try.underlying64
 have HB := aA (Below.refl w.heap.size w)
 have H : ((mem_May.f a0_0 a0_1).bind fun t223 => (if t223 = true then ((treillagelaw16_shown.f k).bind fun t224 => (treillagelaw16_QueueTells.j0 k a3 a4 (!t224) a0_0 a0_1 a1_0 a1_1 a1_2 a2_0 a2_1 a2_2)) else (treillagelaw16_QueueTells.j0 k a3 a4 true a0_0 a0_1 a1_0 a1_1 a1_2 a2_0 a2_1 a2_2))) = some r := h
 clear h
 have HC6 := aA H
 clear H
 go_enter Try.func8, Try.ntmps8
 go_upto_region 1 with (first | ((with_reducible refine gate_dst (N := 5) rfl ?_); refine box_event ?hg (N := 5) ?hd (cs := #[.int .i64 a0_0, .int .i64 a0_1]) (t := 38) ?hr ?_; (case hd => rfl); (case hg => rfl); (case hr => first | (go_simp; done) | (go_simp; rfl)); intro gb220 hg w7 hbox hb; have n0_ := aA (below_step (blw HB.out) hb); have n1_ := aA (hbox); have n2_ := aA ((by rw [hg]; exact (below_size (blw HB.out)) : w.heap.size ≤ gb220)); have n3_ := aA ((by rw [hg]; exact (below_size (blw HB.out)) : w.heap.size ≤ gb220)); clear HB; have HB := n0_; have BK220 := n1_; have GW220 := n2_; have GE220 := n3_; clear n0_ n1_ n2_ n3_ hb hbox hg) | ((with_reducible refine gate_dst (N := 6) rfl ?_); refine box_event ?hg (N := 6) ?hd (cs := #[.int .i64 a1_0, .int .u64 a1_1, .int .u64 a1_2]) (t := 54) ?hr ?_; (case hd => rfl); (case hg => rfl); (case hr => first | (go_simp; done) | (go_simp; rfl)); intro gb221 hg w8 hbox hb; have n0_ := aA (blk_below (g := gb220) (o := .cells #[.int .i64 a0_0, .int .i64 a0_1] 38 (0, 0)) (bku BK220.out) hb); have n1_ := aA (below_step (bls HB.out) hb); have n2_ := aA (hbox); have n3_ := aA ((by rw [hg]; exact (below_size (bls HB.out)) : w.heap.size ≤ gb221)); have n4_ := aA ((by rw [hg]; exact (below_size (bls HB.out)) : w.heap.size ≤ gb221)); have n5_ := aA ((by rw [hg]; exact Nat.ne_of_lt (blk_lt (g := gb220) (o := .cells #[.int .i64 a0_0, .int .i64 a0_1] 38 (0, 0)) (bku BK220.out)) : gb220 ≠ gb221)); have n6_ := aA ((by rw [hg]; exact Nat.ne_of_gt (blk_lt (g := gb220) (o := .cells #[.int .i64 a0_0, .int .i64 a0_1] 38 (0, 0)) (bku BK220.out)) : gb221 ≠ gb220)); clear BK220 HB; have BK220 := n0_; have HB := n1_; have BK221 := n2_; have GW221 := n3_; have GE221 := n4_; have NB220_221 := n5_; have NB221_220 := n6_; clear n0_ n1_ n2_ n3_ n4_ n5_ n6_ hb hbox hg) | ((with_reducible refine gate_dst (N := 7) rfl ?_); refine box_event ?hg (N := 7) ?hd (cs := #[.int .i64 a2_0, .int .u64 a2_1, .int .u64 a2_2]) (t := 56) ?hr ?_; (case hd => rfl); (case hg => rfl); (case hr => first | (go_simp; done) | (go_simp; rfl)); intro gb222 hg w9 hbox hb; have n0_ := aA (blk_below (g := gb220) (o := .cells #[.int .i64 a0_0, .int .i64 a0_1] 38 (0, 0)) (bku BK220.out) hb); have n1_ := aA (blk_below (g := gb221) (o := .cells #[.int .i64 a1_0, .int .u64 a1_1, .int .u64 a1_2] 54 (0, 0)) (bku BK221.out) hb); have n2_ := aA (below_step (bls HB.out) hb); have n3_ := aA (hbox); have n4_ := aA ((by rw [hg]; exact (below_size (bls HB.out)) : w.heap.size ≤ gb222)); have n5_ := aA ((by rw [hg]; exact (below_size (bls HB.out)) : w.heap.size ≤ gb222)); have n6_ := aA ((by rw [hg]; exact Nat.ne_of_lt (blk_lt (g := gb220) (o := .cells #[.int .i64 a0_0, .int .i64 a0_1] 38 (0, 0)) (bku BK220.out)) : gb220 ≠ gb222)); have n7_ := aA ((by rw [hg]; exact Nat.ne_of_gt (blk_lt (g := gb220) (o := .cells #[.int .i64 a0_0, .int .i64 a0_1] 38 (0, 0)) (bku BK220.out)) : gb222 ≠ gb220)); have n8_ := aA ((by rw [hg]; exact Nat.ne_of_lt (blk_lt (g := gb221) (o := .cells #[.int .i64 a1_0, .int .u64 a1_1, .int .u64 a1_2] 54 (0, 0)) (bku BK221.out)) : gb221 ≠ gb222)); have n9_ := aA ((by rw [hg]; exact Nat.ne_of_gt (blk_lt (g := gb221) (o := .cells #[.int .i64 a1_0, .int .u64 a1_1, .int .u64 a1_2] 54 (0, 0)) (bku BK221.out)) : gb222 ≠ gb221)); clear BK220 BK221 HB; have BK220 := n0_; have BK221 := n1_; have HB := n2_; have BK222 := n3_; have GW222 := n4_; have GE222 := n5_; have NB220_222 := n6_; have NB222_220 := n7_; have NB221_222 := n8_; have NB222_221 := n9_; clear n0_ n1_ n2_ n3_ n4_ n5_ n6_ n7_ n8_ n9_ hb hbox hg))
 (try simp only [Act.put, List.setIfInBounds_toArray, List.set_cons_zero, List.set_cons_succ])
 go_cut [26] (fun v26 wc => ∃ (kq : Nat) (x26_5 : Bool), v26 = .bool x26_5 ∧ Aside0 (treillagelaw16_QueueTells.j0 kq a3 a4 x26_5 a0_0 a0_1 a1_0 a1_1 a1_2 a2_0 a2_1 a2_2 = some r) ∧ Aside0 (kq ≤ k) ∧ Aside0 (wc.heap[gb220]? = some (.cells #[.int .i64 a0_0, .int .i64 a0_1] 38 (0, 0))) ∧ Aside0 (wc.heap[gb221]? = some (.cells #[.int .i64 a1_0, .int .u64 a1_1, .int .u64 a1_2] 54 (0, 0))) ∧ Aside0 (wc.heap[gb222]? = some (.cells #[.int .i64 a2_0, .int .u64 a2_1, .int .u64 a2_2] 56 (0, 0))) ∧ Aside0 (Below w.heap.size w wc))
 case first =>
  have H := HC6.out
  clear HC6
  replace H := Option.bind_eq_some_iff.mp H
  obtain ⟨t223, A100, H⟩ := H
  replace H : (if t223 = true then ((treillagelaw16_shown.f k).bind fun t224 => (treillagelaw16_QueueTells.j0 k a3 a4 (!t224) a0_0 a0_1 a1_0 a1_1 a1_2 a2_0 a2_1 a2_2)) else (treillagelaw16_QueueTells.j0 k a3 a4 true a0_0 a0_1 a1_0 a1_1 a1_2 a2_0 a2_1 a2_2)) = some r := H
  have A10 := aA A100
  clear A100
  by_cases c11 : t223 = true
  ·subst c11
   have H1 : ((treillagelaw16_shown.f k).bind fun t224 => (treillagelaw16_QueueTells.j0 k a3 a4 (!t224) a0_0 a0_1 a1_0 a1_1 a1_2 a2_0 a2_1 a2_2)) = some r := by rw [if_pos rfl] at H; exact H
   clear H
   have H := H1
   clear H1
   replace H := Option.bind_eq_some_iff.mp H
   obtain ⟨t224, A120, H⟩ := H
   replace H : (treillagelaw16_QueueTells.j0 k a3 a4 (!t224) a0_0 a0_1 a1_0 a1_1 a1_2 a2_0 a2_1 a2_2) = some r := H
   have A12 := aA A120
   clear A120
   have H' := aA H
   clear H
   have hnb13 := NB220_221.out
   have hnc13 := NB221_220.out
   have hnb14 := NB220_222.out
   have hnc14 := NB222_220.out
   have hcz15_0 : w9.cell? ⟨gb220, 0, none⟩ = some (.int .i64 a0_0) := (blk_cell BK220.out 0).trans rfl
   have hcz15_1 : w9.cell? ⟨gb220, 1, none⟩ = some (.int .i64 a0_1) := (blk_cell BK220.out 1).trans rfl
   have hfz15_0 := blk_frozen BK220.out 0
   have hfz15_1 := blk_frozen BK220.out 1
   go_wp2_with (first | ((with_reducible refine gate_callee (f := 26) rfl ?_); refine goesL_ (some 21) rfl rfl Try.func26 (by kernel_rfl) rfl #[.agg #[.int .i64 a0_0, .int .i64 a0_1]] rfl (by (try simp only [List.map_toArray, List.map_cons, List.map_nil]); first | done | rfl | (simp only [List.length_drop, List.length_take]; rfl)) ?_; (with_reducible refine (mem_May.calls a0_0 a0_1 true _ A10.out).mono ?_); rintro e w16 ⟨rfl, hb⟩; refine ⟨_, rfl, ?_⟩; have n0_ := aA (blk_below (g := gb220) (o := .cells #[.int .i64 a0_0, .int .i64 a0_1] 38 (0, 0)) (bku BK220.out) hb); have n1_ := aA (blk_below (g := gb221) (o := .cells #[.int .i64 a1_0, .int .u64 a1_1, .int .u64 a1_2] 54 (0, 0)) (bku BK221.out) hb); have n2_ := aA (blk_below (g := gb222) (o := .cells #[.int .i64 a2_0, .int .u64 a2_1, .int .u64 a2_2] 56 (0, 0)) (bku BK222.out) hb); have n3_ := aA (below_step (bls HB.out) hb); clear BK220 BK221 BK222 HB; have BK220 := n0_; have BK221 := n1_; have BK222 := n2_; have HB := n3_; clear n0_ n1_ n2_ n3_; (try clear hb); (try clear hb2); (try clear hk); (try clear hi)) | (go_at_call 46; (with_reducible refine (treillagelaw16_shown.calls k  t224 _ A12.out).mono ?_); rintro e w17 ⟨rfl, hb⟩; have n0_ := aA (blk_below (g := gb220) (o := .cells #[.int .i64 a0_0, .int .i64 a0_1] 38 (0, 0)) (bku BK220.out) hb); have n1_ := aA (blk_below (g := gb221) (o := .cells #[.int .i64 a1_0, .int .u64 a1_1, .int .u64 a1_2] 54 (0, 0)) (bku BK221.out) hb); have n2_ := aA (blk_below (g := gb222) (o := .cells #[.int .i64 a2_0, .int .u64 a2_1, .int .u64 a2_2] 56 (0, 0)) (bku BK222.out) hb); have n3_ := aA (below_step (bls HB.out) hb); clear BK220 BK221 BK222 HB; have BK220 := n0_; have BK221 := n1_; have BK222 := n2_; have HB := n3_; clear n0_ n1_ n2_ n3_; (try clear hb); (try clear hb2); (try clear hk); (try clear hi)))
   go_meet
   case rel => exact ⟨_, (!t224), (by first | rfl | (simp; done) | (simp [*]; done)), H', ⟨by first | omega | exact Nat.le_refl _⟩, ⟨by (with_reducible repeat (first | refine blk_drewN ?_ _ | refine blk_drew ?_ | refine blk_alloc ?_ _)); exact BK220.out⟩, ⟨by (with_reducible repeat (first | refine blk_drewN ?_ _ | refine blk_drew ?_ | refine blk_alloc ?_ _)); exact BK221.out⟩, ⟨by (with_reducible repeat (first | refine blk_drewN ?_ _ | refine blk_drew ?_ | refine blk_alloc ?_ _)); exact BK222.out⟩, ⟨by repeat (first | (with_reducible first | exact HB.out | apply below_alloc | apply pw_below_drewN | apply below_drew1 | refine below_set ?_ GE220.out | refine below_set ?_ GE221.out | refine below_set ?_ GE222.out) | exact HB.out)⟩⟩
  ·replace c11 := Bool.eq_false_iff.mpr c11
   subst c11
   have H1 : (treillagelaw16_QueueTells.j0 k a3 a4 true a0_0 a0_1 a1_0 a1_1 a1_2 a2_0 a2_1 a2_2) = some r := by rw [if_neg (show ¬ (false = true) by decide)] at H; exact H
   clear H
   have H := H1
   clear H1
   have H' := aA H
   clear H
   have hnb18 := NB220_221.out
   have hnc18 := NB221_220.out
   have hnb19 := NB220_222.out
   have hnc19 := NB222_220.out
   have hcz20_0 : w9.cell? ⟨gb220, 0, none⟩ = some (.int .i64 a0_0) := (blk_cell BK220.out 0).trans rfl
   have hcz20_1 : w9.cell? ⟨gb220, 1, none⟩ = some (.int .i64 a0_1) := (blk_cell BK220.out 1).trans rfl
   have hfz20_0 := blk_frozen BK220.out 0
   have hfz20_1 := blk_frozen BK220.out 1
   go_wp2_with (first | ((with_reducible refine gate_callee (f := 26) rfl ?_); refine goesL_ (some 21) rfl rfl Try.func26 (by kernel_rfl) rfl #[.agg #[.int .i64 a0_0, .int .i64 a0_1]] rfl (by (try simp only [List.map_toArray, List.map_cons, List.map_nil]); first | done | rfl | (simp only [List.length_drop, List.length_take]; rfl)) ?_; (with_reducible refine (mem_May.calls a0_0 a0_1 false _ A10.out).mono ?_); rintro e w21 ⟨rfl, hb⟩; refine ⟨_, rfl, ?_⟩; have n0_ := aA (blk_below (g := gb220) (o := .cells #[.int .i64 a0_0, .int .i64 a0_1] 38 (0, 0)) (bku BK220.out) hb); have n1_ := aA (blk_below (g := gb221) (o := .cells #[.int .i64 a1_0, .int .u64 a1_1, .int .u64 a1_2] 54 (0, 0)) (bku BK221.out) hb); have n2_ := aA (blk_below (g := gb222) (o := .cells #[.int .i64 a2_0, .int .u64 a2_1, .int .u64 a2_2] 56 (0, 0)) (bku BK222.out) hb); have n3_ := aA (below_step (bls HB.out) hb); clear BK220 BK221 BK222 HB; have BK220 := n0_; have BK221 := n1_; have BK222 := n2_; have HB := n3_; clear n0_ n1_ n2_ n3_; (try clear hb); (try clear hb2); (try clear hk); (try clear hi)))
   go_meet
   case rel => exact ⟨_, (true), (by first | rfl | (simp; done) | (simp [*]; done)), H', ⟨by first | omega | exact Nat.le_refl _⟩, ⟨by (with_reducible repeat (first | refine blk_drewN ?_ _ | refine blk_drew ?_ | refine blk_alloc ?_ _)); exact BK220.out⟩, ⟨by (with_reducible repeat (first | refine blk_drewN ?_ _ | refine blk_drew ?_ | refine blk_alloc ?_ _)); exact BK221.out⟩, ⟨by (with_reducible repeat (first | refine blk_drewN ?_ _ | refine blk_drew ?_ | refine blk_alloc ?_ _)); exact BK222.out⟩, ⟨by repeat (first | (with_reducible first | exact HB.out | apply below_alloc | apply pw_below_drewN | apply below_drew1 | refine below_set ?_ GE220.out | refine below_set ?_ GE221.out | refine below_set ?_ GE222.out) | exact HB.out)⟩⟩
 case rest =>
  clear HC6
  try clear c1
  try clear c2
  try clear p2
  try clear c8
  try clear c11
  try clear c13
  try clear c14
  try clear c18
  try clear c19
  try clear hcz15_0
  try clear hcz15_1
  try clear hcz20_0
  try clear hcz20_1
  try clear hfz15_0
  try clear hfz15_1
  try clear hfz20_0
  try clear hfz20_1
  obtain ⟨kq, x26_5, rfl, HA, HJ5, BK220, BK221, BK222, HB⟩ := hcut
  cases kq with
  | zero => exact absurd HA.out (by simp [treillagelaw16_QueueTells.j0])
  | succ kj5 =>
   have H := HA.out
   clear HA
   simp only [treillagelaw16_QueueTells.j0] at H
   by_cases c22 : x26_5 = true
   ·subst c22
    have H1 : ((treillagelaw16_shown.f kj5).bind fun t225 => (some t225)) = some r := by rw [if_pos rfl] at H; exact H
    clear H
    have H := H1
    clear H1
    replace H := Option.bind_eq_some_iff.mp H
    obtain ⟨t225, A230, H⟩ := H
    replace H : (some t225) = some r := H
    have A23 := aA A230
    clear A230
    obtain rfl := Option.some.inj H
    go_wp2_with (first | ((with_reducible refine gate_callee (f := 46) rfl ?_); refine goesL_ (some 27) rfl rfl Try.func46 (by kernel_rfl) rfl #[] rfl (by (try simp only [List.map_toArray, List.map_cons, List.map_nil]); first | done | rfl | (simp only [List.length_drop, List.length_take]; rfl)) ?_; (with_reducible refine (treillagelaw16_shown.calls kj5  t225 _ A23.out).mono ?_); rintro e w24 ⟨rfl, hb⟩; refine ⟨_, rfl, ?_⟩; have n0_ := aA (blk_below (g := gb220) (o := .cells #[.int .i64 a0_0, .int .i64 a0_1] 38 (0, 0)) (bku BK220.out) hb); have n1_ := aA (blk_below (g := gb221) (o := .cells #[.int .i64 a1_0, .int .u64 a1_1, .int .u64 a1_2] 54 (0, 0)) (bku BK221.out) hb); have n2_ := aA (blk_below (g := gb222) (o := .cells #[.int .i64 a2_0, .int .u64 a2_1, .int .u64 a2_2] 56 (0, 0)) (bku BK222.out) hb); have n3_ := aA (below_step (bls HB.out) hb); clear BK220 BK221 BK222 HB; have BK220 := n0_; have BK221 := n1_; have BK222 := n2_; have HB := n3_; clear n0_ n1_ n2_ n3_; (try clear hb); (try clear hb2); (try clear hk); (try clear hi)))
    go_ret
    exact ⟨by first | rfl | (simp [errW_none, errW_some] <;> rfl) | (simp [*, errW_none, errW_some] <;> rfl), by repeat (first | (with_reducible first | exact HB.out | apply below_alloc | apply pw_below_drewN | apply below_drew1 | refine below_set ?_ GE220.out | refine below_set ?_ GE221.out | refine below_set ?_ GE222.out) | exact HB.out)⟩
   ·replace c22 := Bool.eq_false_iff.mpr c22
    subst c22
    have H1 : ((queue_Want.f a0_0 a0_1 a1_0 a1_1 a1_2).bind fun bt227 => ((treillageref16_Want.f kj5 a0_0 a0_1 a1_0 a1_1 a1_2).bind fun bt233 => ((queue_Given.f kj5 a0_0 a0_1 a2_0 a2_1 a2_2 a3).bind fun bt239 => ((treillageref16_Given.f a0_0 a0_1 a2_0 a2_1 a2_2 a3).bind fun bt244 => (if (bt227.1 == bt233.1 && (bt227.2.1 == bt233.2.1 && (bt227.2.2.1 == bt233.2.2.1 && (bt227.2.2.2.1 == bt233.2.2.2.1)))) = true then (if (bt227.2.2.2.2 == bt233.2.2.2.2) = true then ((queue_Got.f kj5 a1_0 a1_1 a1_2 a3 a4).bind fun bt249 => ((treillageref16_Got.f a1_0 a1_1 a1_2 a3 a4).bind fun bt252 => (if (bt249.1 == bt252.1 && (bt249.2.1 == bt252.2.1 && (bt249.2.2 == bt252.2.2))) = true then ((queue_Next.f a0_0 a0_1 a2_0 a2_1 a2_2).bind fun bt255 => ((treillageref16_Next.f kj5 a0_0 a0_1 a2_0 a2_1 a2_2).bind fun bt259 => (if (bt255.1 == bt259.1 && (bt255.2.1 == bt259.2.1 && (bt255.2.2.1 == bt259.2.2.1 && (bt255.2.2.2 == bt259.2.2.2)))) = true then (if (bt239.1 == bt244.1 && (bt239.2.1 == bt244.2.1 && (bt239.2.2.1 == bt244.2.2.1))) = true then (some (bt239.2.2.2 == bt244.2.2.2)) else (some false)) else (some false)))) else (some false)))) else (some false)) else (some false)))))) = some r := by rw [if_neg (show ¬ (false = true) by decide)] at H; exact H
    clear H
    have H := H1
    clear H1
    replace H := Option.bind_eq_some_iff.mp H
    obtain ⟨⟨t227, t228, t229, t230, t231⟩, A250, H⟩ := H
    replace H : ((treillageref16_Want.f kj5 a0_0 a0_1 a1_0 a1_1 a1_2).bind fun bt233 => ((queue_Given.f kj5 a0_0 a0_1 a2_0 a2_1 a2_2 a3).bind fun bt239 => ((treillageref16_Given.f a0_0 a0_1 a2_0 a2_1 a2_2 a3).bind fun bt244 => (if (t227 == bt233.1 && (t228 == bt233.2.1 && (t229 == bt233.2.2.1 && (t230 == bt233.2.2.2.1)))) = true then (if (t231 == bt233.2.2.2.2) = true then ((queue_Got.f kj5 a1_0 a1_1 a1_2 a3 a4).bind fun bt249 => ((treillageref16_Got.f a1_0 a1_1 a1_2 a3 a4).bind fun bt252 => (if (bt249.1 == bt252.1 && (bt249.2.1 == bt252.2.1 && (bt249.2.2 == bt252.2.2))) = true then ((queue_Next.f a0_0 a0_1 a2_0 a2_1 a2_2).bind fun bt255 => ((treillageref16_Next.f kj5 a0_0 a0_1 a2_0 a2_1 a2_2).bind fun bt259 => (if (bt255.1 == bt259.1 && (bt255.2.1 == bt259.2.1 && (bt255.2.2.1 == bt259.2.2.1 && (bt255.2.2.2 == bt259.2.2.2)))) = true then (if (bt239.1 == bt244.1 && (bt239.2.1 == bt244.2.1 && (bt239.2.2.1 == bt244.2.2.1))) = true then (some (bt239.2.2.2 == bt244.2.2.2)) else (some false)) else (some false)))) else (some false)))) else (some false)) else (some false))))) = some r := H
    have A25 := aA A250
    clear A250
    replace H := Option.bind_eq_some_iff.mp H
    obtain ⟨⟨t233, t234, t235, t236, t237⟩, A260, H⟩ := H
    replace H : ((queue_Given.f kj5 a0_0 a0_1 a2_0 a2_1 a2_2 a3).bind fun bt239 => ((treillageref16_Given.f a0_0 a0_1 a2_0 a2_1 a2_2 a3).bind fun bt244 => (if (t227 == t233 && (t228 == t234 && (t229 == t235 && (t230 == t236)))) = true then (if (t231 == t237) = true then ((queue_Got.f kj5 a1_0 a1_1 a1_2 a3 a4).bind fun bt249 => ((treillageref16_Got.f a1_0 a1_1 a1_2 a3 a4).bind fun bt252 => (if (bt249.1 == bt252.1 && (bt249.2.1 == bt252.2.1 && (bt249.2.2 == bt252.2.2))) = true then ((queue_Next.f a0_0 a0_1 a2_0 a2_1 a2_2).bind fun bt255 => ((treillageref16_Next.f kj5 a0_0 a0_1 a2_0 a2_1 a2_2).bind fun bt259 => (if (bt255.1 == bt259.1 && (bt255.2.1 == bt259.2.1 && (bt255.2.2.1 == bt259.2.2.1 && (bt255.2.2.2 == bt259.2.2.2)))) = true then (if (bt239.1 == bt244.1 && (bt239.2.1 == bt244.2.1 && (bt239.2.2.1 == bt244.2.2.1))) = true then (some (bt239.2.2.2 == bt244.2.2.2)) else (some false)) else (some false)))) else (some false)))) else (some false)) else (some false)))) = some r := H
    have A26 := aA A260
    clear A260
    replace H := Option.bind_eq_some_iff.mp H
    obtain ⟨⟨t239, t240, t241, t242⟩, A270, H⟩ := H
    replace H : ((treillageref16_Given.f a0_0 a0_1 a2_0 a2_1 a2_2 a3).bind fun bt244 => (if (t227 == t233 && (t228 == t234 && (t229 == t235 && (t230 == t236)))) = true then (if (t231 == t237) = true then ((queue_Got.f kj5 a1_0 a1_1 a1_2 a3 a4).bind fun bt249 => ((treillageref16_Got.f a1_0 a1_1 a1_2 a3 a4).bind fun bt252 => (if (bt249.1 == bt252.1 && (bt249.2.1 == bt252.2.1 && (bt249.2.2 == bt252.2.2))) = true then ((queue_Next.f a0_0 a0_1 a2_0 a2_1 a2_2).bind fun bt255 => ((treillageref16_Next.f kj5 a0_0 a0_1 a2_0 a2_1 a2_2).bind fun bt259 => (if (bt255.1 == bt259.1 && (bt255.2.1 == bt259.2.1 && (bt255.2.2.1 == bt259.2.2.1 && (bt255.2.2.2 == bt259.2.2.2)))) = true then (if (t239 == bt244.1 && (t240 == bt244.2.1 && (t241 == bt244.2.2.1))) = true then (some (t242 == bt244.2.2.2)) else (some false)) else (some false)))) else (some false)))) else (some false)) else (some false))) = some r := H
    have A27 := aA A270
    clear A270
    replace H := Option.bind_eq_some_iff.mp H
    obtain ⟨⟨t244, t245, t246, t247⟩, A280, H⟩ := H
    replace H : (if (t227 == t233 && (t228 == t234 && (t229 == t235 && (t230 == t236)))) = true then (if (t231 == t237) = true then ((queue_Got.f kj5 a1_0 a1_1 a1_2 a3 a4).bind fun bt249 => ((treillageref16_Got.f a1_0 a1_1 a1_2 a3 a4).bind fun bt252 => (if (bt249.1 == bt252.1 && (bt249.2.1 == bt252.2.1 && (bt249.2.2 == bt252.2.2))) = true then ((queue_Next.f a0_0 a0_1 a2_0 a2_1 a2_2).bind fun bt255 => ((treillageref16_Next.f kj5 a0_0 a0_1 a2_0 a2_1 a2_2).bind fun bt259 => (if (bt255.1 == bt259.1 && (bt255.2.1 == bt259.2.1 && (bt255.2.2.1 == bt259.2.2.1 && (bt255.2.2.2 == bt259.2.2.2)))) = true then (if (t239 == t244 && (t240 == t245 && (t241 == t246))) = true then (some (t242 == t247)) else (some false)) else (some false)))) else (some false)))) else (some false)) else (some false)) = some r := H
    have A28 := aA A280
    clear A280
    by_cases c29 : (t227 == t233 && (t228 == t234 && (t229 == t235 && (t230 == t236)))) = true
    ·rw [if_pos c29] at H
     have c29b0 : (t227 == t233 && (t228 == t234 && (t229 == t235 && (t230 == t236)))) = true := c29
     (try (have c29b1 : decide (t227 = t233 && (t228 == t234 && (t229 == t235 && (t230 == t236)))) = true := by simpa using c29))
     (try (have c29b2 : (t227 == t233 && (t228 == t234 && (t229 == t235 && (t230 == t236)))) = true := by simpa using c29))
     clear c29
     by_cases c30 : (t231 == t237) = true
     ·rw [if_pos c30] at H
      have c30b0 : (t231 == t237) = true := c30
      (try (have c30b1 : decide (t231 = t237) = true := by simpa using c30))
      (try (have c30b2 : (t231 == t237) = true := by simpa using c30))
      clear c30
      replace H := Option.bind_eq_some_iff.mp H
      obtain ⟨⟨t249, t250, t251⟩, A310, H⟩ := H
      replace H : ((treillageref16_Got.f a1_0 a1_1 a1_2 a3 a4).bind fun bt252 => (if (t249 == bt252.1 && (t250 == bt252.2.1 && (t251 == bt252.2.2))) = true then ((queue_Next.f a0_0 a0_1 a2_0 a2_1 a2_2).bind fun bt255 => ((treillageref16_Next.f kj5 a0_0 a0_1 a2_0 a2_1 a2_2).bind fun bt259 => (if (bt255.1 == bt259.1 && (bt255.2.1 == bt259.2.1 && (bt255.2.2.1 == bt259.2.2.1 && (bt255.2.2.2 == bt259.2.2.2)))) = true then (if (t239 == t244 && (t240 == t245 && (t241 == t246))) = true then (some (t242 == t247)) else (some false)) else (some false)))) else (some false))) = some r := H
      have A31 := aA A310
      clear A310
      replace H := Option.bind_eq_some_iff.mp H
      obtain ⟨⟨t252, t253, t254⟩, A320, H⟩ := H
      replace H : (if (t249 == t252 && (t250 == t253 && (t251 == t254))) = true then ((queue_Next.f a0_0 a0_1 a2_0 a2_1 a2_2).bind fun bt255 => ((treillageref16_Next.f kj5 a0_0 a0_1 a2_0 a2_1 a2_2).bind fun bt259 => (if (bt255.1 == bt259.1 && (bt255.2.1 == bt259.2.1 && (bt255.2.2.1 == bt259.2.2.1 && (bt255.2.2.2 == bt259.2.2.2)))) = true then (if (t239 == t244 && (t240 == t245 && (t241 == t246))) = true then (some (t242 == t247)) else (some false)) else (some false)))) else (some false)) = some r := H
      have A32 := aA A320
      clear A320
      by_cases c33 : (t249 == t252 && (t250 == t253 && (t251 == t254))) = true
      ·rw [if_pos c33] at H
       have c33b0 : (t249 == t252 && (t250 == t253 && (t251 == t254))) = true := c33
       (try (have c33b1 : decide (t249 = t252 && (t250 == t253 && (t251 == t254))) = true := by simpa using c33))
       (try (have c33b2 : (t249 == t252 && (t250 == t253 && (t251 == t254))) = true := by simpa using c33))
       clear c33
       replace H := Option.bind_eq_some_iff.mp H
       obtain ⟨⟨t255, t256, t257, t258⟩, A340, H⟩ := H
       replace H : ((treillageref16_Next.f kj5 a0_0 a0_1 a2_0 a2_1 a2_2).bind fun bt259 => (if (t255 == bt259.1 && (t256 == bt259.2.1 && (t257 == bt259.2.2.1 && (t258 == bt259.2.2.2)))) = true then (if (t239 == t244 && (t240 == t245 && (t241 == t246))) = true then (some (t242 == t247)) else (some false)) else (some false))) = some r := H
       have A34 := aA A340
       clear A340
       replace H := Option.bind_eq_some_iff.mp H
       obtain ⟨⟨t259, t260, t261, t262⟩, A350, H⟩ := H
       replace H : (if (t255 == t259 && (t256 == t260 && (t257 == t261 && (t258 == t262)))) = true then (if (t239 == t244 && (t240 == t245 && (t241 == t246))) = true then (some (t242 == t247)) else (some false)) else (some false)) = some r := H
       have A35 := aA A350
       clear A350
       by_cases c36 : (t255 == t259 && (t256 == t260 && (t257 == t261 && (t258 == t262)))) = true
       ·rw [if_pos c36] at H
        have c36b0 : (t255 == t259 && (t256 == t260 && (t257 == t261 && (t258 == t262)))) = true := c36
        (try (have c36b1 : decide (t255 = t259 && (t256 == t260 && (t257 == t261 && (t258 == t262)))) = true := by simpa using c36))
        (try (have c36b2 : (t255 == t259 && (t256 == t260 && (t257 == t261 && (t258 == t262)))) = true := by simpa using c36))
        clear c36
        by_cases c37 : (t239 == t244 && (t240 == t245 && (t241 == t246))) = true
        ·rw [if_pos c37] at H
         have c37b0 : (t239 == t244 && (t240 == t245 && (t241 == t246))) = true := c37
         (try (have c37b1 : decide (t239 = t244 && (t240 == t245 && (t241 == t246))) = true := by simpa using c37))
         (try (have c37b2 : (t239 == t244 && (t240 == t245 && (t241 == t246))) = true := by simpa using c37))
         clear c37
         obtain rfl := Option.some.inj H
         have hnb38 := NB220_221.out
         have hnc38 := NB221_220.out
         have hnb39 := NB220_222.out
         have hnc39 := NB222_220.out
         have hcz40_0 : wc.cell? ⟨gb220, 0, none⟩ = some (.int .i64 a0_0) := (blk_cell BK220.out 0).trans rfl
         have hcz40_1 : wc.cell? ⟨gb220, 1, none⟩ = some (.int .i64 a0_1) := (blk_cell BK220.out 1).trans rfl
         have hfz40_0 := blk_frozen BK220.out 0
         have hfz40_1 := blk_frozen BK220.out 1
         try go_wp2_with (first | ((with_reducible refine gate_dst (N := 11) rfl ?_); refine box_event ?hg (N := 11) ?hd (cs := #[.int .i64 0, .int .i64 0]) (t := 39) ?hr ?_; (case hd => rfl); (case hg => rfl); (case hr => first | (go_simp; done) | (go_simp; rfl)); intro gb226 hg w41 hbox hb; have n0_ := aA (blk_below (g := gb220) (o := .cells #[.int .i64 a0_0, .int .i64 a0_1] 38 (0, 0)) (bku BK220.out) hb); have n1_ := aA (blk_below (g := gb221) (o := .cells #[.int .i64 a1_0, .int .u64 a1_1, .int .u64 a1_2] 54 (0, 0)) (bku BK221.out) hb); have n2_ := aA (blk_below (g := gb222) (o := .cells #[.int .i64 a2_0, .int .u64 a2_1, .int .u64 a2_2] 56 (0, 0)) (bku BK222.out) hb); have n3_ := aA (below_step (bls HB.out) hb); have n4_ := aA (hbox); have n5_ := aA ((by rw [hg]; exact (below_size (bls HB.out)) : w.heap.size ≤ gb226)); have n6_ := aA ((by rw [hg]; exact (below_size (bls HB.out)) : w.heap.size ≤ gb226)); have n7_ := aA ((by rw [hg]; exact Nat.ne_of_lt (blk_lt (g := gb220) (o := .cells #[.int .i64 a0_0, .int .i64 a0_1] 38 (0, 0)) (bku BK220.out)) : gb220 ≠ gb226)); have n8_ := aA ((by rw [hg]; exact Nat.ne_of_gt (blk_lt (g := gb220) (o := .cells #[.int .i64 a0_0, .int .i64 a0_1] 38 (0, 0)) (bku BK220.out)) : gb226 ≠ gb220)); have n9_ := aA ((by rw [hg]; exact Nat.ne_of_lt (blk_lt (g := gb221) (o := .cells #[.int .i64 a1_0, .int .u64 a1_1, .int .u64 a1_2] 54 (0, 0)) (bku BK221.out)) : gb221 ≠ gb226)); have n10_ := aA ((by rw [hg]; exact Nat.ne_of_gt (blk_lt (g := gb221) (o := .cells #[.int .i64 a1_0, .int .u64 a1_1, .int .u64 a1_2] 54 (0, 0)) (bku BK221.out)) : gb226 ≠ gb221)); have n11_ := aA ((by rw [hg]; exact Nat.ne_of_lt (blk_lt (g := gb222) (o := .cells #[.int .i64 a2_0, .int .u64 a2_1, .int .u64 a2_2] 56 (0, 0)) (bku BK222.out)) : gb222 ≠ gb226)); have n12_ := aA ((by rw [hg]; exact Nat.ne_of_gt (blk_lt (g := gb222) (o := .cells #[.int .i64 a2_0, .int .u64 a2_1, .int .u64 a2_2] 56 (0, 0)) (bku BK222.out)) : gb226 ≠ gb222)); clear BK220 BK221 BK222 HB; have BK220 := n0_; have BK221 := n1_; have BK222 := n2_; have HB := n3_; have BK226 := n4_; have GW226 := n5_; have GE226 := n6_; have NB220_226 := n7_; have NB226_220 := n8_; have NB221_226 := n9_; have NB226_221 := n10_; have NB222_226 := n11_; have NB226_222 := n12_; clear n0_ n1_ n2_ n3_ n4_ n5_ n6_ n7_ n8_ n9_ n10_ n11_ n12_ hb hbox hg; have hnb42 := NB226_220.out; have hnc42 := NB220_226.out; have hnb43 := NB226_221.out; have hnc43 := NB221_226.out; have hnb44 := NB226_222.out; have hnc44 := NB222_226.out; have hcz45_0 : w41.cell? ⟨gb226, 0, none⟩ = some (.int .i64 0) := (blk_cell BK226.out 0).trans rfl; have hcz45_1 : w41.cell? ⟨gb226, 1, none⟩ = some (.int .i64 0) := (blk_cell BK226.out 1).trans rfl; have hfz45_0 := blk_frozen BK226.out 0; have hfz45_1 := blk_frozen BK226.out 1; have hcz46_0 : w41.cell? ⟨gb220, 0, none⟩ = some (.int .i64 a0_0) := (blk_cell BK220.out 0).trans rfl; have hcz46_1 : w41.cell? ⟨gb220, 1, none⟩ = some (.int .i64 a0_1) := (blk_cell BK220.out 1).trans rfl; have hfz46_0 := blk_frozen BK220.out 0; have hfz46_1 := blk_frozen BK220.out 1; have hnb47 := NB221_222.out; have hnc47 := NB222_221.out; have hcz48_0 : w41.cell? ⟨gb221, 0, none⟩ = some (.int .i64 a1_0) := (blk_cell BK221.out 0).trans rfl; have hcz48_1 : w41.cell? ⟨gb221, 1, none⟩ = some (.int .u64 a1_1) := (blk_cell BK221.out 1).trans rfl; have hcz48_2 : w41.cell? ⟨gb221, 2, none⟩ = some (.int .u64 a1_2) := (blk_cell BK221.out 2).trans rfl; have hfz48_0 := blk_frozen BK221.out 0; have hfz48_1 := blk_frozen BK221.out 1; have hfz48_2 := blk_frozen BK221.out 2) | ((with_reducible refine gate_callee (f := 47) rfl ?_); refine goesL_ (some 32) rfl rfl Try.func47 (by kernel_rfl) rfl #[.agg #[.int .i64 a0_0, .int .i64 a0_1], .agg #[.int .i64 a1_0, .int .u64 a1_1, .int .u64 a1_2]] rfl (by (try simp only [List.map_toArray, List.map_cons, List.map_nil]); first | done | rfl | (simp only [List.length_drop, List.length_take]; rfl)) ?_; (with_reducible refine (queue_Want.calls a0_0 a0_1 a1_0 a1_1 a1_2 t227 t228 t229 t230 t231 _ A25.out).mono ?_); rintro e w49 ⟨rfl, hb⟩; refine ⟨_, rfl, ?_⟩; have n0_ := aA (blk_below (g := gb220) (o := .cells #[.int .i64 a0_0, .int .i64 a0_1] 38 (0, 0)) (by (with_reducible repeat (first | refine blk_drewN ?_ _ | refine blk_drew ?_ | refine blk_alloc ?_ _)); refine blk_far ?_ NB220_226.out _; (with_reducible repeat (first | refine blk_drewN ?_ _ | refine blk_drew ?_ | refine blk_alloc ?_ _)); refine blk_far ?_ NB220_226.out _; (with_reducible repeat (first | refine blk_drewN ?_ _ | refine blk_drew ?_ | refine blk_alloc ?_ _)); exact BK220.out) hb); have n1_ := aA (blk_below (g := gb221) (o := .cells #[.int .i64 a1_0, .int .u64 a1_1, .int .u64 a1_2] 54 (0, 0)) (by (with_reducible repeat (first | refine blk_drewN ?_ _ | refine blk_drew ?_ | refine blk_alloc ?_ _)); refine blk_far ?_ NB221_226.out _; (with_reducible repeat (first | refine blk_drewN ?_ _ | refine blk_drew ?_ | refine blk_alloc ?_ _)); refine blk_far ?_ NB221_226.out _; (with_reducible repeat (first | refine blk_drewN ?_ _ | refine blk_drew ?_ | refine blk_alloc ?_ _)); exact BK221.out) hb); have n2_ := aA (blk_below (g := gb222) (o := .cells #[.int .i64 a2_0, .int .u64 a2_1, .int .u64 a2_2] 56 (0, 0)) (by (with_reducible repeat (first | refine blk_drewN ?_ _ | refine blk_drew ?_ | refine blk_alloc ?_ _)); refine blk_far ?_ NB222_226.out _; (with_reducible repeat (first | refine blk_drewN ?_ _ | refine blk_drew ?_ | refine blk_alloc ?_ _)); refine blk_far ?_ NB222_226.out _; (with_reducible repeat (first | refine blk_drewN ?_ _ | refine blk_drew ?_ | refine blk_alloc ?_ _)); exact BK222.out) hb); have n3_ := aA (blk_below (g := gb226) (o := .cells #[.int .i64 a0_0, .int .i64 a0_1] 39 (0, 0)) (by (with_reducible repeat (first | refine blk_drewN ?_ _ | refine blk_drew ?_ | refine blk_alloc ?_ _)); refine blk_put (cs := #[.int .i64 a0_0, .int .i64 0]) ?_ 1 _ rfl; (with_reducible repeat (first | refine blk_drewN ?_ _ | refine blk_drew ?_ | refine blk_alloc ?_ _)); refine blk_put (cs := #[.int .i64 0, .int .i64 0]) ?_ 0 _ rfl; (with_reducible repeat (first | refine blk_drewN ?_ _ | refine blk_drew ?_ | refine blk_alloc ?_ _)); exact BK226.out) hb); have n4_ := aA (below_step (bls HB.out) hb); clear BK220 BK221 BK222 BK226 HB; have BK220 := n0_; have BK221 := n1_; have BK222 := n2_; have BK226 := n3_; have HB := n4_; clear n0_ n1_ n2_ n3_ n4_; (try clear hb); (try clear hb2); (try clear hk); (try clear hi)) | ((with_reducible refine gate_dst (N := 12) rfl ?_); refine box_event ?hg (N := 12) ?hd (cs := #[.int .i64 0, .int .i64 0, .int .u64 0, .int .u64 0]) (t := 25) ?hr ?_; (case hd => rfl); (case hg => rfl); (case hr => first | (go_simp; done) | (go_simp; rfl)); intro gb232 hg w50 hbox hb; have n0_ := aA (blk_below (g := gb220) (o := .cells #[.int .i64 a0_0, .int .i64 a0_1] 38 (0, 0)) (bku BK220.out) hb); have n1_ := aA (blk_below (g := gb221) (o := .cells #[.int .i64 a1_0, .int .u64 a1_1, .int .u64 a1_2] 54 (0, 0)) (bku BK221.out) hb); have n2_ := aA (blk_below (g := gb222) (o := .cells #[.int .i64 a2_0, .int .u64 a2_1, .int .u64 a2_2] 56 (0, 0)) (bku BK222.out) hb); have n3_ := aA (blk_below (g := gb226) (o := .cells #[.int .i64 a0_0, .int .i64 a0_1] 39 (0, 0)) (bku BK226.out) hb); have n4_ := aA (below_step (bls HB.out) hb); have n5_ := aA (hbox); have n6_ := aA ((by rw [hg]; exact (below_size (bls HB.out)) : w.heap.size ≤ gb232)); have n7_ := aA ((by rw [hg]; exact (below_size (bls HB.out)) : w.heap.size ≤ gb232)); have n8_ := aA ((by rw [hg]; exact Nat.ne_of_lt (blk_lt (g := gb220) (o := .cells #[.int .i64 a0_0, .int .i64 a0_1] 38 (0, 0)) (bku BK220.out)) : gb220 ≠ gb232)); have n9_ := aA ((by rw [hg]; exact Nat.ne_of_gt (blk_lt (g := gb220) (o := .cells #[.int .i64 a0_0, .int .i64 a0_1] 38 (0, 0)) (bku BK220.out)) : gb232 ≠ gb220)); have n10_ := aA ((by rw [hg]; exact Nat.ne_of_lt (blk_lt (g := gb221) (o := .cells #[.int .i64 a1_0, .int .u64 a1_1, .int .u64 a1_2] 54 (0, 0)) (bku BK221.out)) : gb221 ≠ gb232)); have n11_ := aA ((by rw [hg]; exact Nat.ne_of_gt (blk_lt (g := gb221) (o := .cells #[.int .i64 a1_0, .int .u64 a1_1, .int .u64 a1_2] 54 (0, 0)) (bku BK221.out)) : gb232 ≠ gb221)); have n12_ := aA ((by rw [hg]; exact Nat.ne_of_lt (blk_lt (g := gb222) (o := .cells #[.int .i64 a2_0, .int .u64 a2_1, .int .u64 a2_2] 56 (0, 0)) (bku BK222.out)) : gb222 ≠ gb232)); have n13_ := aA ((by rw [hg]; exact Nat.ne_of_gt (blk_lt (g := gb222) (o := .cells #[.int .i64 a2_0, .int .u64 a2_1, .int .u64 a2_2] 56 (0, 0)) (bku BK222.out)) : gb232 ≠ gb222)); have n14_ := aA ((by rw [hg]; exact Nat.ne_of_lt (blk_lt (g := gb226) (o := .cells #[.int .i64 a0_0, .int .i64 a0_1] 39 (0, 0)) (bku BK226.out)) : gb226 ≠ gb232)); have n15_ := aA ((by rw [hg]; exact Nat.ne_of_gt (blk_lt (g := gb226) (o := .cells #[.int .i64 a0_0, .int .i64 a0_1] 39 (0, 0)) (bku BK226.out)) : gb232 ≠ gb226)); clear BK220 BK221 BK222 BK226 HB; have BK220 := n0_; have BK221 := n1_; have BK222 := n2_; have BK226 := n3_; have HB := n4_; have BK232 := n5_; have GW232 := n6_; have GE232 := n7_; have NB220_232 := n8_; have NB232_220 := n9_; have NB221_232 := n10_; have NB232_221 := n11_; have NB222_232 := n12_; have NB232_222 := n13_; have NB226_232 := n14_; have NB232_226 := n15_; clear n0_ n1_ n2_ n3_ n4_ n5_ n6_ n7_ n8_ n9_ n10_ n11_ n12_ n13_ n14_ n15_ hb hbox hg; have hnb51 := NB232_220.out; have hnc51 := NB220_232.out; have hnb52 := NB232_221.out; have hnc52 := NB221_232.out; have hnb53 := NB232_222.out; have hnc53 := NB222_232.out; have hnb54 := NB232_226.out; have hnc54 := NB226_232.out; have hcz55_0 : w50.cell? ⟨gb232, 0, none⟩ = some (.int .i64 0) := (blk_cell BK232.out 0).trans rfl; have hcz55_1 : w50.cell? ⟨gb232, 1, none⟩ = some (.int .i64 0) := (blk_cell BK232.out 1).trans rfl; have hcz55_2 : w50.cell? ⟨gb232, 2, none⟩ = some (.int .u64 0) := (blk_cell BK232.out 2).trans rfl; have hcz55_3 : w50.cell? ⟨gb232, 3, none⟩ = some (.int .u64 0) := (blk_cell BK232.out 3).trans rfl; have hfz55_0 := blk_frozen BK232.out 0; have hfz55_1 := blk_frozen BK232.out 1; have hfz55_2 := blk_frozen BK232.out 2; have hfz55_3 := blk_frozen BK232.out 3; have hcz56_0 : w50.cell? ⟨gb226, 0, none⟩ = some (.int .i64 a0_0) := (blk_cell BK226.out 0).trans rfl; have hcz56_1 : w50.cell? ⟨gb226, 1, none⟩ = some (.int .i64 a0_1) := (blk_cell BK226.out 1).trans rfl; have hfz56_0 := blk_frozen BK226.out 0; have hfz56_1 := blk_frozen BK226.out 1; have hcz57_0 : w50.cell? ⟨gb221, 0, none⟩ = some (.int .i64 a1_0) := (blk_cell BK221.out 0).trans rfl; have hcz57_1 : w50.cell? ⟨gb221, 1, none⟩ = some (.int .u64 a1_1) := (blk_cell BK221.out 1).trans rfl; have hcz57_2 : w50.cell? ⟨gb221, 2, none⟩ = some (.int .u64 a1_2) := (blk_cell BK221.out 2).trans rfl; have hfz57_0 := blk_frozen BK221.out 0; have hfz57_1 := blk_frozen BK221.out 1; have hfz57_2 := blk_frozen BK221.out 2) | ((with_reducible refine gate_callee (f := 48) rfl ?_); refine goesL_ (some 38) rfl rfl Try.func48 (by kernel_rfl) rfl #[.agg #[.int .i64 a0_0, .int .i64 a0_1], .agg #[.int .i64 a1_0, .int .u64 a1_1, .int .u64 a1_2]] rfl (by (try simp only [List.map_toArray, List.map_cons, List.map_nil]); first | done | rfl | (simp only [List.length_drop, List.length_take]; rfl)) ?_; (with_reducible refine (treillageref16_Want.calls kj5 a0_0 a0_1 a1_0 a1_1 a1_2 t233 t234 t235 t236 t237 _ A26.out).mono ?_); rintro e w58 ⟨rfl, hb⟩; refine ⟨_, rfl, ?_⟩; have n0_ := aA (blk_below (g := gb220) (o := .cells #[.int .i64 a0_0, .int .i64 a0_1] 38 (0, 0)) (by (with_reducible repeat (first | refine blk_drewN ?_ _ | refine blk_drew ?_ | refine blk_alloc ?_ _)); refine blk_far ?_ NB220_232.out _; (with_reducible repeat (first | refine blk_drewN ?_ _ | refine blk_drew ?_ | refine blk_alloc ?_ _)); refine blk_far ?_ NB220_232.out _; (with_reducible repeat (first | refine blk_drewN ?_ _ | refine blk_drew ?_ | refine blk_alloc ?_ _)); refine blk_far ?_ NB220_232.out _; (with_reducible repeat (first | refine blk_drewN ?_ _ | refine blk_drew ?_ | refine blk_alloc ?_ _)); refine blk_far ?_ NB220_232.out _; (with_reducible repeat (first | refine blk_drewN ?_ _ | refine blk_drew ?_ | refine blk_alloc ?_ _)); exact BK220.out) hb); have n1_ := aA (blk_below (g := gb221) (o := .cells #[.int .i64 a1_0, .int .u64 a1_1, .int .u64 a1_2] 54 (0, 0)) (by (with_reducible repeat (first | refine blk_drewN ?_ _ | refine blk_drew ?_ | refine blk_alloc ?_ _)); refine blk_far ?_ NB221_232.out _; (with_reducible repeat (first | refine blk_drewN ?_ _ | refine blk_drew ?_ | refine blk_alloc ?_ _)); refine blk_far ?_ NB221_232.out _; (with_reducible repeat (first | refine blk_drewN ?_ _ | refine blk_drew ?_ | refine blk_alloc ?_ _)); refine blk_far ?_ NB221_232.out _; (with_reducible repeat (first | refine blk_drewN ?_ _ | refine blk_drew ?_ | refine blk_alloc ?_ _)); refine blk_far ?_ NB221_232.out _; (with_reducible repeat (first | refine blk_drewN ?_ _ | refine blk_drew ?_ | refine blk_alloc ?_ _)); exact BK221.out) hb); have n2_ := aA (blk_below (g := gb222) (o := .cells #[.int .i64 a2_0, .int .u64 a2_1, .int .u64 a2_2] 56 (0, 0)) (by (with_reducible repeat (first | refine blk_drewN ?_ _ | refine blk_drew ?_ | refine blk_alloc ?_ _)); refine blk_far ?_ NB222_232.out _; (with_reducible repeat (first | refine blk_drewN ?_ _ | refine blk_drew ?_ | refine blk_alloc ?_ _)); refine blk_far ?_ NB222_232.out _; (with_reducible repeat (first | refine blk_drewN ?_ _ | refine blk_drew ?_ | refine blk_alloc ?_ _)); refine blk_far ?_ NB222_232.out _; (with_reducible repeat (first | refine blk_drewN ?_ _ | refine blk_drew ?_ | refine blk_alloc ?_ _)); refine blk_far ?_ NB222_232.out _; (with_reducible repeat (first | refine blk_drewN ?_ _ | refine blk_drew ?_ | refine blk_alloc ?_ _)); exact BK222.out) hb); have n3_ := aA (blk_below (g := gb226) (o := .cells #[.int .i64 a0_0, .int .i64 a0_1] 39 (0, 0)) (by (with_reducible repeat (first | refine blk_drewN ?_ _ | refine blk_drew ?_ | refine blk_alloc ?_ _)); refine blk_far ?_ NB226_232.out _; (with_reducible repeat (first | refine blk_drewN ?_ _ | refine blk_drew ?_ | refine blk_alloc ?_ _)); refine blk_far ?_ NB226_232.out _; (with_reducible repeat (first | refine blk_drewN ?_ _ | refine blk_drew ?_ | refine blk_alloc ?_ _)); refine blk_far ?_ NB226_232.out _; (with_reducible repeat (first | refine blk_drewN ?_ _ | refine blk_drew ?_ | refine blk_alloc ?_ _)); refine blk_far ?_ NB226_232.out _; (with_reducible repeat (first | refine blk_drewN ?_ _ | refine blk_drew ?_ | refine blk_alloc ?_ _)); exact BK226.out) hb); have n4_ := aA (blk_below (g := gb232) (o := .cells #[.int .i64 t227, .int .i64 t228, .int .u64 t229, .int .u64 t230] 25 (0, 0)) (by (with_reducible repeat (first | refine blk_drewN ?_ _ | refine blk_drew ?_ | refine blk_alloc ?_ _)); refine blk_put (cs := #[.int .i64 t227, .int .i64 t228, .int .u64 t229, .int .u64 0]) ?_ 3 _ rfl; (with_reducible repeat (first | refine blk_drewN ?_ _ | refine blk_drew ?_ | refine blk_alloc ?_ _)); refine blk_put (cs := #[.int .i64 t227, .int .i64 t228, .int .u64 0, .int .u64 0]) ?_ 2 _ rfl; (with_reducible repeat (first | refine blk_drewN ?_ _ | refine blk_drew ?_ | refine blk_alloc ?_ _)); refine blk_put (cs := #[.int .i64 t227, .int .i64 0, .int .u64 0, .int .u64 0]) ?_ 1 _ rfl; (with_reducible repeat (first | refine blk_drewN ?_ _ | refine blk_drew ?_ | refine blk_alloc ?_ _)); refine blk_put (cs := #[.int .i64 0, .int .i64 0, .int .u64 0, .int .u64 0]) ?_ 0 _ rfl; (with_reducible repeat (first | refine blk_drewN ?_ _ | refine blk_drew ?_ | refine blk_alloc ?_ _)); exact BK232.out) hb); have n5_ := aA (below_step (bls HB.out) hb); clear BK220 BK221 BK222 BK226 BK232 HB; have BK220 := n0_; have BK221 := n1_; have BK222 := n2_; have BK226 := n3_; have BK232 := n4_; have HB := n5_; clear n0_ n1_ n2_ n3_ n4_ n5_; (try clear hb); (try clear hb2); (try clear hk); (try clear hi)) | ((with_reducible refine gate_dst (N := 14) rfl ?_); refine box_event ?hg (N := 14) ?hd (cs := #[.int .i64 0, .int .i64 0, .int .u64 0, .int .u64 0]) (t := 30) ?hr ?_; (case hd => rfl); (case hg => rfl); (case hr => first | (go_simp; done) | (go_simp; rfl)); intro gb238 hg w59 hbox hb; have n0_ := aA (blk_below (g := gb220) (o := .cells #[.int .i64 a0_0, .int .i64 a0_1] 38 (0, 0)) (bku BK220.out) hb); have n1_ := aA (blk_below (g := gb221) (o := .cells #[.int .i64 a1_0, .int .u64 a1_1, .int .u64 a1_2] 54 (0, 0)) (bku BK221.out) hb); have n2_ := aA (blk_below (g := gb222) (o := .cells #[.int .i64 a2_0, .int .u64 a2_1, .int .u64 a2_2] 56 (0, 0)) (bku BK222.out) hb); have n3_ := aA (blk_below (g := gb226) (o := .cells #[.int .i64 a0_0, .int .i64 a0_1] 39 (0, 0)) (bku BK226.out) hb); have n4_ := aA (blk_below (g := gb232) (o := .cells #[.int .i64 t227, .int .i64 t228, .int .u64 t229, .int .u64 t230] 25 (0, 0)) (bku BK232.out) hb); have n5_ := aA (below_step (bls HB.out) hb); have n6_ := aA (hbox); have n7_ := aA ((by rw [hg]; exact (below_size (bls HB.out)) : w.heap.size ≤ gb238)); have n8_ := aA ((by rw [hg]; exact (below_size (bls HB.out)) : w.heap.size ≤ gb238)); have n9_ := aA ((by rw [hg]; exact Nat.ne_of_lt (blk_lt (g := gb220) (o := .cells #[.int .i64 a0_0, .int .i64 a0_1] 38 (0, 0)) (bku BK220.out)) : gb220 ≠ gb238)); have n10_ := aA ((by rw [hg]; exact Nat.ne_of_gt (blk_lt (g := gb220) (o := .cells #[.int .i64 a0_0, .int .i64 a0_1] 38 (0, 0)) (bku BK220.out)) : gb238 ≠ gb220)); have n11_ := aA ((by rw [hg]; exact Nat.ne_of_lt (blk_lt (g := gb221) (o := .cells #[.int .i64 a1_0, .int .u64 a1_1, .int .u64 a1_2] 54 (0, 0)) (bku BK221.out)) : gb221 ≠ gb238)); have n12_ := aA ((by rw [hg]; exact Nat.ne_of_gt (blk_lt (g := gb221) (o := .cells #[.int .i64 a1_0, .int .u64 a1_1, .int .u64 a1_2] 54 (0, 0)) (bku BK221.out)) : gb238 ≠ gb221)); have n13_ := aA ((by rw [hg]; exact Nat.ne_of_lt (blk_lt (g := gb222) (o := .cells #[.int .i64 a2_0, .int .u64 a2_1, .int .u64 a2_2] 56 (0, 0)) (bku BK222.out)) : gb222 ≠ gb238)); have n14_ := aA ((by rw [hg]; exact Nat.ne_of_gt (blk_lt (g := gb222) (o := .cells #[.int .i64 a2_0, .int .u64 a2_1, .int .u64 a2_2] 56 (0, 0)) (bku BK222.out)) : gb238 ≠ gb222)); have n15_ := aA ((by rw [hg]; exact Nat.ne_of_lt (blk_lt (g := gb226) (o := .cells #[.int .i64 a0_0, .int .i64 a0_1] 39 (0, 0)) (bku BK226.out)) : gb226 ≠ gb238)); have n16_ := aA ((by rw [hg]; exact Nat.ne_of_gt (blk_lt (g := gb226) (o := .cells #[.int .i64 a0_0, .int .i64 a0_1] 39 (0, 0)) (bku BK226.out)) : gb238 ≠ gb226)); have n17_ := aA ((by rw [hg]; exact Nat.ne_of_lt (blk_lt (g := gb232) (o := .cells #[.int .i64 t227, .int .i64 t228, .int .u64 t229, .int .u64 t230] 25 (0, 0)) (bku BK232.out)) : gb232 ≠ gb238)); have n18_ := aA ((by rw [hg]; exact Nat.ne_of_gt (blk_lt (g := gb232) (o := .cells #[.int .i64 t227, .int .i64 t228, .int .u64 t229, .int .u64 t230] 25 (0, 0)) (bku BK232.out)) : gb238 ≠ gb232)); clear BK220 BK221 BK222 BK226 BK232 HB; have BK220 := n0_; have BK221 := n1_; have BK222 := n2_; have BK226 := n3_; have BK232 := n4_; have HB := n5_; have BK238 := n6_; have GW238 := n7_; have GE238 := n8_; have NB220_238 := n9_; have NB238_220 := n10_; have NB221_238 := n11_; have NB238_221 := n12_; have NB222_238 := n13_; have NB238_222 := n14_; have NB226_238 := n15_; have NB238_226 := n16_; have NB232_238 := n17_; have NB238_232 := n18_; clear n0_ n1_ n2_ n3_ n4_ n5_ n6_ n7_ n8_ n9_ n10_ n11_ n12_ n13_ n14_ n15_ n16_ n17_ n18_ hb hbox hg; have hnb60 := NB238_220.out; have hnc60 := NB220_238.out; have hnb61 := NB238_221.out; have hnc61 := NB221_238.out; have hnb62 := NB238_222.out; have hnc62 := NB222_238.out; have hnb63 := NB238_226.out; have hnc63 := NB226_238.out; have hnb64 := NB238_232.out; have hnc64 := NB232_238.out; have hcz65_0 : w59.cell? ⟨gb238, 0, none⟩ = some (.int .i64 0) := (blk_cell BK238.out 0).trans rfl; have hcz65_1 : w59.cell? ⟨gb238, 1, none⟩ = some (.int .i64 0) := (blk_cell BK238.out 1).trans rfl; have hcz65_2 : w59.cell? ⟨gb238, 2, none⟩ = some (.int .u64 0) := (blk_cell BK238.out 2).trans rfl; have hcz65_3 : w59.cell? ⟨gb238, 3, none⟩ = some (.int .u64 0) := (blk_cell BK238.out 3).trans rfl; have hfz65_0 := blk_frozen BK238.out 0; have hfz65_1 := blk_frozen BK238.out 1; have hfz65_2 := blk_frozen BK238.out 2; have hfz65_3 := blk_frozen BK238.out 3; have hcz66_0 : w59.cell? ⟨gb220, 0, none⟩ = some (.int .i64 a0_0) := (blk_cell BK220.out 0).trans rfl; have hcz66_1 : w59.cell? ⟨gb220, 1, none⟩ = some (.int .i64 a0_1) := (blk_cell BK220.out 1).trans rfl; have hfz66_0 := blk_frozen BK220.out 0; have hfz66_1 := blk_frozen BK220.out 1; have hcz67_0 : w59.cell? ⟨gb222, 0, none⟩ = some (.int .i64 a2_0) := (blk_cell BK222.out 0).trans rfl; have hcz67_1 : w59.cell? ⟨gb222, 1, none⟩ = some (.int .u64 a2_1) := (blk_cell BK222.out 1).trans rfl; have hcz67_2 : w59.cell? ⟨gb222, 2, none⟩ = some (.int .u64 a2_2) := (blk_cell BK222.out 2).trans rfl; have hfz67_0 := blk_frozen BK222.out 0; have hfz67_1 := blk_frozen BK222.out 1; have hfz67_2 := blk_frozen BK222.out 2) | ((with_reducible refine gate_callee (f := 49) rfl ?_); refine goesL_ (some 45) rfl rfl Try.func49 (by kernel_rfl) rfl #[.agg #[.int .i64 a0_0, .int .i64 a0_1], .agg #[.int .i64 a2_0, .int .u64 a2_1, .int .u64 a2_2], .int .u64 a3] rfl (by (try simp only [List.map_toArray, List.map_cons, List.map_nil]); first | done | rfl | (simp only [List.length_drop, List.length_take]; rfl)) ?_; (with_reducible refine (queue_Given.calls kj5 a0_0 a0_1 a2_0 a2_1 a2_2 a3 t239 t240 t241 t242 _ A27.out).mono ?_); rintro e w68 ⟨rfl, hb⟩; refine ⟨_, rfl, ?_⟩; have n0_ := aA (blk_below (g := gb220) (o := .cells #[.int .i64 a0_0, .int .i64 a0_1] 38 (0, 0)) (by (with_reducible repeat (first | refine blk_drewN ?_ _ | refine blk_drew ?_ | refine blk_alloc ?_ _)); refine blk_far ?_ NB220_238.out _; (with_reducible repeat (first | refine blk_drewN ?_ _ | refine blk_drew ?_ | refine blk_alloc ?_ _)); refine blk_far ?_ NB220_238.out _; (with_reducible repeat (first | refine blk_drewN ?_ _ | refine blk_drew ?_ | refine blk_alloc ?_ _)); refine blk_far ?_ NB220_238.out _; (with_reducible repeat (first | refine blk_drewN ?_ _ | refine blk_drew ?_ | refine blk_alloc ?_ _)); refine blk_far ?_ NB220_238.out _; (with_reducible repeat (first | refine blk_drewN ?_ _ | refine blk_drew ?_ | refine blk_alloc ?_ _)); exact BK220.out) hb); have n1_ := aA (blk_below (g := gb221) (o := .cells #[.int .i64 a1_0, .int .u64 a1_1, .int .u64 a1_2] 54 (0, 0)) (by (with_reducible repeat (first | refine blk_drewN ?_ _ | refine blk_drew ?_ | refine blk_alloc ?_ _)); refine blk_far ?_ NB221_238.out _; (with_reducible repeat (first | refine blk_drewN ?_ _ | refine blk_drew ?_ | refine blk_alloc ?_ _)); refine blk_far ?_ NB221_238.out _; (with_reducible repeat (first | refine blk_drewN ?_ _ | refine blk_drew ?_ | refine blk_alloc ?_ _)); refine blk_far ?_ NB221_238.out _; (with_reducible repeat (first | refine blk_drewN ?_ _ | refine blk_drew ?_ | refine blk_alloc ?_ _)); refine blk_far ?_ NB221_238.out _; (with_reducible repeat (first | refine blk_drewN ?_ _ | refine blk_drew ?_ | refine blk_alloc ?_ _)); exact BK221.out) hb); have n2_ := aA (blk_below (g := gb222) (o := .cells #[.int .i64 a2_0, .int .u64 a2_1, .int .u64 a2_2] 56 (0, 0)) (by (with_reducible repeat (first | refine blk_drewN ?_ _ | refine blk_drew ?_ | refine blk_alloc ?_ _)); refine blk_far ?_ NB222_238.out _; (with_reducible repeat (first | refine blk_drewN ?_ _ | refine blk_drew ?_ | refine blk_alloc ?_ _)); refine blk_far ?_ NB222_238.out _; (with_reducible repeat (first | refine blk_drewN ?_ _ | refine blk_drew ?_ | refine blk_alloc ?_ _)); refine blk_far ?_ NB222_238.out _; (with_reducible repeat (first | refine blk_drewN ?_ _ | refine blk_drew ?_ | refine blk_alloc ?_ _)); refine blk_far ?_ NB222_238.out _; (with_reducible repeat (first | refine blk_drewN ?_ _ | refine blk_drew ?_ | refine blk_alloc ?_ _)); exact BK222.out) hb); have n3_ := aA (blk_below (g := gb226) (o := .cells #[.int .i64 a0_0, .int .i64 a0_1] 39 (0, 0)) (by (with_reducible repeat (first | refine blk_drewN ?_ _ | refine blk_drew ?_ | refine blk_alloc ?_ _)); refine blk_far ?_ NB226_238.out _; (with_reducible repeat (first | refine blk_drewN ?_ _ | refine blk_drew ?_ | refine blk_alloc ?_ _)); refine blk_far ?_ NB226_238.out _; (with_reducible repeat (first | refine blk_drewN ?_ _ | refine blk_drew ?_ | refine blk_alloc ?_ _)); refine blk_far ?_ NB226_238.out _; (with_reducible repeat (first | refine blk_drewN ?_ _ | refine blk_drew ?_ | refine blk_alloc ?_ _)); refine blk_far ?_ NB226_238.out _; (with_reducible repeat (first | refine blk_drewN ?_ _ | refine blk_drew ?_ | refine blk_alloc ?_ _)); exact BK226.out) hb); have n4_ := aA (blk_below (g := gb232) (o := .cells #[.int .i64 t227, .int .i64 t228, .int .u64 t229, .int .u64 t230] 25 (0, 0)) (by (with_reducible repeat (first | refine blk_drewN ?_ _ | refine blk_drew ?_ | refine blk_alloc ?_ _)); refine blk_far ?_ NB232_238.out _; (with_reducible repeat (first | refine blk_drewN ?_ _ | refine blk_drew ?_ | refine blk_alloc ?_ _)); refine blk_far ?_ NB232_238.out _; (with_reducible repeat (first | refine blk_drewN ?_ _ | refine blk_drew ?_ | refine blk_alloc ?_ _)); refine blk_far ?_ NB232_238.out _; (with_reducible repeat (first | refine blk_drewN ?_ _ | refine blk_drew ?_ | refine blk_alloc ?_ _)); refine blk_far ?_ NB232_238.out _; (with_reducible repeat (first | refine blk_drewN ?_ _ | refine blk_drew ?_ | refine blk_alloc ?_ _)); exact BK232.out) hb); have n5_ := aA (blk_below (g := gb238) (o := .cells #[.int .i64 t233, .int .i64 t234, .int .u64 t235, .int .u64 t236] 30 (0, 0)) (by (with_reducible repeat (first | refine blk_drewN ?_ _ | refine blk_drew ?_ | refine blk_alloc ?_ _)); refine blk_put (cs := #[.int .i64 t233, .int .i64 t234, .int .u64 t235, .int .u64 0]) ?_ 3 _ rfl; (with_reducible repeat (first | refine blk_drewN ?_ _ | refine blk_drew ?_ | refine blk_alloc ?_ _)); refine blk_put (cs := #[.int .i64 t233, .int .i64 t234, .int .u64 0, .int .u64 0]) ?_ 2 _ rfl; (with_reducible repeat (first | refine blk_drewN ?_ _ | refine blk_drew ?_ | refine blk_alloc ?_ _)); refine blk_put (cs := #[.int .i64 t233, .int .i64 0, .int .u64 0, .int .u64 0]) ?_ 1 _ rfl; (with_reducible repeat (first | refine blk_drewN ?_ _ | refine blk_drew ?_ | refine blk_alloc ?_ _)); refine blk_put (cs := #[.int .i64 0, .int .i64 0, .int .u64 0, .int .u64 0]) ?_ 0 _ rfl; (with_reducible repeat (first | refine blk_drewN ?_ _ | refine blk_drew ?_ | refine blk_alloc ?_ _)); exact BK238.out) hb); have n6_ := aA (below_step (bls HB.out) hb); clear BK220 BK221 BK222 BK226 BK232 BK238 HB; have BK220 := n0_; have BK221 := n1_; have BK222 := n2_; have BK226 := n3_; have BK232 := n4_; have BK238 := n5_; have HB := n6_; clear n0_ n1_ n2_ n3_ n4_ n5_ n6_; (try clear hb); (try clear hb2); (try clear hk); (try clear hi)) | ((with_reducible refine gate_dst (N := 16) rfl ?_); refine box_event ?hg (N := 16) ?hd (cs := #[.int .i64 0, .int .u64 0, .int .u64 0]) (t := 56) ?hr ?_; (case hd => rfl); (case hg => rfl); (case hr => first | (go_simp; done) | (go_simp; rfl)); intro gb243 hg w69 hbox hb; have n0_ := aA (blk_below (g := gb220) (o := .cells #[.int .i64 a0_0, .int .i64 a0_1] 38 (0, 0)) (bku BK220.out) hb); have n1_ := aA (blk_below (g := gb221) (o := .cells #[.int .i64 a1_0, .int .u64 a1_1, .int .u64 a1_2] 54 (0, 0)) (bku BK221.out) hb); have n2_ := aA (blk_below (g := gb222) (o := .cells #[.int .i64 a2_0, .int .u64 a2_1, .int .u64 a2_2] 56 (0, 0)) (bku BK222.out) hb); have n3_ := aA (blk_below (g := gb226) (o := .cells #[.int .i64 a0_0, .int .i64 a0_1] 39 (0, 0)) (bku BK226.out) hb); have n4_ := aA (blk_below (g := gb232) (o := .cells #[.int .i64 t227, .int .i64 t228, .int .u64 t229, .int .u64 t230] 25 (0, 0)) (bku BK232.out) hb); have n5_ := aA (blk_below (g := gb238) (o := .cells #[.int .i64 t233, .int .i64 t234, .int .u64 t235, .int .u64 t236] 30 (0, 0)) (bku BK238.out) hb); have n6_ := aA (below_step (bls HB.out) hb); have n7_ := aA (hbox); have n8_ := aA ((by rw [hg]; exact (below_size (bls HB.out)) : w.heap.size ≤ gb243)); have n9_ := aA ((by rw [hg]; exact (below_size (bls HB.out)) : w.heap.size ≤ gb243)); have n10_ := aA ((by rw [hg]; exact Nat.ne_of_lt (blk_lt (g := gb220) (o := .cells #[.int .i64 a0_0, .int .i64 a0_1] 38 (0, 0)) (bku BK220.out)) : gb220 ≠ gb243)); have n11_ := aA ((by rw [hg]; exact Nat.ne_of_gt (blk_lt (g := gb220) (o := .cells #[.int .i64 a0_0, .int .i64 a0_1] 38 (0, 0)) (bku BK220.out)) : gb243 ≠ gb220)); have n12_ := aA ((by rw [hg]; exact Nat.ne_of_lt (blk_lt (g := gb221) (o := .cells #[.int .i64 a1_0, .int .u64 a1_1, .int .u64 a1_2] 54 (0, 0)) (bku BK221.out)) : gb221 ≠ gb243)); have n13_ := aA ((by rw [hg]; exact Nat.ne_of_gt (blk_lt (g := gb221) (o := .cells #[.int .i64 a1_0, .int .u64 a1_1, .int .u64 a1_2] 54 (0, 0)) (bku BK221.out)) : gb243 ≠ gb221)); have n14_ := aA ((by rw [hg]; exact Nat.ne_of_lt (blk_lt (g := gb222) (o := .cells #[.int .i64 a2_0, .int .u64 a2_1, .int .u64 a2_2] 56 (0, 0)) (bku BK222.out)) : gb222 ≠ gb243)); have n15_ := aA ((by rw [hg]; exact Nat.ne_of_gt (blk_lt (g := gb222) (o := .cells #[.int .i64 a2_0, .int .u64 a2_1, .int .u64 a2_2] 56 (0, 0)) (bku BK222.out)) : gb243 ≠ gb222)); have n16_ := aA ((by rw [hg]; exact Nat.ne_of_lt (blk_lt (g := gb226) (o := .cells #[.int .i64 a0_0, .int .i64 a0_1] 39 (0, 0)) (bku BK226.out)) : gb226 ≠ gb243)); have n17_ := aA ((by rw [hg]; exact Nat.ne_of_gt (blk_lt (g := gb226) (o := .cells #[.int .i64 a0_0, .int .i64 a0_1] 39 (0, 0)) (bku BK226.out)) : gb243 ≠ gb226)); have n18_ := aA ((by rw [hg]; exact Nat.ne_of_lt (blk_lt (g := gb232) (o := .cells #[.int .i64 t227, .int .i64 t228, .int .u64 t229, .int .u64 t230] 25 (0, 0)) (bku BK232.out)) : gb232 ≠ gb243)); have n19_ := aA ((by rw [hg]; exact Nat.ne_of_gt (blk_lt (g := gb232) (o := .cells #[.int .i64 t227, .int .i64 t228, .int .u64 t229, .int .u64 t230] 25 (0, 0)) (bku BK232.out)) : gb243 ≠ gb232)); have n20_ := aA ((by rw [hg]; exact Nat.ne_of_lt (blk_lt (g := gb238) (o := .cells #[.int .i64 t233, .int .i64 t234, .int .u64 t235, .int .u64 t236] 30 (0, 0)) (bku BK238.out)) : gb238 ≠ gb243)); have n21_ := aA ((by rw [hg]; exact Nat.ne_of_gt (blk_lt (g := gb238) (o := .cells #[.int .i64 t233, .int .i64 t234, .int .u64 t235, .int .u64 t236] 30 (0, 0)) (bku BK238.out)) : gb243 ≠ gb238)); clear BK220 BK221 BK222 BK226 BK232 BK238 HB; have BK220 := n0_; have BK221 := n1_; have BK222 := n2_; have BK226 := n3_; have BK232 := n4_; have BK238 := n5_; have HB := n6_; have BK243 := n7_; have GW243 := n8_; have GE243 := n9_; have NB220_243 := n10_; have NB243_220 := n11_; have NB221_243 := n12_; have NB243_221 := n13_; have NB222_243 := n14_; have NB243_222 := n15_; have NB226_243 := n16_; have NB243_226 := n17_; have NB232_243 := n18_; have NB243_232 := n19_; have NB238_243 := n20_; have NB243_238 := n21_; clear n0_ n1_ n2_ n3_ n4_ n5_ n6_ n7_ n8_ n9_ n10_ n11_ n12_ n13_ n14_ n15_ n16_ n17_ n18_ n19_ n20_ n21_ hb hbox hg; have hnb70 := NB243_220.out; have hnc70 := NB220_243.out; have hnb71 := NB243_221.out; have hnc71 := NB221_243.out; have hnb72 := NB243_222.out; have hnc72 := NB222_243.out; have hnb73 := NB243_226.out; have hnc73 := NB226_243.out; have hnb74 := NB243_232.out; have hnc74 := NB232_243.out; have hnb75 := NB243_238.out; have hnc75 := NB238_243.out; have hcz76_0 : w69.cell? ⟨gb243, 0, none⟩ = some (.int .i64 0) := (blk_cell BK243.out 0).trans rfl; have hcz76_1 : w69.cell? ⟨gb243, 1, none⟩ = some (.int .u64 0) := (blk_cell BK243.out 1).trans rfl; have hcz76_2 : w69.cell? ⟨gb243, 2, none⟩ = some (.int .u64 0) := (blk_cell BK243.out 2).trans rfl; have hfz76_0 := blk_frozen BK243.out 0; have hfz76_1 := blk_frozen BK243.out 1; have hfz76_2 := blk_frozen BK243.out 2; have hcz77_0 : w69.cell? ⟨gb226, 0, none⟩ = some (.int .i64 a0_0) := (blk_cell BK226.out 0).trans rfl; have hcz77_1 : w69.cell? ⟨gb226, 1, none⟩ = some (.int .i64 a0_1) := (blk_cell BK226.out 1).trans rfl; have hfz77_0 := blk_frozen BK226.out 0; have hfz77_1 := blk_frozen BK226.out 1; have hcz78_0 : w69.cell? ⟨gb222, 0, none⟩ = some (.int .i64 a2_0) := (blk_cell BK222.out 0).trans rfl; have hcz78_1 : w69.cell? ⟨gb222, 1, none⟩ = some (.int .u64 a2_1) := (blk_cell BK222.out 1).trans rfl; have hcz78_2 : w69.cell? ⟨gb222, 2, none⟩ = some (.int .u64 a2_2) := (blk_cell BK222.out 2).trans rfl; have hfz78_0 := blk_frozen BK222.out 0; have hfz78_1 := blk_frozen BK222.out 1; have hfz78_2 := blk_frozen BK222.out 2) | ((with_reducible refine gate_callee (f := 50) rfl ?_); refine goesL_ (some 52) rfl rfl Try.func50 (by kernel_rfl) rfl #[.agg #[.int .i64 a0_0, .int .i64 a0_1], .agg #[.int .i64 a2_0, .int .u64 a2_1, .int .u64 a2_2], .int .u64 a3] rfl (by (try simp only [List.map_toArray, List.map_cons, List.map_nil]); first | done | rfl | (simp only [List.length_drop, List.length_take]; rfl)) ?_; (with_reducible refine (treillageref16_Given.calls a0_0 a0_1 a2_0 a2_1 a2_2 a3 t244 t245 t246 t247 _ A28.out).mono ?_); rintro e w79 ⟨rfl, hb⟩; refine ⟨_, rfl, ?_⟩; have n0_ := aA (blk_below (g := gb220) (o := .cells #[.int .i64 a0_0, .int .i64 a0_1] 38 (0, 0)) (by (with_reducible repeat (first | refine blk_drewN ?_ _ | refine blk_drew ?_ | refine blk_alloc ?_ _)); refine blk_far ?_ NB220_243.out _; (with_reducible repeat (first | refine blk_drewN ?_ _ | refine blk_drew ?_ | refine blk_alloc ?_ _)); refine blk_far ?_ NB220_243.out _; (with_reducible repeat (first | refine blk_drewN ?_ _ | refine blk_drew ?_ | refine blk_alloc ?_ _)); refine blk_far ?_ NB220_243.out _; (with_reducible repeat (first | refine blk_drewN ?_ _ | refine blk_drew ?_ | refine blk_alloc ?_ _)); exact BK220.out) hb); have n1_ := aA (blk_below (g := gb221) (o := .cells #[.int .i64 a1_0, .int .u64 a1_1, .int .u64 a1_2] 54 (0, 0)) (by (with_reducible repeat (first | refine blk_drewN ?_ _ | refine blk_drew ?_ | refine blk_alloc ?_ _)); refine blk_far ?_ NB221_243.out _; (with_reducible repeat (first | refine blk_drewN ?_ _ | refine blk_drew ?_ | refine blk_alloc ?_ _)); refine blk_far ?_ NB221_243.out _; (with_reducible repeat (first | refine blk_drewN ?_ _ | refine blk_drew ?_ | refine blk_alloc ?_ _)); refine blk_far ?_ NB221_243.out _; (with_reducible repeat (first | refine blk_drewN ?_ _ | refine blk_drew ?_ | refine blk_alloc ?_ _)); exact BK221.out) hb); have n2_ := aA (blk_below (g := gb222) (o := .cells #[.int .i64 a2_0, .int .u64 a2_1, .int .u64 a2_2] 56 (0, 0)) (by (with_reducible repeat (first | refine blk_drewN ?_ _ | refine blk_drew ?_ | refine blk_alloc ?_ _)); refine blk_far ?_ NB222_243.out _; (with_reducible repeat (first | refine blk_drewN ?_ _ | refine blk_drew ?_ | refine blk_alloc ?_ _)); refine blk_far ?_ NB222_243.out _; (with_reducible repeat (first | refine blk_drewN ?_ _ | refine blk_drew ?_ | refine blk_alloc ?_ _)); refine blk_far ?_ NB222_243.out _; (with_reducible repeat (first | refine blk_drewN ?_ _ | refine blk_drew ?_ | refine blk_alloc ?_ _)); exact BK222.out) hb); have n3_ := aA (blk_below (g := gb226) (o := .cells #[.int .i64 a0_0, .int .i64 a0_1] 39 (0, 0)) (by (with_reducible repeat (first | refine blk_drewN ?_ _ | refine blk_drew ?_ | refine blk_alloc ?_ _)); refine blk_far ?_ NB226_243.out _; (with_reducible repeat (first | refine blk_drewN ?_ _ | refine blk_drew ?_ | refine blk_alloc ?_ _)); refine blk_far ?_ NB226_243.out _; (with_reducible repeat (first | refine blk_drewN ?_ _ | refine blk_drew ?_ | refine blk_alloc ?_ _)); refine blk_far ?_ NB226_243.out _; (with_reducible repeat (first | refine blk_drewN ?_ _ | refine blk_drew ?_ | refine blk_alloc ?_ _)); exact BK226.out) hb); have n4_ := aA (blk_below (g := gb232) (o := .cells #[.int .i64 t227, .int .i64 t228, .int .u64 t229, .int .u64 t230] 25 (0, 0)) (by (with_reducible repeat (first | refine blk_drewN ?_ _ | refine blk_drew ?_ | refine blk_alloc ?_ _)); refine blk_far ?_ NB232_243.out _; (with_reducible repeat (first | refine blk_drewN ?_ _ | refine blk_drew ?_ | refine blk_alloc ?_ _)); refine blk_far ?_ NB232_243.out _; (with_reducible repeat (first | refine blk_drewN ?_ _ | refine blk_drew ?_ | refine blk_alloc ?_ _)); refine blk_far ?_ NB232_243.out _; (with_reducible repeat (first | refine blk_drewN ?_ _ | refine blk_drew ?_ | refine blk_alloc ?_ _)); exact BK232.out) hb); have n5_ := aA (blk_below (g := gb238) (o := .cells #[.int .i64 t233, .int .i64 t234, .int .u64 t235, .int .u64 t236] 30 (0, 0)) (by (with_reducible repeat (first | refine blk_drewN ?_ _ | refine blk_drew ?_ | refine blk_alloc ?_ _)); refine blk_far ?_ NB238_243.out _; (with_reducible repeat (first | refine blk_drewN ?_ _ | refine blk_drew ?_ | refine blk_alloc ?_ _)); refine blk_far ?_ NB238_243.out _; (with_reducible repeat (first | refine blk_drewN ?_ _ | refine blk_drew ?_ | refine blk_alloc ?_ _)); refine blk_far ?_ NB238_243.out _; (with_reducible repeat (first | refine blk_drewN ?_ _ | refine blk_drew ?_ | refine blk_alloc ?_ _)); exact BK238.out) hb); have n6_ := aA (blk_below (g := gb243) (o := .cells #[.int .i64 t239, .int .u64 t240, .int .u64 t241] 56 (0, 0)) (by (with_reducible repeat (first | refine blk_drewN ?_ _ | refine blk_drew ?_ | refine blk_alloc ?_ _)); refine blk_put (cs := #[.int .i64 t239, .int .u64 t240, .int .u64 0]) ?_ 2 _ rfl; (with_reducible repeat (first | refine blk_drewN ?_ _ | refine blk_drew ?_ | refine blk_alloc ?_ _)); refine blk_put (cs := #[.int .i64 t239, .int .u64 0, .int .u64 0]) ?_ 1 _ rfl; (with_reducible repeat (first | refine blk_drewN ?_ _ | refine blk_drew ?_ | refine blk_alloc ?_ _)); refine blk_put (cs := #[.int .i64 0, .int .u64 0, .int .u64 0]) ?_ 0 _ rfl; (with_reducible repeat (first | refine blk_drewN ?_ _ | refine blk_drew ?_ | refine blk_alloc ?_ _)); exact BK243.out) hb); have n7_ := aA (below_step (bls HB.out) hb); clear BK220 BK221 BK222 BK226 BK232 BK238 BK243 HB; have BK220 := n0_; have BK221 := n1_; have BK222 := n2_; have BK226 := n3_; have BK232 := n4_; have BK238 := n5_; have BK243 := n6_; have HB := n7_; clear n0_ n1_ n2_ n3_ n4_ n5_ n6_ n7_; (try clear hb); (try clear hb2); (try clear hk); (try clear hi)) | ((with_reducible refine gate_dst (N := 18) rfl ?_); refine box_event ?hg (N := 18) ?hd (cs := #[.int .i64 0, .int .u64 0, .int .u64 0]) (t := 64) ?hr ?_; (case hd => rfl); (case hg => rfl); (case hr => first | (go_simp; done) | (go_simp; rfl)); intro gb248 hg w80 hbox hb; have n0_ := aA (blk_below (g := gb220) (o := .cells #[.int .i64 a0_0, .int .i64 a0_1] 38 (0, 0)) (bku BK220.out) hb); have n1_ := aA (blk_below (g := gb221) (o := .cells #[.int .i64 a1_0, .int .u64 a1_1, .int .u64 a1_2] 54 (0, 0)) (bku BK221.out) hb); have n2_ := aA (blk_below (g := gb222) (o := .cells #[.int .i64 a2_0, .int .u64 a2_1, .int .u64 a2_2] 56 (0, 0)) (bku BK222.out) hb); have n3_ := aA (blk_below (g := gb226) (o := .cells #[.int .i64 a0_0, .int .i64 a0_1] 39 (0, 0)) (bku BK226.out) hb); have n4_ := aA (blk_below (g := gb232) (o := .cells #[.int .i64 t227, .int .i64 t228, .int .u64 t229, .int .u64 t230] 25 (0, 0)) (bku BK232.out) hb); have n5_ := aA (blk_below (g := gb238) (o := .cells #[.int .i64 t233, .int .i64 t234, .int .u64 t235, .int .u64 t236] 30 (0, 0)) (bku BK238.out) hb); have n6_ := aA (blk_below (g := gb243) (o := .cells #[.int .i64 t239, .int .u64 t240, .int .u64 t241] 56 (0, 0)) (bku BK243.out) hb); have n7_ := aA (below_step (bls HB.out) hb); have n8_ := aA (hbox); have n9_ := aA ((by rw [hg]; exact (below_size (bls HB.out)) : w.heap.size ≤ gb248)); have n10_ := aA ((by rw [hg]; exact (below_size (bls HB.out)) : w.heap.size ≤ gb248)); have n11_ := aA ((by rw [hg]; exact Nat.ne_of_lt (blk_lt (g := gb220) (o := .cells #[.int .i64 a0_0, .int .i64 a0_1] 38 (0, 0)) (bku BK220.out)) : gb220 ≠ gb248)); have n12_ := aA ((by rw [hg]; exact Nat.ne_of_gt (blk_lt (g := gb220) (o := .cells #[.int .i64 a0_0, .int .i64 a0_1] 38 (0, 0)) (bku BK220.out)) : gb248 ≠ gb220)); have n13_ := aA ((by rw [hg]; exact Nat.ne_of_lt (blk_lt (g := gb221) (o := .cells #[.int .i64 a1_0, .int .u64 a1_1, .int .u64 a1_2] 54 (0, 0)) (bku BK221.out)) : gb221 ≠ gb248)); have n14_ := aA ((by rw [hg]; exact Nat.ne_of_gt (blk_lt (g := gb221) (o := .cells #[.int .i64 a1_0, .int .u64 a1_1, .int .u64 a1_2] 54 (0, 0)) (bku BK221.out)) : gb248 ≠ gb221)); have n15_ := aA ((by rw [hg]; exact Nat.ne_of_lt (blk_lt (g := gb222) (o := .cells #[.int .i64 a2_0, .int .u64 a2_1, .int .u64 a2_2] 56 (0, 0)) (bku BK222.out)) : gb222 ≠ gb248)); have n16_ := aA ((by rw [hg]; exact Nat.ne_of_gt (blk_lt (g := gb222) (o := .cells #[.int .i64 a2_0, .int .u64 a2_1, .int .u64 a2_2] 56 (0, 0)) (bku BK222.out)) : gb248 ≠ gb222)); have n17_ := aA ((by rw [hg]; exact Nat.ne_of_lt (blk_lt (g := gb226) (o := .cells #[.int .i64 a0_0, .int .i64 a0_1] 39 (0, 0)) (bku BK226.out)) : gb226 ≠ gb248)); have n18_ := aA ((by rw [hg]; exact Nat.ne_of_gt (blk_lt (g := gb226) (o := .cells #[.int .i64 a0_0, .int .i64 a0_1] 39 (0, 0)) (bku BK226.out)) : gb248 ≠ gb226)); have n19_ := aA ((by rw [hg]; exact Nat.ne_of_lt (blk_lt (g := gb232) (o := .cells #[.int .i64 t227, .int .i64 t228, .int .u64 t229, .int .u64 t230] 25 (0, 0)) (bku BK232.out)) : gb232 ≠ gb248)); have n20_ := aA ((by rw [hg]; exact Nat.ne_of_gt (blk_lt (g := gb232) (o := .cells #[.int .i64 t227, .int .i64 t228, .int .u64 t229, .int .u64 t230] 25 (0, 0)) (bku BK232.out)) : gb248 ≠ gb232)); have n21_ := aA ((by rw [hg]; exact Nat.ne_of_lt (blk_lt (g := gb238) (o := .cells #[.int .i64 t233, .int .i64 t234, .int .u64 t235, .int .u64 t236] 30 (0, 0)) (bku BK238.out)) : gb238 ≠ gb248)); have n22_ := aA ((by rw [hg]; exact Nat.ne_of_gt (blk_lt (g := gb238) (o := .cells #[.int .i64 t233, .int .i64 t234, .int .u64 t235, .int .u64 t236] 30 (0, 0)) (bku BK238.out)) : gb248 ≠ gb238)); have n23_ := aA ((by rw [hg]; exact Nat.ne_of_lt (blk_lt (g := gb243) (o := .cells #[.int .i64 t239, .int .u64 t240, .int .u64 t241] 56 (0, 0)) (bku BK243.out)) : gb243 ≠ gb248)); have n24_ := aA ((by rw [hg]; exact Nat.ne_of_gt (blk_lt (g := gb243) (o := .cells #[.int .i64 t239, .int .u64 t240, .int .u64 t241] 56 (0, 0)) (bku BK243.out)) : gb248 ≠ gb243)); clear BK220 BK221 BK222 BK226 BK232 BK238 BK243 HB; have BK220 := n0_; have BK221 := n1_; have BK222 := n2_; have BK226 := n3_; have BK232 := n4_; have BK238 := n5_; have BK243 := n6_; have HB := n7_; have BK248 := n8_; have GW248 := n9_; have GE248 := n10_; have NB220_248 := n11_; have NB248_220 := n12_; have NB221_248 := n13_; have NB248_221 := n14_; have NB222_248 := n15_; have NB248_222 := n16_; have NB226_248 := n17_; have NB248_226 := n18_; have NB232_248 := n19_; have NB248_232 := n20_; have NB238_248 := n21_; have NB248_238 := n22_; have NB243_248 := n23_; have NB248_243 := n24_; clear n0_ n1_ n2_ n3_ n4_ n5_ n6_ n7_ n8_ n9_ n10_ n11_ n12_ n13_ n14_ n15_ n16_ n17_ n18_ n19_ n20_ n21_ n22_ n23_ n24_ hb hbox hg; have hnb81 := NB248_220.out; have hnc81 := NB220_248.out; have hnb82 := NB248_221.out; have hnc82 := NB221_248.out; have hnb83 := NB248_222.out; have hnc83 := NB222_248.out; have hnb84 := NB248_226.out; have hnc84 := NB226_248.out; have hnb85 := NB248_232.out; have hnc85 := NB232_248.out; have hnb86 := NB248_238.out; have hnc86 := NB238_248.out; have hnb87 := NB248_243.out; have hnc87 := NB243_248.out; have hcz88_0 : w80.cell? ⟨gb248, 0, none⟩ = some (.int .i64 0) := (blk_cell BK248.out 0).trans rfl; have hcz88_1 : w80.cell? ⟨gb248, 1, none⟩ = some (.int .u64 0) := (blk_cell BK248.out 1).trans rfl; have hcz88_2 : w80.cell? ⟨gb248, 2, none⟩ = some (.int .u64 0) := (blk_cell BK248.out 2).trans rfl; have hfz88_0 := blk_frozen BK248.out 0; have hfz88_1 := blk_frozen BK248.out 1; have hfz88_2 := blk_frozen BK248.out 2))
         have n0_ : Aside0 ((((w80.setCell ⟨gb248, 0, none⟩ (.int .i64 t244)).setCell ⟨gb248, 1, none⟩ (.int .u64 t245)).setCell ⟨gb248, 2, none⟩ (.int .u64 t246)).heap[gb220]? = some (.cells #[.int .i64 a0_0, .int .i64 a0_1] 38 (0, 0))) := ⟨by (with_reducible repeat (first | refine blk_drewN ?_ _ | refine blk_drew ?_ | refine blk_alloc ?_ _)); refine blk_far ?_ NB220_248.out _; (with_reducible repeat (first | refine blk_drewN ?_ _ | refine blk_drew ?_ | refine blk_alloc ?_ _)); refine blk_far ?_ NB220_248.out _; (with_reducible repeat (first | refine blk_drewN ?_ _ | refine blk_drew ?_ | refine blk_alloc ?_ _)); refine blk_far ?_ NB220_248.out _; (with_reducible repeat (first | refine blk_drewN ?_ _ | refine blk_drew ?_ | refine blk_alloc ?_ _)); exact BK220.out⟩
         have n1_ : Aside0 ((((w80.setCell ⟨gb248, 0, none⟩ (.int .i64 t244)).setCell ⟨gb248, 1, none⟩ (.int .u64 t245)).setCell ⟨gb248, 2, none⟩ (.int .u64 t246)).heap[gb221]? = some (.cells #[.int .i64 a1_0, .int .u64 a1_1, .int .u64 a1_2] 54 (0, 0))) := ⟨by (with_reducible repeat (first | refine blk_drewN ?_ _ | refine blk_drew ?_ | refine blk_alloc ?_ _)); refine blk_far ?_ NB221_248.out _; (with_reducible repeat (first | refine blk_drewN ?_ _ | refine blk_drew ?_ | refine blk_alloc ?_ _)); refine blk_far ?_ NB221_248.out _; (with_reducible repeat (first | refine blk_drewN ?_ _ | refine blk_drew ?_ | refine blk_alloc ?_ _)); refine blk_far ?_ NB221_248.out _; (with_reducible repeat (first | refine blk_drewN ?_ _ | refine blk_drew ?_ | refine blk_alloc ?_ _)); exact BK221.out⟩
         have n2_ : Aside0 ((((w80.setCell ⟨gb248, 0, none⟩ (.int .i64 t244)).setCell ⟨gb248, 1, none⟩ (.int .u64 t245)).setCell ⟨gb248, 2, none⟩ (.int .u64 t246)).heap[gb222]? = some (.cells #[.int .i64 a2_0, .int .u64 a2_1, .int .u64 a2_2] 56 (0, 0))) := ⟨by (with_reducible repeat (first | refine blk_drewN ?_ _ | refine blk_drew ?_ | refine blk_alloc ?_ _)); refine blk_far ?_ NB222_248.out _; (with_reducible repeat (first | refine blk_drewN ?_ _ | refine blk_drew ?_ | refine blk_alloc ?_ _)); refine blk_far ?_ NB222_248.out _; (with_reducible repeat (first | refine blk_drewN ?_ _ | refine blk_drew ?_ | refine blk_alloc ?_ _)); refine blk_far ?_ NB222_248.out _; (with_reducible repeat (first | refine blk_drewN ?_ _ | refine blk_drew ?_ | refine blk_alloc ?_ _)); exact BK222.out⟩
         have n3_ : Aside0 ((((w80.setCell ⟨gb248, 0, none⟩ (.int .i64 t244)).setCell ⟨gb248, 1, none⟩ (.int .u64 t245)).setCell ⟨gb248, 2, none⟩ (.int .u64 t246)).heap[gb226]? = some (.cells #[.int .i64 a0_0, .int .i64 a0_1] 39 (0, 0))) := ⟨by (with_reducible repeat (first | refine blk_drewN ?_ _ | refine blk_drew ?_ | refine blk_alloc ?_ _)); refine blk_far ?_ NB226_248.out _; (with_reducible repeat (first | refine blk_drewN ?_ _ | refine blk_drew ?_ | refine blk_alloc ?_ _)); refine blk_far ?_ NB226_248.out _; (with_reducible repeat (first | refine blk_drewN ?_ _ | refine blk_drew ?_ | refine blk_alloc ?_ _)); refine blk_far ?_ NB226_248.out _; (with_reducible repeat (first | refine blk_drewN ?_ _ | refine blk_drew ?_ | refine blk_alloc ?_ _)); exact BK226.out⟩
         have n4_ : Aside0 ((((w80.setCell ⟨gb248, 0, none⟩ (.int .i64 t244)).setCell ⟨gb248, 1, none⟩ (.int .u64 t245)).setCell ⟨gb248, 2, none⟩ (.int .u64 t246)).heap[gb232]? = some (.cells #[.int .i64 t227, .int .i64 t228, .int .u64 t229, .int .u64 t230] 25 (0, 0))) := ⟨by (with_reducible repeat (first | refine blk_drewN ?_ _ | refine blk_drew ?_ | refine blk_alloc ?_ _)); refine blk_far ?_ NB232_248.out _; (with_reducible repeat (first | refine blk_drewN ?_ _ | refine blk_drew ?_ | refine blk_alloc ?_ _)); refine blk_far ?_ NB232_248.out _; (with_reducible repeat (first | refine blk_drewN ?_ _ | refine blk_drew ?_ | refine blk_alloc ?_ _)); refine blk_far ?_ NB232_248.out _; (with_reducible repeat (first | refine blk_drewN ?_ _ | refine blk_drew ?_ | refine blk_alloc ?_ _)); exact BK232.out⟩
         have n5_ : Aside0 ((((w80.setCell ⟨gb248, 0, none⟩ (.int .i64 t244)).setCell ⟨gb248, 1, none⟩ (.int .u64 t245)).setCell ⟨gb248, 2, none⟩ (.int .u64 t246)).heap[gb238]? = some (.cells #[.int .i64 t233, .int .i64 t234, .int .u64 t235, .int .u64 t236] 30 (0, 0))) := ⟨by (with_reducible repeat (first | refine blk_drewN ?_ _ | refine blk_drew ?_ | refine blk_alloc ?_ _)); refine blk_far ?_ NB238_248.out _; (with_reducible repeat (first | refine blk_drewN ?_ _ | refine blk_drew ?_ | refine blk_alloc ?_ _)); refine blk_far ?_ NB238_248.out _; (with_reducible repeat (first | refine blk_drewN ?_ _ | refine blk_drew ?_ | refine blk_alloc ?_ _)); refine blk_far ?_ NB238_248.out _; (with_reducible repeat (first | refine blk_drewN ?_ _ | refine blk_drew ?_ | refine blk_alloc ?_ _)); exact BK238.out⟩
         have n6_ : Aside0 ((((w80.setCell ⟨gb248, 0, none⟩ (.int .i64 t244)).setCell ⟨gb248, 1, none⟩ (.int .u64 t245)).setCell ⟨gb248, 2, none⟩ (.int .u64 t246)).heap[gb243]? = some (.cells #[.int .i64 t239, .int .u64 t240, .int .u64 t241] 56 (0, 0))) := ⟨by (with_reducible repeat (first | refine blk_drewN ?_ _ | refine blk_drew ?_ | refine blk_alloc ?_ _)); refine blk_far ?_ NB243_248.out _; (with_reducible repeat (first | refine blk_drewN ?_ _ | refine blk_drew ?_ | refine blk_alloc ?_ _)); refine blk_far ?_ NB243_248.out _; (with_reducible repeat (first | refine blk_drewN ?_ _ | refine blk_drew ?_ | refine blk_alloc ?_ _)); refine blk_far ?_ NB243_248.out _; (with_reducible repeat (first | refine blk_drewN ?_ _ | refine blk_drew ?_ | refine blk_alloc ?_ _)); exact BK243.out⟩
         have n7_ : Aside0 ((((w80.setCell ⟨gb248, 0, none⟩ (.int .i64 t244)).setCell ⟨gb248, 1, none⟩ (.int .u64 t245)).setCell ⟨gb248, 2, none⟩ (.int .u64 t246)).heap[gb248]? = some (.cells #[.int .i64 t244, .int .u64 t245, .int .u64 t246] 64 (0, 0))) := ⟨by (with_reducible repeat (first | refine blk_drewN ?_ _ | refine blk_drew ?_ | refine blk_alloc ?_ _)); refine blk_put (cs := #[.int .i64 t244, .int .u64 t245, .int .u64 0]) ?_ 2 _ rfl; (with_reducible repeat (first | refine blk_drewN ?_ _ | refine blk_drew ?_ | refine blk_alloc ?_ _)); refine blk_put (cs := #[.int .i64 t244, .int .u64 0, .int .u64 0]) ?_ 1 _ rfl; (with_reducible repeat (first | refine blk_drewN ?_ _ | refine blk_drew ?_ | refine blk_alloc ?_ _)); refine blk_put (cs := #[.int .i64 0, .int .u64 0, .int .u64 0]) ?_ 0 _ rfl; (with_reducible repeat (first | refine blk_drewN ?_ _ | refine blk_drew ?_ | refine blk_alloc ?_ _)); exact BK248.out⟩
         have n8_ : Aside0 (Below w.heap.size w (((w80.setCell ⟨gb248, 0, none⟩ (.int .i64 t244)).setCell ⟨gb248, 1, none⟩ (.int .u64 t245)).setCell ⟨gb248, 2, none⟩ (.int .u64 t246))) := ⟨by repeat (first | (with_reducible first | exact HB.out | apply below_alloc | apply pw_below_drewN | apply below_drew1 | refine below_set ?_ GE220.out | refine below_set ?_ GE221.out | refine below_set ?_ GE222.out | refine below_set ?_ GE226.out | refine below_set ?_ GE232.out | refine below_set ?_ GE238.out | refine below_set ?_ GE243.out | refine below_set ?_ GE248.out) | exact HB.out)⟩
         (try clear BK220)
         (try clear BK221)
         (try clear BK222)
         (try clear BK226)
         (try clear BK232)
         (try clear BK238)
         (try clear BK243)
         (try clear BK248)
         (try clear HB)
         generalize (((w80.setCell ⟨gb248, 0, none⟩ (.int .i64 t244)).setCell ⟨gb248, 1, none⟩ (.int .u64 t245)).setCell ⟨gb248, 2, none⟩ (.int .u64 t246)) = w89 at n0_ n1_ n2_ n3_ n4_ n5_ n6_ n7_ n8_ ⊢
         have BK220 := n0_
         have BK221 := n1_
         have BK222 := n2_
         have BK226 := n3_
         have BK232 := n4_
         have BK238 := n5_
         have BK243 := n6_
         have BK248 := n7_
         have HB := n8_
         clear n0_ n1_ n2_ n3_ n4_ n5_ n6_ n7_ n8_
         have n0_ := aA (blk_drew BK220.out)
         have n1_ := aA (blk_drew BK221.out)
         have n2_ := aA (blk_drew BK222.out)
         have n3_ := aA (blk_drew BK226.out)
         have n4_ := aA (blk_drew BK232.out)
         have n5_ := aA (blk_drew BK238.out)
         have n6_ := aA (blk_drew BK243.out)
         have n7_ := aA (blk_drew BK248.out)
         have n8_ := aA (below_drew1 HB.out)
         clear BK220
         clear BK221
         clear BK222
         clear BK226
         clear BK232
         clear BK238
         clear BK243
         clear BK248
         clear HB
         have BK220 := n0_
         have BK221 := n1_
         have BK222 := n2_
         have BK226 := n3_
         have BK232 := n4_
         have BK238 := n5_
         have BK243 := n6_
         have BK248 := n7_
         have HB := n8_
         clear n0_ n1_ n2_ n3_ n4_ n5_ n6_ n7_ n8_
         refine start_ (n := 39) (S := fun w' => w'.cell? ⟨gb232, 0, none⟩ = some (.int .i64 t227) ∧ w'.cell? ⟨gb232, 1, none⟩ = some (.int .i64 t228) ∧ w'.cell? ⟨gb232, 2, none⟩ = some (.int .u64 t229) ∧ w'.cell? ⟨gb232, 3, none⟩ = some (.int .u64 t230) ∧ w'.cell? ⟨gb238, 0, none⟩ = some (.int .i64 t233) ∧ w'.cell? ⟨gb238, 1, none⟩ = some (.int .i64 t234) ∧ w'.cell? ⟨gb238, 2, none⟩ = some (.int .u64 t235) ∧ w'.cell? ⟨gb238, 3, none⟩ = some (.int .u64 t236) ∧ w'.cell? ⟨gb221, 0, none⟩ = some (.int .i64 a1_0) ∧ w'.cell? ⟨gb221, 1, none⟩ = some (.int .u64 a1_1) ∧ w'.cell? ⟨gb221, 2, none⟩ = some (.int .u64 a1_2) ∧ w'.cell? ⟨gb220, 0, none⟩ = some (.int .i64 a0_0) ∧ w'.cell? ⟨gb220, 1, none⟩ = some (.int .i64 a0_1) ∧ w'.cell? ⟨gb222, 0, none⟩ = some (.int .i64 a2_0) ∧ w'.cell? ⟨gb222, 1, none⟩ = some (.int .u64 a2_1) ∧ w'.cell? ⟨gb222, 2, none⟩ = some (.int .u64 a2_2) ∧ w'.cell? ⟨gb226, 0, none⟩ = some (.int .i64 a0_0) ∧ w'.cell? ⟨gb226, 1, none⟩ = some (.int .i64 a0_1) ∧ w'.cell? ⟨gb243, 0, none⟩ = some (.int .i64 t239) ∧ w'.cell? ⟨gb243, 1, none⟩ = some (.int .u64 t240) ∧ w'.cell? ⟨gb243, 2, none⟩ = some (.int .u64 t241) ∧ w'.cell? ⟨gb248, 0, none⟩ = some (.int .i64 t244) ∧ w'.cell? ⟨gb248, 1, none⟩ = some (.int .u64 t245) ∧ w'.cell? ⟨gb248, 2, none⟩ = some (.int .u64 t246)) (ds := []) #[false, false, false, false, false, false, false, false, false, false, false, false, false, false, false, false, false, false, false, false, false, false, false, false, false, false, false, false, false, false, false, false, false, false, false, false, false, false, false] (by kernel_rfl) rfl rfl ⟨(blk_cell BK232.out 0).trans rfl, (blk_cell BK232.out 1).trans rfl, (blk_cell BK232.out 2).trans rfl, (blk_cell BK232.out 3).trans rfl, (blk_cell BK238.out 0).trans rfl, (blk_cell BK238.out 1).trans rfl, (blk_cell BK238.out 2).trans rfl, (blk_cell BK238.out 3).trans rfl, (blk_cell BK221.out 0).trans rfl, (blk_cell BK221.out 1).trans rfl, (blk_cell BK221.out 2).trans rfl, (blk_cell BK220.out 0).trans rfl, (blk_cell BK220.out 1).trans rfl, (blk_cell BK222.out 0).trans rfl, (blk_cell BK222.out 1).trans rfl, (blk_cell BK222.out 2).trans rfl, (blk_cell BK226.out 0).trans rfl, (blk_cell BK226.out 1).trans rfl, (blk_cell BK243.out 0).trans rfl, (blk_cell BK243.out 1).trans rfl, (blk_cell BK243.out 2).trans rfl, (blk_cell BK248.out 0).trans rfl, (blk_cell BK248.out 1).trans rfl, (blk_cell BK248.out 2).trans rfl⟩ (fun hHeld => ?_); refine with_tabW treillagelaw16_QueueTells.tab8 treillagelaw16_QueueTells.bits8 (fun HT_ HW_ => ?_)
         generalize w89.drew = w90 at BK220 BK221 BK222 BK226 BK232 BK238 BK243 BK248 HB hHeld ⊢
         refine take_ (i := 0) (N := some 55) (v := ?_) (a' := ?_) #[true, false, false, false, false, false, false, false, false, false, false, false, false, false, false, false, false, false, false, false, false, false, false, false, false, false, false, false, false, false, false, false, false, false, false, false, false, false, false] rfl rfl (take_ofW HT_.out HW_.out (by kernel_rfl)) (fun _ _ _ h => h) (Or.inl ⟨by rfl, ?_⟩) hHeld ?_ ?_
         rotate_left
         ·rintro w' ⟨s0, s1, s2, s3, s4, s5, s6, s7, s8, s9, s10, s11, s12, s13, s14, s15, s16, s17, s18, s19, s20, s21, s22, s23⟩
          go_simp
          with_reducible rfl
         rotate_left
         ·simp only [Act.put, List.setIfInBounds_toArray, List.set_cons_zero, List.set_cons_succ, i64_w, i32_w]
          rfl
         refine take_ (i := 1) (N := some 56) (v := ?_) (a' := ?_) #[true, true, false, false, false, false, false, false, false, false, false, false, false, false, false, false, false, false, false, false, false, false, false, false, false, false, false, false, false, false, false, false, false, false, false, false, false, false, false] rfl rfl (take_ofW HT_.out HW_.out (by kernel_rfl)) (fun _ _ _ h => h) (Or.inl ⟨by rfl, ?_⟩) hHeld ?_ ?_
         rotate_left
         ·rintro w' ⟨s0, s1, s2, s3, s4, s5, s6, s7, s8, s9, s10, s11, s12, s13, s14, s15, s16, s17, s18, s19, s20, s21, s22, s23⟩
          go_simp
          with_reducible rfl
         rotate_left
         ·simp only [Act.put, List.setIfInBounds_toArray, List.set_cons_zero, List.set_cons_succ, i64_w, i32_w]
          rfl
         refine pure_ (i := 2) (N := some 57) (v := ?_) (a' := ?_) #[true, true, true, false, false, false, false, false, false, false, false, false, false, false, false, false, false, false, false, false, false, false, false, false, false, false, false, false, false, false, false, false, false, false, false, false, false, false, false] rfl rfl (any_of HT_.out (by kernel_rfl)) (fun _ _ _ h => h) (Or.inl ⟨by rfl, ?_⟩) ?_ ?_
         rotate_left
         ·intro w'
          go_simp
          with_reducible rfl
         rotate_left
         ·simp only [Act.put, List.setIfInBounds_toArray, List.set_cons_zero, List.set_cons_succ, i64_w, i32_w]
          rfl
         refine pure_ (i := 3) (N := some 58) (v := ?_) (a' := ?_) #[true, true, true, true, false, false, false, false, false, false, false, false, false, false, false, false, false, false, false, false, false, false, false, false, false, false, false, false, false, false, false, false, false, false, false, false, false, false, false] rfl rfl (any_of HT_.out (by kernel_rfl)) (fun _ _ _ h => h) (Or.inl ⟨by rfl, ?_⟩) ?_ ?_
         rotate_left
         ·intro w'
          go_simp
          with_reducible rfl
         rotate_left
         ·simp only [Act.put, List.setIfInBounds_toArray, List.set_cons_zero, List.set_cons_succ, i64_w, i32_w]
          rfl
         refine pure_ (i := 4) (N := some 59) (v := ?_) (a' := ?_) #[true, true, true, true, true, false, false, false, false, false, false, false, false, false, false, false, false, false, false, false, false, false, false, false, false, false, false, false, false, false, false, false, false, false, false, false, false, false, false] rfl rfl (any_of HT_.out (by kernel_rfl)) (fun _ _ _ h => h) (Or.inl ⟨by rfl, ?_⟩) ?_ ?_
         rotate_left
         ·intro w'
          go_simp
          with_reducible rfl
         rotate_left
         ·simp only [Act.put, List.setIfInBounds_toArray, List.set_cons_zero, List.set_cons_succ, i64_w, i32_w]
          rfl
         refine pure_ (i := 5) (N := some 60) (v := ?_) (a' := ?_) #[true, true, true, true, true, true, false, false, false, false, false, false, false, false, false, false, false, false, false, false, false, false, false, false, false, false, false, false, false, false, false, false, false, false, false, false, false, false, false] rfl rfl (any_of HT_.out (by kernel_rfl)) (fun _ _ _ h => h) (Or.inl ⟨by rfl, ?_⟩) ?_ ?_
         rotate_left
         ·intro w'
          go_simp
          with_reducible rfl
         rotate_left
         ·simp only [Act.put, List.setIfInBounds_toArray, List.set_cons_zero, List.set_cons_succ, i64_w, i32_w]
          rfl
         refine pure_ (i := 6) (N := some 61) (v := ?_) (a' := ?_) #[true, true, true, true, true, true, true, false, false, false, false, false, false, false, false, false, false, false, false, false, false, false, false, false, false, false, false, false, false, false, false, false, false, false, false, false, false, false, false] rfl rfl (any_of HT_.out (by kernel_rfl)) (fun _ _ _ h => h) (Or.inl ⟨by rfl, ?_⟩) ?_ ?_
         rotate_left
         ·intro w'
          go_simp
          with_reducible rfl
         rotate_left
         ·simp only [Act.put, List.setIfInBounds_toArray, List.set_cons_zero, List.set_cons_succ, i64_w, i32_w]
          rfl
         refine pure_ (i := 7) (N := some 62) (v := ?_) (a' := ?_) #[true, true, true, true, true, true, true, true, false, false, false, false, false, false, false, false, false, false, false, false, false, false, false, false, false, false, false, false, false, false, false, false, false, false, false, false, false, false, false] rfl rfl (any_of HT_.out (by kernel_rfl)) (fun _ _ _ h => h) (Or.inl ⟨by rfl, ?_⟩) ?_ ?_
         rotate_left
         ·intro w'
          go_simp
          with_reducible rfl
         rotate_left
         ·simp only [Act.put, List.setIfInBounds_toArray, List.set_cons_zero, List.set_cons_succ, i64_w, i32_w]
          rfl
         refine pure_ (i := 8) (N := some 63) (v := ?_) (a' := ?_) #[true, true, true, true, true, true, true, true, true, false, false, false, false, false, false, false, false, false, false, false, false, false, false, false, false, false, false, false, false, false, false, false, false, false, false, false, false, false, false] rfl rfl (any_of HT_.out (by kernel_rfl)) (fun _ _ _ h => h) (Or.inl ⟨by rfl, ?_⟩) ?_ ?_
         rotate_left
         ·intro w'
          go_simp
          with_reducible rfl
         rotate_left
         ·simp only [Act.put, List.setIfInBounds_toArray, List.set_cons_zero, List.set_cons_succ, i64_w, i32_w]
          rfl
         refine pure_ (i := 10) (N := some 65) (v := ?_) (a' := ?_) #[true, true, true, true, true, true, true, true, true, false, true, false, false, false, false, false, false, false, false, false, false, false, false, false, false, false, false, false, false, false, false, false, false, false, false, false, false, false, false] rfl rfl (any_of HT_.out (by kernel_rfl)) (fun _ _ _ h => h) (Or.inl ⟨by rfl, ?_⟩) ?_ ?_
         rotate_left
         ·intro w'
          go_simp
          with_reducible rfl
         rotate_left
         ·simp only [Act.put, List.setIfInBounds_toArray, List.set_cons_zero, List.set_cons_succ, i64_w, i32_w]
          rfl
         refine pure_ (i := 11) (N := some 66) (v := ?_) (a' := ?_) #[true, true, true, true, true, true, true, true, true, false, true, true, false, false, false, false, false, false, false, false, false, false, false, false, false, false, false, false, false, false, false, false, false, false, false, false, false, false, false] rfl rfl (any_of HT_.out (by kernel_rfl)) (fun _ _ _ h => h) (Or.inl ⟨by rfl, ?_⟩) ?_ ?_
         rotate_left
         ·intro w'
          go_simp
          with_reducible rfl
         rotate_left
         ·simp only [Act.put, List.setIfInBounds_toArray, List.set_cons_zero, List.set_cons_succ, i64_w, i32_w]
          rfl
         refine pure_ (i := 14) (N := some 69) (v := ?_) (a' := ?_) #[true, true, true, true, true, true, true, true, true, false, true, true, false, false, true, false, false, false, false, false, false, false, false, false, false, false, false, false, false, false, false, false, false, false, false, false, false, false, false] rfl rfl (any_of HT_.out (by kernel_rfl)) (fun _ _ _ h => h) (Or.inl ⟨by rfl, ?_⟩) ?_ ?_
         rotate_left
         ·intro w'
          go_simp
          with_reducible rfl
         rotate_left
         ·simp only [Act.put, List.setIfInBounds_toArray, List.set_cons_zero, List.set_cons_succ, i64_w, i32_w]
          rfl
         refine pure_ (i := 15) (N := some 70) (v := ?_) (a' := ?_) #[true, true, true, true, true, true, true, true, true, false, true, true, false, false, true, true, false, false, false, false, false, false, false, false, false, false, false, false, false, false, false, false, false, false, false, false, false, false, false] rfl rfl (any_of HT_.out (by kernel_rfl)) (fun _ _ _ h => h) (Or.inl ⟨by rfl, ?_⟩) ?_ ?_
         rotate_left
         ·intro w'
          go_simp
          with_reducible rfl
         rotate_left
         ·simp only [Act.put, List.setIfInBounds_toArray, List.set_cons_zero, List.set_cons_succ, i64_w, i32_w]
          rfl
         refine take_ (i := 9) (N := some 64) (v := ?_) (a' := ?_) #[true, true, true, true, true, true, true, true, true, true, true, true, false, false, true, true, false, false, false, false, false, false, false, false, false, false, false, false, false, false, false, false, false, false, false, false, false, false, false] rfl rfl (take_ofW HT_.out HW_.out (by kernel_rfl)) (fun _ _ _ h => h) (Or.inl ⟨by rfl, ?_⟩) hHeld ?_ ?_
         rotate_left
         ·rintro w' ⟨s0, s1, s2, s3, s4, s5, s6, s7, s8, s9, s10, s11, s12, s13, s14, s15, s16, s17, s18, s19, s20, s21, s22, s23⟩
          go_simp
          with_reducible rfl
         rotate_left
         ·simp only [Act.put, List.setIfInBounds_toArray, List.set_cons_zero, List.set_cons_succ, i64_w, i32_w]
          rfl
         refine take_ (i := 13) (N := some 68) (v := ?_) (a' := ?_) #[true, true, true, true, true, true, true, true, true, true, true, true, false, true, true, true, false, false, false, false, false, false, false, false, false, false, false, false, false, false, false, false, false, false, false, false, false, false, false] rfl rfl (take_ofW HT_.out HW_.out (by kernel_rfl)) (fun _ _ _ h => h) (Or.inl ⟨by rfl, ?_⟩) hHeld ?_ ?_
         rotate_left
         ·rintro w' ⟨s0, s1, s2, s3, s4, s5, s6, s7, s8, s9, s10, s11, s12, s13, s14, s15, s16, s17, s18, s19, s20, s21, s22, s23⟩
          go_simp
          with_reducible rfl
         rotate_left
         ·simp only [Act.put, List.setIfInBounds_toArray, List.set_cons_zero, List.set_cons_succ, i64_w, i32_w]
          rfl
         refine one_ (i := 12) (N := some 67) #[true, true, true, true, true, true, true, true, true, true, true, true, true, true, true, true, false, false, false, false, false, false, false, false, false, false, false, false, false, false, false, false, false, false, false, false, false, false, false] rfl rfl (one_of HT_.out (by kernel_rfl)) (by decide) (fun K hK => ?_)
         refine goes_ Try.func51 (by kernel_rfl) rfl #[.agg #[.int .i64 a1_0, .int .u64 a1_1, .int .u64 a1_2], .int .u64 a3, .bool a4] (by rfl) rfl rfl (by (try simp only [List.map_toArray, List.map_cons, List.map_nil]); first | done | rfl | (simp only [List.length_drop, List.length_take]; rfl)) ?_
         with_reducible refine (queue_Got.calls kj5 a1_0 a1_1 a1_2 a3 a4 t249 t250 t251 _ A31.out).mono ?_
         rintro e w91 ⟨rfl, hb⟩
         refine ⟨_, rfl, ?_⟩
         have n0_ := aA (blk_below (g := gb220) (o := .cells #[.int .i64 a0_0, .int .i64 a0_1] 38 (0, 0)) (bku BK220.out) hb)
         have n1_ := aA (blk_below (g := gb221) (o := .cells #[.int .i64 a1_0, .int .u64 a1_1, .int .u64 a1_2] 54 (0, 0)) (bku BK221.out) hb)
         have n2_ := aA (blk_below (g := gb222) (o := .cells #[.int .i64 a2_0, .int .u64 a2_1, .int .u64 a2_2] 56 (0, 0)) (bku BK222.out) hb)
         have n3_ := aA (blk_below (g := gb226) (o := .cells #[.int .i64 a0_0, .int .i64 a0_1] 39 (0, 0)) (bku BK226.out) hb)
         have n4_ := aA (blk_below (g := gb232) (o := .cells #[.int .i64 t227, .int .i64 t228, .int .u64 t229, .int .u64 t230] 25 (0, 0)) (bku BK232.out) hb)
         have n5_ := aA (blk_below (g := gb238) (o := .cells #[.int .i64 t233, .int .i64 t234, .int .u64 t235, .int .u64 t236] 30 (0, 0)) (bku BK238.out) hb)
         have n6_ := aA (blk_below (g := gb243) (o := .cells #[.int .i64 t239, .int .u64 t240, .int .u64 t241] 56 (0, 0)) (bku BK243.out) hb)
         have n7_ := aA (blk_below (g := gb248) (o := .cells #[.int .i64 t244, .int .u64 t245, .int .u64 t246] 64 (0, 0)) (bku BK248.out) hb)
         have n8_ := aA (below_step (bls HB.out) hb)
         clear BK220
         clear BK221
         clear BK222
         clear BK226
         clear BK232
         clear BK238
         clear BK243
         clear BK248
         clear HB
         have BK220 := n0_
         have BK221 := n1_
         have BK222 := n2_
         have BK226 := n3_
         have BK232 := n4_
         have BK238 := n5_
         have BK243 := n6_
         have BK248 := n7_
         have HB := n8_
         clear n0_ n1_ n2_ n3_ n4_ n5_ n6_ n7_ n8_
         (try clear hb)
         (try clear hb2)
         (try clear hk)
         (try clear hi)
         refine hK.out _ _ ⟨(blk_cell BK232.out 0).trans rfl, (blk_cell BK232.out 1).trans rfl, (blk_cell BK232.out 2).trans rfl, (blk_cell BK232.out 3).trans rfl, (blk_cell BK238.out 0).trans rfl, (blk_cell BK238.out 1).trans rfl, (blk_cell BK238.out 2).trans rfl, (blk_cell BK238.out 3).trans rfl, (blk_cell BK221.out 0).trans rfl, (blk_cell BK221.out 1).trans rfl, (blk_cell BK221.out 2).trans rfl, (blk_cell BK220.out 0).trans rfl, (blk_cell BK220.out 1).trans rfl, (blk_cell BK222.out 0).trans rfl, (blk_cell BK222.out 1).trans rfl, (blk_cell BK222.out 2).trans rfl, (blk_cell BK226.out 0).trans rfl, (blk_cell BK226.out 1).trans rfl, (blk_cell BK243.out 0).trans rfl, (blk_cell BK243.out 1).trans rfl, (blk_cell BK243.out 2).trans rfl, (blk_cell BK248.out 0).trans rfl, (blk_cell BK248.out 1).trans rfl, (blk_cell BK248.out 2).trans rfl⟩ (fun hHeld => ?_)
         clear hK K
         refine norm_ (a' := ?_) ?_ ?_
         rotate_left
         ·show Act.put _ (some 67) _ = _
          simp only [Act.put, List.setIfInBounds_toArray, List.set_cons_zero, List.set_cons_succ, i64_w, i32_w]
          rfl
         refine one_ (i := 16) (N := some 71) #[true, true, true, true, true, true, true, true, true, true, true, true, true, true, true, true, true, false, false, false, false, false, false, false, false, false, false, false, false, false, false, false, false, false, false, false, false, false, false] rfl rfl (one_of HT_.out (by kernel_rfl)) (by decide) (fun K hK => ?_)
         refine goes_ Try.func52 (by kernel_rfl) rfl #[.agg #[.int .i64 a1_0, .int .u64 a1_1, .int .u64 a1_2], .int .u64 a3, .bool a4] (by rfl) rfl rfl (by (try simp only [List.map_toArray, List.map_cons, List.map_nil]); first | done | rfl | (simp only [List.length_drop, List.length_take]; rfl)) ?_
         with_reducible refine (treillageref16_Got.calls a1_0 a1_1 a1_2 a3 a4 t252 t253 t254 _ A32.out).mono ?_
         rintro e w92 ⟨rfl, hb⟩
         refine ⟨_, rfl, ?_⟩
         have n0_ := aA (blk_below (g := gb220) (o := .cells #[.int .i64 a0_0, .int .i64 a0_1] 38 (0, 0)) (bku BK220.out) hb)
         have n1_ := aA (blk_below (g := gb221) (o := .cells #[.int .i64 a1_0, .int .u64 a1_1, .int .u64 a1_2] 54 (0, 0)) (bku BK221.out) hb)
         have n2_ := aA (blk_below (g := gb222) (o := .cells #[.int .i64 a2_0, .int .u64 a2_1, .int .u64 a2_2] 56 (0, 0)) (bku BK222.out) hb)
         have n3_ := aA (blk_below (g := gb226) (o := .cells #[.int .i64 a0_0, .int .i64 a0_1] 39 (0, 0)) (bku BK226.out) hb)
         have n4_ := aA (blk_below (g := gb232) (o := .cells #[.int .i64 t227, .int .i64 t228, .int .u64 t229, .int .u64 t230] 25 (0, 0)) (bku BK232.out) hb)
         have n5_ := aA (blk_below (g := gb238) (o := .cells #[.int .i64 t233, .int .i64 t234, .int .u64 t235, .int .u64 t236] 30 (0, 0)) (bku BK238.out) hb)
         have n6_ := aA (blk_below (g := gb243) (o := .cells #[.int .i64 t239, .int .u64 t240, .int .u64 t241] 56 (0, 0)) (bku BK243.out) hb)
         have n7_ := aA (blk_below (g := gb248) (o := .cells #[.int .i64 t244, .int .u64 t245, .int .u64 t246] 64 (0, 0)) (bku BK248.out) hb)
         have n8_ := aA (below_step (bls HB.out) hb)
         clear BK220
         clear BK221
         clear BK222
         clear BK226
         clear BK232
         clear BK238
         clear BK243
         clear BK248
         clear HB
         have BK220 := n0_
         have BK221 := n1_
         have BK222 := n2_
         have BK226 := n3_
         have BK232 := n4_
         have BK238 := n5_
         have BK243 := n6_
         have BK248 := n7_
         have HB := n8_
         clear n0_ n1_ n2_ n3_ n4_ n5_ n6_ n7_ n8_
         (try clear hb)
         (try clear hb2)
         (try clear hk)
         (try clear hi)
         refine hK.out _ _ ⟨(blk_cell BK232.out 0).trans rfl, (blk_cell BK232.out 1).trans rfl, (blk_cell BK232.out 2).trans rfl, (blk_cell BK232.out 3).trans rfl, (blk_cell BK238.out 0).trans rfl, (blk_cell BK238.out 1).trans rfl, (blk_cell BK238.out 2).trans rfl, (blk_cell BK238.out 3).trans rfl, (blk_cell BK221.out 0).trans rfl, (blk_cell BK221.out 1).trans rfl, (blk_cell BK221.out 2).trans rfl, (blk_cell BK220.out 0).trans rfl, (blk_cell BK220.out 1).trans rfl, (blk_cell BK222.out 0).trans rfl, (blk_cell BK222.out 1).trans rfl, (blk_cell BK222.out 2).trans rfl, (blk_cell BK226.out 0).trans rfl, (blk_cell BK226.out 1).trans rfl, (blk_cell BK243.out 0).trans rfl, (blk_cell BK243.out 1).trans rfl, (blk_cell BK243.out 2).trans rfl, (blk_cell BK248.out 0).trans rfl, (blk_cell BK248.out 1).trans rfl, (blk_cell BK248.out 2).trans rfl⟩ (fun hHeld => ?_)
         clear hK K
         refine norm_ (a' := ?_) ?_ ?_
         rotate_left
         ·show Act.put _ (some 71) _ = _
          simp only [Act.put, List.setIfInBounds_toArray, List.set_cons_zero, List.set_cons_succ, i64_w, i32_w]
          rfl
         refine pure_ (i := 17) (N := some 72) (v := ?_) (a' := ?_) #[true, true, true, true, true, true, true, true, true, true, true, true, true, true, true, true, true, true, false, false, false, false, false, false, false, false, false, false, false, false, false, false, false, false, false, false, false, false, false] rfl rfl (any_of HT_.out (by kernel_rfl)) (fun _ _ _ h => h) (Or.inl ⟨by rfl, ?_⟩) ?_ ?_
         rotate_left
         ·intro w'
          go_simp
          with_reducible rfl
         rotate_left
         ·simp only [Act.put, List.setIfInBounds_toArray, List.set_cons_zero, List.set_cons_succ, i64_w, i32_w]
          rfl
         refine pure_ (i := 18) (N := some 73) (v := ?_) (a' := ?_) #[true, true, true, true, true, true, true, true, true, true, true, true, true, true, true, true, true, true, true, false, false, false, false, false, false, false, false, false, false, false, false, false, false, false, false, false, false, false, false] rfl rfl (any_of HT_.out (by kernel_rfl)) (fun _ _ _ h => h) (Or.inl ⟨by rfl, ?_⟩) ?_ ?_
         rotate_left
         ·intro w'
          go_simp
          with_reducible rfl
         rotate_left
         ·simp only [Act.put, List.setIfInBounds_toArray, List.set_cons_zero, List.set_cons_succ, i64_w, i32_w]
          rfl
         refine pure_ (i := 19) (N := some 74) (v := ?_) (a' := ?_) #[true, true, true, true, true, true, true, true, true, true, true, true, true, true, true, true, true, true, true, true, false, false, false, false, false, false, false, false, false, false, false, false, false, false, false, false, false, false, false] rfl rfl (any_of HT_.out (by kernel_rfl)) (fun _ _ _ h => h) (Or.inl ⟨by rfl, ?_⟩) ?_ ?_
         rotate_left
         ·intro w'
          go_simp
          with_reducible rfl
         rotate_left
         ·simp only [Act.put, List.setIfInBounds_toArray, List.set_cons_zero, List.set_cons_succ, i64_w, i32_w]
          rfl
         refine take_ (i := 20) (N := some 75) (v := ?_) (a' := ?_) #[true, true, true, true, true, true, true, true, true, true, true, true, true, true, true, true, true, true, true, true, true, false, false, false, false, false, false, false, false, false, false, false, false, false, false, false, false, false, false] rfl rfl (take_ofW HT_.out HW_.out (by kernel_rfl)) (fun _ _ _ h => h) (Or.inl ⟨by rfl, ?_⟩) hHeld ?_ ?_
         rotate_left
         ·rintro w' ⟨s0, s1, s2, s3, s4, s5, s6, s7, s8, s9, s10, s11, s12, s13, s14, s15, s16, s17, s18, s19, s20, s21, s22, s23⟩
          go_simp
          with_reducible rfl
         rotate_left
         ·simp only [Act.put, List.setIfInBounds_toArray, List.set_cons_zero, List.set_cons_succ, i64_w, i32_w]
          rfl
         refine take_ (i := 21) (N := some 76) (v := ?_) (a' := ?_) #[true, true, true, true, true, true, true, true, true, true, true, true, true, true, true, true, true, true, true, true, true, true, false, false, false, false, false, false, false, false, false, false, false, false, false, false, false, false, false] rfl rfl (take_ofW HT_.out HW_.out (by kernel_rfl)) (fun _ _ _ h => h) (Or.inl ⟨by rfl, ?_⟩) hHeld ?_ ?_
         rotate_left
         ·rintro w' ⟨s0, s1, s2, s3, s4, s5, s6, s7, s8, s9, s10, s11, s12, s13, s14, s15, s16, s17, s18, s19, s20, s21, s22, s23⟩
          go_simp
          with_reducible rfl
         rotate_left
         ·simp only [Act.put, List.setIfInBounds_toArray, List.set_cons_zero, List.set_cons_succ, i64_w, i32_w]
          rfl
         refine take_ (i := 23) (N := some 78) (v := ?_) (a' := ?_) #[true, true, true, true, true, true, true, true, true, true, true, true, true, true, true, true, true, true, true, true, true, true, false, true, false, false, false, false, false, false, false, false, false, false, false, false, false, false, false] rfl rfl (take_ofW HT_.out HW_.out (by kernel_rfl)) (fun _ _ _ h => h) (Or.inl ⟨by rfl, ?_⟩) hHeld ?_ ?_
         rotate_left
         ·rintro w' ⟨s0, s1, s2, s3, s4, s5, s6, s7, s8, s9, s10, s11, s12, s13, s14, s15, s16, s17, s18, s19, s20, s21, s22, s23⟩
          go_simp
          with_reducible rfl
         rotate_left
         ·simp only [Act.put, List.setIfInBounds_toArray, List.set_cons_zero, List.set_cons_succ, i64_w, i32_w]
          rfl
         refine take_ (i := 24) (N := some 79) (v := ?_) (a' := ?_) #[true, true, true, true, true, true, true, true, true, true, true, true, true, true, true, true, true, true, true, true, true, true, false, true, true, false, false, false, false, false, false, false, false, false, false, false, false, false, false] rfl rfl (take_ofW HT_.out HW_.out (by kernel_rfl)) (fun _ _ _ h => h) (Or.inl ⟨by rfl, ?_⟩) hHeld ?_ ?_
         rotate_left
         ·rintro w' ⟨s0, s1, s2, s3, s4, s5, s6, s7, s8, s9, s10, s11, s12, s13, s14, s15, s16, s17, s18, s19, s20, s21, s22, s23⟩
          go_simp
          with_reducible rfl
         rotate_left
         ·simp only [Act.put, List.setIfInBounds_toArray, List.set_cons_zero, List.set_cons_succ, i64_w, i32_w]
          rfl
         refine one_ (i := 22) (N := some 77) #[true, true, true, true, true, true, true, true, true, true, true, true, true, true, true, true, true, true, true, true, true, true, true, true, true, false, false, false, false, false, false, false, false, false, false, false, false, false, false] rfl rfl (one_of HT_.out (by kernel_rfl)) (by decide) (fun K hK => ?_)
         refine goes_ Try.func53 (by kernel_rfl) rfl #[.agg #[.int .i64 a0_0, .int .i64 a0_1], .agg #[.int .i64 a2_0, .int .u64 a2_1, .int .u64 a2_2]] (by rfl) rfl rfl (by (try simp only [List.map_toArray, List.map_cons, List.map_nil]); first | done | rfl | (simp only [List.length_drop, List.length_take]; rfl)) ?_
         with_reducible refine (queue_Next.calls a0_0 a0_1 a2_0 a2_1 a2_2 t255 t256 t257 t258 _ A34.out).mono ?_
         rintro e w93 ⟨rfl, hb⟩
         refine ⟨_, rfl, ?_⟩
         have n0_ := aA (blk_below (g := gb220) (o := .cells #[.int .i64 a0_0, .int .i64 a0_1] 38 (0, 0)) (bku BK220.out) hb)
         have n1_ := aA (blk_below (g := gb221) (o := .cells #[.int .i64 a1_0, .int .u64 a1_1, .int .u64 a1_2] 54 (0, 0)) (bku BK221.out) hb)
         have n2_ := aA (blk_below (g := gb222) (o := .cells #[.int .i64 a2_0, .int .u64 a2_1, .int .u64 a2_2] 56 (0, 0)) (bku BK222.out) hb)
         have n3_ := aA (blk_below (g := gb226) (o := .cells #[.int .i64 a0_0, .int .i64 a0_1] 39 (0, 0)) (bku BK226.out) hb)
         have n4_ := aA (blk_below (g := gb232) (o := .cells #[.int .i64 t227, .int .i64 t228, .int .u64 t229, .int .u64 t230] 25 (0, 0)) (bku BK232.out) hb)
         have n5_ := aA (blk_below (g := gb238) (o := .cells #[.int .i64 t233, .int .i64 t234, .int .u64 t235, .int .u64 t236] 30 (0, 0)) (bku BK238.out) hb)
         have n6_ := aA (blk_below (g := gb243) (o := .cells #[.int .i64 t239, .int .u64 t240, .int .u64 t241] 56 (0, 0)) (bku BK243.out) hb)
         have n7_ := aA (blk_below (g := gb248) (o := .cells #[.int .i64 t244, .int .u64 t245, .int .u64 t246] 64 (0, 0)) (bku BK248.out) hb)
         have n8_ := aA (below_step (bls HB.out) hb)
         clear BK220
         clear BK221
         clear BK222
         clear BK226
         clear BK232
         clear BK238
         clear BK243
         clear BK248
         clear HB
         have BK220 := n0_
         have BK221 := n1_
         have BK222 := n2_
         have BK226 := n3_
         have BK232 := n4_
         have BK238 := n5_
         have BK243 := n6_
         have BK248 := n7_
         have HB := n8_
         clear n0_ n1_ n2_ n3_ n4_ n5_ n6_ n7_ n8_
         (try clear hb)
         (try clear hb2)
         (try clear hk)
         (try clear hi)
         refine hK.out _ _ ⟨(blk_cell BK232.out 0).trans rfl, (blk_cell BK232.out 1).trans rfl, (blk_cell BK232.out 2).trans rfl, (blk_cell BK232.out 3).trans rfl, (blk_cell BK238.out 0).trans rfl, (blk_cell BK238.out 1).trans rfl, (blk_cell BK238.out 2).trans rfl, (blk_cell BK238.out 3).trans rfl, (blk_cell BK221.out 0).trans rfl, (blk_cell BK221.out 1).trans rfl, (blk_cell BK221.out 2).trans rfl, (blk_cell BK220.out 0).trans rfl, (blk_cell BK220.out 1).trans rfl, (blk_cell BK222.out 0).trans rfl, (blk_cell BK222.out 1).trans rfl, (blk_cell BK222.out 2).trans rfl, (blk_cell BK226.out 0).trans rfl, (blk_cell BK226.out 1).trans rfl, (blk_cell BK243.out 0).trans rfl, (blk_cell BK243.out 1).trans rfl, (blk_cell BK243.out 2).trans rfl, (blk_cell BK248.out 0).trans rfl, (blk_cell BK248.out 1).trans rfl, (blk_cell BK248.out 2).trans rfl⟩ (fun hHeld => ?_)
         clear hK K
         refine norm_ (a' := ?_) ?_ ?_
         rotate_left
         ·show Act.put _ (some 77) _ = _
          simp only [Act.put, List.setIfInBounds_toArray, List.set_cons_zero, List.set_cons_succ, i64_w, i32_w]
          rfl
         refine one_ (i := 25) (N := some 80) #[true, true, true, true, true, true, true, true, true, true, true, true, true, true, true, true, true, true, true, true, true, true, true, true, true, true, false, false, false, false, false, false, false, false, false, false, false, false, false] rfl rfl (one_of HT_.out (by kernel_rfl)) (by decide) (fun K hK => ?_)
         refine goes_ Try.func54 (by kernel_rfl) rfl #[.agg #[.int .i64 a0_0, .int .i64 a0_1], .agg #[.int .i64 a2_0, .int .u64 a2_1, .int .u64 a2_2]] (by rfl) rfl rfl (by (try simp only [List.map_toArray, List.map_cons, List.map_nil]); first | done | rfl | (simp only [List.length_drop, List.length_take]; rfl)) ?_
         with_reducible refine (treillageref16_Next.calls kj5 a0_0 a0_1 a2_0 a2_1 a2_2 t259 t260 t261 t262 _ A35.out).mono ?_
         rintro e w94 ⟨rfl, hb⟩
         refine ⟨_, rfl, ?_⟩
         have n0_ := aA (blk_below (g := gb220) (o := .cells #[.int .i64 a0_0, .int .i64 a0_1] 38 (0, 0)) (bku BK220.out) hb)
         have n1_ := aA (blk_below (g := gb221) (o := .cells #[.int .i64 a1_0, .int .u64 a1_1, .int .u64 a1_2] 54 (0, 0)) (bku BK221.out) hb)
         have n2_ := aA (blk_below (g := gb222) (o := .cells #[.int .i64 a2_0, .int .u64 a2_1, .int .u64 a2_2] 56 (0, 0)) (bku BK222.out) hb)
         have n3_ := aA (blk_below (g := gb226) (o := .cells #[.int .i64 a0_0, .int .i64 a0_1] 39 (0, 0)) (bku BK226.out) hb)
         have n4_ := aA (blk_below (g := gb232) (o := .cells #[.int .i64 t227, .int .i64 t228, .int .u64 t229, .int .u64 t230] 25 (0, 0)) (bku BK232.out) hb)
         have n5_ := aA (blk_below (g := gb238) (o := .cells #[.int .i64 t233, .int .i64 t234, .int .u64 t235, .int .u64 t236] 30 (0, 0)) (bku BK238.out) hb)
         have n6_ := aA (blk_below (g := gb243) (o := .cells #[.int .i64 t239, .int .u64 t240, .int .u64 t241] 56 (0, 0)) (bku BK243.out) hb)
         have n7_ := aA (blk_below (g := gb248) (o := .cells #[.int .i64 t244, .int .u64 t245, .int .u64 t246] 64 (0, 0)) (bku BK248.out) hb)
         have n8_ := aA (below_step (bls HB.out) hb)
         clear BK220
         clear BK221
         clear BK222
         clear BK226
         clear BK232
         clear BK238
         clear BK243
         clear BK248
         clear HB
         have BK220 := n0_
         have BK221 := n1_
         have BK222 := n2_
         have BK226 := n3_
         have BK232 := n4_
         have BK238 := n5_
         have BK243 := n6_
         have BK248 := n7_
         have HB := n8_
         clear n0_ n1_ n2_ n3_ n4_ n5_ n6_ n7_ n8_
         (try clear hb)
         (try clear hb2)
         (try clear hk)
         (try clear hi)
         refine hK.out _ _ ⟨(blk_cell BK232.out 0).trans rfl, (blk_cell BK232.out 1).trans rfl, (blk_cell BK232.out 2).trans rfl, (blk_cell BK232.out 3).trans rfl, (blk_cell BK238.out 0).trans rfl, (blk_cell BK238.out 1).trans rfl, (blk_cell BK238.out 2).trans rfl, (blk_cell BK238.out 3).trans rfl, (blk_cell BK221.out 0).trans rfl, (blk_cell BK221.out 1).trans rfl, (blk_cell BK221.out 2).trans rfl, (blk_cell BK220.out 0).trans rfl, (blk_cell BK220.out 1).trans rfl, (blk_cell BK222.out 0).trans rfl, (blk_cell BK222.out 1).trans rfl, (blk_cell BK222.out 2).trans rfl, (blk_cell BK226.out 0).trans rfl, (blk_cell BK226.out 1).trans rfl, (blk_cell BK243.out 0).trans rfl, (blk_cell BK243.out 1).trans rfl, (blk_cell BK243.out 2).trans rfl, (blk_cell BK248.out 0).trans rfl, (blk_cell BK248.out 1).trans rfl, (blk_cell BK248.out 2).trans rfl⟩ (fun hHeld => ?_)
         clear hK K
         refine norm_ (a' := ?_) ?_ ?_
         rotate_left
         ·show Act.put _ (some 80) _ = _
          simp only [Act.put, List.setIfInBounds_toArray, List.set_cons_zero, List.set_cons_succ, i64_w, i32_w]
          rfl
         refine pure_ (i := 26) (N := some 81) (v := ?_) (a' := ?_) #[true, true, true, true, true, true, true, true, true, true, true, true, true, true, true, true, true, true, true, true, true, true, true, true, true, true, true, false, false, false, false, false, false, false, false, false, false, false, false] rfl rfl (any_of HT_.out (by kernel_rfl)) (fun _ _ _ h => h) (Or.inl ⟨by rfl, ?_⟩) ?_ ?_
         rotate_left
         ·intro w'
          go_simp
          with_reducible rfl
         rotate_left
         ·simp only [Act.put, List.setIfInBounds_toArray, List.set_cons_zero, List.set_cons_succ, i64_w, i32_w]
          rfl
         refine pure_ (i := 27) (N := some 82) (v := ?_) (a' := ?_) #[true, true, true, true, true, true, true, true, true, true, true, true, true, true, true, true, true, true, true, true, true, true, true, true, true, true, true, true, false, false, false, false, false, false, false, false, false, false, false] rfl rfl (any_of HT_.out (by kernel_rfl)) (fun _ _ _ h => h) (Or.inl ⟨by rfl, ?_⟩) ?_ ?_
         rotate_left
         ·intro w'
          go_simp
          with_reducible rfl
         rotate_left
         ·simp only [Act.put, List.setIfInBounds_toArray, List.set_cons_zero, List.set_cons_succ, i64_w, i32_w]
          rfl
         refine pure_ (i := 28) (N := some 83) (v := ?_) (a' := ?_) #[true, true, true, true, true, true, true, true, true, true, true, true, true, true, true, true, true, true, true, true, true, true, true, true, true, true, true, true, true, false, false, false, false, false, false, false, false, false, false] rfl rfl (any_of HT_.out (by kernel_rfl)) (fun _ _ _ h => h) (Or.inl ⟨by rfl, ?_⟩) ?_ ?_
         rotate_left
         ·intro w'
          go_simp
          with_reducible rfl
         rotate_left
         ·simp only [Act.put, List.setIfInBounds_toArray, List.set_cons_zero, List.set_cons_succ, i64_w, i32_w]
          rfl
         refine take_ (i := 29) (N := some 84) (v := ?_) (a' := ?_) #[true, true, true, true, true, true, true, true, true, true, true, true, true, true, true, true, true, true, true, true, true, true, true, true, true, true, true, true, true, true, false, false, false, false, false, false, false, false, false] rfl rfl (take_ofW HT_.out HW_.out (by kernel_rfl)) (fun _ _ _ h => h) (Or.inl ⟨by rfl, ?_⟩) hHeld ?_ ?_
         rotate_left
         ·rintro w' ⟨s0, s1, s2, s3, s4, s5, s6, s7, s8, s9, s10, s11, s12, s13, s14, s15, s16, s17, s18, s19, s20, s21, s22, s23⟩
          go_simp
          with_reducible rfl
         rotate_left
         ·simp only [Act.put, List.setIfInBounds_toArray, List.set_cons_zero, List.set_cons_succ, i64_w, i32_w]
          rfl
         refine take_ (i := 30) (N := some 85) (v := ?_) (a' := ?_) #[true, true, true, true, true, true, true, true, true, true, true, true, true, true, true, true, true, true, true, true, true, true, true, true, true, true, true, true, true, true, true, false, false, false, false, false, false, false, false] rfl rfl (take_ofW HT_.out HW_.out (by kernel_rfl)) (fun _ _ _ h => h) (Or.inl ⟨by rfl, ?_⟩) hHeld ?_ ?_
         rotate_left
         ·rintro w' ⟨s0, s1, s2, s3, s4, s5, s6, s7, s8, s9, s10, s11, s12, s13, s14, s15, s16, s17, s18, s19, s20, s21, s22, s23⟩
          go_simp
          with_reducible rfl
         rotate_left
         ·simp only [Act.put, List.setIfInBounds_toArray, List.set_cons_zero, List.set_cons_succ, i64_w, i32_w]
          rfl
         refine pure_ (i := 31) (N := some 86) (v := ?_) (a' := ?_) #[true, true, true, true, true, true, true, true, true, true, true, true, true, true, true, true, true, true, true, true, true, true, true, true, true, true, true, true, true, true, true, true, false, false, false, false, false, false, false] rfl rfl (any_of HT_.out (by kernel_rfl)) (fun _ _ _ h => h) (Or.inl ⟨by rfl, ?_⟩) ?_ ?_
         rotate_left
         ·intro w'
          go_simp
          with_reducible rfl
         rotate_left
         ·simp only [Act.put, List.setIfInBounds_toArray, List.set_cons_zero, List.set_cons_succ, i64_w, i32_w]
          rfl
         refine pure_ (i := 32) (N := some 87) (v := ?_) (a' := ?_) #[true, true, true, true, true, true, true, true, true, true, true, true, true, true, true, true, true, true, true, true, true, true, true, true, true, true, true, true, true, true, true, true, true, false, false, false, false, false, false] rfl rfl (any_of HT_.out (by kernel_rfl)) (fun _ _ _ h => h) (Or.inl ⟨by rfl, ?_⟩) ?_ ?_
         rotate_left
         ·intro w'
          go_simp
          with_reducible rfl
         rotate_left
         ·simp only [Act.put, List.setIfInBounds_toArray, List.set_cons_zero, List.set_cons_succ, i64_w, i32_w]
          rfl
         refine pure_ (i := 33) (N := some 88) (v := ?_) (a' := ?_) #[true, true, true, true, true, true, true, true, true, true, true, true, true, true, true, true, true, true, true, true, true, true, true, true, true, true, true, true, true, true, true, true, true, true, false, false, false, false, false] rfl rfl (any_of HT_.out (by kernel_rfl)) (fun _ _ _ h => h) (Or.inl ⟨by rfl, ?_⟩) ?_ ?_
         rotate_left
         ·intro w'
          go_simp
          with_reducible rfl
         rotate_left
         ·simp only [Act.put, List.setIfInBounds_toArray, List.set_cons_zero, List.set_cons_succ, i64_w, i32_w]
          rfl
         refine pure_ (i := 34) (N := some 89) (v := ?_) (a' := ?_) #[true, true, true, true, true, true, true, true, true, true, true, true, true, true, true, true, true, true, true, true, true, true, true, true, true, true, true, true, true, true, true, true, true, true, true, false, false, false, false] rfl rfl (any_of HT_.out (by kernel_rfl)) (fun _ _ _ h => h) (Or.inl ⟨by rfl, ?_⟩) ?_ ?_
         rotate_left
         ·intro w'
          go_simp
          with_reducible rfl
         rotate_left
         ·simp only [Act.put, List.setIfInBounds_toArray, List.set_cons_zero, List.set_cons_succ, i64_w, i32_w]
          rfl
         refine pure_ (i := 35) (N := some 90) (v := ?_) (a' := ?_) #[true, true, true, true, true, true, true, true, true, true, true, true, true, true, true, true, true, true, true, true, true, true, true, true, true, true, true, true, true, true, true, true, true, true, true, true, false, false, false] rfl rfl (any_of HT_.out (by kernel_rfl)) (fun _ _ _ h => h) (Or.inl ⟨by rfl, ?_⟩) ?_ ?_
         rotate_left
         ·intro w'
          go_simp
          with_reducible rfl
         rotate_left
         ·simp only [Act.put, List.setIfInBounds_toArray, List.set_cons_zero, List.set_cons_succ, i64_w, i32_w]
          rfl
         refine pure_ (i := 36) (N := some 91) (v := ?_) (a' := ?_) #[true, true, true, true, true, true, true, true, true, true, true, true, true, true, true, true, true, true, true, true, true, true, true, true, true, true, true, true, true, true, true, true, true, true, true, true, true, false, false] rfl rfl (any_of HT_.out (by kernel_rfl)) (fun _ _ _ h => h) (Or.inl ⟨by rfl, ?_⟩) ?_ ?_
         rotate_left
         ·intro w'
          go_simp
          with_reducible rfl
         rotate_left
         ·simp only [Act.put, List.setIfInBounds_toArray, List.set_cons_zero, List.set_cons_succ, i64_w, i32_w]
          rfl
         refine pure_ (i := 37) (N := some 92) (v := ?_) (a' := ?_) #[true, true, true, true, true, true, true, true, true, true, true, true, true, true, true, true, true, true, true, true, true, true, true, true, true, true, true, true, true, true, true, true, true, true, true, true, true, true, false] rfl rfl (any_of HT_.out (by kernel_rfl)) (fun _ _ _ h => h) (Or.inl ⟨by rfl, ?_⟩) ?_ ?_
         rotate_left
         ·intro w'
          go_simp
          with_reducible rfl
         rotate_left
         ·simp only [Act.put, List.setIfInBounds_toArray, List.set_cons_zero, List.set_cons_succ, i64_w, i32_w]
          rfl
         refine pure_ (i := 38) (N := some 10) (v := ?_) (a' := ?_) #[true, true, true, true, true, true, true, true, true, true, true, true, true, true, true, true, true, true, true, true, true, true, true, true, true, true, true, true, true, true, true, true, true, true, true, true, true, true, true] rfl rfl (any_of HT_.out (by kernel_rfl)) (fun _ _ _ h => h) (Or.inl ⟨by rfl, ?_⟩) ?_ ?_
         rotate_left
         ·intro w'
          go_simp
          with_reducible rfl
         rotate_left
         ·simp only [Act.put, List.setIfInBounds_toArray, List.set_cons_zero, List.set_cons_succ, i64_w, i32_w]
          rfl
         refine done_ (done_of HT_.out (by kernel_rfl)) ?_
         try go_wp2
         go_ret
         exact ⟨by first | rfl | (simp [errW_none, errW_some] <;> rfl) | (simp [*, errW_none, errW_some] <;> rfl), by repeat (first | (with_reducible first | exact HB.out | apply below_alloc | apply pw_below_drewN | apply below_drew1 | refine below_set ?_ GE220.out | refine below_set ?_ GE221.out | refine below_set ?_ GE222.out | refine below_set ?_ GE226.out | refine below_set ?_ GE232.out | refine below_set ?_ GE238.out | refine below_set ?_ GE243.out | refine below_set ?_ GE248.out) | exact HB.out)⟩
        ·rw [if_neg c37] at H
         have c37b0 : (t239 == t244 && (t240 == t245 && (t241 == t246))) = false := by simpa using c37
         (try (have c37b1 : decide (t239 = t244 && (t240 == t245 && (t241 == t246))) = false := by simpa using c37))
         (try (have c37b2 : (t239 == t244 && (t240 == t245 && (t241 == t246))) = false := by simpa using c37))
         (try (have c37b3 : ¬ (t239 = t244 && (t240 == t245 && (t241 == t246))) := by simpa using c37))
         clear c37
         exact absurd ((Option.some.inj H).trans hr_) (by decide)
       ·rw [if_neg c36] at H
        have c36b0 : (t255 == t259 && (t256 == t260 && (t257 == t261 && (t258 == t262)))) = false := by simpa using c36
        (try (have c36b1 : decide (t255 = t259 && (t256 == t260 && (t257 == t261 && (t258 == t262)))) = false := by simpa using c36))
        (try (have c36b2 : (t255 == t259 && (t256 == t260 && (t257 == t261 && (t258 == t262)))) = false := by simpa using c36))
        (try (have c36b3 : ¬ (t255 = t259 && (t256 == t260 && (t257 == t261 && (t258 == t262)))) := by simpa using c36))
        clear c36
        exact absurd ((Option.some.inj H).trans hr_) (by decide)
      ·rw [if_neg c33] at H
       have c33b0 : (t249 == t252 && (t250 == t253 && (t251 == t254))) = false := by simpa using c33
       (try (have c33b1 : decide (t249 = t252 && (t250 == t253 && (t251 == t254))) = false := by simpa using c33))
       (try (have c33b2 : (t249 == t252 && (t250 == t253 && (t251 == t254))) = false := by simpa using c33))
       (try (have c33b3 : ¬ (t249 = t252 && (t250 == t253 && (t251 == t254))) := by simpa using c33))
       clear c33
       exact absurd ((Option.some.inj H).trans hr_) (by decide)
     ·rw [if_neg c30] at H
      have c30b0 : (t231 == t237) = false := by simpa using c30
      (try (have c30b1 : decide (t231 = t237) = false := by simpa using c30))
      (try (have c30b2 : (t231 == t237) = false := by simpa using c30))
      (try (have c30b3 : ¬ (t231 = t237) := by simpa using c30))
      clear c30
      exact absurd ((Option.some.inj H).trans hr_) (by decide)
    ·rw [if_neg c29] at H
     have c29b0 : (t227 == t233 && (t228 == t234 && (t229 == t235 && (t230 == t236)))) = false := by simpa using c29
     (try (have c29b1 : decide (t227 = t233 && (t228 == t234 && (t229 == t235 && (t230 == t236)))) = false := by simpa using c29))
     (try (have c29b2 : (t227 == t233 && (t228 == t234 && (t229 == t235 && (t230 == t236)))) = false := by simpa using c29))
     (try (have c29b3 : ¬ (t227 = t233 && (t228 == t234 && (t229 == t235 && (t230 == t236)))) := by simpa using c29))
     clear c29
     exact absurd ((Option.some.inj H).trans hr_) (by decide)

theorem treillagelaw16_QueueTells.calls (k : Nat) (a0_0 : Int) (a0_1 : Int) (a1_0 : Int) (a1_1 : Int) (a1_2 : Int) (a2_0 : Int) (a2_1 : Int) (a2_2 : Int) (a3 : Int) (a4 : Bool) (r : Bool) (w : World) (h : treillagelaw16_QueueTells.f k a0_0 a0_1 a1_0 a1_1 a1_2 a2_0 a2_1 a2_2 a3 a4 = some true) :
  Calls Try.prog 8 #[.agg #[.int .i64 a0_0, .int .i64 a0_1], .agg #[.int .i64 a1_0, .int .u64 a1_1, .int .u64 a1_2], .agg #[.int .i64 a2_0, .int .u64 a2_1, .int .u64 a2_2], .int .u64 a3, .bool a4] w fun e w' => e = .returned (.bool true) ∧ Below w.heap.size w w' := treillagelaw16_QueueTells.calls1 k a0_0 a0_1 a1_0 a1_1 a1_2 a2_0 a2_1 a2_2 a3 a4 true w h rfl
end Go.Proofs.Ytcjkjlopbjijaaa.PQ
