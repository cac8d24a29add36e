-- Written by wip/hprint/hprint.py (a program of this session, over the print): not typed by hand
import Derived.Test.YtcjkjlopbjijaaaPQx0
import Derived.Test.YtcjkjlopbjijaaaPQx2
import Derived.Test.YtcjkjlopbjijaaaPQx4
import Derived.Test.YtcjkjlopbjijaaaPQx5
import Derived.Test.YtcjkjlopbjijaaaPQx6
import Derived.Test.YtcjkjlopbjijaaaPQx7
namespace Go.Proofs.Ytcjkjlopbjijaaa.PQ
open Go.RowKit Go.Proofs.YtcjkjlopbjijaaaW.PrintWords Go.Proofs.YtcjkjlopbjijaaaW.PrintLast Go.Proofs.YtcjkjlopbjijaaaW.PrintMore
attribute [local go_sem] max2_int min2_int max_two min_two max_three min_three max_four min_four   -- for this text's walks alone
open Go.Proofs.YtcjkjlopbjijaaaH
set_option linter.unusedVariables false
set_option linter.unusedSimpArgs false

attribute [local go_sem high] eqA54
/-! ### treillagelaw16_QueuePutters: function 13 -/
def treillagelaw16_QueuePutters.j0 : Nat → Int → Bool → Bool → Int → Int → Int → Int → Int → Option (Bool)
 | 0, _, _, _, _, _, _, _, _ => none
 | k + 1, x2, x3, x18, x188000, x188001, x189000, x189001, x189002 => if x18 = true then ((treillagelaw16_shown.f k).bind fun t191 => (some t191)) else ((queue_Want.f x188000 x188001 x189000 x189001 x189002).bind fun bt192 => ((queue_Got.f k x189000 x189001 x189002 x2 x3).bind fun bt198 => (if x189000 ≥ 0 then (if (bt192.2.2.2.2 != (decide (x189000 ≤ 4))) = true then (some false) else (if bt198.2.2 = x189002 then (if bt192.2.2.2.2 = true then (some true) else (some (bt198.1 == x189000 && (bt198.2.1 == x189001 && (bt198.2.2 == x189002))))) else (some false))) else (if (bt192.2.2.2.2 != false) = true then (some false) else (if bt198.2.2 = x189002 then (if bt192.2.2.2.2 = true then (some true) else (some (bt198.1 == x189000 && (bt198.2.1 == x189001 && (bt198.2.2 == x189002))))) else (some false))))))
def treillagelaw16_QueuePutters.f (k : Nat) (a0_0 : Int) (a0_1 : Int) (a1_0 : Int) (a1_1 : Int) (a1_2 : Int) (a2 : Int) (a3 : Bool) : Option (Bool) := (mem_May.f a0_0 a0_1).bind fun t189 => (if t189 = true then ((treillagelaw16_shown.f k).bind fun t190 => (treillagelaw16_QueuePutters.j0 k a2 a3 (!t190) a0_0 a0_1 a1_0 a1_1 a1_2)) else (treillagelaw16_QueuePutters.j0 k a2 a3 true a0_0 a0_1 a1_0 a1_1 a1_2))
theorem treillagelaw16_QueuePutters.mono_l : ∀ k, (∀ y0 y1 y2 y3 y4 y5 y6 y7, LeO (treillagelaw16_QueuePutters.j0 k y0 y1 y2 y3 y4 y5 y6 y7) (treillagelaw16_QueuePutters.j0 (k + 1) y0 y1 y2 y3 y4 y5 y6 y7))
 | 0 => fun _ _ _ _ _ _ _ _ r h => by simp [treillagelaw16_QueuePutters.j0] at h
 | k + 1 => by
  have ih0 := treillagelaw16_QueuePutters.mono_l k
  ·intro y0 y1 y2 y3 y4 y5 y6 y7
   unfold treillagelaw16_QueuePutters.j0
   repeat' first
   | (with_reducible exact ih0 _ _ _ _ _ _ _ _)
   | (with_reducible exact queue_Got.mono _ _ _ _ _ _)
   | (with_reducible exact treillagelaw16_shown.mono _)
   | (with_reducible exact LeO.refl _)
   | (with_reducible exact LeO.none _)
   | (with_reducible refine LeO.ite ?_ ?_)
   | (with_reducible refine LeO.bind ?_ (fun _ => ?_))
   | exact ih0 _ _ _ _ _ _ _ _
   | exact queue_Got.mono _ _ _ _ _ _
   | exact treillagelaw16_shown.mono _
   | exact LeO.none _
   | refine LeO.ite ?_ ?_
   | refine LeO.bind ?_ (fun _ => ?_)
theorem treillagelaw16_QueuePutters.mono : ∀ a0 a1 a2 a3 a4 a5 a6 k, LeO (treillagelaw16_QueuePutters.f k a0 a1 a2 a3 a4 a5 a6) (treillagelaw16_QueuePutters.f (k + 1) a0 a1 a2 a3 a4 a5 a6) := by
 intro a0 a1 a2 a3 a4 a5 a6 k
 have ih0 := treillagelaw16_QueuePutters.mono_l k
 unfold treillagelaw16_QueuePutters.f
 repeat' first
   | (with_reducible exact ih0 _ _ _ _ _ _ _ _)
   | (with_reducible exact queue_Got.mono _ _ _ _ _ _)
   | (with_reducible exact treillagelaw16_shown.mono _)
   | (with_reducible exact LeO.refl _)
   | (with_reducible exact LeO.none _)
   | (with_reducible refine LeO.ite ?_ ?_)
   | (with_reducible refine LeO.bind ?_ (fun _ => ?_))
   | exact ih0 _ _ _ _ _ _ _ _
   | exact queue_Got.mono _ _ _ _ _ _
   | exact treillagelaw16_shown.mono _
   | exact LeO.none _
   | refine LeO.ite ?_ ?_
   | refine LeO.bind ?_ (fun _ => ?_)
set_option maxHeartbeats 8000000 in
set_option maxRecDepth 100000 in
theorem treillagelaw16_QueuePutters.calls1 (k : Nat) (a0_0 : Int) (a0_1 : Int) (a1_0 : Int) (a1_1 : Int) (a1_2 : Int) (a2 : Int) (a3 : Bool) (r : Bool) (w : World) (h : treillagelaw16_QueuePutters.f k a0_0 a0_1 a1_0 a1_1 a1_2 a2 a3 = some r) (hr_ : r = true) :
  Calls Try.prog 13 #[.agg #[.int .i64 a0_0, .int .i64 a0_1], .agg #[.int .i64 a1_0, .int .u64 a1_1, .int .u64 a1_2], .int .u64 a2, .bool a3] w fun e w' => e = .returned (.bool r) ∧ Below w.heap.size w w' := by
 have hu38 := Try.underlying38
 have hu54 := Try.underlying54
 have hu25 := Try.underlying25
 have HB := aA (Below.refl w.heap.size w)
 have H : ((mem_May.f a0_0 a0_1).bind fun t189 => (if t189 = true then ((treillagelaw16_shown.f k).bind fun t190 => (treillagelaw16_QueuePutters.j0 k a2 a3 (!t190) a0_0 a0_1 a1_0 a1_1 a1_2)) else (treillagelaw16_QueuePutters.j0 k a2 a3 true a0_0 a0_1 a1_0 a1_1 a1_2))) = some r := h
 clear h
 have HC5 := aA H
 clear H
 go_enter Try.func13, Try.ntmps13
 go_upto_region 1 with (first | ((with_reducible refine gate_dst (N := 4) rfl ?_); refine box_event ?hg (N := 4) ?hd (cs := #[.int .i64 a0_0, .int .i64 a0_1]) (t := 38) ?hr ?_; (case hd => rfl); (case hg => rfl); (case hr => first | (go_simp; done) | (go_simp; rfl)); intro gb187 hg w6 hbox hb; have n0_ := aA (below_step (blw HB.out) hb); have n1_ := aA (hbox); have n2_ := aA ((by rw [hg]; exact (below_size (blw HB.out)) : w.heap.size ≤ gb187)); have n3_ := aA ((by rw [hg]; exact (below_size (blw HB.out)) : w.heap.size ≤ gb187)); clear HB; have HB := n0_; have BK187 := n1_; have GW187 := n2_; have GE187 := n3_; clear n0_ n1_ n2_ n3_ hb hbox hg) | ((with_reducible refine gate_dst (N := 5) rfl ?_); refine box_event ?hg (N := 5) ?hd (cs := #[.int .i64 a1_0, .int .u64 a1_1, .int .u64 a1_2]) (t := 54) ?hr ?_; (case hd => rfl); (case hg => rfl); (case hr => first | (go_simp; done) | (go_simp; rfl)); intro gb188 hg w7 hbox hb; have n0_ := aA (blk_below (g := gb187) (o := .cells #[.int .i64 a0_0, .int .i64 a0_1] 38 (0, 0)) (bku BK187.out) hb); have n1_ := aA (below_step (bls HB.out) hb); have n2_ := aA (hbox); have n3_ := aA ((by rw [hg]; exact (below_size (bls HB.out)) : w.heap.size ≤ gb188)); have n4_ := aA ((by rw [hg]; exact (below_size (bls HB.out)) : w.heap.size ≤ gb188)); have n5_ := aA ((by rw [hg]; exact Nat.ne_of_lt (blk_lt (g := gb187) (o := .cells #[.int .i64 a0_0, .int .i64 a0_1] 38 (0, 0)) (bku BK187.out)) : gb187 ≠ gb188)); have n6_ := aA ((by rw [hg]; exact Nat.ne_of_gt (blk_lt (g := gb187) (o := .cells #[.int .i64 a0_0, .int .i64 a0_1] 38 (0, 0)) (bku BK187.out)) : gb188 ≠ gb187)); clear BK187 HB; have BK187 := n0_; have HB := n1_; have BK188 := n2_; have GW188 := n3_; have GE188 := n4_; have NB187_188 := n5_; have NB188_187 := n6_; clear n0_ n1_ n2_ n3_ n4_ n5_ n6_ hb hbox hg))
 (try simp only [Act.put, List.setIfInBounds_toArray, List.set_cons_zero, List.set_cons_succ])
 go_cut [18] (fun v18 wc => ∃ (kq : Nat) (x18_4 : Bool), v18 = .bool x18_4 ∧ Aside0 (treillagelaw16_QueuePutters.j0 kq a2 a3 x18_4 a0_0 a0_1 a1_0 a1_1 a1_2 = some r) ∧ Aside0 (kq ≤ k) ∧ Aside0 (wc.heap[gb187]? = some (.cells #[.int .i64 a0_0, .int .i64 a0_1] 38 (0, 0))) ∧ Aside0 (wc.heap[gb188]? = some (.cells #[.int .i64 a1_0, .int .u64 a1_1, .int .u64 a1_2] 54 (0, 0))) ∧ Aside0 (Below w.heap.size w wc))
 case first =>
  have H := HC5.out
  clear HC5
  replace H := Option.bind_eq_some_iff.mp H
  obtain ⟨t189, A80, H⟩ := H
  replace H : (if t189 = true then ((treillagelaw16_shown.f k).bind fun t190 => (treillagelaw16_QueuePutters.j0 k a2 a3 (!t190) a0_0 a0_1 a1_0 a1_1 a1_2)) else (treillagelaw16_QueuePutters.j0 k a2 a3 true a0_0 a0_1 a1_0 a1_1 a1_2)) = some r := H
  have A8 := aA A80
  clear A80
  by_cases c9 : t189 = true
  ·subst c9
   have H1 : ((treillagelaw16_shown.f k).bind fun t190 => (treillagelaw16_QueuePutters.j0 k a2 a3 (!t190) a0_0 a0_1 a1_0 a1_1 a1_2)) = some r := by rw [if_pos rfl] at H; exact H
   clear H
   have H := H1
   clear H1
   replace H := Option.bind_eq_some_iff.mp H
   obtain ⟨t190, A100, H⟩ := H
   replace H : (treillagelaw16_QueuePutters.j0 k a2 a3 (!t190) a0_0 a0_1 a1_0 a1_1 a1_2) = some r := H
   have A10 := aA A100
   clear A100
   have H' := aA H
   clear H
   have hnb11 := NB187_188.out
   have hnc11 := NB188_187.out
   have hcz12_0 : w7.cell? ⟨gb187, 0, none⟩ = some (.int .i64 a0_0) := (blk_cell BK187.out 0).trans rfl
   have hcz12_1 : w7.cell? ⟨gb187, 1, none⟩ = some (.int .i64 a0_1) := (blk_cell BK187.out 1).trans rfl
   have hfz12_0 := blk_frozen BK187.out 0
   have hfz12_1 := blk_frozen BK187.out 1
   go_wp2_with (first | ((with_reducible refine gate_callee (f := 26) rfl ?_); refine goesL_ (some 13) rfl rfl Try.func26 (by kernel_rfl) rfl #[.agg #[.int .i64 a0_0, .int .i64 a0_1]] rfl (by (try simp only [List.map_toArray, List.map_cons, List.map_nil]); first | done | rfl | (simp only [List.length_drop, List.length_take]; rfl)) ?_; (with_reducible refine (mem_May.calls a0_0 a0_1 true _ A8.out).mono ?_); rintro e w13 ⟨rfl, hb⟩; refine ⟨_, rfl, ?_⟩; have n0_ := aA (blk_below (g := gb187) (o := .cells #[.int .i64 a0_0, .int .i64 a0_1] 38 (0, 0)) (bku BK187.out) hb); have n1_ := aA (blk_below (g := gb188) (o := .cells #[.int .i64 a1_0, .int .u64 a1_1, .int .u64 a1_2] 54 (0, 0)) (bku BK188.out) hb); have n2_ := aA (below_step (bls HB.out) hb); clear BK187 BK188 HB; have BK187 := n0_; have BK188 := n1_; have HB := n2_; clear n0_ n1_ n2_; (try clear hb); (try clear hb2); (try clear hk); (try clear hi)) | (go_at_call 46; (with_reducible refine (treillagelaw16_shown.calls k  t190 _ A10.out).mono ?_); rintro e w14 ⟨rfl, hb⟩; have n0_ := aA (blk_below (g := gb187) (o := .cells #[.int .i64 a0_0, .int .i64 a0_1] 38 (0, 0)) (bku BK187.out) hb); have n1_ := aA (blk_below (g := gb188) (o := .cells #[.int .i64 a1_0, .int .u64 a1_1, .int .u64 a1_2] 54 (0, 0)) (bku BK188.out) hb); have n2_ := aA (below_step (bls HB.out) hb); clear BK187 BK188 HB; have BK187 := n0_; have BK188 := n1_; have HB := n2_; clear n0_ n1_ n2_; (try clear hb); (try clear hb2); (try clear hk); (try clear hi)))
   go_meet
   case rel => exact ⟨_, (!t190), (by first | rfl | (simp; done) | (simp [*]; done)), H', ⟨by first | omega | exact Nat.le_refl _⟩, ⟨by refine bku ?_; exact BK187.out⟩, ⟨by refine bku ?_; exact BK188.out⟩, ⟨by repeat (first | (with_reducible first | exact HB.out | apply below_alloc | apply pw_below_drewN | apply below_drew1 | refine below_set ?_ GE187.out | refine below_set ?_ GE188.out) | exact HB.out)⟩⟩
  ·replace c9 := Bool.eq_false_iff.mpr c9
   subst c9
   have H1 : (treillagelaw16_QueuePutters.j0 k a2 a3 true a0_0 a0_1 a1_0 a1_1 a1_2) = some r := by rw [if_neg (show ¬ (false = true) by decide)] at H; exact H
   clear H
   have H := H1
   clear H1
   have H' := aA H
   clear H
   have hnb15 := NB187_188.out
   have hnc15 := NB188_187.out
   have hcz16_0 : w7.cell? ⟨gb187, 0, none⟩ = some (.int .i64 a0_0) := (blk_cell BK187.out 0).trans rfl
   have hcz16_1 : w7.cell? ⟨gb187, 1, none⟩ = some (.int .i64 a0_1) := (blk_cell BK187.out 1).trans rfl
   have hfz16_0 := blk_frozen BK187.out 0
   have hfz16_1 := blk_frozen BK187.out 1
   go_wp2_with (first | ((with_reducible refine gate_callee (f := 26) rfl ?_); refine goesL_ (some 13) rfl rfl Try.func26 (by kernel_rfl) rfl #[.agg #[.int .i64 a0_0, .int .i64 a0_1]] rfl (by (try simp only [List.map_toArray, List.map_cons, List.map_nil]); first | done | rfl | (simp only [List.length_drop, List.length_take]; rfl)) ?_; (with_reducible refine (mem_May.calls a0_0 a0_1 false _ A8.out).mono ?_); rintro e w17 ⟨rfl, hb⟩; refine ⟨_, rfl, ?_⟩; have n0_ := aA (blk_below (g := gb187) (o := .cells #[.int .i64 a0_0, .int .i64 a0_1] 38 (0, 0)) (bku BK187.out) hb); have n1_ := aA (blk_below (g := gb188) (o := .cells #[.int .i64 a1_0, .int .u64 a1_1, .int .u64 a1_2] 54 (0, 0)) (bku BK188.out) hb); have n2_ := aA (below_step (bls HB.out) hb); clear BK187 BK188 HB; have BK187 := n0_; have BK188 := n1_; have HB := n2_; clear n0_ n1_ n2_; (try clear hb); (try clear hb2); (try clear hk); (try clear hi)))
   go_meet
   case rel => exact ⟨_, (true), (by first | rfl | (simp; done) | (simp [*]; done)), H', ⟨by first | omega | exact Nat.le_refl _⟩, ⟨by refine bku ?_; exact BK187.out⟩, ⟨by refine bku ?_; exact BK188.out⟩, ⟨by repeat (first | (with_reducible first | exact HB.out | apply below_alloc | apply pw_below_drewN | apply below_drew1 | refine below_set ?_ GE187.out | refine below_set ?_ GE188.out) | exact HB.out)⟩⟩
 case rest =>
  clear HC5
  try clear c1
  try clear c2
  try clear p2
  try clear c9
  try clear c11
  try clear c13
  try clear c15
  try clear hcz12_0
  try clear hcz12_1
  try clear hcz16_0
  try clear hcz16_1
  try clear hfz12_0
  try clear hfz12_1
  try clear hfz16_0
  try clear hfz16_1
  obtain ⟨kq, x18_4, rfl, HA, HJ4, BK187, BK188, HB⟩ := hcut
  cases kq with
  | zero => exact absurd HA.out (by simp [treillagelaw16_QueuePutters.j0])
  | succ kj4 =>
   have H := HA.out
   clear HA
   simp only [treillagelaw16_QueuePutters.j0] at H
   by_cases c18 : x18_4 = true
   ·subst c18
    have H1 : ((treillagelaw16_shown.f kj4).bind fun t191 => (some t191)) = some r := by rw [if_pos rfl] at H; exact H
    clear H
    have H := H1
    clear H1
    replace H := Option.bind_eq_some_iff.mp H
    obtain ⟨t191, A190, H⟩ := H
    replace H : (some t191) = some r := H
    have A19 := aA A190
    clear A190
    obtain rfl := Option.some.inj H
    go_wp2_with (first | ((with_reducible refine gate_callee (f := 46) rfl ?_); refine goesL_ (some 19) rfl rfl Try.func46 (by kernel_rfl) rfl #[] rfl (by (try simp only [List.map_toArray, List.map_cons, List.map_nil]); first | done | rfl | (simp only [List.length_drop, List.length_take]; rfl)) ?_; (with_reducible refine (treillagelaw16_shown.calls kj4  t191 _ A19.out).mono ?_); rintro e w20 ⟨rfl, hb⟩; refine ⟨_, rfl, ?_⟩; have n0_ := aA (blk_below (g := gb187) (o := .cells #[.int .i64 a0_0, .int .i64 a0_1] 38 (0, 0)) (bku BK187.out) hb); have n1_ := aA (blk_below (g := gb188) (o := .cells #[.int .i64 a1_0, .int .u64 a1_1, .int .u64 a1_2] 54 (0, 0)) (bku BK188.out) hb); have n2_ := aA (below_step (bls HB.out) hb); clear BK187 BK188 HB; have BK187 := n0_; have BK188 := n1_; have HB := n2_; clear n0_ n1_ n2_; (try clear hb); (try clear hb2); (try clear hk); (try clear hi)))
    go_ret
    exact ⟨by first | rfl | (simp [errW_none, errW_some] <;> rfl) | (simp [*, errW_none, errW_some] <;> rfl), by repeat (first | (with_reducible first | exact HB.out | apply below_alloc | apply pw_below_drewN | apply below_drew1 | refine below_set ?_ GE187.out | refine below_set ?_ GE188.out) | exact HB.out)⟩
   ·replace c18 := Bool.eq_false_iff.mpr c18
    subst c18
    have H1 : ((queue_Want.f a0_0 a0_1 a1_0 a1_1 a1_2).bind fun bt192 => ((queue_Got.f kj4 a1_0 a1_1 a1_2 a2 a3).bind fun bt198 => (if a1_0 ≥ 0 then (if (bt192.2.2.2.2 != (decide (a1_0 ≤ 4))) = true then (some false) else (if bt198.2.2 = a1_2 then (if bt192.2.2.2.2 = true then (some true) else (some (bt198.1 == a1_0 && (bt198.2.1 == a1_1 && (bt198.2.2 == a1_2))))) else (some false))) else (if (bt192.2.2.2.2 != false) = true then (some false) else (if bt198.2.2 = a1_2 then (if bt192.2.2.2.2 = true then (some true) else (some (bt198.1 == a1_0 && (bt198.2.1 == a1_1 && (bt198.2.2 == a1_2))))) else (some false)))))) = some r := by rw [if_neg (show ¬ (false = true) by decide)] at H; exact H
    clear H
    have H := H1
    clear H1
    replace H := Option.bind_eq_some_iff.mp H
    obtain ⟨⟨t192, t193, t194, t195, t196⟩, A210, H⟩ := H
    replace H : ((queue_Got.f kj4 a1_0 a1_1 a1_2 a2 a3).bind fun bt198 => (if a1_0 ≥ 0 then (if (t196 != (decide (a1_0 ≤ 4))) = true then (some false) else (if bt198.2.2 = a1_2 then (if t196 = true then (some true) else (some (bt198.1 == a1_0 && (bt198.2.1 == a1_1 && (bt198.2.2 == a1_2))))) else (some false))) else (if (t196 != false) = true then (some false) else (if bt198.2.2 = a1_2 then (if t196 = true then (some true) else (some (bt198.1 == a1_0 && (bt198.2.1 == a1_1 && (bt198.2.2 == a1_2))))) else (some false))))) = some r := H
    have A21 := aA A210
    clear A210
    replace H := Option.bind_eq_some_iff.mp H
    obtain ⟨⟨t198, t199, t200⟩, A220, H⟩ := H
    replace H : (if a1_0 ≥ 0 then (if (t196 != (decide (a1_0 ≤ 4))) = true then (some false) else (if t200 = a1_2 then (if t196 = true then (some true) else (some (t198 == a1_0 && (t199 == a1_1 && (t200 == a1_2))))) else (some false))) else (if (t196 != false) = true then (some false) else (if t200 = a1_2 then (if t196 = true then (some true) else (some (t198 == a1_0 && (t199 == a1_1 && (t200 == a1_2))))) else (some false)))) = some r := H
    have A22 := aA A220
    clear A220
    by_cases c23 : a1_0 ≥ 0
    ·rw [if_pos c23] at H
     have c23b0 : decide (0 ≤ a1_0) = true := decide_eq_true c23
     clear c23
     by_cases c24 : (t196 != (decide (a1_0 ≤ 4))) = true
     ·rw [if_pos c24] at H
      have c24b0 : (t196 != (decide (a1_0 ≤ 4))) = true := c24
      (try (have c24b1 : decide (t196 = (decide (a1_0 ≤ 4))) = false := by simpa using c24))
      (try (have c24b2 : (t196 == (decide (a1_0 ≤ 4))) = false := by simpa using c24))
      (try (have c24b3 : ¬ (t196 = (decide (a1_0 ≤ 4))) := by simpa using c24))
      clear c24
      exact absurd ((Option.some.inj H).trans hr_) (by decide)
     ·rw [if_neg c24] at H
      have c24b0 : (t196 != (decide (a1_0 ≤ 4))) = false := by simpa using c24
      (try (have c24b1 : decide (t196 = (decide (a1_0 ≤ 4))) = true := by simpa using c24))
      (try (have c24b2 : (t196 == (decide (a1_0 ≤ 4))) = true := by simpa using c24))
      clear c24
      by_cases c25 : t200 = a1_2
      ·rw [if_pos c25] at H
       have c25b0 : (t200 == a1_2) = true := beq_iff_eq.mpr c25
       have c25b1 : (t200 != a1_2) = false := bne_eq_false_iff_eq.mpr c25
       clear c25
       by_cases c26 : t196 = true
       ·subst c26
        have H1 : (some true) = some r := by rw [if_pos rfl] at H; exact H
        clear H
        have H := H1
        clear H1
        obtain rfl := Option.some.inj H
        have hnb27 := NB187_188.out
        have hnc27 := NB188_187.out
        have hcz28_0 : wc.cell? ⟨gb187, 0, none⟩ = some (.int .i64 a0_0) := (blk_cell BK187.out 0).trans rfl
        have hcz28_1 : wc.cell? ⟨gb187, 1, none⟩ = some (.int .i64 a0_1) := (blk_cell BK187.out 1).trans rfl
        have hfz28_0 := blk_frozen BK187.out 0
        have hfz28_1 := blk_frozen BK187.out 1
        have hcz29_0 : wc.cell? ⟨gb188, 0, none⟩ = some (.int .i64 a1_0) := (blk_cell BK188.out 0).trans rfl
        have hcz29_1 : wc.cell? ⟨gb188, 1, none⟩ = some (.int .u64 a1_1) := (blk_cell BK188.out 1).trans rfl
        have hcz29_2 : wc.cell? ⟨gb188, 2, none⟩ = some (.int .u64 a1_2) := (blk_cell BK188.out 2).trans rfl
        have hfz29_0 := blk_frozen BK188.out 0
        have hfz29_1 := blk_frozen BK188.out 1
        have hfz29_2 := blk_frozen BK188.out 2
        go_wp2_with (first | ((with_reducible refine gate_callee (f := 47) rfl ?_); refine goesL_ (some 23) rfl rfl Try.func47 (by kernel_rfl) rfl #[.agg #[.int .i64 a0_0, .int .i64 a0_1], .agg #[.int .i64 a1_0, .int .u64 a1_1, .int .u64 a1_2]] rfl (by (try simp only [List.map_toArray, List.map_cons, List.map_nil]); first | done | rfl | (simp only [List.length_drop, List.length_take]; rfl)) ?_; (with_reducible refine (queue_Want.calls a0_0 a0_1 a1_0 a1_1 a1_2 t192 t193 t194 t195 true _ A21.out).mono ?_); rintro e w30 ⟨rfl, hb⟩; refine ⟨_, rfl, ?_⟩; have n0_ := aA (blk_below (g := gb187) (o := .cells #[.int .i64 a0_0, .int .i64 a0_1] 38 (0, 0)) (bku BK187.out) hb); have n1_ := aA (blk_below (g := gb188) (o := .cells #[.int .i64 a1_0, .int .u64 a1_1, .int .u64 a1_2] 54 (0, 0)) (bku BK188.out) hb); have n2_ := aA (below_step (bls HB.out) hb); clear BK187 BK188 HB; have BK187 := n0_; have BK188 := n1_; have HB := n2_; clear n0_ n1_ n2_; (try clear hb); (try clear hb2); (try clear hk); (try clear hi)) | ((with_reducible refine gate_dst (N := 9) rfl ?_); refine box_event ?hg (N := 9) ?hd (cs := #[.int .i64 0, .int .i64 0, .int .u64 0, .int .u64 0]) (t := 25) ?hr ?_; (case hd => rfl); (case hg => rfl); (case hr => first | (go_simp; done) | (go_simp; rfl)); intro gb197 hg w31 hbox hb; have n0_ := aA (blk_below (g := gb187) (o := .cells #[.int .i64 a0_0, .int .i64 a0_1] 38 (0, 0)) (bku BK187.out) hb); have n1_ := aA (blk_below (g := gb188) (o := .cells #[.int .i64 a1_0, .int .u64 a1_1, .int .u64 a1_2] 54 (0, 0)) (bku BK188.out) hb); have n2_ := aA (below_step (bls HB.out) hb); have n3_ := aA (hbox); have n4_ := aA ((by rw [hg]; exact (below_size (bls HB.out)) : w.heap.size ≤ gb197)); have n5_ := aA ((by rw [hg]; exact (below_size (bls HB.out)) : w.heap.size ≤ gb197)); have n6_ := aA ((by rw [hg]; exact Nat.ne_of_lt (blk_lt (g := gb187) (o := .cells #[.int .i64 a0_0, .int .i64 a0_1] 38 (0, 0)) (bku BK187.out)) : gb187 ≠ gb197)); have n7_ := aA ((by rw [hg]; exact Nat.ne_of_gt (blk_lt (g := gb187) (o := .cells #[.int .i64 a0_0, .int .i64 a0_1] 38 (0, 0)) (bku BK187.out)) : gb197 ≠ gb187)); have n8_ := aA ((by rw [hg]; exact Nat.ne_of_lt (blk_lt (g := gb188) (o := .cells #[.int .i64 a1_0, .int .u64 a1_1, .int .u64 a1_2] 54 (0, 0)) (bku BK188.out)) : gb188 ≠ gb197)); have n9_ := aA ((by rw [hg]; exact Nat.ne_of_gt (blk_lt (g := gb188) (o := .cells #[.int .i64 a1_0, .int .u64 a1_1, .int .u64 a1_2] 54 (0, 0)) (bku BK188.out)) : gb197 ≠ gb188)); clear BK187 BK188 HB; have BK187 := n0_; have BK188 := n1_; have HB := n2_; have BK197 := n3_; have GW197 := n4_; have GE197 := n5_; have NB187_197 := n6_; have NB197_187 := n7_; have NB188_197 := n8_; have NB197_188 := n9_; clear n0_ n1_ n2_ n3_ n4_ n5_ n6_ n7_ n8_ n9_ hb hbox hg; have hnb32 := NB197_187.out; have hnc32 := NB187_197.out; have hnb33 := NB197_188.out; have hnc33 := NB188_197.out; have hcz34_0 : w31.cell? ⟨gb197, 0, none⟩ = some (.int .i64 0) := (blk_cell BK197.out 0).trans rfl; have hcz34_1 : w31.cell? ⟨gb197, 1, none⟩ = some (.int .i64 0) := (blk_cell BK197.out 1).trans rfl; have hcz34_2 : w31.cell? ⟨gb197, 2, none⟩ = some (.int .u64 0) := (blk_cell BK197.out 2).trans rfl; have hcz34_3 : w31.cell? ⟨gb197, 3, none⟩ = some (.int .u64 0) := (blk_cell BK197.out 3).trans rfl; have hfz34_0 := blk_frozen BK197.out 0; have hfz34_1 := blk_frozen BK197.out 1; have hfz34_2 := blk_frozen BK197.out 2; have hfz34_3 := blk_frozen BK197.out 3; have hcz35_0 : w31.cell? ⟨gb188, 0, none⟩ = some (.int .i64 a1_0) := (blk_cell BK188.out 0).trans rfl; have hcz35_1 : w31.cell? ⟨gb188, 1, none⟩ = some (.int .u64 a1_1) := (blk_cell BK188.out 1).trans rfl; have hcz35_2 : w31.cell? ⟨gb188, 2, none⟩ = some (.int .u64 a1_2) := (blk_cell BK188.out 2).trans rfl; have hfz35_0 := blk_frozen BK188.out 0; have hfz35_1 := blk_frozen BK188.out 1; have hfz35_2 := blk_frozen BK188.out 2) | ((with_reducible refine gate_callee (f := 51) rfl ?_); refine goesL_ (some 29) rfl rfl Try.func51 (by kernel_rfl) rfl #[.agg #[.int .i64 a1_0, .int .u64 a1_1, .int .u64 a1_2], .int .u64 a2, .bool a3] rfl (by (try simp only [List.map_toArray, List.map_cons, List.map_nil]); first | done | rfl | (simp only [List.length_drop, List.length_take]; rfl)) ?_; (with_reducible refine (queue_Got.calls kj4 a1_0 a1_1 a1_2 a2 a3 t198 t199 t200 _ A22.out).mono ?_); rintro e w36 ⟨rfl, hb⟩; refine ⟨_, rfl, ?_⟩; have n0_ := aA (blk_below (g := gb187) (o := .cells #[.int .i64 a0_0, .int .i64 a0_1] 38 (0, 0)) (by refine bku ?_; refine blk_far ?_ NB187_197.out _; refine bku ?_; refine blk_far ?_ NB187_197.out _; refine bku ?_; refine blk_far ?_ NB187_197.out _; refine bku ?_; refine blk_far ?_ NB187_197.out _; refine bku ?_; exact BK187.out) hb); have n1_ := aA (blk_below (g := gb188) (o := .cells #[.int .i64 a1_0, .int .u64 a1_1, .int .u64 a1_2] 54 (0, 0)) (by refine bku ?_; refine blk_far ?_ NB188_197.out _; refine bku ?_; refine blk_far ?_ NB188_197.out _; refine bku ?_; refine blk_far ?_ NB188_197.out _; refine bku ?_; refine blk_far ?_ NB188_197.out _; refine bku ?_; exact BK188.out) hb); have n2_ := aA (blk_below (g := gb197) (o := .cells #[.int .i64 t192, .int .i64 t193, .int .u64 t194, .int .u64 t195] 25 (0, 0)) (by refine bku ?_; refine blk_put (cs := #[.int .i64 t192, .int .i64 t193, .int .u64 t194, .int .u64 0]) ?_ 3 _ rfl; refine bku ?_; refine blk_put (cs := #[.int .i64 t192, .int .i64 t193, .int .u64 0, .int .u64 0]) ?_ 2 _ rfl; refine bku ?_; refine blk_put (cs := #[.int .i64 t192, .int .i64 0, .int .u64 0, .int .u64 0]) ?_ 1 _ rfl; refine bku ?_; refine blk_put (cs := #[.int .i64 0, .int .i64 0, .int .u64 0, .int .u64 0]) ?_ 0 _ rfl; refine bku ?_; exact BK197.out) hb); have n3_ := aA (below_step (bls HB.out) hb); clear BK187 BK188 BK197 HB; have BK187 := n0_; have BK188 := n1_; have BK197 := n2_; have HB := n3_; clear n0_ n1_ n2_ n3_; (try clear hb); (try clear hb2); (try clear hk); (try clear hi)) | ((with_reducible refine gate_dst (N := 11) rfl ?_); refine box_event ?hg (N := 11) ?hd (cs := #[.int .i64 0, .int .u64 0, .int .u64 0]) (t := 54) ?hr ?_; (case hd => rfl); (case hg => rfl); (case hr => first | (go_simp; done) | (go_simp; rfl)); intro gb201 hg w37 hbox hb; have n0_ := aA (blk_below (g := gb187) (o := .cells #[.int .i64 a0_0, .int .i64 a0_1] 38 (0, 0)) (bku BK187.out) hb); have n1_ := aA (blk_below (g := gb188) (o := .cells #[.int .i64 a1_0, .int .u64 a1_1, .int .u64 a1_2] 54 (0, 0)) (bku BK188.out) hb); have n2_ := aA (blk_below (g := gb197) (o := .cells #[.int .i64 t192, .int .i64 t193, .int .u64 t194, .int .u64 t195] 25 (0, 0)) (bku BK197.out) hb); have n3_ := aA (below_step (bls HB.out) hb); have n4_ := aA (hbox); have n5_ := aA ((by rw [hg]; exact (below_size (bls HB.out)) : w.heap.size ≤ gb201)); have n6_ := aA ((by rw [hg]; exact (below_size (bls HB.out)) : w.heap.size ≤ gb201)); have n7_ := aA ((by rw [hg]; exact Nat.ne_of_lt (blk_lt (g := gb187) (o := .cells #[.int .i64 a0_0, .int .i64 a0_1] 38 (0, 0)) (bku BK187.out)) : gb187 ≠ gb201)); have n8_ := aA ((by rw [hg]; exact Nat.ne_of_gt (blk_lt (g := gb187) (o := .cells #[.int .i64 a0_0, .int .i64 a0_1] 38 (0, 0)) (bku BK187.out)) : gb201 ≠ gb187)); have n9_ := aA ((by rw [hg]; exact Nat.ne_of_lt (blk_lt (g := gb188) (o := .cells #[.int .i64 a1_0, .int .u64 a1_1, .int .u64 a1_2] 54 (0, 0)) (bku BK188.out)) : gb188 ≠ gb201)); have n10_ := aA ((by rw [hg]; exact Nat.ne_of_gt (blk_lt (g := gb188) (o := .cells #[.int .i64 a1_0, .int .u64 a1_1, .int .u64 a1_2] 54 (0, 0)) (bku BK188.out)) : gb201 ≠ gb188)); have n11_ := aA ((by rw [hg]; exact Nat.ne_of_lt (blk_lt (g := gb197) (o := .cells #[.int .i64 t192, .int .i64 t193, .int .u64 t194, .int .u64 t195] 25 (0, 0)) (bku BK197.out)) : gb197 ≠ gb201)); have n12_ := aA ((by rw [hg]; exact Nat.ne_of_gt (blk_lt (g := gb197) (o := .cells #[.int .i64 t192, .int .i64 t193, .int .u64 t194, .int .u64 t195] 25 (0, 0)) (bku BK197.out)) : gb201 ≠ gb197)); clear BK187 BK188 BK197 HB; have BK187 := n0_; have BK188 := n1_; have BK197 := n2_; have HB := n3_; have BK201 := n4_; have GW201 := n5_; have GE201 := n6_; have NB187_201 := n7_; have NB201_187 := n8_; have NB188_201 := n9_; have NB201_188 := n10_; have NB197_201 := n11_; have NB201_197 := n12_; clear n0_ n1_ n2_ n3_ n4_ n5_ n6_ n7_ n8_ n9_ n10_ n11_ n12_ hb hbox hg; have hnb38 := NB201_187.out; have hnc38 := NB187_201.out; have hnb39 := NB201_188.out; have hnc39 := NB188_201.out; have hnb40 := NB201_197.out; have hnc40 := NB197_201.out; have hcz41_0 : w37.cell? ⟨gb201, 0, none⟩ = some (.int .i64 0) := (blk_cell BK201.out 0).trans rfl; have hcz41_1 : w37.cell? ⟨gb201, 1, none⟩ = some (.int .u64 0) := (blk_cell BK201.out 1).trans rfl; have hcz41_2 : w37.cell? ⟨gb201, 2, none⟩ = some (.int .u64 0) := (blk_cell BK201.out 2).trans rfl; have hfz41_0 := blk_frozen BK201.out 0; have hfz41_1 := blk_frozen BK201.out 1; have hfz41_2 := blk_frozen BK201.out 2; have hcz42_0 : w37.cell? ⟨gb188, 0, none⟩ = some (.int .i64 a1_0) := (blk_cell BK188.out 0).trans rfl; have hcz42_1 : w37.cell? ⟨gb188, 1, none⟩ = some (.int .u64 a1_1) := (blk_cell BK188.out 1).trans rfl; have hcz42_2 : w37.cell? ⟨gb188, 2, none⟩ = some (.int .u64 a1_2) := (blk_cell BK188.out 2).trans rfl; have hfz42_0 := blk_frozen BK188.out 0; have hfz42_1 := blk_frozen BK188.out 1; have hfz42_2 := blk_frozen BK188.out 2))
        go_ret
        exact ⟨by first | rfl | (simp [errW_none, errW_some] <;> rfl) | (simp [*, errW_none, errW_some] <;> rfl), by repeat (first | (with_reducible first | exact HB.out | apply below_alloc | apply pw_below_drewN | apply below_drew1 | refine below_set ?_ GE187.out | refine below_set ?_ GE188.out | refine below_set ?_ GE197.out | refine below_set ?_ GE201.out) | exact HB.out)⟩
       ·replace c26 := Bool.eq_false_iff.mpr c26
        subst c26
        have H1 : (some (t198 == a1_0 && (t199 == a1_1 && (t200 == a1_2)))) = some r := by rw [if_neg (show ¬ (false = true) by decide)] at H; exact H
        clear H
        have H := H1
        clear H1
        obtain rfl := Option.some.inj H
        have hnb43 := NB187_188.out
        have hnc43 := NB188_187.out
        have hcz44_0 : wc.cell? ⟨gb187, 0, none⟩ = some (.int .i64 a0_0) := (blk_cell BK187.out 0).trans rfl
        have hcz44_1 : wc.cell? ⟨gb187, 1, none⟩ = some (.int .i64 a0_1) := (blk_cell BK187.out 1).trans rfl
        have hfz44_0 := blk_frozen BK187.out 0
        have hfz44_1 := blk_frozen BK187.out 1
        have hcz45_0 : wc.cell? ⟨gb188, 0, none⟩ = some (.int .i64 a1_0) := (blk_cell BK188.out 0).trans rfl
        have hcz45_1 : wc.cell? ⟨gb188, 1, none⟩ = some (.int .u64 a1_1) := (blk_cell BK188.out 1).trans rfl
        have hcz45_2 : wc.cell? ⟨gb188, 2, none⟩ = some (.int .u64 a1_2) := (blk_cell BK188.out 2).trans rfl
        have hfz45_0 := blk_frozen BK188.out 0
        have hfz45_1 := blk_frozen BK188.out 1
        have hfz45_2 := blk_frozen BK188.out 2
        go_wp2_with (first | ((with_reducible refine gate_callee (f := 47) rfl ?_); refine goesL_ (some 23) rfl rfl Try.func47 (by kernel_rfl) rfl #[.agg #[.int .i64 a0_0, .int .i64 a0_1], .agg #[.int .i64 a1_0, .int .u64 a1_1, .int .u64 a1_2]] rfl (by (try simp only [List.map_toArray, List.map_cons, List.map_nil]); first | done | rfl | (simp only [List.length_drop, List.length_take]; rfl)) ?_; (with_reducible refine (queue_Want.calls a0_0 a0_1 a1_0 a1_1 a1_2 t192 t193 t194 t195 false _ A21.out).mono ?_); rintro e w46 ⟨rfl, hb⟩; refine ⟨_, rfl, ?_⟩; have n0_ := aA (blk_below (g := gb187) (o := .cells #[.int .i64 a0_0, .int .i64 a0_1] 38 (0, 0)) (bku BK187.out) hb); have n1_ := aA (blk_below (g := gb188) (o := .cells #[.int .i64 a1_0, .int .u64 a1_1, .int .u64 a1_2] 54 (0, 0)) (bku BK188.out) hb); have n2_ := aA (below_step (bls HB.out) hb); clear BK187 BK188 HB; have BK187 := n0_; have BK188 := n1_; have HB := n2_; clear n0_ n1_ n2_; (try clear hb); (try clear hb2); (try clear hk); (try clear hi)) | ((with_reducible refine gate_dst (N := 9) rfl ?_); refine box_event ?hg (N := 9) ?hd (cs := #[.int .i64 0, .int .i64 0, .int .u64 0, .int .u64 0]) (t := 25) ?hr ?_; (case hd => rfl); (case hg => rfl); (case hr => first | (go_simp; done) | (go_simp; rfl)); intro gb197 hg w47 hbox hb; have n0_ := aA (blk_below (g := gb187) (o := .cells #[.int .i64 a0_0, .int .i64 a0_1] 38 (0, 0)) (bku BK187.out) hb); have n1_ := aA (blk_below (g := gb188) (o := .cells #[.int .i64 a1_0, .int .u64 a1_1, .int .u64 a1_2] 54 (0, 0)) (bku BK188.out) hb); have n2_ := aA (below_step (bls HB.out) hb); have n3_ := aA (hbox); have n4_ := aA ((by rw [hg]; exact (below_size (bls HB.out)) : w.heap.size ≤ gb197)); have n5_ := aA ((by rw [hg]; exact (below_size (bls HB.out)) : w.heap.size ≤ gb197)); have n6_ := aA ((by rw [hg]; exact Nat.ne_of_lt (blk_lt (g := gb187) (o := .cells #[.int .i64 a0_0, .int .i64 a0_1] 38 (0, 0)) (bku BK187.out)) : gb187 ≠ gb197)); have n7_ := aA ((by rw [hg]; exact Nat.ne_of_gt (blk_lt (g := gb187) (o := .cells #[.int .i64 a0_0, .int .i64 a0_1] 38 (0, 0)) (bku BK187.out)) : gb197 ≠ gb187)); have n8_ := aA ((by rw [hg]; exact Nat.ne_of_lt (blk_lt (g := gb188) (o := .cells #[.int .i64 a1_0, .int .u64 a1_1, .int .u64 a1_2] 54 (0, 0)) (bku BK188.out)) : gb188 ≠ gb197)); have n9_ := aA ((by rw [hg]; exact Nat.ne_of_gt (blk_lt (g := gb188) (o := .cells #[.int .i64 a1_0, .int .u64 a1_1, .int .u64 a1_2] 54 (0, 0)) (bku BK188.out)) : gb197 ≠ gb188)); clear BK187 BK188 HB; have BK187 := n0_; have BK188 := n1_; have HB := n2_; have BK197 := n3_; have GW197 := n4_; have GE197 := n5_; have NB187_197 := n6_; have NB197_187 := n7_; have NB188_197 := n8_; have NB197_188 := n9_; clear n0_ n1_ n2_ n3_ n4_ n5_ n6_ n7_ n8_ n9_ hb hbox hg; have hnb48 := NB197_187.out; have hnc48 := NB187_197.out; have hnb49 := NB197_188.out; have hnc49 := NB188_197.out; have hcz50_0 : w47.cell? ⟨gb197, 0, none⟩ = some (.int .i64 0) := (blk_cell BK197.out 0).trans rfl; have hcz50_1 : w47.cell? ⟨gb197, 1, none⟩ = some (.int .i64 0) := (blk_cell BK197.out 1).trans rfl; have hcz50_2 : w47.cell? ⟨gb197, 2, none⟩ = some (.int .u64 0) := (blk_cell BK197.out 2).trans rfl; have hcz50_3 : w47.cell? ⟨gb197, 3, none⟩ = some (.int .u64 0) := (blk_cell BK197.out 3).trans rfl; have hfz50_0 := blk_frozen BK197.out 0; have hfz50_1 := blk_frozen BK197.out 1; have hfz50_2 := blk_frozen BK197.out 2; have hfz50_3 := blk_frozen BK197.out 3; have hcz51_0 : w47.cell? ⟨gb188, 0, none⟩ = some (.int .i64 a1_0) := (blk_cell BK188.out 0).trans rfl; have hcz51_1 : w47.cell? ⟨gb188, 1, none⟩ = some (.int .u64 a1_1) := (blk_cell BK188.out 1).trans rfl; have hcz51_2 : w47.cell? ⟨gb188, 2, none⟩ = some (.int .u64 a1_2) := (blk_cell BK188.out 2).trans rfl; have hfz51_0 := blk_frozen BK188.out 0; have hfz51_1 := blk_frozen BK188.out 1; have hfz51_2 := blk_frozen BK188.out 2) | ((with_reducible refine gate_callee (f := 51) rfl ?_); refine goesL_ (some 29) rfl rfl Try.func51 (by kernel_rfl) rfl #[.agg #[.int .i64 a1_0, .int .u64 a1_1, .int .u64 a1_2], .int .u64 a2, .bool a3] rfl (by (try simp only [List.map_toArray, List.map_cons, List.map_nil]); first | done | rfl | (simp only [List.length_drop, List.length_take]; rfl)) ?_; (with_reducible refine (queue_Got.calls kj4 a1_0 a1_1 a1_2 a2 a3 t198 t199 t200 _ A22.out).mono ?_); rintro e w52 ⟨rfl, hb⟩; refine ⟨_, rfl, ?_⟩; have n0_ := aA (blk_below (g := gb187) (o := .cells #[.int .i64 a0_0, .int .i64 a0_1] 38 (0, 0)) (by refine bku ?_; refine blk_far ?_ NB187_197.out _; refine bku ?_; refine blk_far ?_ NB187_197.out _; refine bku ?_; refine blk_far ?_ NB187_197.out _; refine bku ?_; refine blk_far ?_ NB187_197.out _; refine bku ?_; exact BK187.out) hb); have n1_ := aA (blk_below (g := gb188) (o := .cells #[.int .i64 a1_0, .int .u64 a1_1, .int .u64 a1_2] 54 (0, 0)) (by refine bku ?_; refine blk_far ?_ NB188_197.out _; refine bku ?_; refine blk_far ?_ NB188_197.out _; refine bku ?_; refine blk_far ?_ NB188_197.out _; refine bku ?_; refine blk_far ?_ NB188_197.out _; refine bku ?_; exact BK188.out) hb); have n2_ := aA (blk_below (g := gb197) (o := .cells #[.int .i64 t192, .int .i64 t193, .int .u64 t194, .int .u64 t195] 25 (0, 0)) (by refine bku ?_; refine blk_put (cs := #[.int .i64 t192, .int .i64 t193, .int .u64 t194, .int .u64 0]) ?_ 3 _ rfl; refine bku ?_; refine blk_put (cs := #[.int .i64 t192, .int .i64 t193, .int .u64 0, .int .u64 0]) ?_ 2 _ rfl; refine bku ?_; refine blk_put (cs := #[.int .i64 t192, .int .i64 0, .int .u64 0, .int .u64 0]) ?_ 1 _ rfl; refine bku ?_; refine blk_put (cs := #[.int .i64 0, .int .i64 0, .int .u64 0, .int .u64 0]) ?_ 0 _ rfl; refine bku ?_; exact BK197.out) hb); have n3_ := aA (below_step (bls HB.out) hb); clear BK187 BK188 BK197 HB; have BK187 := n0_; have BK188 := n1_; have BK197 := n2_; have HB := n3_; clear n0_ n1_ n2_ n3_; (try clear hb); (try clear hb2); (try clear hk); (try clear hi)) | ((with_reducible refine gate_dst (N := 11) rfl ?_); refine box_event ?hg (N := 11) ?hd (cs := #[.int .i64 0, .int .u64 0, .int .u64 0]) (t := 54) ?hr ?_; (case hd => rfl); (case hg => rfl); (case hr => first | (go_simp; done) | (go_simp; rfl)); intro gb201 hg w53 hbox hb; have n0_ := aA (blk_below (g := gb187) (o := .cells #[.int .i64 a0_0, .int .i64 a0_1] 38 (0, 0)) (bku BK187.out) hb); have n1_ := aA (blk_below (g := gb188) (o := .cells #[.int .i64 a1_0, .int .u64 a1_1, .int .u64 a1_2] 54 (0, 0)) (bku BK188.out) hb); have n2_ := aA (blk_below (g := gb197) (o := .cells #[.int .i64 t192, .int .i64 t193, .int .u64 t194, .int .u64 t195] 25 (0, 0)) (bku BK197.out) hb); have n3_ := aA (below_step (bls HB.out) hb); have n4_ := aA (hbox); have n5_ := aA ((by rw [hg]; exact (below_size (bls HB.out)) : w.heap.size ≤ gb201)); have n6_ := aA ((by rw [hg]; exact (below_size (bls HB.out)) : w.heap.size ≤ gb201)); have n7_ := aA ((by rw [hg]; exact Nat.ne_of_lt (blk_lt (g := gb187) (o := .cells #[.int .i64 a0_0, .int .i64 a0_1] 38 (0, 0)) (bku BK187.out)) : gb187 ≠ gb201)); have n8_ := aA ((by rw [hg]; exact Nat.ne_of_gt (blk_lt (g := gb187) (o := .cells #[.int .i64 a0_0, .int .i64 a0_1] 38 (0, 0)) (bku BK187.out)) : gb201 ≠ gb187)); have n9_ := aA ((by rw [hg]; exact Nat.ne_of_lt (blk_lt (g := gb188) (o := .cells #[.int .i64 a1_0, .int .u64 a1_1, .int .u64 a1_2] 54 (0, 0)) (bku BK188.out)) : gb188 ≠ gb201)); have n10_ := aA ((by rw [hg]; exact Nat.ne_of_gt (blk_lt (g := gb188) (o := .cells #[.int .i64 a1_0, .int .u64 a1_1, .int .u64 a1_2] 54 (0, 0)) (bku BK188.out)) : gb201 ≠ gb188)); have n11_ := aA ((by rw [hg]; exact Nat.ne_of_lt (blk_lt (g := gb197) (o := .cells #[.int .i64 t192, .int .i64 t193, .int .u64 t194, .int .u64 t195] 25 (0, 0)) (bku BK197.out)) : gb197 ≠ gb201)); have n12_ := aA ((by rw [hg]; exact Nat.ne_of_gt (blk_lt (g := gb197) (o := .cells #[.int .i64 t192, .int .i64 t193, .int .u64 t194, .int .u64 t195] 25 (0, 0)) (bku BK197.out)) : gb201 ≠ gb197)); clear BK187 BK188 BK197 HB; have BK187 := n0_; have BK188 := n1_; have BK197 := n2_; have HB := n3_; have BK201 := n4_; have GW201 := n5_; have GE201 := n6_; have NB187_201 := n7_; have NB201_187 := n8_; have NB188_201 := n9_; have NB201_188 := n10_; have NB197_201 := n11_; have NB201_197 := n12_; clear n0_ n1_ n2_ n3_ n4_ n5_ n6_ n7_ n8_ n9_ n10_ n11_ n12_ hb hbox hg; have hnb54 := NB201_187.out; have hnc54 := NB187_201.out; have hnb55 := NB201_188.out; have hnc55 := NB188_201.out; have hnb56 := NB201_197.out; have hnc56 := NB197_201.out; have hcz57_0 : w53.cell? ⟨gb201, 0, none⟩ = some (.int .i64 0) := (blk_cell BK201.out 0).trans rfl; have hcz57_1 : w53.cell? ⟨gb201, 1, none⟩ = some (.int .u64 0) := (blk_cell BK201.out 1).trans rfl; have hcz57_2 : w53.cell? ⟨gb201, 2, none⟩ = some (.int .u64 0) := (blk_cell BK201.out 2).trans rfl; have hfz57_0 := blk_frozen BK201.out 0; have hfz57_1 := blk_frozen BK201.out 1; have hfz57_2 := blk_frozen BK201.out 2; have hcz58_0 : w53.cell? ⟨gb188, 0, none⟩ = some (.int .i64 a1_0) := (blk_cell BK188.out 0).trans rfl; have hcz58_1 : w53.cell? ⟨gb188, 1, none⟩ = some (.int .u64 a1_1) := (blk_cell BK188.out 1).trans rfl; have hcz58_2 : w53.cell? ⟨gb188, 2, none⟩ = some (.int .u64 a1_2) := (blk_cell BK188.out 2).trans rfl; have hfz58_0 := blk_frozen BK188.out 0; have hfz58_1 := blk_frozen BK188.out 1; have hfz58_2 := blk_frozen BK188.out 2))
        go_ret
        exact ⟨by first | rfl | (simp [errW_none, errW_some] <;> rfl) | (simp [*, errW_none, errW_some] <;> rfl), by repeat (first | (with_reducible first | exact HB.out | apply below_alloc | apply pw_below_drewN | apply below_drew1 | refine below_set ?_ GE187.out | refine below_set ?_ GE188.out | refine below_set ?_ GE197.out | refine below_set ?_ GE201.out) | exact HB.out)⟩
      ·rw [if_neg c25] at H
       have c25b0 : (t200 == a1_2) = false := beq_eq_false_iff_ne.mpr c25
       have c25b1 : (t200 != a1_2) = true := bne_iff_ne.mpr c25
       exact absurd ((Option.some.inj H).trans hr_) (by decide)
    ·rw [if_neg c23] at H
     have c23b0 : decide (0 ≤ a1_0) = false := decide_eq_false c23
     clear c23
     by_cases c59 : (t196 != false) = true
     ·rw [if_pos c59] at H
      have c59b0 : (t196 != false) = true := c59
      (try (have c59b1 : decide (t196 = false) = false := by simpa using c59))
      (try (have c59b2 : (t196 == false) = false := by simpa using c59))
      (try (have c59b3 : ¬ (t196 = false) := by simpa using c59))
      clear c59
      exact absurd ((Option.some.inj H).trans hr_) (by decide)
     ·rw [if_neg c59] at H
      have c59b0 : (t196 != false) = false := by simpa using c59
      (try (have c59b1 : decide (t196 = false) = true := by simpa using c59))
      (try (have c59b2 : (t196 == false) = true := by simpa using c59))
      clear c59
      by_cases c60 : t200 = a1_2
      ·rw [if_pos c60] at H
       have c60b0 : (t200 == a1_2) = true := beq_iff_eq.mpr c60
       have c60b1 : (t200 != a1_2) = false := bne_eq_false_iff_eq.mpr c60
       clear c60
       by_cases c61 : t196 = true
       ·subst c61
        have H1 : (some true) = some r := by rw [if_pos rfl] at H; exact H
        clear H
        have H := H1
        clear H1
        obtain rfl := Option.some.inj H
        have hnb62 := NB187_188.out
        have hnc62 := NB188_187.out
        have hcz63_0 : wc.cell? ⟨gb187, 0, none⟩ = some (.int .i64 a0_0) := (blk_cell BK187.out 0).trans rfl
        have hcz63_1 : wc.cell? ⟨gb187, 1, none⟩ = some (.int .i64 a0_1) := (blk_cell BK187.out 1).trans rfl
        have hfz63_0 := blk_frozen BK187.out 0
        have hfz63_1 := blk_frozen BK187.out 1
        have hcz64_0 : wc.cell? ⟨gb188, 0, none⟩ = some (.int .i64 a1_0) := (blk_cell BK188.out 0).trans rfl
        have hcz64_1 : wc.cell? ⟨gb188, 1, none⟩ = some (.int .u64 a1_1) := (blk_cell BK188.out 1).trans rfl
        have hcz64_2 : wc.cell? ⟨gb188, 2, none⟩ = some (.int .u64 a1_2) := (blk_cell BK188.out 2).trans rfl
        have hfz64_0 := blk_frozen BK188.out 0
        have hfz64_1 := blk_frozen BK188.out 1
        have hfz64_2 := blk_frozen BK188.out 2
        go_wp2_with (first | ((with_reducible refine gate_callee (f := 47) rfl ?_); refine goesL_ (some 23) rfl rfl Try.func47 (by kernel_rfl) rfl #[.agg #[.int .i64 a0_0, .int .i64 a0_1], .agg #[.int .i64 a1_0, .int .u64 a1_1, .int .u64 a1_2]] rfl (by (try simp only [List.map_toArray, List.map_cons, List.map_nil]); first | done | rfl | (simp only [List.length_drop, List.length_take]; rfl)) ?_; (with_reducible refine (queue_Want.calls a0_0 a0_1 a1_0 a1_1 a1_2 t192 t193 t194 t195 true _ A21.out).mono ?_); rintro e w65 ⟨rfl, hb⟩; refine ⟨_, rfl, ?_⟩; have n0_ := aA (blk_below (g := gb187) (o := .cells #[.int .i64 a0_0, .int .i64 a0_1] 38 (0, 0)) (bku BK187.out) hb); have n1_ := aA (blk_below (g := gb188) (o := .cells #[.int .i64 a1_0, .int .u64 a1_1, .int .u64 a1_2] 54 (0, 0)) (bku BK188.out) hb); have n2_ := aA (below_step (bls HB.out) hb); clear BK187 BK188 HB; have BK187 := n0_; have BK188 := n1_; have HB := n2_; clear n0_ n1_ n2_; (try clear hb); (try clear hb2); (try clear hk); (try clear hi)) | ((with_reducible refine gate_dst (N := 9) rfl ?_); refine box_event ?hg (N := 9) ?hd (cs := #[.int .i64 0, .int .i64 0, .int .u64 0, .int .u64 0]) (t := 25) ?hr ?_; (case hd => rfl); (case hg => rfl); (case hr => first | (go_simp; done) | (go_simp; rfl)); intro gb197 hg w66 hbox hb; have n0_ := aA (blk_below (g := gb187) (o := .cells #[.int .i64 a0_0, .int .i64 a0_1] 38 (0, 0)) (bku BK187.out) hb); have n1_ := aA (blk_below (g := gb188) (o := .cells #[.int .i64 a1_0, .int .u64 a1_1, .int .u64 a1_2] 54 (0, 0)) (bku BK188.out) hb); have n2_ := aA (below_step (bls HB.out) hb); have n3_ := aA (hbox); have n4_ := aA ((by rw [hg]; exact (below_size (bls HB.out)) : w.heap.size ≤ gb197)); have n5_ := aA ((by rw [hg]; exact (below_size (bls HB.out)) : w.heap.size ≤ gb197)); have n6_ := aA ((by rw [hg]; exact Nat.ne_of_lt (blk_lt (g := gb187) (o := .cells #[.int .i64 a0_0, .int .i64 a0_1] 38 (0, 0)) (bku BK187.out)) : gb187 ≠ gb197)); have n7_ := aA ((by rw [hg]; exact Nat.ne_of_gt (blk_lt (g := gb187) (o := .cells #[.int .i64 a0_0, .int .i64 a0_1] 38 (0, 0)) (bku BK187.out)) : gb197 ≠ gb187)); have n8_ := aA ((by rw [hg]; exact Nat.ne_of_lt (blk_lt (g := gb188) (o := .cells #[.int .i64 a1_0, .int .u64 a1_1, .int .u64 a1_2] 54 (0, 0)) (bku BK188.out)) : gb188 ≠ gb197)); have n9_ := aA ((by rw [hg]; exact Nat.ne_of_gt (blk_lt (g := gb188) (o := .cells #[.int .i64 a1_0, .int .u64 a1_1, .int .u64 a1_2] 54 (0, 0)) (bku BK188.out)) : gb197 ≠ gb188)); clear BK187 BK188 HB; have BK187 := n0_; have BK188 := n1_; have HB := n2_; have BK197 := n3_; have GW197 := n4_; have GE197 := n5_; have NB187_197 := n6_; have NB197_187 := n7_; have NB188_197 := n8_; have NB197_188 := n9_; clear n0_ n1_ n2_ n3_ n4_ n5_ n6_ n7_ n8_ n9_ hb hbox hg; have hnb67 := NB197_187.out; have hnc67 := NB187_197.out; have hnb68 := NB197_188.out; have hnc68 := NB188_197.out; have hcz69_0 : w66.cell? ⟨gb197, 0, none⟩ = some (.int .i64 0) := (blk_cell BK197.out 0).trans rfl; have hcz69_1 : w66.cell? ⟨gb197, 1, none⟩ = some (.int .i64 0) := (blk_cell BK197.out 1).trans rfl; have hcz69_2 : w66.cell? ⟨gb197, 2, none⟩ = some (.int .u64 0) := (blk_cell BK197.out 2).trans rfl; have hcz69_3 : w66.cell? ⟨gb197, 3, none⟩ = some (.int .u64 0) := (blk_cell BK197.out 3).trans rfl; have hfz69_0 := blk_frozen BK197.out 0; have hfz69_1 := blk_frozen BK197.out 1; have hfz69_2 := blk_frozen BK197.out 2; have hfz69_3 := blk_frozen BK197.out 3; have hcz70_0 : w66.cell? ⟨gb188, 0, none⟩ = some (.int .i64 a1_0) := (blk_cell BK188.out 0).trans rfl; have hcz70_1 : w66.cell? ⟨gb188, 1, none⟩ = some (.int .u64 a1_1) := (blk_cell BK188.out 1).trans rfl; have hcz70_2 : w66.cell? ⟨gb188, 2, none⟩ = some (.int .u64 a1_2) := (blk_cell BK188.out 2).trans rfl; have hfz70_0 := blk_frozen BK188.out 0; have hfz70_1 := blk_frozen BK188.out 1; have hfz70_2 := blk_frozen BK188.out 2) | ((with_reducible refine gate_callee (f := 51) rfl ?_); refine goesL_ (some 29) rfl rfl Try.func51 (by kernel_rfl) rfl #[.agg #[.int .i64 a1_0, .int .u64 a1_1, .int .u64 a1_2], .int .u64 a2, .bool a3] rfl (by (try simp only [List.map_toArray, List.map_cons, List.map_nil]); first | done | rfl | (simp only [List.length_drop, List.length_take]; rfl)) ?_; (with_reducible refine (queue_Got.calls kj4 a1_0 a1_1 a1_2 a2 a3 t198 t199 t200 _ A22.out).mono ?_); rintro e w71 ⟨rfl, hb⟩; refine ⟨_, rfl, ?_⟩; have n0_ := aA (blk_below (g := gb187) (o := .cells #[.int .i64 a0_0, .int .i64 a0_1] 38 (0, 0)) (by refine bku ?_; refine blk_far ?_ NB187_197.out _; refine bku ?_; refine blk_far ?_ NB187_197.out _; refine bku ?_; refine blk_far ?_ NB187_197.out _; refine bku ?_; refine blk_far ?_ NB187_197.out _; refine bku ?_; exact BK187.out) hb); have n1_ := aA (blk_below (g := gb188) (o := .cells #[.int .i64 a1_0, .int .u64 a1_1, .int .u64 a1_2] 54 (0, 0)) (by refine bku ?_; refine blk_far ?_ NB188_197.out _; refine bku ?_; refine blk_far ?_ NB188_197.out _; refine bku ?_; refine blk_far ?_ NB188_197.out _; refine bku ?_; refine blk_far ?_ NB188_197.out _; refine bku ?_; exact BK188.out) hb); have n2_ := aA (blk_below (g := gb197) (o := .cells #[.int .i64 t192, .int .i64 t193, .int .u64 t194, .int .u64 t195] 25 (0, 0)) (by refine bku ?_; refine blk_put (cs := #[.int .i64 t192, .int .i64 t193, .int .u64 t194, .int .u64 0]) ?_ 3 _ rfl; refine bku ?_; refine blk_put (cs := #[.int .i64 t192, .int .i64 t193, .int .u64 0, .int .u64 0]) ?_ 2 _ rfl; refine bku ?_; refine blk_put (cs := #[.int .i64 t192, .int .i64 0, .int .u64 0, .int .u64 0]) ?_ 1 _ rfl; refine bku ?_; refine blk_put (cs := #[.int .i64 0, .int .i64 0, .int .u64 0, .int .u64 0]) ?_ 0 _ rfl; refine bku ?_; exact BK197.out) hb); have n3_ := aA (below_step (bls HB.out) hb); clear BK187 BK188 BK197 HB; have BK187 := n0_; have BK188 := n1_; have BK197 := n2_; have HB := n3_; clear n0_ n1_ n2_ n3_; (try clear hb); (try clear hb2); (try clear hk); (try clear hi)) | ((with_reducible refine gate_dst (N := 11) rfl ?_); refine box_event ?hg (N := 11) ?hd (cs := #[.int .i64 0, .int .u64 0, .int .u64 0]) (t := 54) ?hr ?_; (case hd => rfl); (case hg => rfl); (case hr => first | (go_simp; done) | (go_simp; rfl)); intro gb201 hg w72 hbox hb; have n0_ := aA (blk_below (g := gb187) (o := .cells #[.int .i64 a0_0, .int .i64 a0_1] 38 (0, 0)) (bku BK187.out) hb); have n1_ := aA (blk_below (g := gb188) (o := .cells #[.int .i64 a1_0, .int .u64 a1_1, .int .u64 a1_2] 54 (0, 0)) (bku BK188.out) hb); have n2_ := aA (blk_below (g := gb197) (o := .cells #[.int .i64 t192, .int .i64 t193, .int .u64 t194, .int .u64 t195] 25 (0, 0)) (bku BK197.out) hb); have n3_ := aA (below_step (bls HB.out) hb); have n4_ := aA (hbox); have n5_ := aA ((by rw [hg]; exact (below_size (bls HB.out)) : w.heap.size ≤ gb201)); have n6_ := aA ((by rw [hg]; exact (below_size (bls HB.out)) : w.heap.size ≤ gb201)); have n7_ := aA ((by rw [hg]; exact Nat.ne_of_lt (blk_lt (g := gb187) (o := .cells #[.int .i64 a0_0, .int .i64 a0_1] 38 (0, 0)) (bku BK187.out)) : gb187 ≠ gb201)); have n8_ := aA ((by rw [hg]; exact Nat.ne_of_gt (blk_lt (g := gb187) (o := .cells #[.int .i64 a0_0, .int .i64 a0_1] 38 (0, 0)) (bku BK187.out)) : gb201 ≠ gb187)); have n9_ := aA ((by rw [hg]; exact Nat.ne_of_lt (blk_lt (g := gb188) (o := .cells #[.int .i64 a1_0, .int .u64 a1_1, .int .u64 a1_2] 54 (0, 0)) (bku BK188.out)) : gb188 ≠ gb201)); have n10_ := aA ((by rw [hg]; exact Nat.ne_of_gt (blk_lt (g := gb188) (o := .cells #[.int .i64 a1_0, .int .u64 a1_1, .int .u64 a1_2] 54 (0, 0)) (bku BK188.out)) : gb201 ≠ gb188)); have n11_ := aA ((by rw [hg]; exact Nat.ne_of_lt (blk_lt (g := gb197) (o := .cells #[.int .i64 t192, .int .i64 t193, .int .u64 t194, .int .u64 t195] 25 (0, 0)) (bku BK197.out)) : gb197 ≠ gb201)); have n12_ := aA ((by rw [hg]; exact Nat.ne_of_gt (blk_lt (g := gb197) (o := .cells #[.int .i64 t192, .int .i64 t193, .int .u64 t194, .int .u64 t195] 25 (0, 0)) (bku BK197.out)) : gb201 ≠ gb197)); clear BK187 BK188 BK197 HB; have BK187 := n0_; have BK188 := n1_; have BK197 := n2_; have HB := n3_; have BK201 := n4_; have GW201 := n5_; have GE201 := n6_; have NB187_201 := n7_; have NB201_187 := n8_; have NB188_201 := n9_; have NB201_188 := n10_; have NB197_201 := n11_; have NB201_197 := n12_; clear n0_ n1_ n2_ n3_ n4_ n5_ n6_ n7_ n8_ n9_ n10_ n11_ n12_ hb hbox hg; have hnb73 := NB201_187.out; have hnc73 := NB187_201.out; have hnb74 := NB201_188.out; have hnc74 := NB188_201.out; have hnb75 := NB201_197.out; have hnc75 := NB197_201.out; have hcz76_0 : w72.cell? ⟨gb201, 0, none⟩ = some (.int .i64 0) := (blk_cell BK201.out 0).trans rfl; have hcz76_1 : w72.cell? ⟨gb201, 1, none⟩ = some (.int .u64 0) := (blk_cell BK201.out 1).trans rfl; have hcz76_2 : w72.cell? ⟨gb201, 2, none⟩ = some (.int .u64 0) := (blk_cell BK201.out 2).trans rfl; have hfz76_0 := blk_frozen BK201.out 0; have hfz76_1 := blk_frozen BK201.out 1; have hfz76_2 := blk_frozen BK201.out 2; have hcz77_0 : w72.cell? ⟨gb188, 0, none⟩ = some (.int .i64 a1_0) := (blk_cell BK188.out 0).trans rfl; have hcz77_1 : w72.cell? ⟨gb188, 1, none⟩ = some (.int .u64 a1_1) := (blk_cell BK188.out 1).trans rfl; have hcz77_2 : w72.cell? ⟨gb188, 2, none⟩ = some (.int .u64 a1_2) := (blk_cell BK188.out 2).trans rfl; have hfz77_0 := blk_frozen BK188.out 0; have hfz77_1 := blk_frozen BK188.out 1; have hfz77_2 := blk_frozen BK188.out 2))
        go_ret
        exact ⟨by first | rfl | (simp [errW_none, errW_some] <;> rfl) | (simp [*, errW_none, errW_some] <;> rfl), by repeat (first | (with_reducible first | exact HB.out | apply below_alloc | apply pw_below_drewN | apply below_drew1 | refine below_set ?_ GE187.out | refine below_set ?_ GE188.out | refine below_set ?_ GE197.out | refine below_set ?_ GE201.out) | exact HB.out)⟩
       ·replace c61 := Bool.eq_false_iff.mpr c61
        subst c61
        have H1 : (some (t198 == a1_0 && (t199 == a1_1 && (t200 == a1_2)))) = some r := by rw [if_neg (show ¬ (false = true) by decide)] at H; exact H
        clear H
        have H := H1
        clear H1
        obtain rfl := Option.some.inj H
        have hnb78 := NB187_188.out
        have hnc78 := NB188_187.out
        have hcz79_0 : wc.cell? ⟨gb187, 0, none⟩ = some (.int .i64 a0_0) := (blk_cell BK187.out 0).trans rfl
        have hcz79_1 : wc.cell? ⟨gb187, 1, none⟩ = some (.int .i64 a0_1) := (blk_cell BK187.out 1).trans rfl
        have hfz79_0 := blk_frozen BK187.out 0
        have hfz79_1 := blk_frozen BK187.out 1
        have hcz80_0 : wc.cell? ⟨gb188, 0, none⟩ = some (.int .i64 a1_0) := (blk_cell BK188.out 0).trans rfl
        have hcz80_1 : wc.cell? ⟨gb188, 1, none⟩ = some (.int .u64 a1_1) := (blk_cell BK188.out 1).trans rfl
        have hcz80_2 : wc.cell? ⟨gb188, 2, none⟩ = some (.int .u64 a1_2) := (blk_cell BK188.out 2).trans rfl
        have hfz80_0 := blk_frozen BK188.out 0
        have hfz80_1 := blk_frozen BK188.out 1
        have hfz80_2 := blk_frozen BK188.out 2
        go_wp2_with (first | ((with_reducible refine gate_callee (f := 47) rfl ?_); refine goesL_ (some 23) rfl rfl Try.func47 (by kernel_rfl) rfl #[.agg #[.int .i64 a0_0, .int .i64 a0_1], .agg #[.int .i64 a1_0, .int .u64 a1_1, .int .u64 a1_2]] rfl (by (try simp only [List.map_toArray, List.map_cons, List.map_nil]); first | done | rfl | (simp only [List.length_drop, List.length_take]; rfl)) ?_; (with_reducible refine (queue_Want.calls a0_0 a0_1 a1_0 a1_1 a1_2 t192 t193 t194 t195 false _ A21.out).mono ?_); rintro e w81 ⟨rfl, hb⟩; refine ⟨_, rfl, ?_⟩; have n0_ := aA (blk_below (g := gb187) (o := .cells #[.int .i64 a0_0, .int .i64 a0_1] 38 (0, 0)) (bku BK187.out) hb); have n1_ := aA (blk_below (g := gb188) (o := .cells #[.int .i64 a1_0, .int .u64 a1_1, .int .u64 a1_2] 54 (0, 0)) (bku BK188.out) hb); have n2_ := aA (below_step (bls HB.out) hb); clear BK187 BK188 HB; have BK187 := n0_; have BK188 := n1_; have HB := n2_; clear n0_ n1_ n2_; (try clear hb); (try clear hb2); (try clear hk); (try clear hi)) | ((with_reducible refine gate_dst (N := 9) rfl ?_); refine box_event ?hg (N := 9) ?hd (cs := #[.int .i64 0, .int .i64 0, .int .u64 0, .int .u64 0]) (t := 25) ?hr ?_; (case hd => rfl); (case hg => rfl); (case hr => first | (go_simp; done) | (go_simp; rfl)); intro gb197 hg w82 hbox hb; have n0_ := aA (blk_below (g := gb187) (o := .cells #[.int .i64 a0_0, .int .i64 a0_1] 38 (0, 0)) (bku BK187.out) hb); have n1_ := aA (blk_below (g := gb188) (o := .cells #[.int .i64 a1_0, .int .u64 a1_1, .int .u64 a1_2] 54 (0, 0)) (bku BK188.out) hb); have n2_ := aA (below_step (bls HB.out) hb); have n3_ := aA (hbox); have n4_ := aA ((by rw [hg]; exact (below_size (bls HB.out)) : w.heap.size ≤ gb197)); have n5_ := aA ((by rw [hg]; exact (below_size (bls HB.out)) : w.heap.size ≤ gb197)); have n6_ := aA ((by rw [hg]; exact Nat.ne_of_lt (blk_lt (g := gb187) (o := .cells #[.int .i64 a0_0, .int .i64 a0_1] 38 (0, 0)) (bku BK187.out)) : gb187 ≠ gb197)); have n7_ := aA ((by rw [hg]; exact Nat.ne_of_gt (blk_lt (g := gb187) (o := .cells #[.int .i64 a0_0, .int .i64 a0_1] 38 (0, 0)) (bku BK187.out)) : gb197 ≠ gb187)); have n8_ := aA ((by rw [hg]; exact Nat.ne_of_lt (blk_lt (g := gb188) (o := .cells #[.int .i64 a1_0, .int .u64 a1_1, .int .u64 a1_2] 54 (0, 0)) (bku BK188.out)) : gb188 ≠ gb197)); have n9_ := aA ((by rw [hg]; exact Nat.ne_of_gt (blk_lt (g := gb188) (o := .cells #[.int .i64 a1_0, .int .u64 a1_1, .int .u64 a1_2] 54 (0, 0)) (bku BK188.out)) : gb197 ≠ gb188)); clear BK187 BK188 HB; have BK187 := n0_; have BK188 := n1_; have HB := n2_; have BK197 := n3_; have GW197 := n4_; have GE197 := n5_; have NB187_197 := n6_; have NB197_187 := n7_; have NB188_197 := n8_; have NB197_188 := n9_; clear n0_ n1_ n2_ n3_ n4_ n5_ n6_ n7_ n8_ n9_ hb hbox hg; have hnb83 := NB197_187.out; have hnc83 := NB187_197.out; have hnb84 := NB197_188.out; have hnc84 := NB188_197.out; have hcz85_0 : w82.cell? ⟨gb197, 0, none⟩ = some (.int .i64 0) := (blk_cell BK197.out 0).trans rfl; have hcz85_1 : w82.cell? ⟨gb197, 1, none⟩ = some (.int .i64 0) := (blk_cell BK197.out 1).trans rfl; have hcz85_2 : w82.cell? ⟨gb197, 2, none⟩ = some (.int .u64 0) := (blk_cell BK197.out 2).trans rfl; have hcz85_3 : w82.cell? ⟨gb197, 3, none⟩ = some (.int .u64 0) := (blk_cell BK197.out 3).trans rfl; have hfz85_0 := blk_frozen BK197.out 0; have hfz85_1 := blk_frozen BK197.out 1; have hfz85_2 := blk_frozen BK197.out 2; have hfz85_3 := blk_frozen BK197.out 3; have hcz86_0 : w82.cell? ⟨gb188, 0, none⟩ = some (.int .i64 a1_0) := (blk_cell BK188.out 0).trans rfl; have hcz86_1 : w82.cell? ⟨gb188, 1, none⟩ = some (.int .u64 a1_1) := (blk_cell BK188.out 1).trans rfl; have hcz86_2 : w82.cell? ⟨gb188, 2, none⟩ = some (.int .u64 a1_2) := (blk_cell BK188.out 2).trans rfl; have hfz86_0 := blk_frozen BK188.out 0; have hfz86_1 := blk_frozen BK188.out 1; have hfz86_2 := blk_frozen BK188.out 2) | ((with_reducible refine gate_callee (f := 51) rfl ?_); refine goesL_ (some 29) rfl rfl Try.func51 (by kernel_rfl) rfl #[.agg #[.int .i64 a1_0, .int .u64 a1_1, .int .u64 a1_2], .int .u64 a2, .bool a3] rfl (by (try simp only [List.map_toArray, List.map_cons, List.map_nil]); first | done | rfl | (simp only [List.length_drop, List.length_take]; rfl)) ?_; (with_reducible refine (queue_Got.calls kj4 a1_0 a1_1 a1_2 a2 a3 t198 t199 t200 _ A22.out).mono ?_); rintro e w87 ⟨rfl, hb⟩; refine ⟨_, rfl, ?_⟩; have n0_ := aA (blk_below (g := gb187) (o := .cells #[.int .i64 a0_0, .int .i64 a0_1] 38 (0, 0)) (by refine bku ?_; refine blk_far ?_ NB187_197.out _; refine bku ?_; refine blk_far ?_ NB187_197.out _; refine bku ?_; refine blk_far ?_ NB187_197.out _; refine bku ?_; refine blk_far ?_ NB187_197.out _; refine bku ?_; exact BK187.out) hb); have n1_ := aA (blk_below (g := gb188) (o := .cells #[.int .i64 a1_0, .int .u64 a1_1, .int .u64 a1_2] 54 (0, 0)) (by refine bku ?_; refine blk_far ?_ NB188_197.out _; refine bku ?_; refine blk_far ?_ NB188_197.out _; refine bku ?_; refine blk_far ?_ NB188_197.out _; refine bku ?_; refine blk_far ?_ NB188_197.out _; refine bku ?_; exact BK188.out) hb); have n2_ := aA (blk_below (g := gb197) (o := .cells #[.int .i64 t192, .int .i64 t193, .int .u64 t194, .int .u64 t195] 25 (0, 0)) (by refine bku ?_; refine blk_put (cs := #[.int .i64 t192, .int .i64 t193, .int .u64 t194, .int .u64 0]) ?_ 3 _ rfl; refine bku ?_; refine blk_put (cs := #[.int .i64 t192, .int .i64 t193, .int .u64 0, .int .u64 0]) ?_ 2 _ rfl; refine bku ?_; refine blk_put (cs := #[.int .i64 t192, .int .i64 0, .int .u64 0, .int .u64 0]) ?_ 1 _ rfl; refine bku ?_; refine blk_put (cs := #[.int .i64 0, .int .i64 0, .int .u64 0, .int .u64 0]) ?_ 0 _ rfl; refine bku ?_; exact BK197.out) hb); have n3_ := aA (below_step (bls HB.out) hb); clear BK187 BK188 BK197 HB; have BK187 := n0_; have BK188 := n1_; have BK197 := n2_; have HB := n3_; clear n0_ n1_ n2_ n3_; (try clear hb); (try clear hb2); (try clear hk); (try clear hi)) | ((with_reducible refine gate_dst (N := 11) rfl ?_); refine box_event ?hg (N := 11) ?hd (cs := #[.int .i64 0, .int .u64 0, .int .u64 0]) (t := 54) ?hr ?_; (case hd => rfl); (case hg => rfl); (case hr => first | (go_simp; done) | (go_simp; rfl)); intro gb201 hg w88 hbox hb; have n0_ := aA (blk_below (g := gb187) (o := .cells #[.int .i64 a0_0, .int .i64 a0_1] 38 (0, 0)) (bku BK187.out) hb); have n1_ := aA (blk_below (g := gb188) (o := .cells #[.int .i64 a1_0, .int .u64 a1_1, .int .u64 a1_2] 54 (0, 0)) (bku BK188.out) hb); have n2_ := aA (blk_below (g := gb197) (o := .cells #[.int .i64 t192, .int .i64 t193, .int .u64 t194, .int .u64 t195] 25 (0, 0)) (bku BK197.out) hb); have n3_ := aA (below_step (bls HB.out) hb); have n4_ := aA (hbox); have n5_ := aA ((by rw [hg]; exact (below_size (bls HB.out)) : w.heap.size ≤ gb201)); have n6_ := aA ((by rw [hg]; exact (below_size (bls HB.out)) : w.heap.size ≤ gb201)); have n7_ := aA ((by rw [hg]; exact Nat.ne_of_lt (blk_lt (g := gb187) (o := .cells #[.int .i64 a0_0, .int .i64 a0_1] 38 (0, 0)) (bku BK187.out)) : gb187 ≠ gb201)); have n8_ := aA ((by rw [hg]; exact Nat.ne_of_gt (blk_lt (g := gb187) (o := .cells #[.int .i64 a0_0, .int .i64 a0_1] 38 (0, 0)) (bku BK187.out)) : gb201 ≠ gb187)); have n9_ := aA ((by rw [hg]; exact Nat.ne_of_lt (blk_lt (g := gb188) (o := .cells #[.int .i64 a1_0, .int .u64 a1_1, .int .u64 a1_2] 54 (0, 0)) (bku BK188.out)) : gb188 ≠ gb201)); have n10_ := aA ((by rw [hg]; exact Nat.ne_of_gt (blk_lt (g := gb188) (o := .cells #[.int .i64 a1_0, .int .u64 a1_1, .int .u64 a1_2] 54 (0, 0)) (bku BK188.out)) : gb201 ≠ gb188)); have n11_ := aA ((by rw [hg]; exact Nat.ne_of_lt (blk_lt (g := gb197) (o := .cells #[.int .i64 t192, .int .i64 t193, .int .u64 t194, .int .u64 t195] 25 (0, 0)) (bku BK197.out)) : gb197 ≠ gb201)); have n12_ := aA ((by rw [hg]; exact Nat.ne_of_gt (blk_lt (g := gb197) (o := .cells #[.int .i64 t192, .int .i64 t193, .int .u64 t194, .int .u64 t195] 25 (0, 0)) (bku BK197.out)) : gb201 ≠ gb197)); clear BK187 BK188 BK197 HB; have BK187 := n0_; have BK188 := n1_; have BK197 := n2_; have HB := n3_; have BK201 := n4_; have GW201 := n5_; have GE201 := n6_; have NB187_201 := n7_; have NB201_187 := n8_; have NB188_201 := n9_; have NB201_188 := n10_; have NB197_201 := n11_; have NB201_197 := n12_; clear n0_ n1_ n2_ n3_ n4_ n5_ n6_ n7_ n8_ n9_ n10_ n11_ n12_ hb hbox hg; have hnb89 := NB201_187.out; have hnc89 := NB187_201.out; have hnb90 := NB201_188.out; have hnc90 := NB188_201.out; have hnb91 := NB201_197.out; have hnc91 := NB197_201.out; have hcz92_0 : w88.cell? ⟨gb201, 0, none⟩ = some (.int .i64 0) := (blk_cell BK201.out 0).trans rfl; have hcz92_1 : w88.cell? ⟨gb201, 1, none⟩ = some (.int .u64 0) := (blk_cell BK201.out 1).trans rfl; have hcz92_2 : w88.cell? ⟨gb201, 2, none⟩ = some (.int .u64 0) := (blk_cell BK201.out 2).trans rfl; have hfz92_0 := blk_frozen BK201.out 0; have hfz92_1 := blk_frozen BK201.out 1; have hfz92_2 := blk_frozen BK201.out 2; have hcz93_0 : w88.cell? ⟨gb188, 0, none⟩ = some (.int .i64 a1_0) := (blk_cell BK188.out 0).trans rfl; have hcz93_1 : w88.cell? ⟨gb188, 1, none⟩ = some (.int .u64 a1_1) := (blk_cell BK188.out 1).trans rfl; have hcz93_2 : w88.cell? ⟨gb188, 2, none⟩ = some (.int .u64 a1_2) := (blk_cell BK188.out 2).trans rfl; have hfz93_0 := blk_frozen BK188.out 0; have hfz93_1 := blk_frozen BK188.out 1; have hfz93_2 := blk_frozen BK188.out 2))
        go_ret
        exact ⟨by first | rfl | (simp [errW_none, errW_some] <;> rfl) | (simp [*, errW_none, errW_some] <;> rfl), by repeat (first | (with_reducible first | exact HB.out | apply below_alloc | apply pw_below_drewN | apply below_drew1 | refine below_set ?_ GE187.out | refine below_set ?_ GE188.out | refine below_set ?_ GE197.out | refine below_set ?_ GE201.out) | exact HB.out)⟩
      ·rw [if_neg c60] at H
       have c60b0 : (t200 == a1_2) = false := beq_eq_false_iff_ne.mpr c60
       have c60b1 : (t200 != a1_2) = true := bne_iff_ne.mpr c60
       exact absurd ((Option.some.inj H).trans hr_) (by decide)

theorem treillagelaw16_QueuePutters.calls (k : Nat) (a0_0 : Int) (a0_1 : Int) (a1_0 : Int) (a1_1 : Int) (a1_2 : Int) (a2 : Int) (a3 : Bool) (r : Bool) (w : World) (h : treillagelaw16_QueuePutters.f k a0_0 a0_1 a1_0 a1_1 a1_2 a2 a3 = some true) :
  Calls Try.prog 13 #[.agg #[.int .i64 a0_0, .int .i64 a0_1], .agg #[.int .i64 a1_0, .int .u64 a1_1, .int .u64 a1_2], .int .u64 a2, .bool a3] w fun e w' => e = .returned (.bool true) ∧ Below w.heap.size w w' := treillagelaw16_QueuePutters.calls1 k a0_0 a0_1 a1_0 a1_1 a1_2 a2 a3 true w h rfl
end Go.Proofs.Ytcjkjlopbjijaaa.PQ
