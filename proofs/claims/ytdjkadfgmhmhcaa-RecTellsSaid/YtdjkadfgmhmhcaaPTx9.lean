-- Written by wip/hprint/hprint.py (a program of this session, over the print): not typed by hand
import Derived.Test.YtdjkadfgmhmhcaaPTx0
import Derived.Test.YtdjkadfgmhmhcaaPTx6
namespace Go.Proofs.Ytdjkadfgmhmhcaa.PT
open Go.RowKit Go.Proofs.YtdjkadfgmhmhcaaW.PrintWords Go.Proofs.YtdjkadfgmhmhcaaW.PrintLast Go.Proofs.YtdjkadfgmhmhcaaW.PrintMore
attribute [local go_sem] max2_int min2_int max_two min_two max_three min_three max_four min_four   -- for this text's walks alone
open Go.Proofs.YtdjkadfgmhmhcaaH
set_option linter.unusedVariables false
set_option linter.unusedSimpArgs false

/-! ### treillagelaw11_its: function 13 -/
def treillagelaw11_its.f (a0_0 : Int) (a0_1 : Int) (a0_2 : ByteArray) (a0_3 : ByteArray) (l0_4 : List ByteArray) (a0_5 : Int) (a0_6 : Int) : Option (Int × Int × ByteArray × ByteArray × List ByteArray × Int × Int) := some (a0_0, a0_1, a0_2, a0_3, l0_4, a0_5, a0_6)
set_option maxHeartbeats 8000000 in
set_option maxRecDepth 100000 in
theorem treillagelaw11_its.calls (a0_0 : Int) (a0_1 : Int) (a0_2 : ByteArray) (a0_3 : ByteArray) (P0_4_ : Nat → Prop) (A0_4 : Option Addr) (c0_4 : Nat) (l0_4 : List ByteArray) (a0_5 : Int) (a0_6 : Int) (r1 : Int) (r2 : Int) (r3 : ByteArray) (r4 : ByteArray) (r5 : List ByteArray) (r6 : Int) (r7 : Int) (w : World) (hs0_4 : Kd.V Kd.string 9 w w.heap.size (fun k_ => P0_4_ k_) (.slice A0_4 l0_4.length c0_4) l0_4) (h : treillagelaw11_its.f a0_0 a0_1 a0_2 a0_3 l0_4 a0_5 a0_6 = some (r1, r2, r3, r4, r5, r6, r7)) :
  Calls Try.prog 13 #[.agg #[.int .i64 a0_0, .int .i64 a0_1, .string a0_2, .string a0_3, .slice A0_4 l0_4.length c0_4, .int .u64 a0_5, .int .i64 a0_6]] w fun e w' => ∃ v4_ : Value, e = .returned (.agg #[.int .i64 r1, .int .i64 r2, .string r3, .string r4, v4_, .int .u64 r6, .int .i64 r7]) ∧ Kd.V Kd.string 9 w' w.heap.size (fun k_ => (P0_4_ k_ ∨ w.heap.size ≤ k_)) v4_ r5 ∧ Below w.heap.size w w' := by
 have hu27 := Try.underlying27; have hu37 := Try.underlying37; have hu25 := Try.underlying25; have HO0_4 := aA (show Kd.V Kd.string 9 w w.heap.size (fun k_ => (P0_4_ k_ ∨ w.heap.size ≤ k_)) (.slice A0_4 l0_4.length c0_4) l0_4 from Kd.V_mono hs0_4 (fun k_ hk => .inl hk)); have HB := aA (Below.refl w.heap.size w); have H : (some (a0_0, a0_1, a0_2, a0_3, l0_4, a0_5, a0_6)) = some (r1, r2, r3, r4, r5, r6, r7) := h; clear h; simp only [Option.some.injEq, Prod.mk.injEq] at H; obtain ⟨rfl, rfl, rfl, rfl, rfl, rfl, rfl⟩ := H; go_enter Try.func13, Try.ntmps13; go_wp2_with (first | ((with_reducible refine gate_dst (N := 1) rfl ?_); refine box_event ?hg (N := 1) ?hd (cs := #[.int .i64 a0_0, .int .i64 a0_1, .string a0_2, .string a0_3, .slice A0_4 l0_4.length c0_4, .int .u64 a0_5, .int .i64 a0_6]) (t := 27) ?hr ?_; (case hd => rfl); (case hg => rfl); (case hr => first | (go_simp; done) | (go_simp; rfl)); intro gb214 hg w2 hbox hb; have n0_ := aA (Kd.V_below (Kd.V_elderB (vlu HO0_4.out) gb214 (Nat.le_of_eq hg.symm)) hb); have n1_ := aA (below_step (blw HB.out) hb); have n2_ := aA (hbox); have n3_ := aA ((by rw [hg]; exact (below_size (blw HB.out)) : w.heap.size ≤ gb214)); have n4_ := aA ((by rw [hg]; exact (below_size (blw HB.out)) : w.heap.size ≤ gb214)); clear HO0_4 HB; have HO0_4 := n0_; have HB := n1_; have BK214 := n2_; have GW214 := n3_; have GE214 := n4_; clear n0_ n1_ n2_ n3_ n4_ hb hbox hg) | ((with_reducible refine gate_dst (N := 2) rfl ?_); refine box_event ?hg (N := 2) ?hd (cs := #[.int .i64 0, .int .i64 0, .string (⟨#[]⟩ : ByteArray), .string (⟨#[]⟩ : ByteArray), .slice none 0 0, .int .u64 0, .int .i64 0]) (t := 37) ?hr ?_; (case hd => rfl); (case hg => rfl); (case hr => first | (go_simp; done) | (go_simp; rfl)); intro gb215 hg w3 hbox hb; have n0_ := aA (Kd.V_below (Kd.V_elderB (vlu HO0_4.out) gb215 (Nat.le_of_eq hg.symm)) hb); have n1_ := aA (blk_below (g := gb214) (o := .cells #[.int .i64 a0_0, .int .i64 a0_1, .string a0_2, .string a0_3, .slice A0_4 l0_4.length c0_4, .int .u64 a0_5, .int .i64 a0_6] 27 (0, 0)) (bku BK214.out) hb); have n2_ := aA (below_step (bls HB.out) hb); have n3_ := aA (hbox); have n4_ := aA ((by rw [hg]; exact (below_size (bls HB.out)) : w.heap.size ≤ gb215)); have n5_ := aA ((by rw [hg]; exact (below_size (bls HB.out)) : w.heap.size ≤ gb215)); have n6_ := aA ((by rw [hg]; exact Nat.ne_of_lt (blk_lt (g := gb214) (o := .cells #[.int .i64 a0_0, .int .i64 a0_1, .string a0_2, .string a0_3, .slice A0_4 l0_4.length c0_4, .int .u64 a0_5, .int .i64 a0_6] 27 (0, 0)) (bku BK214.out)) : gb214 ≠ gb215)); have n7_ := aA ((by rw [hg]; exact Nat.ne_of_gt (blk_lt (g := gb214) (o := .cells #[.int .i64 a0_0, .int .i64 a0_1, .string a0_2, .string a0_3, .slice A0_4 l0_4.length c0_4, .int .u64 a0_5, .int .i64 a0_6] 27 (0, 0)) (bku BK214.out)) : gb215 ≠ gb214)); clear HO0_4 BK214 HB; have HO0_4 := n0_; have BK214 := n1_; have HB := n2_; have BK215 := n3_; have GW215 := n4_; have GE215 := n5_; have NB214_215 := n6_; have NB215_214 := n7_; clear n0_ n1_ n2_ n3_ n4_ n5_ n6_ n7_ hb hbox hg; have hnb4 := NB214_215.out; have hnc4 := NB215_214.out; have hcz5_0 : w3.cell? ⟨gb214, 0, none⟩ = some (.int .i64 a0_0) := (blk_cell BK214.out 0).trans rfl; have hcz5_1 : w3.cell? ⟨gb214, 1, none⟩ = some (.int .i64 a0_1) := (blk_cell BK214.out 1).trans rfl; have hcz5_2 : w3.cell? ⟨gb214, 2, none⟩ = some (.string a0_2) := (blk_cell BK214.out 2).trans rfl; have hcz5_3 : w3.cell? ⟨gb214, 3, none⟩ = some (.string a0_3) := (blk_cell BK214.out 3).trans rfl; have hcz5_4 : w3.cell? ⟨gb214, 4, none⟩ = some (.slice A0_4 l0_4.length c0_4) := (blk_cell BK214.out 4).trans rfl; have hcz5_5 : w3.cell? ⟨gb214, 5, none⟩ = some (.int .u64 a0_5) := (blk_cell BK214.out 5).trans rfl; have hcz5_6 : w3.cell? ⟨gb214, 6, none⟩ = some (.int .i64 a0_6) := (blk_cell BK214.out 6).trans rfl; have hfz5_0 := blk_frozen BK214.out 0; have hfz5_1 := blk_frozen BK214.out 1; have hfz5_2 := blk_frozen BK214.out 2; have hfz5_3 := blk_frozen BK214.out 3; have hfz5_4 := blk_frozen BK214.out 4; have hfz5_5 := blk_frozen BK214.out 5; have hfz5_6 := blk_frozen BK214.out 6; have hcz6_0 : w3.cell? ⟨gb215, 0, none⟩ = some (.int .i64 0) := (blk_cell BK215.out 0).trans rfl; have hcz6_1 : w3.cell? ⟨gb215, 1, none⟩ = some (.int .i64 0) := (blk_cell BK215.out 1).trans rfl; have hcz6_2 : w3.cell? ⟨gb215, 2, none⟩ = some (.string (⟨#[]⟩ : ByteArray)) := (blk_cell BK215.out 2).trans rfl; have hcz6_3 : w3.cell? ⟨gb215, 3, none⟩ = some (.string (⟨#[]⟩ : ByteArray)) := (blk_cell BK215.out 3).trans rfl; have hcz6_4 : w3.cell? ⟨gb215, 4, none⟩ = some (.slice none 0 0) := (blk_cell BK215.out 4).trans rfl; have hcz6_5 : w3.cell? ⟨gb215, 5, none⟩ = some (.int .u64 0) := (blk_cell BK215.out 5).trans rfl; have hcz6_6 : w3.cell? ⟨gb215, 6, none⟩ = some (.int .i64 0) := (blk_cell BK215.out 6).trans rfl; have hfz6_0 := blk_frozen BK215.out 0; have hfz6_1 := blk_frozen BK215.out 1; have hfz6_2 := blk_frozen BK215.out 2; have hfz6_3 := blk_frozen BK215.out 3; have hfz6_4 := blk_frozen BK215.out 4; have hfz6_5 := blk_frozen BK215.out 5; have hfz6_6 := blk_frozen BK215.out 6))
 refine bodyPost_ret (results_cell_row rfl _ _ gb215 37 #[.int .i64 a0_0, .int .i64 a0_1, .string a0_2, .string a0_3, .slice A0_4 l0_4.length c0_4, .int .u64 a0_5, .int .i64 a0_6] (0, 0) _ rfl (by (with_reducible repeat (first | refine blk_drewN ?_ _ | refine blk_drew ?_ | refine blk_alloc ?_ _)); refine blk_put (cs := #[.int .i64 a0_0, .int .i64 a0_1, .string a0_2, .string a0_3, .slice A0_4 l0_4.length c0_4, .int .u64 a0_5, .int .i64 0]) ?_ 6 _ rfl; (with_reducible repeat (first | refine blk_drewN ?_ _ | refine blk_drew ?_ | refine blk_alloc ?_ _)); refine blk_put (cs := #[.int .i64 a0_0, .int .i64 a0_1, .string a0_2, .string a0_3, .slice A0_4 l0_4.length c0_4, .int .u64 0, .int .i64 0]) ?_ 5 _ rfl; (with_reducible repeat (first | refine blk_drewN ?_ _ | refine blk_drew ?_ | refine blk_alloc ?_ _)); refine blk_put (cs := #[.int .i64 a0_0, .int .i64 a0_1, .string a0_2, .string a0_3, .slice none 0 0, .int .u64 0, .int .i64 0]) ?_ 4 _ rfl; (with_reducible repeat (first | refine blk_drewN ?_ _ | refine blk_drew ?_ | refine blk_alloc ?_ _)); refine blk_put (cs := #[.int .i64 a0_0, .int .i64 a0_1, .string a0_2, .string (⟨#[]⟩ : ByteArray), .slice none 0 0, .int .u64 0, .int .i64 0]) ?_ 3 _ rfl; (with_reducible repeat (first | refine blk_drewN ?_ _ | refine blk_drew ?_ | refine blk_alloc ?_ _)); refine blk_put (cs := #[.int .i64 a0_0, .int .i64 a0_1, .string (⟨#[]⟩ : ByteArray), .string (⟨#[]⟩ : ByteArray), .slice none 0 0, .int .u64 0, .int .i64 0]) ?_ 2 _ rfl; (with_reducible repeat (first | refine blk_drewN ?_ _ | refine blk_drew ?_ | refine blk_alloc ?_ _)); refine blk_put (cs := #[.int .i64 a0_0, .int .i64 0, .string (⟨#[]⟩ : ByteArray), .string (⟨#[]⟩ : ByteArray), .slice none 0 0, .int .u64 0, .int .i64 0]) ?_ 1 _ rfl; (with_reducible repeat (first | refine blk_drewN ?_ _ | refine blk_drew ?_ | refine blk_alloc ?_ _)); refine blk_put (cs := #[.int .i64 0, .int .i64 0, .string (⟨#[]⟩ : ByteArray), .string (⟨#[]⟩ : ByteArray), .slice none 0 0, .int .u64 0, .int .i64 0]) ?_ 0 _ rfl; (with_reducible repeat (first | refine blk_drewN ?_ _ | refine blk_drew ?_ | refine blk_alloc ?_ _)); exact BK215.out) Try.underlying37 rfl (by kernel_rfl)) rfl ?_; exact ⟨_, by first | rfl | (simp [errW_none, errW_some] <;> rfl) | (simp [*, errW_none, errW_some] <;> rfl), by (with_reducible repeat (first | apply Kd.V_alloc | apply Kd.V_drewN | apply Kd.V_drew)); exact Kd.V_mono (Kd.V_far (p := ⟨gb215, 6, none⟩) (Kd.V_far (p := ⟨gb215, 5, none⟩) (Kd.V_far (p := ⟨gb215, 4, none⟩) (Kd.V_far (p := ⟨gb215, 3, none⟩) (Kd.V_far (p := ⟨gb215, 2, none⟩) (Kd.V_far (p := ⟨gb215, 1, none⟩) (Kd.V_far (p := ⟨gb215, 0, none⟩) (Kd.V_mono HO0_4.out (fun k_ hk => (⟨hk, hk.2⟩ : _ ∧ k_ ≠ gb215))) (fun _ hk => hk.2) (.int .i64 a0_0)) (fun _ hk => hk.2) (.int .i64 a0_1)) (fun _ hk => hk.2) (.string a0_2)) (fun _ hk => hk.2) (.string a0_3)) (fun _ hk => hk.2) (.slice A0_4 l0_4.length c0_4)) (fun _ hk => hk.2) (.int .u64 a0_5)) (fun _ hk => hk.2) (.int .i64 a0_6)) (fun _ hk => hk.1.1.1), by repeat (first | (with_reducible first | exact HB.out | apply below_alloc | apply pw_below_drewN | apply below_drew1 | refine below_set ?_ GE214.out | refine below_set ?_ GE215.out) | exact HB.out)⟩

/-! ### treillageref11_same: function 33 -/
def treillageref11_same.l0 : Nat → List Int → List Int → Int → Option (Bool)
 | 0, _, _, _ => none
 | k + 1, x0, x1, x5 => if x5 < (x0.length : Int) then (if 0 ≤ x5 then (if x5 < (x1.length : Int) then (if (rd x0 x5) = (rd x1 x5) then (treillageref11_same.l0 k x0 x1 (wrap64 (x5 + 1))) else (some false)) else (none)) else (none)) else (some true)
def treillageref11_same.f (k : Nat) (l0 : List Int) (l1 : List Int) : Option (Bool) := if (l0.length : Int) = (l1.length : Int) then (treillageref11_same.l0 k l0 l1 0) else (some false)
theorem treillageref11_same.mono_l : ∀ k, (∀ y0 y1 y2, LeO (treillageref11_same.l0 k y0 y1 y2) (treillageref11_same.l0 (k + 1) y0 y1 y2))
 | 0 => fun _ _ _ r h => by simp [treillageref11_same.l0] at h
 | k + 1 => by
  have ih0 := treillageref11_same.mono_l k
  ·intro y0 y1 y2
   unfold treillageref11_same.l0; repeat' first
   | (with_reducible exact ih0 _ _ _)
   | (with_reducible exact LeO.refl _)
   | (with_reducible exact LeO.none _)
   | (with_reducible refine LeO.ite ?_ ?_)
   | (with_reducible refine LeO.bind ?_ (fun _ => ?_))
   | exact ih0 _ _ _
   | exact LeO.none _
   | refine LeO.ite ?_ ?_
   | refine LeO.bind ?_ (fun _ => ?_)
theorem treillageref11_same.mono : ∀ a0 a1 k, LeO (treillageref11_same.f k a0 a1) (treillageref11_same.f (k + 1) a0 a1) := by
 intro a0 a1 k
 have ih0 := treillageref11_same.mono_l k; unfold treillageref11_same.f
 repeat' first
   | (with_reducible exact ih0 _ _ _)
   | (with_reducible exact LeO.refl _)
   | (with_reducible exact LeO.none _)
   | (with_reducible refine LeO.ite ?_ ?_)
   | (with_reducible refine LeO.bind ?_ (fun _ => ?_))
   | exact ih0 _ _ _
   | exact LeO.none _
   | refine LeO.ite ?_ ?_
   | refine LeO.bind ?_ (fun _ => ?_)
set_option maxHeartbeats 8000000 in
set_option maxRecDepth 100000 in
theorem treillageref11_same.calls (k : Nat) (A0 : Option Addr) (c0 : Nat) (l0 : List Int) (A1 : Option Addr) (c1 : Nat) (l1 : List Int) (r : Bool) (w : World) (hr0 : Kd.C (Kd.int .u64) w A0 l0.length l0) (hc0 : l0.length ≤ c0) (hr1 : Kd.C (Kd.int .u64) w A1 l1.length l1) (hc1 : l1.length ≤ c1) (h : treillageref11_same.f k l0 l1 = some r) :
  Calls Try.prog 33 #[.slice A0 l0.length c0, .slice A1 l1.length c1] w fun e w' => e = .returned (.bool r) ∧ Drawn0 w w' := by
 have HR0 := aA hr0; have HC0 := aA hc0; clear hr0 hc0; have HR1 := aA hr1; have HC1 := aA hc1; clear hr1 hc1; have H : (if (l0.length : Int) = (l1.length : Int) then (treillageref11_same.l0 k l0 l1 0) else (some false)) = some r := h; clear h; by_cases c3 : (l0.length : Int) = (l1.length : Int)
 ·rw [if_pos c3] at H; have c3b0 : ((l0.length : Int) == (l1.length : Int)) = true := beq_iff_eq.mpr c3; have c3b1 : ((l0.length : Int) != (l1.length : Int)) = false := bne_eq_false_iff_eq.mpr c3; have c3b2 : (l0.length == l1.length) = true := by first | simpa using c3 | (simp at c3 ⊢; omega)
  clear c3; have H' := aA H; clear H; go_enter Try.func33, Try.ntmps33; go_wp2; repeat (go_quiet (fail); try go_wp2)
  go_loopg [5] k (fun kq v5 w' => ∃ (x5_1 : Int), v5 = .int .i64 x5_1 ∧ Aside0 (treillageref11_same.l0 kq l0 l1 x5_1 = some r) ∧ Aside0 (kq ≤ k) ∧ Drawn0 w w')
  case atStart => exact ⟨(0), (by first | rfl | (simp; done) | (simp [*]; done)), H', ⟨Nat.le_refl _⟩, by repeat (first | exact Drawn0.refl _ | apply Drawn0.step)⟩
  case round =>
   clear H'; try clear c1
   try clear p2
   try clear c3
   try clear c3b0
   try clear c3b1
   try clear c3b2
   obtain ⟨x5_1, rfl, HA, HK1, ⟨m1, rfl⟩⟩ := hrel; cases gk with
   | zero => exact absurd HA.out (by simp [treillageref11_same.l0])
   | succ k1 =>
    have H := HA.out; clear HA; simp only [treillageref11_same.l0] at H; by_cases c4 : x5_1 < (l0.length : Int)
    ·rw [if_pos c4] at H; have c4b0 : decide (x5_1 < (l0.length : Int)) = true := decide_eq_true c4; clear c4; by_cases c5 : 0 ≤ x5_1
     rotate_left
     ·rw [if_neg c5] at H; exact absurd H (by simp)
     rw [if_pos c5] at H; have c5b0 : decide (0 ≤ x5_1) = true := decide_eq_true c5; clear c5; by_cases c6 : x5_1 < (l1.length : Int)
     rotate_left
     ·rw [if_neg c6] at H; exact absurd H (by simp)
     rw [if_pos c6] at H; have c6b0 : decide (x5_1 < (l1.length : Int)) = true := decide_eq_true c6; clear c6; by_cases c7 : (rd l0 x5_1) = (rd l1 x5_1)
     ·rw [if_pos c7] at H; have c7b0 : ((rd l0 x5_1) == (rd l1 x5_1)) = true := beq_iff_eq.mpr c7; have c7b1 : ((rd l0 x5_1) != (rd l1 x5_1)) = false := bne_eq_false_iff_eq.mpr c7; clear c7; have H' := aA H; clear H; have p216 : 0 ≤ (x5_1 : Int) := of_decide_eq_true (by first | (with_reducible assumption) | assumption); have q216 : x5_1 < (l0.length : Int) := of_decide_eq_true (by first | (with_reducible assumption) | assumption); obtain ⟨ad216, e216, hx216_0⟩ := Kd.at_int HR0.out x5_1 p216 q216; cases e216
      replace p216 := eq_true p216; replace q216 := eq_true q216; have p217 : 0 ≤ (x5_1 : Int) := of_decide_eq_true (by first | (with_reducible assumption) | assumption); have q217 : x5_1 < (l1.length : Int) := of_decide_eq_true (by first | (with_reducible assumption) | assumption); obtain ⟨ad217, e217, hx217_0⟩ := Kd.at_int HR1.out x5_1 p217 q217; cases e217
      replace p217 := eq_true p217; replace q217 := eq_true q217; go_wp2; repeat (go_quiet (fail); try go_wp2)
      go_roundg k1
      case measure => have := HK1.out; omega
      case rel => exact ⟨(wrap64 (x5_1 + 1)), (by first | rfl | (simp; done) | (simp [*]; done)), H', ⟨by have := HK1.out; omega⟩, by repeat (first | exact Drawn0.refl _ | apply Drawn0.step)⟩
     ·rw [if_neg c7] at H; have c7b0 : ((rd l0 x5_1) == (rd l1 x5_1)) = false := beq_eq_false_iff_ne.mpr c7; have c7b1 : ((rd l0 x5_1) != (rd l1 x5_1)) = true := bne_iff_ne.mpr c7; obtain rfl := Option.some.inj H; have p216 : 0 ≤ (x5_1 : Int) := of_decide_eq_true (by first | (with_reducible assumption) | assumption); have q216 : x5_1 < (l0.length : Int) := of_decide_eq_true (by first | (with_reducible assumption) | assumption); obtain ⟨ad216, e216, hx216_0⟩ := Kd.at_int HR0.out x5_1 p216 q216; cases e216
      replace p216 := eq_true p216; replace q216 := eq_true q216; have p217 : 0 ≤ (x5_1 : Int) := of_decide_eq_true (by first | (with_reducible assumption) | assumption); have q217 : x5_1 < (l1.length : Int) := of_decide_eq_true (by first | (with_reducible assumption) | assumption); obtain ⟨ad217, e217, hx217_0⟩ := Kd.at_int HR1.out x5_1 p217 q217; cases e217
      replace p217 := eq_true p217; replace q217 := eq_true q217; go_wp2; repeat (go_quiet (fail); try go_wp2)
      go_ret
      exact ⟨by first | rfl | (simp; done) | (simp [*]; done), by repeat (first | exact Drawn0.refl _ | apply Drawn0.step)⟩
    ·rw [if_neg c4] at H; have c4b0 : decide (x5_1 < (l0.length : Int)) = false := decide_eq_false c4; clear c4; obtain rfl := Option.some.inj H; go_wp2; repeat (go_quiet (fail); try go_wp2)
     go_ret
     exact ⟨by first | rfl | (simp; done) | (simp [*]; done), by repeat (first | exact Drawn0.refl _ | apply Drawn0.step)⟩
 ·rw [if_neg c3] at H; have c3b0 : ((l0.length : Int) == (l1.length : Int)) = false := beq_eq_false_iff_ne.mpr c3; have c3b1 : ((l0.length : Int) != (l1.length : Int)) = true := bne_iff_ne.mpr c3; have c3b2 : (l0.length == l1.length) = false := by first | simpa using c3 | (simp at c3 ⊢; omega)
  obtain rfl := Option.some.inj H; go_enter Try.func33, Try.ntmps33; go_wp2; repeat (go_quiet (fail); try go_wp2)
  go_ret
  exact ⟨by first | rfl | (simp; done) | (simp [*]; done), by repeat (first | exact Drawn0.refl _ | apply Drawn0.step)⟩

/-! ### treillageref11_Text: function 21 -/
mutual
def treillageref11_Text.j0 : Nat → List Int → Int → Bool → Option (ByteArray × Bool)
 | 0, _, _, _ => none
 | k + 1, x0, x1, x18 => if x18 = true then (some ((⟨#[]⟩ : ByteArray), false)) else (treillageref11_Text.l0 k x0 x1 (([] : List Int)) 0)
def treillageref11_Text.l0 : Nat → List Int → Int → List Int → Int → Option (ByteArray × Bool)
 | 0, _, _, _, _ => none
 | k + 1, x0, x1, x6, x7 => if x7 < x1 then (if 0 ≤ (wrap64 (Int.tdiv x7 8)) then (if (wrap64 (Int.tdiv x7 8)) < (x0.length : Int) then (treillageref11_Text.l1 k x0 x1 x6 x7 (rd x0 (wrap64 (Int.tdiv x7 8))) 0) else (none)) else (none)) else ((treillageref11_Words.f k (strOfNums x6)).bind fun t225 => ((treillageref11_same.f k t225 x0).bind fun t228 => (if t228 = true then (some (strOfNums x6, true)) else (some ((⟨#[]⟩ : ByteArray), false)))))
def treillageref11_Text.l1 : Nat → List Int → Int → List Int → Int → Int → Int → Option (ByteArray × Bool)
 | 0, _, _, _, _, _, _ => none
 | k + 1, x0, x1, x6, x7, x8, x9 => if x9 < (Int.tmod x7 8) then (treillageref11_Text.l1 k x0 x1 x6 x7 (IntKind.u64.wrap (Int.tdiv x8 256)) (wrap64 (x9 + 1))) else (if x6.length < 140737488355328 then (treillageref11_Text.l0 k x0 x1 (x6 ++ [(Int.tmod x8 256) % 256]) (wrap64 (x7 + 1))) else (none))
end
def treillageref11_Text.f (k : Nat) (l0 : List Int) (a1 : Int) : Option (ByteArray × Bool) := if a1 < 0 then (treillageref11_Text.j0 k l0 a1 true) else (treillageref11_Text.j0 k l0 a1 (decide (a1 > (wrap64 (8 * (l0.length : Int))))))
theorem treillageref11_Text.mono_l : ∀ k, (∀ y0 y1 y2, LeO (treillageref11_Text.j0 k y0 y1 y2) (treillageref11_Text.j0 (k + 1) y0 y1 y2)) ∧ (∀ y0 y1 y2 y3, LeO (treillageref11_Text.l0 k y0 y1 y2 y3) (treillageref11_Text.l0 (k + 1) y0 y1 y2 y3)) ∧ (∀ y0 y1 y2 y3 y4 y5, LeO (treillageref11_Text.l1 k y0 y1 y2 y3 y4 y5) (treillageref11_Text.l1 (k + 1) y0 y1 y2 y3 y4 y5))
 | 0 => ⟨fun _ _ _ r h => by simp [treillageref11_Text.j0] at h, fun _ _ _ _ r h => by simp [treillageref11_Text.l0] at h, fun _ _ _ _ _ _ r h => by simp [treillageref11_Text.l1] at h⟩
 | k + 1 => by
  obtain ⟨ih0, ih1, ih2⟩ := treillageref11_Text.mono_l k; refine ⟨?_, ?_, ?_⟩
  ·intro y0 y1 y2
   unfold treillageref11_Text.j0; repeat' first
   | (with_reducible exact ih0 _ _ _)
   | (with_reducible exact ih1 _ _ _ _)
   | (with_reducible exact ih2 _ _ _ _ _ _)
   | (with_reducible exact treillageref11_Words.mono _ _)
   | (with_reducible exact treillageref11_same.mono _ _ _)
   | (with_reducible exact LeO.refl _)
   | (with_reducible exact LeO.none _)
   | (with_reducible refine LeO.ite ?_ ?_)
   | (with_reducible refine LeO.bind ?_ (fun _ => ?_))
   | exact ih0 _ _ _
   | exact ih1 _ _ _ _
   | exact ih2 _ _ _ _ _ _
   | exact treillageref11_Words.mono _ _
   | exact treillageref11_same.mono _ _ _
   | exact LeO.none _
   | refine LeO.ite ?_ ?_
   | refine LeO.bind ?_ (fun _ => ?_)
  ·intro y0 y1 y2 y3
   unfold treillageref11_Text.l0; repeat' first
   | (with_reducible exact ih0 _ _ _)
   | (with_reducible exact ih1 _ _ _ _)
   | (with_reducible exact ih2 _ _ _ _ _ _)
   | (with_reducible exact treillageref11_Words.mono _ _)
   | (with_reducible exact treillageref11_same.mono _ _ _)
   | (with_reducible exact LeO.refl _)
   | (with_reducible exact LeO.none _)
   | (with_reducible refine LeO.ite ?_ ?_)
   | (with_reducible refine LeO.bind ?_ (fun _ => ?_))
   | exact ih0 _ _ _
   | exact ih1 _ _ _ _
   | exact ih2 _ _ _ _ _ _
   | exact treillageref11_Words.mono _ _
   | exact treillageref11_same.mono _ _ _
   | exact LeO.none _
   | refine LeO.ite ?_ ?_
   | refine LeO.bind ?_ (fun _ => ?_)
  ·intro y0 y1 y2 y3 y4 y5
   unfold treillageref11_Text.l1; repeat' first
   | (with_reducible exact ih0 _ _ _)
   | (with_reducible exact ih1 _ _ _ _)
   | (with_reducible exact ih2 _ _ _ _ _ _)
   | (with_reducible exact treillageref11_Words.mono _ _)
   | (with_reducible exact treillageref11_same.mono _ _ _)
   | (with_reducible exact LeO.refl _)
   | (with_reducible exact LeO.none _)
   | (with_reducible refine LeO.ite ?_ ?_)
   | (with_reducible refine LeO.bind ?_ (fun _ => ?_))
   | exact ih0 _ _ _
   | exact ih1 _ _ _ _
   | exact ih2 _ _ _ _ _ _
   | exact treillageref11_Words.mono _ _
   | exact treillageref11_same.mono _ _ _
   | exact LeO.none _
   | refine LeO.ite ?_ ?_
   | refine LeO.bind ?_ (fun _ => ?_)
theorem treillageref11_Text.mono : ∀ a0 a1 k, LeO (treillageref11_Text.f k a0 a1) (treillageref11_Text.f (k + 1) a0 a1) := by
 intro a0 a1 k
 obtain ⟨ih0, ih1, ih2⟩ := treillageref11_Text.mono_l k; unfold treillageref11_Text.f
 repeat' first
   | (with_reducible exact ih0 _ _ _)
   | (with_reducible exact ih1 _ _ _ _)
   | (with_reducible exact ih2 _ _ _ _ _ _)
   | (with_reducible exact treillageref11_Words.mono _ _)
   | (with_reducible exact treillageref11_same.mono _ _ _)
   | (with_reducible exact LeO.refl _)
   | (with_reducible exact LeO.none _)
   | (with_reducible refine LeO.ite ?_ ?_)
   | (with_reducible refine LeO.bind ?_ (fun _ => ?_))
   | exact ih0 _ _ _
   | exact ih1 _ _ _ _
   | exact ih2 _ _ _ _ _ _
   | exact treillageref11_Words.mono _ _
   | exact treillageref11_same.mono _ _ _
   | exact LeO.none _
   | refine LeO.ite ?_ ?_
   | refine LeO.bind ?_ (fun _ => ?_)
set_option maxHeartbeats 8000000 in
set_option maxRecDepth 100000 in
theorem treillageref11_Text.calls (k : Nat) (A0 : Option Addr) (c0 : Nat) (l0 : List Int) (a1 : Int) (r1 : ByteArray) (r2 : Bool) (w : World) (hr0 : Kd.C (Kd.int .u64) w A0 l0.length l0) (hc0 : l0.length ≤ c0) (h : treillageref11_Text.f k l0 a1 = some (r1, r2)) :
  Calls Try.prog 21 #[.slice A0 l0.length c0, .int .i64 a1] w fun e w' => e = .returned (.tuple #[.string r1, .bool r2]) ∧ Below w.heap.size w w' := by
 have HR0 := aA hr0; have HC0 := aA hc0; clear hr0 hc0; have HB := aA (Below.refl w.heap.size w); have H : (if a1 < 0 then (treillageref11_Text.j0 k l0 a1 true) else (treillageref11_Text.j0 k l0 a1 (decide (a1 > (wrap64 (8 * (l0.length : Int))))))) = some (r1, r2) := h; clear h; have HC3 := aA H; clear H; go_enter Try.func21, Try.ntmps21; go_upto_region 1 with (fail)
 go_cut [18] (fun v18 wc => ∃ (kq : Nat) (x18_2 : Bool), v18 = .bool x18_2 ∧ Aside0 (treillageref11_Text.j0 kq l0 a1 x18_2 = some (r1, r2)) ∧ Aside0 (kq ≤ k) ∧ Aside0 (Below w.heap.size w wc))
 case first =>
  have H := HC3.out; clear HC3; by_cases c4 : a1 < 0
  ·rw [if_pos c4] at H; have c4b0 : decide (a1 < 0) = true := decide_eq_true c4; clear c4; (first | rw [c4b0] | rw [c4b1] | (simp only [i64_w, i32_w]; rw [c4b0]) | skip)
   have H' := aA H; clear H; go_wp2; go_meet
   case rel => exact ⟨_, (true), (by first | rfl | (simp; done) | (simp [*]; done)), H', ⟨by first | omega | exact Nat.le_refl _⟩, ⟨by repeat (first | (with_reducible first | exact HB.out | apply below_alloc | apply pw_below_drewN | apply below_drew1) | exact HB.out)⟩⟩
  ·rw [if_neg c4] at H; have c4b0 : decide (a1 < 0) = false := decide_eq_false c4; clear c4; (first | rw [c4b0] | rw [c4b1] | (simp only [i64_w, i32_w]; rw [c4b0]) | skip)
   have H' := aA H; clear H; go_wp2; go_meet
   case rel => exact ⟨_, (decide (a1 > (wrap64 (8 * (l0.length : Int))))), (by first | rfl | (simp; done) | (simp [*]; done)), H', ⟨by first | omega | exact Nat.le_refl _⟩, ⟨by repeat (first | (with_reducible first | exact HB.out | apply below_alloc | apply pw_below_drewN | apply below_drew1) | exact HB.out)⟩⟩
 case rest =>
  clear HC3; try clear c2
  try clear p2
  try clear c4
  try clear c4b0
  try clear c4b1
  obtain ⟨kq, x18_2, rfl, HA, HJ2, HB⟩ := hcut; cases kq with
  | zero => exact absurd HA.out (by simp [treillageref11_Text.j0])
  | succ kj2 =>
   have H := HA.out; clear HA; simp only [treillageref11_Text.j0] at H; by_cases c5 : x18_2 = true
   ·subst c5; have H1 : (some ((⟨#[]⟩ : ByteArray), false)) = some (r1, r2) := by rw [if_pos rfl] at H; exact H
    clear H; have H := H1; clear H1; simp only [Option.some.injEq, Prod.mk.injEq] at H; obtain ⟨rfl, rfl⟩ := H; go_wp2; go_ret2
    exact ⟨by first | rfl | (simp [errW_none, errW_some] <;> rfl) | (simp [*, errW_none, errW_some] <;> rfl), by repeat (first | (with_reducible first | exact HB.out | apply below_alloc | apply pw_below_drewN | apply below_drew1) | exact HB.out)⟩
   ·replace c5 := Bool.eq_false_iff.mpr c5; subst c5; have H1 : (treillageref11_Text.l0 kj2 l0 a1 (([] : List Int)) 0) = some (r1, r2) := by rw [if_neg (show ¬ (false = true) by decide)] at H; exact H
    clear H; have H := H1; clear H1; obtain ⟨y218, hy218⟩ : ∃ y_ : List Int, y_ = (([] : List Int)) := ⟨_, rfl⟩; replace H : (treillageref11_Text.l0 kj2 l0 a1 y218 0) = some (r1, r2) := by first | (rw [hy218]; with_reducible exact H) | (have H2_ := (Option.bind_some _ _).symm.trans H; rw [hy218]; with_reducible exact H2_) | (have H2_ := (Option.bind_some _ _).symm.trans H; with_reducible exact H2_) | with_reducible exact H | (rw [hy218]; exact H) | exact H
    have Ny218 := aA hy218; clear hy218; have H' := aA H; clear H; go_wp2_with (first | ((with_reducible refine gate_dst (N := 19) rfl ?_); (try (refine gate_guard (by rfl) ?_; dsimp only)); refine Kd.R_lit (Kd.int .u8) _ 5 ?hg (N := 19) ?hd (xs := ([] : List Int)) (inner := []) (ok := fun _ => True) (okp := fun _ => True) ?hr ?hp (fun _ hk => hk) trivial (Below.refl _ _) (Nat.le_refl _) (by simp) ?_; (case hd => rfl); (case hg => rfl); (case hr => first | (go_simp; done) | (go_simp; rfl)); (case hp => exact (Reps.none _ _)); intro v219 w6 ho7 hb hg_ hnew_; clear hg_ hnew_; (first | rw [← Ny218.out] at ho7 | (simp only [Int.reduceToNat] at ho7; rw [← Ny218.out] at ho7)); have n0_ := aA (Kd.R_lower ho7 (below_size (blw HB.out))); have n1_ := aA (below_step (blw HB.out) hb); clear HB; have HO220 := n0_; have HB := n1_; clear n0_ n1_ hb ho7))
    go_loopg [6, 7] kj2 (fun kq v6 v7 w' => ∃ (x6_2 : List Int) (x7_2 : Int), v7 = .int .i64 x7_2 ∧ Aside0 (treillageref11_Text.l0 kq l0 a1 x6_2 x7_2 = some (r1, r2)) ∧ Aside0 (kq ≤ kj2) ∧ Aside0 (Kd.R (Kd.int .u8) 5 w' w.heap.size (fun _ => True) v6 x6_2) ∧ Aside0 (Below w.heap.size w w'))
    case atStart => exact ⟨(y218), (0), (by first | rfl | (simp; done) | (simp [*]; done)), H', ⟨Nat.le_refl _⟩, ⟨by (with_reducible repeat (first | apply Kd.R_alloc | apply Kd.R_drewN | apply Kd.R_drew)); exact HO220.out⟩, ⟨by repeat (first | (with_reducible first | exact HB.out | apply below_alloc | apply pw_below_drewN | apply below_drew1) | exact HB.out)⟩⟩
    case round =>
     clear H'; try clear c2
     try clear p2
     try clear c4
     try clear c4b0
     try clear c4b1
     try clear c5
     try clear p6
     try clear p2
     obtain ⟨x6_2, x7_2, rfl, HA, HK2, HO_6, HB⟩ := hrel; cases gk with
     | zero => exact absurd HA.out (by simp [treillageref11_Text.l0])
     | succ k2 =>
      have H := HA.out; clear HA; simp only [treillageref11_Text.l0] at H; by_cases c8 : x7_2 < a1
      ·rw [if_pos c8] at H; have c8b0 : decide (x7_2 < a1) = true := decide_eq_true c8; clear c8; obtain ⟨ji9, hji9⟩ : ∃ j_ : Int, (wrap64 (Int.tdiv x7_2 8)) = j_ := ⟨_, rfl⟩; replace H : (if 0 ≤ (ji9) then (if (ji9) < (l0.length : Int) then (treillageref11_Text.l1 k2 l0 a1 x6_2 x7_2 (rd l0 (ji9)) 0) else (none)) else (none)) = some (r1, r2) := by first | (rw [hji9] at H; exact H) | (simp only [hji9] at H ⊢; exact H)
       have hji9w : (IntKind.i64.wrap (Int.tdiv x7_2 8)) = ji9 := (i64_w _).trans hji9; by_cases c10 : 0 ≤ (ji9)
       rotate_left
       ·rw [if_neg c10] at H; exact absurd H (by simp)
       rw [if_pos c10] at H; have c10b0 : decide (0 ≤ (ji9)) = true := decide_eq_true c10; clear c10; by_cases c11 : (ji9) < (l0.length : Int)
       rotate_left
       ·rw [if_neg c11] at H; exact absurd H (by simp)
       rw [if_pos c11] at H; have c11b0 : decide ((ji9) < (l0.length : Int)) = true := decide_eq_true c11; clear c11; have H' := aA H; clear H; have p221 : 0 ≤ ((ji9) : Int) := of_decide_eq_true (by first | (with_reducible assumption) | assumption); have q221 : (ji9) < (l0.length : Int) := of_decide_eq_true (by first | (with_reducible assumption) | assumption); obtain ⟨ad221, e221, hx221_0⟩ := Kd.at_int HR0.out (ji9) p221 q221; cases e221
       replace hx221_0 := (HB.out.cell (World.block_lt_of_cell? w _ hx221_0)).trans hx221_0; replace p221 := eq_true p221; replace q221 := eq_true q221; go_wp2; go_loopg [8, 9] k2 (fun kq v8 v9 w' => ∃ (x8_3 : Int) (x9_3 : Int), v8 = .int .u64 x8_3 ∧ v9 = .int .i64 x9_3 ∧ Aside0 (treillageref11_Text.l1 kq l0 a1 x6_2 x7_2 x8_3 x9_3 = some (r1, r2)) ∧ Aside0 (kq ≤ k2) ∧ Aside0 (Kd.R (Kd.int .u8) 5 w' w.heap.size (fun _ => True) u6 x6_2) ∧ Aside0 (Below w.heap.size w w'))
       case atStart => exact ⟨(rd l0 (ji9)), (0), (by first | rfl | (simp; done) | (simp only [← hji9] <;> (first | rfl | simp)) | (simp [*]; done)), (by first | rfl | (simp; done) | (simp [*]; done)), H', ⟨Nat.le_refl _⟩, ⟨by (with_reducible repeat (first | apply Kd.R_alloc | apply Kd.R_drewN | apply Kd.R_drew)); exact HO_6.out⟩, ⟨by repeat (first | (with_reducible first | exact HB.out | apply below_alloc | apply pw_below_drewN | apply below_drew1) | exact HB.out)⟩⟩
       case round =>
        clear H'; try clear c1
        try clear c2
        try clear p2
        try clear q2
        try clear hx2
        try clear c4
        try clear c4b0
        try clear c4b1
        try clear c5
        try clear p6
        try clear c8
        try clear c8b0
        try clear c10
        try clear c10b0
        try clear c11
        try clear c11b0
        try clear hx221_0
        try clear p2
        try clear p221
        try clear p6
        try clear q221
        obtain ⟨x8_3, x9_3, rfl, rfl, HA, HK3, HO_6, HB⟩ := hrel; cases gk with
        | zero => exact absurd HA.out (by simp [treillageref11_Text.l1])
        | succ k3 =>
         have H := HA.out; clear HA; simp only [treillageref11_Text.l1] at H; by_cases c12 : x9_3 < (Int.tmod x7_2 8)
         ·rw [if_pos c12] at H; have c12b0 : decide (x9_3 < (Int.tmod x7_2 8)) = true := decide_eq_true c12; clear c12; have H' := aA H; clear H; go_wp2; go_roundg k3
          case measure => have := HJ2.out; have := HK2.out; have := HK3.out; omega
          case rel => exact ⟨(IntKind.u64.wrap (Int.tdiv x8_3 256)), (wrap64 (x9_3 + 1)), (by first | rfl | (simp; done) | (simp [*]; done)), (by first | rfl | (simp; done) | (simp [*]; done)), H', ⟨by have := HJ2.out; have := HK2.out; have := HK3.out; omega⟩, ⟨by (with_reducible repeat (first | apply Kd.R_alloc | apply Kd.R_drewN | apply Kd.R_drew)); exact HO_6.out⟩, ⟨by repeat (first | (with_reducible first | exact HB.out | apply below_alloc | apply pw_below_drewN | apply below_drew1) | exact HB.out)⟩⟩
         ·rw [if_neg c12] at H; have c12b0 : decide (x9_3 < (Int.tmod x7_2 8)) = false := decide_eq_false c12; clear c12; by_cases c13 : x6_2.length < 140737488355328
          rotate_left
          ·rw [if_neg c13] at H; exact absurd H (by simp)
          rw [if_pos c13] at H; have LMc13 := aA c13; clear c13; obtain ⟨y222, hy222⟩ : ∃ y_ : List Int, y_ = (x6_2 ++ [(Int.tmod x8_3 256) % 256]) := ⟨_, rfl⟩; replace H : (treillageref11_Text.l0 k3 l0 a1 y222 (wrap64 (x7_2 + 1))) = some (r1, r2) := by first | (rw [hy222]; with_reducible exact H) | (have H2_ := (Option.bind_some _ _).symm.trans H; rw [hy222]; with_reducible exact H2_) | (have H2_ := (Option.bind_some _ _).symm.trans H; with_reducible exact H2_) | with_reducible exact H | (rw [hy222]; exact H) | exact H
          have Ny222 := aA hy222; clear hy222; have H' := aA H; clear H; go_wp2_with (first | ((with_reducible refine gate_builtin (b := .append) (xs := #[.tmp 38, .tmp 42]) rfl ?_); (try (refine gate_guard (by rfl) ?_; dsimp only)); at_builtin; refine Kd.R_append (Kd.int .u8) (w0 := w) w.heap.size rfl (.tmp 38) (.tmp 42) 69 5 (.int .u8 0) 1 rfl Try.underlying69 info5 rfl (by decide) (by omega) u6 x6_2 ((Int.tmod x8_3 256) % 256) [.int .u8 ((Int.tmod x8_3 256) % 256)] (fun _ => True) (fun _ => False) rfl rfl ?aP (fun _ hk => hk.elim) ?aF ?aO ?aB ?aS ?aL ?_; (case aP => exact rfl); (case aB => exact (blw HB.out)); (case aF => exact (fun _ _ => trivial)); (case aO => exact (rlu HO_6.out)); (case aS => exact (below_size (blw HB.out))); (case aL => have := LMc13.out; omega); intro v223 w14 ho hb hg hat; rw [← Ny222.out] at ho; have n0_ := aA (hb); have n1_ := aA (ho); clear HB HO_6; have HB := n0_; have HO224 := n1_; clear n0_ n1_ ho hb hg hat))
          go_roundg k3
          case measure => have := HJ2.out; have := HK2.out; have := HK3.out; omega
          case rel => exact ⟨(y222), (wrap64 (x7_2 + 1)), (by first | rfl | (simp; done) | (simp [*]; done)), H', ⟨by have := HJ2.out; have := HK2.out; have := HK3.out; omega⟩, ⟨by (with_reducible repeat (first | apply Kd.R_alloc | apply Kd.R_drewN | apply Kd.R_drew)); exact HO224.out⟩, ⟨by repeat (first | (with_reducible first | exact HB.out | apply below_alloc | apply pw_below_drewN | apply below_drew1) | exact HB.out)⟩⟩
      ·rw [if_neg c8] at H; have c8b0 : decide (x7_2 < a1) = false := decide_eq_false c8; clear c8; replace H := Option.bind_eq_some_iff.mp H; obtain ⟨t225, A150, H⟩ := H; replace H : ((treillageref11_same.f k2 t225 l0).bind fun t228 => (if t228 = true then (some (strOfNums x6_2, true)) else (some ((⟨#[]⟩ : ByteArray), false)))) = some (r1, r2) := H; have A15 := aA A150; clear A150; replace H := Option.bind_eq_some_iff.mp H; obtain ⟨t228, A160, H⟩ := H; replace H : (if t228 = true then (some (strOfNums x6_2, true)) else (some ((⟨#[]⟩ : ByteArray), false))) = some (r1, r2) := H; have A16 := aA A160; clear A160; by_cases c17 : t228 = true
       ·subst c17; have H1 : (some (strOfNums x6_2, true)) = some (r1, r2) := by rw [if_pos rfl] at H; exact H
        clear H; have H := H1; clear H1; simp only [Option.some.injEq, Prod.mk.injEq] at H; obtain ⟨rfl, rfl⟩ := H; have hcv18 := own_string (P := Try.prog) Try.underlying69 Try.underlying5 Try.underlying9 (Kd.own_of_R HO_6.out); go_wp2_with (first | ((with_reducible refine gate_callee (f := 23) rfl ?_); refine goesL_ (some 46) rfl rfl Try.func23 (by kernel_rfl) rfl #[.string (strOfNums x6_2)] rfl (by (try simp only [List.map_toArray, List.map_cons, List.map_nil]); first | done | rfl | (simp only [List.length_drop, List.length_take]; rfl)) ?_; (with_reducible refine (treillageref11_Words.calls k2 (strOfNums x6_2) t225 _ A15.out).mono ?_); rintro e w19 ⟨v226, rfl, ho0, hb⟩; refine ⟨_, rfl, ?_⟩; have n0_ := aA (Kd.R_below (rlu HO_6.out) hb); have n1_ := aA (Kd.R_lower ho0 (below_size (blw HB.out))); have n2_ := aA (below_step (blw HB.out) hb); clear HO_6 HB; have HO_6 := n0_; have HO227 := n1_; have HB := n2_; clear n0_ n1_ n2_; (try clear hb); (try clear hb2); (try clear hk); (try clear hi); (try clear ho0); obtain ⟨Ao20, co20, eo20⟩ := Kd.R_slice HO227.out; subst eo20) | ((with_reducible refine gate_callee (f := 33) rfl ?_); refine goesL_ (some 48) rfl rfl Try.func33 (by kernel_rfl) rfl #[.slice Ao20 t225.length co20, .slice A0 l0.length c0] rfl (by (try simp only [List.map_toArray, List.map_cons, List.map_nil]); first | done | rfl | (simp only [List.length_drop, List.length_take]; rfl)) ?_; (with_reducible refine (treillageref11_same.calls k2 _ _ t225 _ _ l0 true _ ?side1 ?side2 ?side3 ?side4 A16.out).mono ?_); (case side1 => repeat (first | exact (Kd.R_reads' HO227.out).2.2 | (with_reducible refine Kd.C_alloc ?_ _) | (with_reducible refine Kd.C_drewN ?_ _) | (with_reducible refine Kd.C_drew ?_))); (case side2 => exact (Kd.R_reads' HO227.out).2.1); (case side3 => repeat (first | exact (Kd.C_below HR0.out HB.out) | (with_reducible refine Kd.C_alloc ?_ _) | (with_reducible refine Kd.C_drewN ?_ _) | (with_reducible refine Kd.C_drew ?_))); (case side4 => exact HC0.out); rintro e w' ⟨rfl, ⟨nd, rfl⟩⟩; refine ⟨_, rfl, ?_⟩; have hcv21 := own_string (P := Try.prog) Try.underlying69 Try.underlying5 Try.underlying9 (Kd.own_of_R (Kd.R_drewN HO_6.out nd))))
        go_ret2
        exact ⟨by first | rfl | (simp [errW_none, errW_some] <;> rfl) | (simp [*, errW_none, errW_some] <;> rfl), by repeat (first | (with_reducible first | exact HB.out | apply below_alloc | apply pw_below_drewN | apply below_drew1) | exact HB.out)⟩
       ·replace c17 := Bool.eq_false_iff.mpr c17; subst c17; have H1 : (some ((⟨#[]⟩ : ByteArray), false)) = some (r1, r2) := by rw [if_neg (show ¬ (false = true) by decide)] at H; exact H
        clear H; have H := H1; clear H1; simp only [Option.some.injEq, Prod.mk.injEq] at H; obtain ⟨rfl, rfl⟩ := H; have hcv22 := own_string (P := Try.prog) Try.underlying69 Try.underlying5 Try.underlying9 (Kd.own_of_R HO_6.out); go_wp2_with (first | ((with_reducible refine gate_callee (f := 23) rfl ?_); refine goesL_ (some 46) rfl rfl Try.func23 (by kernel_rfl) rfl #[.string (strOfNums x6_2)] rfl (by (try simp only [List.map_toArray, List.map_cons, List.map_nil]); first | done | rfl | (simp only [List.length_drop, List.length_take]; rfl)) ?_; (with_reducible refine (treillageref11_Words.calls k2 (strOfNums x6_2) t225 _ A15.out).mono ?_); rintro e w23 ⟨v226, rfl, ho0, hb⟩; refine ⟨_, rfl, ?_⟩; have n0_ := aA (Kd.R_below (rlu HO_6.out) hb); have n1_ := aA (Kd.R_lower ho0 (below_size (blw HB.out))); have n2_ := aA (below_step (blw HB.out) hb); clear HO_6 HB; have HO_6 := n0_; have HO227 := n1_; have HB := n2_; clear n0_ n1_ n2_; (try clear hb); (try clear hb2); (try clear hk); (try clear hi); (try clear ho0); obtain ⟨Ao24, co24, eo24⟩ := Kd.R_slice HO227.out; subst eo24) | ((with_reducible refine gate_callee (f := 33) rfl ?_); refine goesL_ (some 48) rfl rfl Try.func33 (by kernel_rfl) rfl #[.slice Ao24 t225.length co24, .slice A0 l0.length c0] rfl (by (try simp only [List.map_toArray, List.map_cons, List.map_nil]); first | done | rfl | (simp only [List.length_drop, List.length_take]; rfl)) ?_; (with_reducible refine (treillageref11_same.calls k2 _ _ t225 _ _ l0 false _ ?side1 ?side2 ?side3 ?side4 A16.out).mono ?_); (case side1 => repeat (first | exact (Kd.R_reads' HO227.out).2.2 | (with_reducible refine Kd.C_alloc ?_ _) | (with_reducible refine Kd.C_drewN ?_ _) | (with_reducible refine Kd.C_drew ?_))); (case side2 => exact (Kd.R_reads' HO227.out).2.1); (case side3 => repeat (first | exact (Kd.C_below HR0.out HB.out) | (with_reducible refine Kd.C_alloc ?_ _) | (with_reducible refine Kd.C_drewN ?_ _) | (with_reducible refine Kd.C_drew ?_))); (case side4 => exact HC0.out); rintro e w' ⟨rfl, ⟨nd, rfl⟩⟩; refine ⟨_, rfl, ?_⟩))
        go_ret2
        exact ⟨by first | rfl | (simp [errW_none, errW_some] <;> rfl) | (simp [*, errW_none, errW_some] <;> rfl), by repeat (first | (with_reducible first | exact HB.out | apply below_alloc | apply pw_below_drewN | apply below_drew1) | exact HB.out)⟩

/-! ### treillageref11_take: function 32 -/
def treillageref11_take.f (k : Nat) (l0 : List Int) (a1 : Int) : Option (ByteArray × List Int × Bool) := if (wrap64 (Int.tdiv (wrap64 (a1 + 7)) 8)) > (l0.length : Int) then (some ((⟨#[]⟩ : ByteArray), ([] : List Int), false)) else (if 0 ≤ (wrap64 (Int.tdiv (wrap64 (a1 + 7)) 8)) then (if (wrap64 (Int.tdiv (wrap64 (a1 + 7)) 8)) ≤ (l0.length : Int) then ((treillageref11_Text.f k (l0.take ((wrap64 (Int.tdiv (wrap64 (a1 + 7)) 8)) : Int).toNat) a1).bind fun bt234 => (some (bt234.1, (l0.drop ((wrap64 (Int.tdiv (wrap64 (a1 + 7)) 8)) : Int).toNat), bt234.2))) else (none)) else (none))
theorem treillageref11_take.mono : ∀ a0 a1 k, LeO (treillageref11_take.f k a0 a1) (treillageref11_take.f (k + 1) a0 a1) := by
 intro a0 a1 k
 unfold treillageref11_take.f
 repeat' first
   | (with_reducible exact treillageref11_Text.mono _ _ _)
   | (with_reducible exact LeO.refl _)
   | (with_reducible exact LeO.none _)
   | (with_reducible refine LeO.ite ?_ ?_)
   | (with_reducible refine LeO.bind ?_ (fun _ => ?_))
   | exact treillageref11_Text.mono _ _ _
   | exact LeO.none _
   | refine LeO.ite ?_ ?_
   | refine LeO.bind ?_ (fun _ => ?_)
set_option maxHeartbeats 8000000 in
set_option maxRecDepth 100000 in
theorem treillageref11_take.calls (k : Nat) (P0_ : Nat → Prop) (A0 : Option Addr) (c0 : Nat) (l0 : List Int) (a1 : Int) (r1 : ByteArray) (r2 : List Int) (r3 : Bool) (w : World) (hs0 : Kd.V (Kd.int .u64) 23 w w.heap.size (fun k_ => P0_ k_) (.slice A0 l0.length c0) l0) (h : treillageref11_take.f k l0 a1 = some (r1, r2, r3)) :
  Calls Try.prog 32 #[.slice A0 l0.length c0, .int .i64 a1] w fun e w' => ∃ v1_ : Value, e = .returned (.tuple #[.string r1, v1_, .bool r3]) ∧ Kd.V (Kd.int .u64) 23 w' w.heap.size (fun k_ => (P0_ k_ ∨ w.heap.size ≤ k_)) v1_ r2 ∧ Below w.heap.size w w' := by
 have HO0 := aA (show Kd.V (Kd.int .u64) 23 w w.heap.size (fun k_ => (P0_ k_ ∨ w.heap.size ≤ k_)) (.slice A0 l0.length c0) l0 from Kd.V_mono hs0 (fun k_ hk => .inl hk)); have HB := aA (Below.refl w.heap.size w); have H : (if (wrap64 (Int.tdiv (wrap64 (a1 + 7)) 8)) > (l0.length : Int) then (some ((⟨#[]⟩ : ByteArray), ([] : List Int), false)) else (if 0 ≤ (wrap64 (Int.tdiv (wrap64 (a1 + 7)) 8)) then (if (wrap64 (Int.tdiv (wrap64 (a1 + 7)) 8)) ≤ (l0.length : Int) then ((treillageref11_Text.f k (l0.take ((wrap64 (Int.tdiv (wrap64 (a1 + 7)) 8)) : Int).toNat) a1).bind fun bt234 => (some (bt234.1, (l0.drop ((wrap64 (Int.tdiv (wrap64 (a1 + 7)) 8)) : Int).toNat), bt234.2))) else (none)) else (none))) = some (r1, r2, r3) := h; clear h; by_cases c3 : (wrap64 (Int.tdiv (wrap64 (a1 + 7)) 8)) > (l0.length : Int)
 ·rw [if_pos c3] at H; have c3b0 : decide ((l0.length : Int) < (wrap64 (Int.tdiv (wrap64 (a1 + 7)) 8))) = true := decide_eq_true c3; clear c3; simp only [Option.some.injEq, Prod.mk.injEq] at H; obtain ⟨rfl, rfl, rfl⟩ := H; go_enter Try.func32, Try.ntmps32; go_wp2; repeat (go_quiet (fail); try go_wp2)
  go_ret3
  exact ⟨_, by first | rfl | (simp [errW_none, errW_some] <;> rfl) | (simp [*, errW_none, errW_some] <;> rfl), Kd.V_nil _ _ _ _ _, by repeat (first | (with_reducible first | exact HB.out | apply below_alloc | apply pw_below_drewN | apply below_drew1) | exact HB.out)⟩
 ·rw [if_neg c3] at H; have c3b0 : decide ((l0.length : Int) < (wrap64 (Int.tdiv (wrap64 (a1 + 7)) 8))) = false := decide_eq_false c3; clear c3; obtain ⟨ji4, hji4⟩ : ∃ j_ : Int, (wrap64 (Int.tdiv (wrap64 (a1 + 7)) 8)) = j_ := ⟨_, rfl⟩; replace H : (if 0 ≤ (ji4) then (if (ji4) ≤ (l0.length : Int) then ((treillageref11_Text.f k (l0.take ((ji4) : Int).toNat) a1).bind fun bt234 => (some (bt234.1, (l0.drop ((ji4) : Int).toNat), bt234.2))) else (none)) else (none)) = some (r1, r2, r3) := by first | (rw [hji4] at H; exact H) | (simp only [hji4] at H ⊢; exact H)
  (try rw [hji4] at c3b0); have hji4w : (IntKind.i64.wrap (Int.tdiv (wrap64 (a1 + 7)) 8)) = ji4 := (i64_w _).trans hji4; by_cases c5 : 0 ≤ (ji4)
  rotate_left
  ·rw [if_neg c5] at H; exact absurd H (by simp)

  rw [if_pos c5] at H; have c5b0 := eq_true c5; have c5b1 : decide (0 ≤ (ji4)) = true := decide_eq_true c5; clear c5; by_cases c6 : (ji4) ≤ (l0.length : Int)
  rotate_left
  ·rw [if_neg c6] at H; exact absurd H (by simp)
  rw [if_pos c6] at H; have c6b0 := eq_true c6; have c6b1 : decide ((ji4) ≤ (l0.length : Int)) = true := decide_eq_true c6; clear c6; obtain ⟨y229, hy229⟩ : ∃ y_ : List Int, y_ = (l0.take ((ji4) : Int).toNat) := ⟨_, rfl⟩; replace H : ((treillageref11_Text.f k y229 a1).bind fun bt234 => (some (bt234.1, (l0.drop ((ji4) : Int).toNat), bt234.2))) = some (r1, r2, r3) := by first | (rw [hy229]; with_reducible exact H) | (have H2_ := (Option.bind_some _ _).symm.trans H; rw [hy229]; with_reducible exact H2_) | (have H2_ := (Option.bind_some _ _).symm.trans H; with_reducible exact H2_) | with_reducible exact H | (rw [hy229]; exact H) | exact H
  have Ny229 := aA hy229; clear hy229; replace H := Option.bind_eq_some_iff.mp H; obtain ⟨⟨t234, t235⟩, A70, H⟩ := H; replace H : (some (t234, (l0.drop ((ji4) : Int).toNat), t235)) = some (r1, r2, r3) := H; have A7 := aA A70; clear A70; have c8b0 := eq_true (of_decide_eq_true (by first | (with_reducible assumption) | assumption) : 0 ≤ (ji4)); have c9b0 := eq_true (of_decide_eq_true (by first | (with_reducible assumption) | assumption) : (ji4) ≤ (l0.length : Int)); obtain ⟨y236, hy236⟩ : ∃ y_ : List Int, y_ = (l0.drop ((ji4) : Int).toNat) := ⟨_, rfl⟩; replace H : (some (t234, y236, t235)) = some (r1, r2, r3) := by first | (rw [hy236]; with_reducible exact H) | (have H2_ := (Option.bind_some _ _).symm.trans H; rw [hy236]; with_reducible exact H2_) | (have H2_ := (Option.bind_some _ _).symm.trans H; with_reducible exact H2_) | with_reducible exact H | (rw [hy236]; exact H) | exact H
  have Ny236 := aA hy236; clear hy236; simp only [Option.some.injEq, Prod.mk.injEq] at H; obtain ⟨rfl, rfl, rfl⟩ := H; have q10 : ((ji4) : Int) ≤ ((l0.length : Int) : Int) := of_decide_eq_true (by first | (with_reducible assumption) | assumption); obtain ⟨i010, hi010, _, hsz10, _⟩ := info_parts info23; have hroom10 : l0.length ≤ c0 := (Kd.V_reads' HO0.out).2.1; have hC10 : Kd.F (Kd.int .u64) _ _ A0 l0.length l0 := (Kd.V_at (base := w.heap.size) HO0.out).2.2; have hcut10 := cut_to (P := Try.prog) 28 23 .i64 Try.underlying28 hi010 A0 l0.length c0 (ji4) (of_decide_eq_true (by first | (with_reducible assumption) | assumption)) q10 hroom10; have hr10 := Kd.F_take (m := ((ji4) : Int).toNat) hC10 (by omega); have hy10 : y229.length = ((ji4) : Int).toNat := (by rw [Ny229.out, List.length_take]; omega); rw [← Ny229.out] at hr10; rw [← hy10] at hcut10; have HO233 := aA (show Kd.V (Kd.int .u64) 23 _ w.heap.size _ (.slice A0 y229.length c0) y229 from Kd.V_mk (by omega) hr10); have HC233 := aA (show y229.length ≤ c0 from by omega); clear hr10 hC10 hroom10 hi010 hsz10; have KY10 := aA hy10; clear hy10; replace q10 := eq_true q10; go_enter Try.func32, Try.ntmps32; go_wp2_with (first | (go_at_call 21; (with_reducible refine (treillageref11_Text.calls k _ _ y229 a1 t234 t235 _ ?side1 ?side2 A7.out).mono ?_); (case side1 => repeat (first | exact (Kd.V_reads' HO233.out).2.2 | (with_reducible refine Kd.C_alloc ?_ _) | (with_reducible refine Kd.C_drewN ?_ _) | (with_reducible refine Kd.C_drew ?_))); (case side2 => exact (Kd.V_reads' HO233.out).2.1); rintro e w11 ⟨rfl, hb⟩; have n0_ := aA (Kd.V_below (vlu HO0.out) hb); have n1_ := aA (Kd.V_below (vlu HO233.out) hb); have n2_ := aA (below_step (blw HB.out) hb); clear HO0 HO233 HB; have HO0 := n0_; have HO233 := n1_; have HB := n2_; clear n0_ n1_ n2_; (try clear hb); (try clear hb2); (try clear hk); (try clear hi); have q12 : ((ji4) : Int) ≤ ((l0.length : Int) : Int) := of_decide_eq_true (by first | (with_reducible assumption) | assumption); obtain ⟨i012, hi012, _, hsz12, _⟩ := info_parts info23; have hroom12 : l0.length ≤ c0 := (Kd.V_reads' HO0.out).2.1; have hC12 : Kd.F (Kd.int .u64) _ _ A0 l0.length l0 := (Kd.V_at (base := w.heap.size) HO0.out).2.2; have q012 : (0 : Int) ≤ ((ji4) : Int) := of_decide_eq_true (by first | (with_reducible assumption) | assumption); have hcut12 := cut_from (P := Try.prog) 28 23 .i64 Try.underlying28 hi012 1 hsz12 A0 l0.length c0 (ji4) q012 q12; have hr12 := Kd.F_cut (m := ((ji4) : Int).toNat) (c := c0) hC12 (by omega) hroom12; obtain ⟨A12, hA12⟩ : ∃ A1, A1 = (if c0 = ((ji4) : Int).toNat then A0 else (A0 : Option Addr).map (·.add (((ji4) : Int).toNat * 1))) := ⟨_, rfl⟩; obtain ⟨c12, hc12⟩ : ∃ c1, c1 = c0 - ((ji4) : Int).toNat := ⟨_, rfl⟩; have hy12 : y236.length = l0.length - ((ji4) : Int).toNat := (by rw [Ny236.out, List.length_drop] <;> omega); rw [show (l0).drop ((ji4) : Int).toNat = y236 from Ny236.out.symm] at hr12; replace hr12 : Kd.F (Kd.int .u64) _ _ A12 y236.length y236 := (by rw [hA12]; exact hr12); rw [← hy12, ← hA12, ← hc12] at hcut12; have HO240 := aA (show Kd.V (Kd.int .u64) 23 _ w.heap.size _ (.slice A12 y236.length c12) y236 from Kd.V_mk (by rw [hy12, hc12]; exact Nat.sub_le_sub_right hroom12 _) hr12); have HC240 := aA (show y236.length ≤ c12 from by rw [hy12, hc12]; exact Nat.sub_le_sub_right hroom12 _); clear hr12 hC12 hroom12 hi012 hsz12 hc12; have KY12 := aA hy12; have KA12 := aA hA12; clear hy12 hA12; replace q12 := eq_true q12))
  repeat (go_quiet (first | (go_at_call 21; (with_reducible refine (treillageref11_Text.calls k _ _ y229 a1 t234 t235 _ ?side1 ?side2 A7.out).mono ?_); (case side1 => repeat (first | exact (Kd.V_reads' HO233.out).2.2 | (with_reducible refine Kd.C_alloc ?_ _) | (with_reducible refine Kd.C_drewN ?_ _) | (with_reducible refine Kd.C_drew ?_))); (case side2 => exact (Kd.V_reads' HO233.out).2.1); rintro e w11 ⟨rfl, hb⟩; have n0_ := aA (Kd.V_below (vlu HO0.out) hb); have n1_ := aA (Kd.V_below (vlu HO233.out) hb); have n2_ := aA (below_step (blw HB.out) hb); clear HO0 HO233 HB; have HO0 := n0_; have HO233 := n1_; have HB := n2_; clear n0_ n1_ n2_; (try clear hb); (try clear hb2); (try clear hk); (try clear hi); have q12 : ((ji4) : Int) ≤ ((l0.length : Int) : Int) := of_decide_eq_true (by first | (with_reducible assumption) | assumption); obtain ⟨i012, hi012, _, hsz12, _⟩ := info_parts info23; have hroom12 : l0.length ≤ c0 := (Kd.V_reads' HO0.out).2.1; have hC12 : Kd.F (Kd.int .u64) _ _ A0 l0.length l0 := (Kd.V_at (base := w.heap.size) HO0.out).2.2; have q012 : (0 : Int) ≤ ((ji4) : Int) := of_decide_eq_true (by first | (with_reducible assumption) | assumption); have hcut12 := cut_from (P := Try.prog) 28 23 .i64 Try.underlying28 hi012 1 hsz12 A0 l0.length c0 (ji4) q012 q12; have hr12 := Kd.F_cut (m := ((ji4) : Int).toNat) (c := c0) hC12 (by omega) hroom12; obtain ⟨A12, hA12⟩ : ∃ A1, A1 = (if c0 = ((ji4) : Int).toNat then A0 else (A0 : Option Addr).map (·.add (((ji4) : Int).toNat * 1))) := ⟨_, rfl⟩; obtain ⟨c12, hc12⟩ : ∃ c1, c1 = c0 - ((ji4) : Int).toNat := ⟨_, rfl⟩; have hy12 : y236.length = l0.length - ((ji4) : Int).toNat := (by rw [Ny236.out, List.length_drop] <;> omega); rw [show (l0).drop ((ji4) : Int).toNat = y236 from Ny236.out.symm] at hr12; replace hr12 : Kd.F (Kd.int .u64) _ _ A12 y236.length y236 := (by rw [hA12]; exact hr12); rw [← hy12, ← hA12, ← hc12] at hcut12; have HO240 := aA (show Kd.V (Kd.int .u64) 23 _ w.heap.size _ (.slice A12 y236.length c12) y236 from Kd.V_mk (by rw [hy12, hc12]; exact Nat.sub_le_sub_right hroom12 _) hr12); have HC240 := aA (show y236.length ≤ c12 from by rw [hy12, hc12]; exact Nat.sub_le_sub_right hroom12 _); clear hr12 hC12 hroom12 hi012 hsz12 hc12; have KY12 := aA hy12; have KA12 := aA hA12; clear hy12 hA12; replace q12 := eq_true q12)); try go_wp2_with (first | (go_at_call 21; (with_reducible refine (treillageref11_Text.calls k _ _ y229 a1 t234 t235 _ ?side1 ?side2 A7.out).mono ?_); (case side1 => repeat (first | exact (Kd.V_reads' HO233.out).2.2 | (with_reducible refine Kd.C_alloc ?_ _) | (with_reducible refine Kd.C_drewN ?_ _) | (with_reducible refine Kd.C_drew ?_))); (case side2 => exact (Kd.V_reads' HO233.out).2.1); rintro e w11 ⟨rfl, hb⟩; have n0_ := aA (Kd.V_below (vlu HO0.out) hb); have n1_ := aA (Kd.V_below (vlu HO233.out) hb); have n2_ := aA (below_step (blw HB.out) hb); clear HO0 HO233 HB; have HO0 := n0_; have HO233 := n1_; have HB := n2_; clear n0_ n1_ n2_; (try clear hb); (try clear hb2); (try clear hk); (try clear hi); have q12 : ((ji4) : Int) ≤ ((l0.length : Int) : Int) := of_decide_eq_true (by first | (with_reducible assumption) | assumption); obtain ⟨i012, hi012, _, hsz12, _⟩ := info_parts info23; have hroom12 : l0.length ≤ c0 := (Kd.V_reads' HO0.out).2.1; have hC12 : Kd.F (Kd.int .u64) _ _ A0 l0.length l0 := (Kd.V_at (base := w.heap.size) HO0.out).2.2; have q012 : (0 : Int) ≤ ((ji4) : Int) := of_decide_eq_true (by first | (with_reducible assumption) | assumption); have hcut12 := cut_from (P := Try.prog) 28 23 .i64 Try.underlying28 hi012 1 hsz12 A0 l0.length c0 (ji4) q012 q12; have hr12 := Kd.F_cut (m := ((ji4) : Int).toNat) (c := c0) hC12 (by omega) hroom12; obtain ⟨A12, hA12⟩ : ∃ A1, A1 = (if c0 = ((ji4) : Int).toNat then A0 else (A0 : Option Addr).map (·.add (((ji4) : Int).toNat * 1))) := ⟨_, rfl⟩; obtain ⟨c12, hc12⟩ : ∃ c1, c1 = c0 - ((ji4) : Int).toNat := ⟨_, rfl⟩; have hy12 : y236.length = l0.length - ((ji4) : Int).toNat := (by rw [Ny236.out, List.length_drop] <;> omega); rw [show (l0).drop ((ji4) : Int).toNat = y236 from Ny236.out.symm] at hr12; replace hr12 : Kd.F (Kd.int .u64) _ _ A12 y236.length y236 := (by rw [hA12]; exact hr12); rw [← hy12, ← hA12, ← hc12] at hcut12; have HO240 := aA (show Kd.V (Kd.int .u64) 23 _ w.heap.size _ (.slice A12 y236.length c12) y236 from Kd.V_mk (by rw [hy12, hc12]; exact Nat.sub_le_sub_right hroom12 _) hr12); have HC240 := aA (show y236.length ≤ c12 from by rw [hy12, hc12]; exact Nat.sub_le_sub_right hroom12 _); clear hr12 hC12 hroom12 hi012 hsz12 hc12; have KY12 := aA hy12; have KA12 := aA hA12; clear hy12 hA12; replace q12 := eq_true q12)))
  go_ret3
  exact ⟨_, by first | rfl | (simp [errW_none, errW_some] <;> rfl) | (simp only [← hji4]; first | rfl | (simp [errW_none, errW_some] <;> rfl)) | (simp [*, errW_none, errW_some] <;> rfl), by (with_reducible repeat (first | apply Kd.V_alloc | apply Kd.V_drewN | apply Kd.V_drew)); exact HO240.out, by repeat (first | (with_reducible first | exact HB.out | apply below_alloc | apply pw_below_drewN | apply below_drew1) | exact HB.out)⟩
end Go.Proofs.Ytdjkadfgmhmhcaa.PT
