-- Written by wip/hprint/hprint.py (a program of this session, over the print): not typed by hand
import Derived.Test.YtdjkadfgmhmhcaaPAx0
import Derived.Test.YtdjkadfgmhmhcaaPAx3
import Derived.Test.YtdjkadfgmhmhcaaPAx5
import Derived.Test.YtdjkadfgmhmhcaaPAx7
namespace Go.Proofs.Ytdjkadfgmhmhcaa.PA
open Go.RowKit Go.Proofs.YtdjkadfgmhmhcaaW.PrintWords Go.Proofs.YtdjkadfgmhmhcaaW.PrintLast Go.Proofs.YtdjkadfgmhmhcaaW.PrintMore
attribute [local go_sem] max2_int min2_int max_two min_two max_three min_three max_four min_four   -- for this text's walks alone
open Go.Proofs.YtdjkadfgmhmhcaaH
set_option linter.unusedVariables false
set_option linter.unusedSimpArgs false

/-! ### treillagelaw11_RecLong: function 6 -/
mutual
def treillagelaw11_RecLong.j0 : Nat → List Int → Bool → Int → Int → ByteArray → ByteArray → List ByteArray → Int → Int → Option (Bool)
 | 0, _, _, _, _, _, _, _, _, _ => none
 | k + 1, x3, x22, x197000, x197001, x197002, x197003, x197004, x197005, x197006 => if x22 = true then ((treillagelaw11_shown.f k).bind fun t203 => (some t203)) else (if (x197004.length : Int) > 0 then (treillagelaw11_RecLong.j1 k x3 (wrap64 ((wrap64 ((wrap64 (2 + (wrap64 (Int.tdiv (wrap64 ((x197002.size : Int) + 7)) 8)))) + (wrap64 (Int.tdiv (wrap64 ((x197003.size : Int) + 7)) 8)))) + 2)) x197000 x197001 x197002 x197003 x197004 x197005 x197006) else (treillagelaw11_RecLong.j1 k x3 (wrap64 ((wrap64 (2 + (wrap64 (Int.tdiv (wrap64 ((x197002.size : Int) + 7)) 8)))) + (wrap64 (Int.tdiv (wrap64 ((x197003.size : Int) + 7)) 8)))) x197000 x197001 x197002 x197003 x197004 x197005 x197006))
def treillagelaw11_RecLong.j1 : Nat → List Int → Int → Int → Int → ByteArray → ByteArray → List ByteArray → Int → Int → Option (Bool)
 | 0, _, _, _, _, _, _, _, _, _ => none
 | k + 1, x3, x5, x197000, x197001, x197002, x197003, x197004, x197005, x197006 => treillagelaw11_RecLong.l0 k x3 x5 0 x197000 x197001 x197002 x197003 x197004 x197005 x197006
def treillagelaw11_RecLong.l0 : Nat → List Int → Int → Int → Int → Int → ByteArray → ByteArray → List ByteArray → Int → Int → Option (Bool)
 | 0, _, _, _, _, _, _, _, _, _, _ => none
 | k + 1, x3, x5, x6, x197000, x197001, x197002, x197003, x197004, x197005, x197006 => if x6 < (x197004.length : Int) then (if 0 ≤ x6 then (treillagelaw11_RecLong.l0 k x3 (wrap64 (x5 + (wrap64 (Int.tdiv (wrap64 (((rdOf ByteArray.empty x197004 x6).size : Int) + 7)) 8)))) (wrap64 (x6 + 1)) x197000 x197001 x197002 x197003 x197004 x197005 x197006) else (none)) else (if (x3.length : Int) = x5 then (if 1 < (x3.length : Int) then (if (rd x3 1) = x197005 then (if 0 < (x3.length : Int) then (some ((Int.tmod (rd x3 0) 4) == (IntKind.u64.wrap (x197000)))) else (none)) else (some false)) else (none)) else (some false))
end
def treillagelaw11_RecLong.f (k : Nat) (a0_0 : Int) (a0_1 : Int) (a0_2 : ByteArray) (a0_3 : ByteArray) (l0_4 : List ByteArray) (a0_5 : Int) (a0_6 : Int) : Option (Bool) := (rec_Pack.f a0_0 a0_1 a0_2 a0_3 l0_4 a0_5 a0_6).bind fun bt197 => ((treillagelaw11_bounded.f k a0_0 a0_1 a0_2 a0_3 l0_4 a0_5 a0_6).bind fun t201 => (if t201 = true then (if bt197.2 = 0 then ((treillagelaw11_shown.f k).bind fun t202 => (treillagelaw11_RecLong.j0 k bt197.1 (!t202) a0_0 a0_1 a0_2 a0_3 l0_4 a0_5 a0_6)) else (treillagelaw11_RecLong.j0 k bt197.1 true a0_0 a0_1 a0_2 a0_3 l0_4 a0_5 a0_6)) else (treillagelaw11_RecLong.j0 k bt197.1 true a0_0 a0_1 a0_2 a0_3 l0_4 a0_5 a0_6)))
theorem treillagelaw11_RecLong.mono_l : ∀ k, (∀ y0 y1 y2 y3 y4 y5 y6 y7 y8, LeO (treillagelaw11_RecLong.j0 k y0 y1 y2 y3 y4 y5 y6 y7 y8) (treillagelaw11_RecLong.j0 (k + 1) y0 y1 y2 y3 y4 y5 y6 y7 y8)) ∧ (∀ y0 y1 y2 y3 y4 y5 y6 y7 y8, LeO (treillagelaw11_RecLong.j1 k y0 y1 y2 y3 y4 y5 y6 y7 y8) (treillagelaw11_RecLong.j1 (k + 1) y0 y1 y2 y3 y4 y5 y6 y7 y8)) ∧ (∀ y0 y1 y2 y3 y4 y5 y6 y7 y8 y9, LeO (treillagelaw11_RecLong.l0 k y0 y1 y2 y3 y4 y5 y6 y7 y8 y9) (treillagelaw11_RecLong.l0 (k + 1) y0 y1 y2 y3 y4 y5 y6 y7 y8 y9))
 | 0 => ⟨fun _ _ _ _ _ _ _ _ _ r h => by simp [treillagelaw11_RecLong.j0] at h, fun _ _ _ _ _ _ _ _ _ r h => by simp [treillagelaw11_RecLong.j1] at h, fun _ _ _ _ _ _ _ _ _ _ r h => by simp [treillagelaw11_RecLong.l0] at h⟩
 | k + 1 => by
  obtain ⟨ih0, ih1, ih2⟩ := treillagelaw11_RecLong.mono_l k; refine ⟨?_, ?_, ?_⟩
  ·intro y0 y1 y2 y3 y4 y5 y6 y7 y8
   unfold treillagelaw11_RecLong.j0; repeat' first
   | (with_reducible exact ih0 _ _ _ _ _ _ _ _ _)
   | (with_reducible exact ih1 _ _ _ _ _ _ _ _ _)
   | (with_reducible exact ih2 _ _ _ _ _ _ _ _ _ _)
   | (with_reducible exact treillagelaw11_bounded.mono _ _ _ _ _ _ _ _)
   | (with_reducible exact treillagelaw11_shown.mono _)
   | (with_reducible exact LeO.refl _)
   | (with_reducible exact LeO.none _)
   | (with_reducible refine LeO.ite ?_ ?_)
   | (with_reducible refine LeO.bind ?_ (fun _ => ?_))
   | exact ih0 _ _ _ _ _ _ _ _ _
   | exact ih1 _ _ _ _ _ _ _ _ _
   | exact ih2 _ _ _ _ _ _ _ _ _ _
   | exact treillagelaw11_bounded.mono _ _ _ _ _ _ _ _
   | exact treillagelaw11_shown.mono _
   | exact LeO.none _
   | refine LeO.ite ?_ ?_
   | refine LeO.bind ?_ (fun _ => ?_)
  ·intro y0 y1 y2 y3 y4 y5 y6 y7 y8
   unfold treillagelaw11_RecLong.j1; repeat' first
   | (with_reducible exact ih0 _ _ _ _ _ _ _ _ _)
   | (with_reducible exact ih1 _ _ _ _ _ _ _ _ _)
   | (with_reducible exact ih2 _ _ _ _ _ _ _ _ _ _)
   | (with_reducible exact treillagelaw11_bounded.mono _ _ _ _ _ _ _ _)
   | (with_reducible exact treillagelaw11_shown.mono _)
   | (with_reducible exact LeO.refl _)
   | (with_reducible exact LeO.none _)
   | (with_reducible refine LeO.ite ?_ ?_)
   | (with_reducible refine LeO.bind ?_ (fun _ => ?_))
   | exact ih0 _ _ _ _ _ _ _ _ _
   | exact ih1 _ _ _ _ _ _ _ _ _
   | exact ih2 _ _ _ _ _ _ _ _ _ _
   | exact treillagelaw11_bounded.mono _ _ _ _ _ _ _ _
   | exact treillagelaw11_shown.mono _
   | exact LeO.none _
   | refine LeO.ite ?_ ?_
   | refine LeO.bind ?_ (fun _ => ?_)
  ·intro y0 y1 y2 y3 y4 y5 y6 y7 y8 y9
   unfold treillagelaw11_RecLong.l0; repeat' first
   | (with_reducible exact ih0 _ _ _ _ _ _ _ _ _)
   | (with_reducible exact ih1 _ _ _ _ _ _ _ _ _)
   | (with_reducible exact ih2 _ _ _ _ _ _ _ _ _ _)
   | (with_reducible exact treillagelaw11_bounded.mono _ _ _ _ _ _ _ _)
   | (with_reducible exact treillagelaw11_shown.mono _)
   | (with_reducible exact LeO.refl _)
   | (with_reducible exact LeO.none _)
   | (with_reducible refine LeO.ite ?_ ?_)
   | (with_reducible refine LeO.bind ?_ (fun _ => ?_))
   | exact ih0 _ _ _ _ _ _ _ _ _
   | exact ih1 _ _ _ _ _ _ _ _ _
   | exact ih2 _ _ _ _ _ _ _ _ _ _
   | exact treillagelaw11_bounded.mono _ _ _ _ _ _ _ _
   | exact treillagelaw11_shown.mono _
   | exact LeO.none _
   | refine LeO.ite ?_ ?_
   | refine LeO.bind ?_ (fun _ => ?_)
theorem treillagelaw11_RecLong.mono : ∀ a0 a1 a2 a3 a4 a5 a6 k, LeO (treillagelaw11_RecLong.f k a0 a1 a2 a3 a4 a5 a6) (treillagelaw11_RecLong.f (k + 1) a0 a1 a2 a3 a4 a5 a6) := by
 intro a0 a1 a2 a3 a4 a5 a6 k
 obtain ⟨ih0, ih1, ih2⟩ := treillagelaw11_RecLong.mono_l k; unfold treillagelaw11_RecLong.f
 repeat' first
   | (with_reducible exact ih0 _ _ _ _ _ _ _ _ _)
   | (with_reducible exact ih1 _ _ _ _ _ _ _ _ _)
   | (with_reducible exact ih2 _ _ _ _ _ _ _ _ _ _)
   | (with_reducible exact treillagelaw11_bounded.mono _ _ _ _ _ _ _ _)
   | (with_reducible exact treillagelaw11_shown.mono _)
   | (with_reducible exact LeO.refl _)
   | (with_reducible exact LeO.none _)
   | (with_reducible refine LeO.ite ?_ ?_)
   | (with_reducible refine LeO.bind ?_ (fun _ => ?_))
   | exact ih0 _ _ _ _ _ _ _ _ _
   | exact ih1 _ _ _ _ _ _ _ _ _
   | exact ih2 _ _ _ _ _ _ _ _ _ _
   | exact treillagelaw11_bounded.mono _ _ _ _ _ _ _ _
   | exact treillagelaw11_shown.mono _
   | exact LeO.none _
   | refine LeO.ite ?_ ?_
   | refine LeO.bind ?_ (fun _ => ?_)
set_option maxHeartbeats 8000000 in
set_option maxRecDepth 100000 in
theorem treillagelaw11_RecLong.calls1 (k : Nat) (a0_0 : Int) (a0_1 : Int) (a0_2 : ByteArray) (a0_3 : ByteArray) (A0_4 : Option Addr) (c0_4 : Nat) (l0_4 : List ByteArray) (a0_5 : Int) (a0_6 : Int) (r : Bool) (w : World) (hr0_4 : Kd.C Kd.string w A0_4 l0_4.length l0_4) (hc0_4 : l0_4.length ≤ c0_4) (h : treillagelaw11_RecLong.f k a0_0 a0_1 a0_2 a0_3 l0_4 a0_5 a0_6 = some r) (hr_ : r = true) :
  Calls Try.prog 6 #[.agg #[.int .i64 a0_0, .int .i64 a0_1, .string a0_2, .string a0_3, .slice A0_4 l0_4.length c0_4, .int .u64 a0_5, .int .i64 a0_6]] w fun e w' => e = .returned (.bool r) ∧ Below w.heap.size w w' := by
 have hu27 := Try.underlying27; have HR0_4 := aA hr0_4; have HC0_4 := aA hc0_4; clear hr0_4 hc0_4; have HB := aA (Below.refl w.heap.size w); have H : ((rec_Pack.f a0_0 a0_1 a0_2 a0_3 l0_4 a0_5 a0_6).bind fun bt197 => ((treillagelaw11_bounded.f k a0_0 a0_1 a0_2 a0_3 l0_4 a0_5 a0_6).bind fun t201 => (if t201 = true then (if bt197.2 = 0 then ((treillagelaw11_shown.f k).bind fun t202 => (treillagelaw11_RecLong.j0 k bt197.1 (!t202) a0_0 a0_1 a0_2 a0_3 l0_4 a0_5 a0_6)) else (treillagelaw11_RecLong.j0 k bt197.1 true a0_0 a0_1 a0_2 a0_3 l0_4 a0_5 a0_6)) else (treillagelaw11_RecLong.j0 k bt197.1 true a0_0 a0_1 a0_2 a0_3 l0_4 a0_5 a0_6)))) = some r := h; clear h; replace H := Option.bind_eq_some_iff.mp H; obtain ⟨⟨t197, t200⟩, A20, H⟩ := H; replace H : ((treillagelaw11_bounded.f k a0_0 a0_1 a0_2 a0_3 l0_4 a0_5 a0_6).bind fun t201 => (if t201 = true then (if t200 = 0 then ((treillagelaw11_shown.f k).bind fun t202 => (treillagelaw11_RecLong.j0 k t197 (!t202) a0_0 a0_1 a0_2 a0_3 l0_4 a0_5 a0_6)) else (treillagelaw11_RecLong.j0 k t197 true a0_0 a0_1 a0_2 a0_3 l0_4 a0_5 a0_6)) else (treillagelaw11_RecLong.j0 k t197 true a0_0 a0_1 a0_2 a0_3 l0_4 a0_5 a0_6))) = some r := H; have A2 := aA A20; clear A20; have HC3 := aA H; clear H; go_enter Try.func6, Try.ntmps6; go_upto_region 2 with (first | ((with_reducible refine gate_dst (N := 1) rfl ?_); refine box_event ?hg (N := 1) ?hd (cs := #[.int .i64 a0_0, .int .i64 a0_1, .string a0_2, .string a0_3, .slice A0_4 l0_4.length c0_4, .int .u64 a0_5, .int .i64 a0_6]) (t := 27) ?hr ?_; (case hd => rfl); (case hg => rfl); (case hr => first | (go_simp; done) | (go_simp; rfl)); intro gb196 hg w4 hbox hb; have n0_ := aA (below_step (blw HB.out) hb); have n1_ := aA (hbox); have n2_ := aA ((by rw [hg]; exact (below_size (blw HB.out)) : w.heap.size ≤ gb196)); have n3_ := aA ((by rw [hg]; exact (below_size (blw HB.out)) : w.heap.size ≤ gb196)); clear HB; have HB := n0_; have BK196 := n1_; have GW196 := n2_; have GE196 := n3_; clear n0_ n1_ n2_ n3_ hb hbox hg; have hcz5_0 : w4.cell? ⟨gb196, 0, none⟩ = some (.int .i64 a0_0) := (blk_cell BK196.out 0).trans rfl; have hcz5_1 : w4.cell? ⟨gb196, 1, none⟩ = some (.int .i64 a0_1) := (blk_cell BK196.out 1).trans rfl; have hcz5_2 : w4.cell? ⟨gb196, 2, none⟩ = some (.string a0_2) := (blk_cell BK196.out 2).trans rfl; have hcz5_3 : w4.cell? ⟨gb196, 3, none⟩ = some (.string a0_3) := (blk_cell BK196.out 3).trans rfl; have hcz5_4 : w4.cell? ⟨gb196, 4, none⟩ = some (.slice A0_4 l0_4.length c0_4) := (blk_cell BK196.out 4).trans rfl; have hcz5_5 : w4.cell? ⟨gb196, 5, none⟩ = some (.int .u64 a0_5) := (blk_cell BK196.out 5).trans rfl; have hcz5_6 : w4.cell? ⟨gb196, 6, none⟩ = some (.int .i64 a0_6) := (blk_cell BK196.out 6).trans rfl; have hfz5_0 := blk_frozen BK196.out 0; have hfz5_1 := blk_frozen BK196.out 1; have hfz5_2 := blk_frozen BK196.out 2; have hfz5_3 := blk_frozen BK196.out 3; have hfz5_4 := blk_frozen BK196.out 4; have hfz5_5 := blk_frozen BK196.out 5; have hfz5_6 := blk_frozen BK196.out 6) | (go_at_call 11; (with_reducible refine (rec_Pack.calls a0_0 a0_1 a0_2 a0_3 _ _ l0_4 a0_5 a0_6 t197 t200 _ ?side1 ?side2 A2.out).mono ?_); (case side1 => repeat (first | exact (Kd.C_below HR0_4.out HB.out) | (with_reducible refine Kd.C_alloc ?_ _) | (with_reducible refine Kd.C_drewN ?_ _) | (with_reducible refine Kd.C_drew ?_))); (case side2 => exact HC0_4.out); rintro e w6 ⟨v198, rfl, ho0, hb⟩; have n0_ := aA (Kd.R_lower ho0 (below_size (bls HB.out))); have n1_ := aA (blk_below (g := gb196) (o := .cells #[.int .i64 a0_0, .int .i64 a0_1, .string a0_2, .string a0_3, .slice A0_4 l0_4.length c0_4, .int .u64 a0_5, .int .i64 a0_6] 27 (0, 0)) (bku BK196.out) hb); have n2_ := aA (below_step (bls HB.out) hb); clear BK196 HB; have HO199 := n0_; have BK196 := n1_; have HB := n2_; clear n0_ n1_ n2_; (try clear hb); (try clear hb2); (try clear hk); (try clear hi); (try clear ho0)))
 repeat (go_quiet (first | ((with_reducible refine gate_dst (N := 1) rfl ?_); refine box_event ?hg (N := 1) ?hd (cs := #[.int .i64 a0_0, .int .i64 a0_1, .string a0_2, .string a0_3, .slice A0_4 l0_4.length c0_4, .int .u64 a0_5, .int .i64 a0_6]) (t := 27) ?hr ?_; (case hd => rfl); (case hg => rfl); (case hr => first | (go_simp; done) | (go_simp; rfl)); intro gb196 hg w4 hbox hb; have n0_ := aA (below_step (blw HB.out) hb); have n1_ := aA (hbox); have n2_ := aA ((by rw [hg]; exact (below_size (blw HB.out)) : w.heap.size ≤ gb196)); have n3_ := aA ((by rw [hg]; exact (below_size (blw HB.out)) : w.heap.size ≤ gb196)); clear HB; have HB := n0_; have BK196 := n1_; have GW196 := n2_; have GE196 := n3_; clear n0_ n1_ n2_ n3_ hb hbox hg; have hcz5_0 : w4.cell? ⟨gb196, 0, none⟩ = some (.int .i64 a0_0) := (blk_cell BK196.out 0).trans rfl; have hcz5_1 : w4.cell? ⟨gb196, 1, none⟩ = some (.int .i64 a0_1) := (blk_cell BK196.out 1).trans rfl; have hcz5_2 : w4.cell? ⟨gb196, 2, none⟩ = some (.string a0_2) := (blk_cell BK196.out 2).trans rfl; have hcz5_3 : w4.cell? ⟨gb196, 3, none⟩ = some (.string a0_3) := (blk_cell BK196.out 3).trans rfl; have hcz5_4 : w4.cell? ⟨gb196, 4, none⟩ = some (.slice A0_4 l0_4.length c0_4) := (blk_cell BK196.out 4).trans rfl; have hcz5_5 : w4.cell? ⟨gb196, 5, none⟩ = some (.int .u64 a0_5) := (blk_cell BK196.out 5).trans rfl; have hcz5_6 : w4.cell? ⟨gb196, 6, none⟩ = some (.int .i64 a0_6) := (blk_cell BK196.out 6).trans rfl; have hfz5_0 := blk_frozen BK196.out 0; have hfz5_1 := blk_frozen BK196.out 1; have hfz5_2 := blk_frozen BK196.out 2; have hfz5_3 := blk_frozen BK196.out 3; have hfz5_4 := blk_frozen BK196.out 4; have hfz5_5 := blk_frozen BK196.out 5; have hfz5_6 := blk_frozen BK196.out 6) | (go_at_call 11; (with_reducible refine (rec_Pack.calls a0_0 a0_1 a0_2 a0_3 _ _ l0_4 a0_5 a0_6 t197 t200 _ ?side1 ?side2 A2.out).mono ?_); (case side1 => repeat (first | exact (Kd.C_below HR0_4.out HB.out) | (with_reducible refine Kd.C_alloc ?_ _) | (with_reducible refine Kd.C_drewN ?_ _) | (with_reducible refine Kd.C_drew ?_))); (case side2 => exact HC0_4.out); rintro e w6 ⟨v198, rfl, ho0, hb⟩; have n0_ := aA (Kd.R_lower ho0 (below_size (bls HB.out))); have n1_ := aA (blk_below (g := gb196) (o := .cells #[.int .i64 a0_0, .int .i64 a0_1, .string a0_2, .string a0_3, .slice A0_4 l0_4.length c0_4, .int .u64 a0_5, .int .i64 a0_6] 27 (0, 0)) (bku BK196.out) hb); have n2_ := aA (below_step (bls HB.out) hb); clear BK196 HB; have HO199 := n0_; have BK196 := n1_; have HB := n2_; clear n0_ n1_ n2_; (try clear hb); (try clear hb2); (try clear hk); (try clear hi); (try clear ho0))); go_upto_region 2 with (first | ((with_reducible refine gate_dst (N := 1) rfl ?_); refine box_event ?hg (N := 1) ?hd (cs := #[.int .i64 a0_0, .int .i64 a0_1, .string a0_2, .string a0_3, .slice A0_4 l0_4.length c0_4, .int .u64 a0_5, .int .i64 a0_6]) (t := 27) ?hr ?_; (case hd => rfl); (case hg => rfl); (case hr => first | (go_simp; done) | (go_simp; rfl)); intro gb196 hg w4 hbox hb; have n0_ := aA (below_step (blw HB.out) hb); have n1_ := aA (hbox); have n2_ := aA ((by rw [hg]; exact (below_size (blw HB.out)) : w.heap.size ≤ gb196)); have n3_ := aA ((by rw [hg]; exact (below_size (blw HB.out)) : w.heap.size ≤ gb196)); clear HB; have HB := n0_; have BK196 := n1_; have GW196 := n2_; have GE196 := n3_; clear n0_ n1_ n2_ n3_ hb hbox hg; have hcz5_0 : w4.cell? ⟨gb196, 0, none⟩ = some (.int .i64 a0_0) := (blk_cell BK196.out 0).trans rfl; have hcz5_1 : w4.cell? ⟨gb196, 1, none⟩ = some (.int .i64 a0_1) := (blk_cell BK196.out 1).trans rfl; have hcz5_2 : w4.cell? ⟨gb196, 2, none⟩ = some (.string a0_2) := (blk_cell BK196.out 2).trans rfl; have hcz5_3 : w4.cell? ⟨gb196, 3, none⟩ = some (.string a0_3) := (blk_cell BK196.out 3).trans rfl; have hcz5_4 : w4.cell? ⟨gb196, 4, none⟩ = some (.slice A0_4 l0_4.length c0_4) := (blk_cell BK196.out 4).trans rfl; have hcz5_5 : w4.cell? ⟨gb196, 5, none⟩ = some (.int .u64 a0_5) := (blk_cell BK196.out 5).trans rfl; have hcz5_6 : w4.cell? ⟨gb196, 6, none⟩ = some (.int .i64 a0_6) := (blk_cell BK196.out 6).trans rfl; have hfz5_0 := blk_frozen BK196.out 0; have hfz5_1 := blk_frozen BK196.out 1; have hfz5_2 := blk_frozen BK196.out 2; have hfz5_3 := blk_frozen BK196.out 3; have hfz5_4 := blk_frozen BK196.out 4; have hfz5_5 := blk_frozen BK196.out 5; have hfz5_6 := blk_frozen BK196.out 6) | (go_at_call 11; (with_reducible refine (rec_Pack.calls a0_0 a0_1 a0_2 a0_3 _ _ l0_4 a0_5 a0_6 t197 t200 _ ?side1 ?side2 A2.out).mono ?_); (case side1 => repeat (first | exact (Kd.C_below HR0_4.out HB.out) | (with_reducible refine Kd.C_alloc ?_ _) | (with_reducible refine Kd.C_drewN ?_ _) | (with_reducible refine Kd.C_drew ?_))); (case side2 => exact HC0_4.out); rintro e w6 ⟨v198, rfl, ho0, hb⟩; have n0_ := aA (Kd.R_lower ho0 (below_size (bls HB.out))); have n1_ := aA (blk_below (g := gb196) (o := .cells #[.int .i64 a0_0, .int .i64 a0_1, .string a0_2, .string a0_3, .slice A0_4 l0_4.length c0_4, .int .u64 a0_5, .int .i64 a0_6] 27 (0, 0)) (bku BK196.out) hb); have n2_ := aA (below_step (bls HB.out) hb); clear BK196 HB; have HO199 := n0_; have BK196 := n1_; have HB := n2_; clear n0_ n1_ n2_; (try clear hb); (try clear hb2); (try clear hk); (try clear hi); (try clear ho0))))
 (try simp only [Act.put, List.setIfInBounds_toArray, List.set_cons_zero, List.set_cons_succ]); go_cut [22] (fun v22 wc => ∃ (kq : Nat) (x22_2 : Bool), v22 = .bool x22_2 ∧ Aside0 (treillagelaw11_RecLong.j0 kq t197 x22_2 a0_0 a0_1 a0_2 a0_3 l0_4 a0_5 a0_6 = some r) ∧ Aside0 (kq ≤ k) ∧ Aside0 (Kd.R (Kd.int .u64) 23 wc w.heap.size (fun _ => True) v198 t197) ∧ Aside0 (wc.heap[gb196]? = some (.cells #[.int .i64 a0_0, .int .i64 a0_1, .string a0_2, .string a0_3, (.slice A0_4 l0_4.length c0_4), .int .u64 a0_5, .int .i64 a0_6] 27 (0, 0))) ∧ Aside0 (Below w.heap.size w wc))
 case first =>
  have H := HC3.out; clear HC3; replace H := Option.bind_eq_some_iff.mp H; obtain ⟨t201, A70, H⟩ := H; replace H : (if t201 = true then (if t200 = 0 then ((treillagelaw11_shown.f k).bind fun t202 => (treillagelaw11_RecLong.j0 k t197 (!t202) a0_0 a0_1 a0_2 a0_3 l0_4 a0_5 a0_6)) else (treillagelaw11_RecLong.j0 k t197 true a0_0 a0_1 a0_2 a0_3 l0_4 a0_5 a0_6)) else (treillagelaw11_RecLong.j0 k t197 true a0_0 a0_1 a0_2 a0_3 l0_4 a0_5 a0_6)) = some r := H; have A7 := aA A70; clear A70; by_cases c8 : t201 = true
  ·subst c8; have H1 : (if t200 = 0 then ((treillagelaw11_shown.f k).bind fun t202 => (treillagelaw11_RecLong.j0 k t197 (!t202) a0_0 a0_1 a0_2 a0_3 l0_4 a0_5 a0_6)) else (treillagelaw11_RecLong.j0 k t197 true a0_0 a0_1 a0_2 a0_3 l0_4 a0_5 a0_6)) = some r := by rw [if_pos rfl] at H; exact H
   clear H; have H := H1; clear H1; by_cases c9 : t200 = 0
   ·rw [if_pos c9] at H; have c9b0 : (t200 == 0) = true := beq_iff_eq.mpr c9; have c9b1 : (t200 != 0) = false := bne_eq_false_iff_eq.mpr c9; clear c9; (first | rw [c9b0] | rw [c9b1] | (simp only [i64_w, i32_w]; rw [c9b0]) | skip)
    replace H := Option.bind_eq_some_iff.mp H; obtain ⟨t202, A100, H⟩ := H; replace H : (treillagelaw11_RecLong.j0 k t197 (!t202) a0_0 a0_1 a0_2 a0_3 l0_4 a0_5 a0_6) = some r := H; have A10 := aA A100; clear A100; have H' := aA H; clear H; have hcz11_0 : w6.cell? ⟨gb196, 0, none⟩ = some (.int .i64 a0_0) := (blk_cell BK196.out 0).trans rfl; have hcz11_1 : w6.cell? ⟨gb196, 1, none⟩ = some (.int .i64 a0_1) := (blk_cell BK196.out 1).trans rfl; have hcz11_2 : w6.cell? ⟨gb196, 2, none⟩ = some (.string a0_2) := (blk_cell BK196.out 2).trans rfl; have hcz11_3 : w6.cell? ⟨gb196, 3, none⟩ = some (.string a0_3) := (blk_cell BK196.out 3).trans rfl; have hcz11_4 : w6.cell? ⟨gb196, 4, none⟩ = some (.slice A0_4 l0_4.length c0_4) := (blk_cell BK196.out 4).trans rfl; have hcz11_5 : w6.cell? ⟨gb196, 5, none⟩ = some (.int .u64 a0_5) := (blk_cell BK196.out 5).trans rfl; have hcz11_6 : w6.cell? ⟨gb196, 6, none⟩ = some (.int .i64 a0_6) := (blk_cell BK196.out 6).trans rfl; have hfz11_0 := blk_frozen BK196.out 0; have hfz11_1 := blk_frozen BK196.out 1; have hfz11_2 := blk_frozen BK196.out 2; have hfz11_3 := blk_frozen BK196.out 3; have hfz11_4 := blk_frozen BK196.out 4; have hfz11_5 := blk_frozen BK196.out 5; have hfz11_6 := blk_frozen BK196.out 6; go_wp2_with (first | (go_at_call 9; (with_reducible refine (treillagelaw11_bounded.calls k a0_0 a0_1 a0_2 a0_3 _ _ l0_4 a0_5 a0_6 true _ ?side1 ?side2 A7.out).mono ?_); (case side1 => repeat (first | exact (Kd.C_below HR0_4.out HB.out) | (with_reducible refine Kd.C_alloc ?_ _) | (with_reducible refine Kd.C_drewN ?_ _) | (with_reducible refine Kd.C_drew ?_))); (case side2 => exact HC0_4.out); rintro e w12 ⟨rfl, hb⟩; have n0_ := aA (Kd.R_below (rlu HO199.out) hb); have n1_ := aA (blk_below (g := gb196) (o := .cells #[.int .i64 a0_0, .int .i64 a0_1, .string a0_2, .string a0_3, .slice A0_4 l0_4.length c0_4, .int .u64 a0_5, .int .i64 a0_6] 27 (0, 0)) (bku BK196.out) hb); have n2_ := aA (below_step (bls HB.out) hb); clear HO199 BK196 HB; have HO199 := n0_; have BK196 := n1_; have HB := n2_; clear n0_ n1_ n2_; (try clear hb); (try clear hb2); (try clear hk); (try clear hi)) | (go_at_call 10; (with_reducible refine (treillagelaw11_shown.calls k  t202 _ A10.out).mono ?_); rintro e w13 ⟨rfl, hb⟩; have n0_ := aA (Kd.R_below (rlu HO199.out) hb); have n1_ := aA (blk_below (g := gb196) (o := .cells #[.int .i64 a0_0, .int .i64 a0_1, .string a0_2, .string a0_3, .slice A0_4 l0_4.length c0_4, .int .u64 a0_5, .int .i64 a0_6] 27 (0, 0)) (bku BK196.out) hb); have n2_ := aA (below_step (bls HB.out) hb); clear HO199 BK196 HB; have HO199 := n0_; have BK196 := n1_; have HB := n2_; clear n0_ n1_ n2_; (try clear hb); (try clear hb2); (try clear hk); (try clear hi)))
    repeat (go_quiet (first | (go_at_call 9; (with_reducible refine (treillagelaw11_bounded.calls k a0_0 a0_1 a0_2 a0_3 _ _ l0_4 a0_5 a0_6 true _ ?side1 ?side2 A7.out).mono ?_); (case side1 => repeat (first | exact (Kd.C_below HR0_4.out HB.out) | (with_reducible refine Kd.C_alloc ?_ _) | (with_reducible refine Kd.C_drewN ?_ _) | (with_reducible refine Kd.C_drew ?_))); (case side2 => exact HC0_4.out); rintro e w12 ⟨rfl, hb⟩; have n0_ := aA (Kd.R_below (rlu HO199.out) hb); have n1_ := aA (blk_below (g := gb196) (o := .cells #[.int .i64 a0_0, .int .i64 a0_1, .string a0_2, .string a0_3, .slice A0_4 l0_4.length c0_4, .int .u64 a0_5, .int .i64 a0_6] 27 (0, 0)) (bku BK196.out) hb); have n2_ := aA (below_step (bls HB.out) hb); clear HO199 BK196 HB; have HO199 := n0_; have BK196 := n1_; have HB := n2_; clear n0_ n1_ n2_; (try clear hb); (try clear hb2); (try clear hk); (try clear hi)) | (go_at_call 10; (with_reducible refine (treillagelaw11_shown.calls k  t202 _ A10.out).mono ?_); rintro e w13 ⟨rfl, hb⟩; have n0_ := aA (Kd.R_below (rlu HO199.out) hb); have n1_ := aA (blk_below (g := gb196) (o := .cells #[.int .i64 a0_0, .int .i64 a0_1, .string a0_2, .string a0_3, .slice A0_4 l0_4.length c0_4, .int .u64 a0_5, .int .i64 a0_6] 27 (0, 0)) (bku BK196.out) hb); have n2_ := aA (below_step (bls HB.out) hb); clear HO199 BK196 HB; have HO199 := n0_; have BK196 := n1_; have HB := n2_; clear n0_ n1_ n2_; (try clear hb); (try clear hb2); (try clear hk); (try clear hi))); try go_wp2_with (first | (go_at_call 9; (with_reducible refine (treillagelaw11_bounded.calls k a0_0 a0_1 a0_2 a0_3 _ _ l0_4 a0_5 a0_6 true _ ?side1 ?side2 A7.out).mono ?_); (case side1 => repeat (first | exact (Kd.C_below HR0_4.out HB.out) | (with_reducible refine Kd.C_alloc ?_ _) | (with_reducible refine Kd.C_drewN ?_ _) | (with_reducible refine Kd.C_drew ?_))); (case side2 => exact HC0_4.out); rintro e w12 ⟨rfl, hb⟩; have n0_ := aA (Kd.R_below (rlu HO199.out) hb); have n1_ := aA (blk_below (g := gb196) (o := .cells #[.int .i64 a0_0, .int .i64 a0_1, .string a0_2, .string a0_3, .slice A0_4 l0_4.length c0_4, .int .u64 a0_5, .int .i64 a0_6] 27 (0, 0)) (bku BK196.out) hb); have n2_ := aA (below_step (bls HB.out) hb); clear HO199 BK196 HB; have HO199 := n0_; have BK196 := n1_; have HB := n2_; clear n0_ n1_ n2_; (try clear hb); (try clear hb2); (try clear hk); (try clear hi)) | (go_at_call 10; (with_reducible refine (treillagelaw11_shown.calls k  t202 _ A10.out).mono ?_); rintro e w13 ⟨rfl, hb⟩; have n0_ := aA (Kd.R_below (rlu HO199.out) hb); have n1_ := aA (blk_below (g := gb196) (o := .cells #[.int .i64 a0_0, .int .i64 a0_1, .string a0_2, .string a0_3, .slice A0_4 l0_4.length c0_4, .int .u64 a0_5, .int .i64 a0_6] 27 (0, 0)) (bku BK196.out) hb); have n2_ := aA (below_step (bls HB.out) hb); clear HO199 BK196 HB; have HO199 := n0_; have BK196 := n1_; have HB := n2_; clear n0_ n1_ n2_; (try clear hb); (try clear hb2); (try clear hk); (try clear hi))))
    (first | go_meet | (refine Met.intro ?_; go_step; (try rw [c9b0]); (repeat apply Exists.intro); refine ⟨?rel, rfl⟩))
    case rel => exact ⟨_, (!t202), (by first | rfl | (simp; done) | (simp [*]; done)), H', ⟨by first | omega | exact Nat.le_refl _⟩, ⟨by (with_reducible repeat (first | apply Kd.R_alloc | apply Kd.R_drewN | apply Kd.R_drew)); exact HO199.out⟩, ⟨by (with_reducible repeat (first | refine blk_drewN ?_ _ | refine blk_drew ?_ | refine blk_alloc ?_ _)); exact BK196.out⟩, ⟨by repeat (first | (with_reducible first | exact HB.out | apply below_alloc | apply pw_below_drewN | apply below_drew1 | refine below_set ?_ GE196.out) | exact HB.out)⟩⟩
   ·rw [if_neg c9] at H; have c9b0 : (t200 == 0) = false := beq_eq_false_iff_ne.mpr c9; have c9b1 : (t200 != 0) = true := bne_iff_ne.mpr c9; (first | rw [c9b0] | rw [c9b1] | (simp only [i64_w, i32_w]; rw [c9b0]) | skip)
    have H' := aA H; clear H; have hcz14_0 : w6.cell? ⟨gb196, 0, none⟩ = some (.int .i64 a0_0) := (blk_cell BK196.out 0).trans rfl; have hcz14_1 : w6.cell? ⟨gb196, 1, none⟩ = some (.int .i64 a0_1) := (blk_cell BK196.out 1).trans rfl; have hcz14_2 : w6.cell? ⟨gb196, 2, none⟩ = some (.string a0_2) := (blk_cell BK196.out 2).trans rfl; have hcz14_3 : w6.cell? ⟨gb196, 3, none⟩ = some (.string a0_3) := (blk_cell BK196.out 3).trans rfl; have hcz14_4 : w6.cell? ⟨gb196, 4, none⟩ = some (.slice A0_4 l0_4.length c0_4) := (blk_cell BK196.out 4).trans rfl; have hcz14_5 : w6.cell? ⟨gb196, 5, none⟩ = some (.int .u64 a0_5) := (blk_cell BK196.out 5).trans rfl; have hcz14_6 : w6.cell? ⟨gb196, 6, none⟩ = some (.int .i64 a0_6) := (blk_cell BK196.out 6).trans rfl; have hfz14_0 := blk_frozen BK196.out 0; have hfz14_1 := blk_frozen BK196.out 1; have hfz14_2 := blk_frozen BK196.out 2; have hfz14_3 := blk_frozen BK196.out 3; have hfz14_4 := blk_frozen BK196.out 4; have hfz14_5 := blk_frozen BK196.out 5; have hfz14_6 := blk_frozen BK196.out 6; go_wp2_with (first | (go_at_call 9; (with_reducible refine (treillagelaw11_bounded.calls k a0_0 a0_1 a0_2 a0_3 _ _ l0_4 a0_5 a0_6 true _ ?side1 ?side2 A7.out).mono ?_); (case side1 => repeat (first | exact (Kd.C_below HR0_4.out HB.out) | (with_reducible refine Kd.C_alloc ?_ _) | (with_reducible refine Kd.C_drewN ?_ _) | (with_reducible refine Kd.C_drew ?_))); (case side2 => exact HC0_4.out); rintro e w15 ⟨rfl, hb⟩; have n0_ := aA (Kd.R_below (rlu HO199.out) hb); have n1_ := aA (blk_below (g := gb196) (o := .cells #[.int .i64 a0_0, .int .i64 a0_1, .string a0_2, .string a0_3, .slice A0_4 l0_4.length c0_4, .int .u64 a0_5, .int .i64 a0_6] 27 (0, 0)) (bku BK196.out) hb); have n2_ := aA (below_step (bls HB.out) hb); clear HO199 BK196 HB; have HO199 := n0_; have BK196 := n1_; have HB := n2_; clear n0_ n1_ n2_; (try clear hb); (try clear hb2); (try clear hk); (try clear hi)))
    repeat (go_quiet (first | (go_at_call 9; (with_reducible refine (treillagelaw11_bounded.calls k a0_0 a0_1 a0_2 a0_3 _ _ l0_4 a0_5 a0_6 true _ ?side1 ?side2 A7.out).mono ?_); (case side1 => repeat (first | exact (Kd.C_below HR0_4.out HB.out) | (with_reducible refine Kd.C_alloc ?_ _) | (with_reducible refine Kd.C_drewN ?_ _) | (with_reducible refine Kd.C_drew ?_))); (case side2 => exact HC0_4.out); rintro e w15 ⟨rfl, hb⟩; have n0_ := aA (Kd.R_below (rlu HO199.out) hb); have n1_ := aA (blk_below (g := gb196) (o := .cells #[.int .i64 a0_0, .int .i64 a0_1, .string a0_2, .string a0_3, .slice A0_4 l0_4.length c0_4, .int .u64 a0_5, .int .i64 a0_6] 27 (0, 0)) (bku BK196.out) hb); have n2_ := aA (below_step (bls HB.out) hb); clear HO199 BK196 HB; have HO199 := n0_; have BK196 := n1_; have HB := n2_; clear n0_ n1_ n2_; (try clear hb); (try clear hb2); (try clear hk); (try clear hi))); try go_wp2_with (first | (go_at_call 9; (with_reducible refine (treillagelaw11_bounded.calls k a0_0 a0_1 a0_2 a0_3 _ _ l0_4 a0_5 a0_6 true _ ?side1 ?side2 A7.out).mono ?_); (case side1 => repeat (first | exact (Kd.C_below HR0_4.out HB.out) | (with_reducible refine Kd.C_alloc ?_ _) | (with_reducible refine Kd.C_drewN ?_ _) | (with_reducible refine Kd.C_drew ?_))); (case side2 => exact HC0_4.out); rintro e w15 ⟨rfl, hb⟩; have n0_ := aA (Kd.R_below (rlu HO199.out) hb); have n1_ := aA (blk_below (g := gb196) (o := .cells #[.int .i64 a0_0, .int .i64 a0_1, .string a0_2, .string a0_3, .slice A0_4 l0_4.length c0_4, .int .u64 a0_5, .int .i64 a0_6] 27 (0, 0)) (bku BK196.out) hb); have n2_ := aA (below_step (bls HB.out) hb); clear HO199 BK196 HB; have HO199 := n0_; have BK196 := n1_; have HB := n2_; clear n0_ n1_ n2_; (try clear hb); (try clear hb2); (try clear hk); (try clear hi))))
    (first | go_meet | (refine Met.intro ?_; go_step; (try rw [c9b0]); (repeat apply Exists.intro); refine ⟨?rel, rfl⟩))
    case rel => exact ⟨_, (true), (by first | rfl | (simp; done) | (simp [*]; done)), H', ⟨by first | omega | exact Nat.le_refl _⟩, ⟨by (with_reducible repeat (first | apply Kd.R_alloc | apply Kd.R_drewN | apply Kd.R_drew)); exact HO199.out⟩, ⟨by (with_reducible repeat (first | refine blk_drewN ?_ _ | refine blk_drew ?_ | refine blk_alloc ?_ _)); exact BK196.out⟩, ⟨by repeat (first | (with_reducible first | exact HB.out | apply below_alloc | apply pw_below_drewN | apply below_drew1 | refine below_set ?_ GE196.out) | exact HB.out)⟩⟩
  ·replace c8 := Bool.eq_false_iff.mpr c8; subst c8; have H1 : (treillagelaw11_RecLong.j0 k t197 true a0_0 a0_1 a0_2 a0_3 l0_4 a0_5 a0_6) = some r := by rw [if_neg (show ¬ (false = true) by decide)] at H; exact H
   clear H; have H := H1; clear H1; have H' := aA H; clear H; have hcz16_0 : w6.cell? ⟨gb196, 0, none⟩ = some (.int .i64 a0_0) := (blk_cell BK196.out 0).trans rfl; have hcz16_1 : w6.cell? ⟨gb196, 1, none⟩ = some (.int .i64 a0_1) := (blk_cell BK196.out 1).trans rfl; have hcz16_2 : w6.cell? ⟨gb196, 2, none⟩ = some (.string a0_2) := (blk_cell BK196.out 2).trans rfl; have hcz16_3 : w6.cell? ⟨gb196, 3, none⟩ = some (.string a0_3) := (blk_cell BK196.out 3).trans rfl; have hcz16_4 : w6.cell? ⟨gb196, 4, none⟩ = some (.slice A0_4 l0_4.length c0_4) := (blk_cell BK196.out 4).trans rfl; have hcz16_5 : w6.cell? ⟨gb196, 5, none⟩ = some (.int .u64 a0_5) := (blk_cell BK196.out 5).trans rfl; have hcz16_6 : w6.cell? ⟨gb196, 6, none⟩ = some (.int .i64 a0_6) := (blk_cell BK196.out 6).trans rfl; have hfz16_0 := blk_frozen BK196.out 0; have hfz16_1 := blk_frozen BK196.out 1; have hfz16_2 := blk_frozen BK196.out 2; have hfz16_3 := blk_frozen BK196.out 3; have hfz16_4 := blk_frozen BK196.out 4; have hfz16_5 := blk_frozen BK196.out 5; have hfz16_6 := blk_frozen BK196.out 6; go_wp2_with (first | (go_at_call 9; (with_reducible refine (treillagelaw11_bounded.calls k a0_0 a0_1 a0_2 a0_3 _ _ l0_4 a0_5 a0_6 false _ ?side1 ?side2 A7.out).mono ?_); (case side1 => repeat (first | exact (Kd.C_below HR0_4.out HB.out) | (with_reducible refine Kd.C_alloc ?_ _) | (with_reducible refine Kd.C_drewN ?_ _) | (with_reducible refine Kd.C_drew ?_))); (case side2 => exact HC0_4.out); rintro e w17 ⟨rfl, hb⟩; have n0_ := aA (Kd.R_below (rlu HO199.out) hb); have n1_ := aA (blk_below (g := gb196) (o := .cells #[.int .i64 a0_0, .int .i64 a0_1, .string a0_2, .string a0_3, .slice A0_4 l0_4.length c0_4, .int .u64 a0_5, .int .i64 a0_6] 27 (0, 0)) (bku BK196.out) hb); have n2_ := aA (below_step (bls HB.out) hb); clear HO199 BK196 HB; have HO199 := n0_; have BK196 := n1_; have HB := n2_; clear n0_ n1_ n2_; (try clear hb); (try clear hb2); (try clear hk); (try clear hi)))
   repeat (go_quiet (first | (go_at_call 9; (with_reducible refine (treillagelaw11_bounded.calls k a0_0 a0_1 a0_2 a0_3 _ _ l0_4 a0_5 a0_6 false _ ?side1 ?side2 A7.out).mono ?_); (case side1 => repeat (first | exact (Kd.C_below HR0_4.out HB.out) | (with_reducible refine Kd.C_alloc ?_ _) | (with_reducible refine Kd.C_drewN ?_ _) | (with_reducible refine Kd.C_drew ?_))); (case side2 => exact HC0_4.out); rintro e w17 ⟨rfl, hb⟩; have n0_ := aA (Kd.R_below (rlu HO199.out) hb); have n1_ := aA (blk_below (g := gb196) (o := .cells #[.int .i64 a0_0, .int .i64 a0_1, .string a0_2, .string a0_3, .slice A0_4 l0_4.length c0_4, .int .u64 a0_5, .int .i64 a0_6] 27 (0, 0)) (bku BK196.out) hb); have n2_ := aA (below_step (bls HB.out) hb); clear HO199 BK196 HB; have HO199 := n0_; have BK196 := n1_; have HB := n2_; clear n0_ n1_ n2_; (try clear hb); (try clear hb2); (try clear hk); (try clear hi))); try go_wp2_with (first | (go_at_call 9; (with_reducible refine (treillagelaw11_bounded.calls k a0_0 a0_1 a0_2 a0_3 _ _ l0_4 a0_5 a0_6 false _ ?side1 ?side2 A7.out).mono ?_); (case side1 => repeat (first | exact (Kd.C_below HR0_4.out HB.out) | (with_reducible refine Kd.C_alloc ?_ _) | (with_reducible refine Kd.C_drewN ?_ _) | (with_reducible refine Kd.C_drew ?_))); (case side2 => exact HC0_4.out); rintro e w17 ⟨rfl, hb⟩; have n0_ := aA (Kd.R_below (rlu HO199.out) hb); have n1_ := aA (blk_below (g := gb196) (o := .cells #[.int .i64 a0_0, .int .i64 a0_1, .string a0_2, .string a0_3, .slice A0_4 l0_4.length c0_4, .int .u64 a0_5, .int .i64 a0_6] 27 (0, 0)) (bku BK196.out) hb); have n2_ := aA (below_step (bls HB.out) hb); clear HO199 BK196 HB; have HO199 := n0_; have BK196 := n1_; have HB := n2_; clear n0_ n1_ n2_; (try clear hb); (try clear hb2); (try clear hk); (try clear hi))))
   go_meet
   case rel => exact ⟨_, (true), (by first | rfl | (simp; done) | (simp [*]; done)), H', ⟨by first | omega | exact Nat.le_refl _⟩, ⟨by (with_reducible repeat (first | apply Kd.R_alloc | apply Kd.R_drewN | apply Kd.R_drew)); exact HO199.out⟩, ⟨by (with_reducible repeat (first | refine blk_drewN ?_ _ | refine blk_drew ?_ | refine blk_alloc ?_ _)); exact BK196.out⟩, ⟨by repeat (first | (with_reducible first | exact HB.out | apply below_alloc | apply pw_below_drewN | apply below_drew1 | refine below_set ?_ GE196.out) | exact HB.out)⟩⟩
 case rest =>
  clear HC3; try clear p2
  try clear c6
  try clear c8
  try clear c9
  try clear c9b0
  try clear c9b1
  try clear hcz11_0
  try clear hcz11_1
  try clear hcz11_2
  try clear hcz11_3
  try clear hcz11_4
  try clear hcz11_5
  try clear hcz11_6
  try clear hcz14_0
  try clear hcz14_1
  try clear hcz14_2
  try clear hcz14_3
  try clear hcz14_4
  try clear hcz14_5
  try clear hcz14_6
  try clear hcz16_0
  try clear hcz16_1
  try clear hcz16_2
  try clear hcz16_3
  try clear hcz16_4
  try clear hcz16_5
  try clear hcz16_6
  try clear hcz5_0
  try clear hcz5_1
  try clear hcz5_2
  try clear hcz5_3
  try clear hcz5_4
  try clear hcz5_5
  try clear hcz5_6
  try clear hfz11_0
  try clear hfz11_1
  try clear hfz11_2
  try clear hfz11_3
  try clear hfz11_4
  try clear hfz11_5
  try clear hfz11_6
  try clear hfz14_0
  try clear hfz14_1
  try clear hfz14_2
  try clear hfz14_3
  try clear hfz14_4
  try clear hfz14_5
  try clear hfz14_6
  try clear hfz16_0
  try clear hfz16_1
  try clear hfz16_2
  try clear hfz16_3
  try clear hfz16_4
  try clear hfz16_5
  try clear hfz16_6
  try clear hfz5_0
  try clear hfz5_1
  try clear hfz5_2
  try clear hfz5_3
  try clear hfz5_4
  try clear hfz5_5
  try clear hfz5_6
  obtain ⟨kq, x22_2, rfl, HA, HJ2, HO_3, BK196, HB⟩ := hcut; cases kq with
  | zero => exact absurd HA.out (by simp [treillagelaw11_RecLong.j0])
  | succ kj2 =>
   have H := HA.out; clear HA; simp only [treillagelaw11_RecLong.j0] at H; by_cases c18 : x22_2 = true
   ·subst c18; have H1 : ((treillagelaw11_shown.f kj2).bind fun t203 => (some t203)) = some r := by rw [if_pos rfl] at H; exact H
    clear H; have H := H1; clear H1; replace H := Option.bind_eq_some_iff.mp H; obtain ⟨t203, A190, H⟩ := H; replace H : (some t203) = some r := H; have A19 := aA A190; clear A190; obtain rfl := Option.some.inj H; go_wp2_with (first | (go_at_call 10; (with_reducible refine (treillagelaw11_shown.calls kj2  t203 _ A19.out).mono ?_); rintro e w20 ⟨rfl, hb⟩; have n0_ := aA (Kd.R_below (rlu HO_3.out) hb); have n1_ := aA (blk_below (g := gb196) (o := .cells #[.int .i64 a0_0, .int .i64 a0_1, .string a0_2, .string a0_3, .slice A0_4 l0_4.length c0_4, .int .u64 a0_5, .int .i64 a0_6] 27 (0, 0)) (bku BK196.out) hb); have n2_ := aA (below_step (bls HB.out) hb); clear HO_3 BK196 HB; have HO_3 := n0_; have BK196 := n1_; have HB := n2_; clear n0_ n1_ n2_; (try clear hb); (try clear hb2); (try clear hk); (try clear hi)))
    repeat (go_quiet (first | (go_at_call 10; (with_reducible refine (treillagelaw11_shown.calls kj2  t203 _ A19.out).mono ?_); rintro e w20 ⟨rfl, hb⟩; have n0_ := aA (Kd.R_below (rlu HO_3.out) hb); have n1_ := aA (blk_below (g := gb196) (o := .cells #[.int .i64 a0_0, .int .i64 a0_1, .string a0_2, .string a0_3, .slice A0_4 l0_4.length c0_4, .int .u64 a0_5, .int .i64 a0_6] 27 (0, 0)) (bku BK196.out) hb); have n2_ := aA (below_step (bls HB.out) hb); clear HO_3 BK196 HB; have HO_3 := n0_; have BK196 := n1_; have HB := n2_; clear n0_ n1_ n2_; (try clear hb); (try clear hb2); (try clear hk); (try clear hi))); try go_wp2_with (first | (go_at_call 10; (with_reducible refine (treillagelaw11_shown.calls kj2  t203 _ A19.out).mono ?_); rintro e w20 ⟨rfl, hb⟩; have n0_ := aA (Kd.R_below (rlu HO_3.out) hb); have n1_ := aA (blk_below (g := gb196) (o := .cells #[.int .i64 a0_0, .int .i64 a0_1, .string a0_2, .string a0_3, .slice A0_4 l0_4.length c0_4, .int .u64 a0_5, .int .i64 a0_6] 27 (0, 0)) (bku BK196.out) hb); have n2_ := aA (below_step (bls HB.out) hb); clear HO_3 BK196 HB; have HO_3 := n0_; have BK196 := n1_; have HB := n2_; clear n0_ n1_ n2_; (try clear hb); (try clear hb2); (try clear hk); (try clear hi))))
    go_ret
    exact ⟨by first | rfl | (simp [errW_none, errW_some] <;> rfl) | (simp [*, errW_none, errW_some] <;> rfl), by repeat (first | (with_reducible first | exact HB.out | apply below_alloc | apply pw_below_drewN | apply below_drew1 | refine below_set ?_ GE196.out) | exact HB.out)⟩
   ·replace c18 := Bool.eq_false_iff.mpr c18; subst c18; have H1 : (if (l0_4.length : Int) > 0 then (treillagelaw11_RecLong.j1 kj2 t197 (wrap64 ((wrap64 ((wrap64 (2 + (wrap64 (Int.tdiv (wrap64 ((a0_2.size : Int) + 7)) 8)))) + (wrap64 (Int.tdiv (wrap64 ((a0_3.size : Int) + 7)) 8)))) + 2)) a0_0 a0_1 a0_2 a0_3 l0_4 a0_5 a0_6) else (treillagelaw11_RecLong.j1 kj2 t197 (wrap64 ((wrap64 (2 + (wrap64 (Int.tdiv (wrap64 ((a0_2.size : Int) + 7)) 8)))) + (wrap64 (Int.tdiv (wrap64 ((a0_3.size : Int) + 7)) 8)))) a0_0 a0_1 a0_2 a0_3 l0_4 a0_5 a0_6)) = some r := by rw [if_neg (show ¬ (false = true) by decide)] at H; exact H
    clear H; have H := H1; clear H1; have HC21 := aA H; clear H; have hcz22_0 : wc.cell? ⟨gb196, 0, none⟩ = some (.int .i64 a0_0) := (blk_cell BK196.out 0).trans rfl; have hcz22_1 : wc.cell? ⟨gb196, 1, none⟩ = some (.int .i64 a0_1) := (blk_cell BK196.out 1).trans rfl; have hcz22_2 : wc.cell? ⟨gb196, 2, none⟩ = some (.string a0_2) := (blk_cell BK196.out 2).trans rfl; have hcz22_3 : wc.cell? ⟨gb196, 3, none⟩ = some (.string a0_3) := (blk_cell BK196.out 3).trans rfl; have hcz22_4 : wc.cell? ⟨gb196, 4, none⟩ = some (.slice A0_4 l0_4.length c0_4) := (blk_cell BK196.out 4).trans rfl; have hcz22_5 : wc.cell? ⟨gb196, 5, none⟩ = some (.int .u64 a0_5) := (blk_cell BK196.out 5).trans rfl; have hcz22_6 : wc.cell? ⟨gb196, 6, none⟩ = some (.int .i64 a0_6) := (blk_cell BK196.out 6).trans rfl; have hfz22_0 := blk_frozen BK196.out 0; have hfz22_1 := blk_frozen BK196.out 1; have hfz22_2 := blk_frozen BK196.out 2; have hfz22_3 := blk_frozen BK196.out 3; have hfz22_4 := blk_frozen BK196.out 4; have hfz22_5 := blk_frozen BK196.out 5; have hfz22_6 := blk_frozen BK196.out 6; go_upto_if 39 with (fail)
    repeat (go_quiet (fail); go_upto_if 39 with (fail))
    go_cut [5] (fun v5 wc => ∃ (kq : Nat) (x5_20 : Int), v5 = .int .i64 x5_20 ∧ Aside0 (treillagelaw11_RecLong.j1 kq t197 x5_20 a0_0 a0_1 a0_2 a0_3 l0_4 a0_5 a0_6 = some r) ∧ Aside0 (kq ≤ kj2) ∧ Aside0 (Kd.R (Kd.int .u64) 23 wc w.heap.size (fun _ => True) v198 t197) ∧ Aside0 (wc.heap[gb196]? = some (.cells #[.int .i64 a0_0, .int .i64 a0_1, .string a0_2, .string a0_3, (.slice A0_4 l0_4.length c0_4), .int .u64 a0_5, .int .i64 a0_6] 27 (0, 0))) ∧ Aside0 (Below w.heap.size w wc))
    case first =>
     have H := HC21.out; clear HC21; by_cases c23 : (l0_4.length : Int) > 0
     ·rw [if_pos c23] at H; have c23b0 : decide (0 < (l0_4.length : Int)) = true := decide_eq_true c23; have c23b1 : decide (0 < l0_4.length) = true := decide_eq_true (by omega); clear c23; (first | rw [c23b0] | rw [c23b1] | (simp only [i64_w, i32_w]; rw [c23b0]) | skip)
      have H' := aA H; clear H; go_wp2; repeat (go_quiet (fail); try go_wp2)
      (first | go_meet | (refine Met.intro ?_; go_step; (try rw [c23b0]); (repeat apply Exists.intro); refine ⟨?rel, rfl⟩))
      case rel => exact ⟨_, (wrap64 ((wrap64 ((wrap64 (2 + (wrap64 (Int.tdiv (wrap64 ((a0_2.size : Int) + 7)) 8)))) + (wrap64 (Int.tdiv (wrap64 ((a0_3.size : Int) + 7)) 8)))) + 2)), (by first | rfl | (simp; done) | (simp [*]; done)), H', ⟨by have := HJ2.out; first | omega | exact Nat.le_refl _⟩, ⟨by (with_reducible repeat (first | apply Kd.R_alloc | apply Kd.R_drewN | apply Kd.R_drew)); exact HO_3.out⟩, ⟨by (with_reducible repeat (first | refine blk_drewN ?_ _ | refine blk_drew ?_ | refine blk_alloc ?_ _)); exact BK196.out⟩, ⟨by repeat (first | (with_reducible first | exact HB.out | apply below_alloc | apply pw_below_drewN | apply below_drew1 | refine below_set ?_ GE196.out) | exact HB.out)⟩⟩
     ·rw [if_neg c23] at H; have c23b0 : decide (0 < (l0_4.length : Int)) = false := decide_eq_false c23; have c23b1 : decide (0 < l0_4.length) = false := decide_eq_false (by omega); clear c23; (first | rw [c23b0] | rw [c23b1] | (simp only [i64_w, i32_w]; rw [c23b0]) | skip)
      have H' := aA H; clear H; go_wp2; repeat (go_quiet (fail); try go_wp2)
      (first | go_meet | (refine Met.intro ?_; go_step; (try rw [c23b0]); (repeat apply Exists.intro); refine ⟨?rel, rfl⟩))
      case rel => exact ⟨_, (wrap64 ((wrap64 (2 + (wrap64 (Int.tdiv (wrap64 ((a0_2.size : Int) + 7)) 8)))) + (wrap64 (Int.tdiv (wrap64 ((a0_3.size : Int) + 7)) 8)))), (by first | rfl | (simp; done) | (simp [*]; done)), H', ⟨by have := HJ2.out; first | omega | exact Nat.le_refl _⟩, ⟨by (with_reducible repeat (first | apply Kd.R_alloc | apply Kd.R_drewN | apply Kd.R_drew)); exact HO_3.out⟩, ⟨by (with_reducible repeat (first | refine blk_drewN ?_ _ | refine blk_drew ?_ | refine blk_alloc ?_ _)); exact BK196.out⟩, ⟨by repeat (first | (with_reducible first | exact HB.out | apply below_alloc | apply pw_below_drewN | apply below_drew1 | refine below_set ?_ GE196.out) | exact HB.out)⟩⟩
    case rest =>
     clear HC21; try clear c1
     try clear c2
     try clear p2
     try clear c6
     try clear p6
     try clear c8
     try clear c9
     try clear c9b0
     try clear c9b1
     try clear c18
     try clear c23
     try clear c23b0
     try clear c23b1
     try clear hcz11_0
     try clear hcz11_1
     try clear hcz11_2
     try clear hcz11_3
     try clear hcz11_4
     try clear hcz11_5
     try clear hcz11_6
     try clear hcz14_0
     try clear hcz14_1
     try clear hcz14_2
     try clear hcz14_3
     try clear hcz14_4
     try clear hcz14_5
     try clear hcz14_6
     try clear hcz16_0
     try clear hcz16_1
     try clear hcz16_2
     try clear hcz16_3
     try clear hcz16_4
     try clear hcz16_5
     try clear hcz16_6
     try clear hcz22_0
     try clear hcz22_1
     try clear hcz22_2
     try clear hcz22_3
     try clear hcz22_4
     try clear hcz22_5
     try clear hcz22_6
     try clear hcz5_0
     try clear hcz5_1
     try clear hcz5_2
     try clear hcz5_3
     try clear hcz5_4
     try clear hcz5_5
     try clear hcz5_6
     try clear hfz11_0
     try clear hfz11_1
     try clear hfz11_2
     try clear hfz11_3
     try clear hfz11_4
     try clear hfz11_5
     try clear hfz11_6
     try clear hfz14_0
     try clear hfz14_1
     try clear hfz14_2
     try clear hfz14_3
     try clear hfz14_4
     try clear hfz14_5
     try clear hfz14_6
     try clear hfz16_0
     try clear hfz16_1
     try clear hfz16_2
     try clear hfz16_3
     try clear hfz16_4
     try clear hfz16_5
     try clear hfz16_6
     try clear hfz22_0
     try clear hfz22_1
     try clear hfz22_2
     try clear hfz22_3
     try clear hfz22_4
     try clear hfz22_5
     try clear hfz22_6
     try clear hfz5_0
     try clear hfz5_1
     try clear hfz5_2
     try clear hfz5_3
     try clear hfz5_4
     try clear hfz5_5
     try clear hfz5_6
     try clear p2
     obtain ⟨kq, x5_20, rfl, HA, HJ20, HO_3, BK196, HB⟩ := hcut; cases kq with
     | zero => exact absurd HA.out (by simp [treillagelaw11_RecLong.j1])
     | succ kj20 =>
      have H := HA.out; clear HA; simp only [treillagelaw11_RecLong.j1] at H; have H' := aA H; clear H; go_wp2; repeat (go_quiet (fail); try go_wp2)
      go_loopg [5, 6] kj20 (fun kq v5 v6 w' => ∃ (x5_3 : Int) (x6_3 : Int), v5 = .int .i64 x5_3 ∧ v6 = .int .i64 x6_3 ∧ Aside0 (treillagelaw11_RecLong.l0 kq t197 x5_3 x6_3 a0_0 a0_1 a0_2 a0_3 l0_4 a0_5 a0_6 = some r) ∧ Aside0 (kq ≤ kj20) ∧ Aside0 (Kd.R (Kd.int .u64) 23 w' w.heap.size (fun _ => True) v198 t197) ∧ Aside0 (w'.heap[gb196]? = some (.cells #[.int .i64 a0_0, .int .i64 a0_1, .string a0_2, .string a0_3, (.slice A0_4 l0_4.length c0_4), .int .u64 a0_5, .int .i64 a0_6] 27 (0, 0))) ∧ Aside0 (Below w.heap.size w w'))
      case atStart => exact ⟨(x5_20), (0), (by first | rfl | (simp; done) | (simp [*]; done)), (by first | rfl | (simp; done) | (simp [*]; done)), H', ⟨Nat.le_refl _⟩, ⟨by (with_reducible repeat (first | apply Kd.R_alloc | apply Kd.R_drewN | apply Kd.R_drew)); exact HO_3.out⟩, ⟨by (with_reducible repeat (first | refine blk_drewN ?_ _ | refine blk_drew ?_ | refine blk_alloc ?_ _)); exact BK196.out⟩, ⟨by repeat (first | (with_reducible first | exact HB.out | apply below_alloc | apply pw_below_drewN | apply below_drew1 | refine below_set ?_ GE196.out) | exact HB.out)⟩⟩
      case round =>
       clear H'; try clear c1
       try clear c2
       try clear p2
       try clear c6
       try clear p6
       try clear c8
       try clear c9
       try clear c9b0
       try clear c9b1
       try clear c18
       try clear c23
       try clear c23b0
       try clear c23b1
       try clear hcz11_0
       try clear hcz11_1
       try clear hcz11_2
       try clear hcz11_3
       try clear hcz11_4
       try clear hcz11_5
       try clear hcz11_6
       try clear hcz14_0
       try clear hcz14_1
       try clear hcz14_2
       try clear hcz14_3
       try clear hcz14_4
       try clear hcz14_5
       try clear hcz14_6
       try clear hcz16_0
       try clear hcz16_1
       try clear hcz16_2
       try clear hcz16_3
       try clear hcz16_4
       try clear hcz16_5
       try clear hcz16_6
       try clear hcz22_0
       try clear hcz22_1
       try clear hcz22_2
       try clear hcz22_3
       try clear hcz22_4
       try clear hcz22_5
       try clear hcz22_6
       try clear hcz5_0
       try clear hcz5_1
       try clear hcz5_2
       try clear hcz5_3
       try clear hcz5_4
       try clear hcz5_5
       try clear hcz5_6
       try clear hfz11_0
       try clear hfz11_1
       try clear hfz11_2
       try clear hfz11_3
       try clear hfz11_4
       try clear hfz11_5
       try clear hfz11_6
       try clear hfz14_0
       try clear hfz14_1
       try clear hfz14_2
       try clear hfz14_3
       try clear hfz14_4
       try clear hfz14_5
       try clear hfz14_6
       try clear hfz16_0
       try clear hfz16_1
       try clear hfz16_2
       try clear hfz16_3
       try clear hfz16_4
       try clear hfz16_5
       try clear hfz16_6
       try clear hfz22_0
       try clear hfz22_1
       try clear hfz22_2
       try clear hfz22_3
       try clear hfz22_4
       try clear hfz22_5
       try clear hfz22_6
       try clear hfz5_0
       try clear hfz5_1
       try clear hfz5_2
       try clear hfz5_3
       try clear hfz5_4
       try clear hfz5_5
       try clear hfz5_6
       try clear p2
       try clear p6
       obtain ⟨x5_3, x6_3, rfl, rfl, HA, HK3, HO_3, BK196, HB⟩ := hrel; cases gk with
       | zero => exact absurd HA.out (by simp [treillagelaw11_RecLong.l0])
       | succ k3 =>
        have H := HA.out; clear HA; simp only [treillagelaw11_RecLong.l0] at H; by_cases c24 : x6_3 < (l0_4.length : Int)
        ·rw [if_pos c24] at H; have c24b0 : decide (x6_3 < (l0_4.length : Int)) = true := decide_eq_true c24; clear c24; by_cases c25 : 0 ≤ x6_3
         rotate_left
         ·rw [if_neg c25] at H; exact absurd H (by simp)
         rw [if_pos c25] at H; have c25b0 : decide (0 ≤ x6_3) = true := decide_eq_true c25; clear c25; have H' := aA H; clear H; have hcz26_0 : wr.cell? ⟨gb196, 0, none⟩ = some (.int .i64 a0_0) := (blk_cell BK196.out 0).trans rfl; have hcz26_1 : wr.cell? ⟨gb196, 1, none⟩ = some (.int .i64 a0_1) := (blk_cell BK196.out 1).trans rfl; have hcz26_2 : wr.cell? ⟨gb196, 2, none⟩ = some (.string a0_2) := (blk_cell BK196.out 2).trans rfl; have hcz26_3 : wr.cell? ⟨gb196, 3, none⟩ = some (.string a0_3) := (blk_cell BK196.out 3).trans rfl; have hcz26_4 : wr.cell? ⟨gb196, 4, none⟩ = some (.slice A0_4 l0_4.length c0_4) := (blk_cell BK196.out 4).trans rfl; have hcz26_5 : wr.cell? ⟨gb196, 5, none⟩ = some (.int .u64 a0_5) := (blk_cell BK196.out 5).trans rfl; have hcz26_6 : wr.cell? ⟨gb196, 6, none⟩ = some (.int .i64 a0_6) := (blk_cell BK196.out 6).trans rfl; have hfz26_0 := blk_frozen BK196.out 0; have hfz26_1 := blk_frozen BK196.out 1; have hfz26_2 := blk_frozen BK196.out 2; have hfz26_3 := blk_frozen BK196.out 3; have hfz26_4 := blk_frozen BK196.out 4; have hfz26_5 := blk_frozen BK196.out 5; have hfz26_6 := blk_frozen BK196.out 6; have p204 : 0 ≤ (x6_3 : Int) := of_decide_eq_true (by first | (with_reducible assumption) | assumption); have q204 : x6_3 < (l0_4.length : Int) := of_decide_eq_true (by first | (with_reducible assumption) | assumption); obtain ⟨ad204, e204, hx204_0⟩ := Kd.at_string HR0_4.out x6_3 p204 q204; cases e204
         replace hx204_0 := (HB.out.cell (World.block_lt_of_cell? w _ hx204_0)).trans hx204_0; replace p204 := eq_true p204; replace q204 := eq_true q204; go_wp2; repeat (go_quiet (fail); try go_wp2)
         go_roundg k3
         case measure => have := HJ2.out; have := HJ20.out; have := HK3.out; omega
         case rel => exact ⟨(wrap64 (x5_3 + (wrap64 (Int.tdiv (wrap64 (((rdOf ByteArray.empty l0_4 x6_3).size : Int) + 7)) 8)))), (wrap64 (x6_3 + 1)), (by first | rfl | (simp; done) | (simp [*]; done)), (by first | rfl | (simp; done) | (simp [*]; done)), H', ⟨by have := HJ2.out; have := HJ20.out; have := HK3.out; omega⟩, ⟨by (with_reducible repeat (first | apply Kd.R_alloc | apply Kd.R_drewN | apply Kd.R_drew)); exact HO_3.out⟩, ⟨by (with_reducible repeat (first | refine blk_drewN ?_ _ | refine blk_drew ?_ | refine blk_alloc ?_ _)); exact BK196.out⟩, ⟨by repeat (first | (with_reducible first | exact HB.out | apply below_alloc | apply pw_below_drewN | apply below_drew1 | refine below_set ?_ GE196.out) | exact HB.out)⟩⟩
        ·rw [if_neg c24] at H; have c24b0 : decide (x6_3 < (l0_4.length : Int)) = false := decide_eq_false c24; clear c24; by_cases c27 : (t197.length : Int) = x5_3
         ·rw [if_pos c27] at H; have c27b0 : ((t197.length : Int) == x5_3) = true := beq_iff_eq.mpr c27; have c27b1 : ((t197.length : Int) != x5_3) = false := bne_eq_false_iff_eq.mpr c27; clear c27; by_cases c28 : 1 < (t197.length : Int)
          rotate_left
          ·rw [if_neg c28] at H; exact absurd H (by simp)
          rw [if_pos c28] at H; have c28b0 : decide (1 < (t197.length : Int)) = true := decide_eq_true c28; have c28b1 : decide (1 < t197.length) = true := decide_eq_true (by omega); clear c28; by_cases c29 : (rd t197 1) = a0_5
          ·rw [if_pos c29] at H; have c29b0 : ((rd t197 1) == a0_5) = true := beq_iff_eq.mpr c29; have c29b1 : ((rd t197 1) != a0_5) = false := bne_eq_false_iff_eq.mpr c29; clear c29; by_cases c30 : 0 < (t197.length : Int)
           rotate_left
           ·rw [if_neg c30] at H; exact absurd H (by simp)
           rw [if_pos c30] at H; have c30b0 : decide (0 < (t197.length : Int)) = true := decide_eq_true c30; have c30b1 : decide (0 < t197.length) = true := decide_eq_true (by omega); clear c30; obtain rfl := Option.some.inj H; have hcz31_0 : wr.cell? ⟨gb196, 0, none⟩ = some (.int .i64 a0_0) := (blk_cell BK196.out 0).trans rfl; have hcz31_1 : wr.cell? ⟨gb196, 1, none⟩ = some (.int .i64 a0_1) := (blk_cell BK196.out 1).trans rfl; have hcz31_2 : wr.cell? ⟨gb196, 2, none⟩ = some (.string a0_2) := (blk_cell BK196.out 2).trans rfl; have hcz31_3 : wr.cell? ⟨gb196, 3, none⟩ = some (.string a0_3) := (blk_cell BK196.out 3).trans rfl; have hcz31_4 : wr.cell? ⟨gb196, 4, none⟩ = some (.slice A0_4 l0_4.length c0_4) := (blk_cell BK196.out 4).trans rfl; have hcz31_5 : wr.cell? ⟨gb196, 5, none⟩ = some (.int .u64 a0_5) := (blk_cell BK196.out 5).trans rfl; have hcz31_6 : wr.cell? ⟨gb196, 6, none⟩ = some (.int .i64 a0_6) := (blk_cell BK196.out 6).trans rfl; have hfz31_0 := blk_frozen BK196.out 0; have hfz31_1 := blk_frozen BK196.out 1; have hfz31_2 := blk_frozen BK196.out 2; have hfz31_3 := blk_frozen BK196.out 3; have hfz31_4 := blk_frozen BK196.out 4; have hfz31_5 := blk_frozen BK196.out 5; have hfz31_6 := blk_frozen BK196.out 6; obtain ⟨Ao32, co32, eo32⟩ := Kd.R_slice HO_3.out; subst eo32; have p205 : 0 ≤ (1 : Int) := (by omega); have q205 : 1 < (t197.length : Int) := of_decide_eq_true (by first | (with_reducible assumption) | assumption); obtain ⟨ad205, e205, hx205_0⟩ := Kd.at_int (Kd.R_reads' HO_3.out).2.2 1 p205 q205; cases e205
           (try simp only [show (1 : Int).toNat = 1 from rfl, Nat.reduceMul, Nat.reduceEqDiff, Go.Addr.add, ↓reduceIte] at hx205_0); have qi205 : (1 < t197.length) = True := eq_true (by omega); (try rw [show ((1 : Int)).toNat = 1 from rfl] at hx205_0); replace p205 := eq_true p205; replace q205 := eq_true q205; have p206 : 0 ≤ (0 : Int) := (by omega); have q206 : 0 < (t197.length : Int) := of_decide_eq_true (by first | (with_reducible assumption) | assumption); obtain ⟨ad206, e206, hx206_0⟩ := Kd.at_int (Kd.R_reads' HO_3.out).2.2 0 p206 q206; obtain rfl : ad205 = ad206 := (by injection e206); have qi206 : (0 < t197.length) = True := eq_true (by omega); (try rw [show ((0 : Int)).toNat = 0 from rfl] at hx206_0); (try rw [Addr.add_zero'] at hx206_0); replace p206 := eq_true p206; replace q206 := eq_true q206; go_wp2; repeat (go_quiet (fail); try go_wp2)
           go_ret
           exact ⟨by first | rfl | (simp [errW_none, errW_some] <;> rfl) | (simp [*, errW_none, errW_some] <;> rfl), by repeat (first | (with_reducible first | exact HB.out | apply below_alloc | apply pw_below_drewN | apply below_drew1 | refine below_set ?_ GE196.out) | exact HB.out)⟩
          ·rw [if_neg c29] at H; have c29b0 : ((rd t197 1) == a0_5) = false := beq_eq_false_iff_ne.mpr c29; have c29b1 : ((rd t197 1) != a0_5) = true := bne_iff_ne.mpr c29; exact absurd ((Option.some.inj H).trans hr_) (by decide)
         ·rw [if_neg c27] at H; have c27b0 : ((t197.length : Int) == x5_3) = false := beq_eq_false_iff_ne.mpr c27; have c27b1 : ((t197.length : Int) != x5_3) = true := bne_iff_ne.mpr c27; exact absurd ((Option.some.inj H).trans hr_) (by decide)

/-! ### treillagelaw11_its: function 13 -/
def treillagelaw11_its.f (a0_0 : Int) (a0_1 : Int) (a0_2 : ByteArray) (a0_3 : ByteArray) (l0_4 : List ByteArray) (a0_5 : Int) (a0_6 : Int) : Option (Int × Int × ByteArray × ByteArray × List ByteArray × Int × Int) := some (a0_0, a0_1, a0_2, a0_3, l0_4, a0_5, a0_6)
set_option maxHeartbeats 8000000 in
set_option maxRecDepth 100000 in
theorem treillagelaw11_its.calls (a0_0 : Int) (a0_1 : Int) (a0_2 : ByteArray) (a0_3 : ByteArray) (P0_4_ : Nat → Prop) (A0_4 : Option Addr) (c0_4 : Nat) (l0_4 : List ByteArray) (a0_5 : Int) (a0_6 : Int) (r1 : Int) (r2 : Int) (r3 : ByteArray) (r4 : ByteArray) (r5 : List ByteArray) (r6 : Int) (r7 : Int) (w : World) (hs0_4 : Kd.V Kd.string 9 w w.heap.size (fun k_ => P0_4_ k_) (.slice A0_4 l0_4.length c0_4) l0_4) (h : treillagelaw11_its.f a0_0 a0_1 a0_2 a0_3 l0_4 a0_5 a0_6 = some (r1, r2, r3, r4, r5, r6, r7)) :
  Calls Try.prog 13 #[.agg #[.int .i64 a0_0, .int .i64 a0_1, .string a0_2, .string a0_3, .slice A0_4 l0_4.length c0_4, .int .u64 a0_5, .int .i64 a0_6]] w fun e w' => ∃ v4_ : Value, e = .returned (.agg #[.int .i64 r1, .int .i64 r2, .string r3, .string r4, v4_, .int .u64 r6, .int .i64 r7]) ∧ Kd.V Kd.string 9 w' w.heap.size (fun k_ => (P0_4_ k_ ∨ w.heap.size ≤ k_)) v4_ r5 ∧ Below w.heap.size w w' := by
 have hu27 := Try.underlying27; have hu37 := Try.underlying37; have hu25 := Try.underlying25; have HO0_4 := aA (show Kd.V Kd.string 9 w w.heap.size (fun k_ => (P0_4_ k_ ∨ w.heap.size ≤ k_)) (.slice A0_4 l0_4.length c0_4) l0_4 from Kd.V_mono hs0_4 (fun k_ hk => .inl hk)); have HB := aA (Below.refl w.heap.size w); have H : (some (a0_0, a0_1, a0_2, a0_3, l0_4, a0_5, a0_6)) = some (r1, r2, r3, r4, r5, r6, r7) := h; clear h; simp only [Option.some.injEq, Prod.mk.injEq] at H; obtain ⟨rfl, rfl, rfl, rfl, rfl, rfl, rfl⟩ := H; go_enter Try.func13, Try.ntmps13; go_wp2_with (first | ((with_reducible refine gate_dst (N := 1) rfl ?_); refine box_event ?hg (N := 1) ?hd (cs := #[.int .i64 a0_0, .int .i64 a0_1, .string a0_2, .string a0_3, .slice A0_4 l0_4.length c0_4, .int .u64 a0_5, .int .i64 a0_6]) (t := 27) ?hr ?_; (case hd => rfl); (case hg => rfl); (case hr => first | (go_simp; done) | (go_simp; rfl)); intro gb207 hg w2 hbox hb; have n0_ := aA (Kd.V_below (Kd.V_elderB (vlu HO0_4.out) gb207 (Nat.le_of_eq hg.symm)) hb); have n1_ := aA (below_step (blw HB.out) hb); have n2_ := aA (hbox); have n3_ := aA ((by rw [hg]; exact (below_size (blw HB.out)) : w.heap.size ≤ gb207)); have n4_ := aA ((by rw [hg]; exact (below_size (blw HB.out)) : w.heap.size ≤ gb207)); clear HO0_4 HB; have HO0_4 := n0_; have HB := n1_; have BK207 := n2_; have GW207 := n3_; have GE207 := n4_; clear n0_ n1_ n2_ n3_ n4_ hb hbox hg) | ((with_reducible refine gate_dst (N := 2) rfl ?_); refine box_event ?hg (N := 2) ?hd (cs := #[.int .i64 0, .int .i64 0, .string (⟨#[]⟩ : ByteArray), .string (⟨#[]⟩ : ByteArray), .slice none 0 0, .int .u64 0, .int .i64 0]) (t := 37) ?hr ?_; (case hd => rfl); (case hg => rfl); (case hr => first | (go_simp; done) | (go_simp; rfl)); intro gb208 hg w3 hbox hb; have n0_ := aA (Kd.V_below (Kd.V_elderB (vlu HO0_4.out) gb208 (Nat.le_of_eq hg.symm)) hb); have n1_ := aA (blk_below (g := gb207) (o := .cells #[.int .i64 a0_0, .int .i64 a0_1, .string a0_2, .string a0_3, .slice A0_4 l0_4.length c0_4, .int .u64 a0_5, .int .i64 a0_6] 27 (0, 0)) (bku BK207.out) hb); have n2_ := aA (below_step (bls HB.out) hb); have n3_ := aA (hbox); have n4_ := aA ((by rw [hg]; exact (below_size (bls HB.out)) : w.heap.size ≤ gb208)); have n5_ := aA ((by rw [hg]; exact (below_size (bls HB.out)) : w.heap.size ≤ gb208)); have n6_ := aA ((by rw [hg]; exact Nat.ne_of_lt (blk_lt (g := gb207) (o := .cells #[.int .i64 a0_0, .int .i64 a0_1, .string a0_2, .string a0_3, .slice A0_4 l0_4.length c0_4, .int .u64 a0_5, .int .i64 a0_6] 27 (0, 0)) (bku BK207.out)) : gb207 ≠ gb208)); have n7_ := aA ((by rw [hg]; exact Nat.ne_of_gt (blk_lt (g := gb207) (o := .cells #[.int .i64 a0_0, .int .i64 a0_1, .string a0_2, .string a0_3, .slice A0_4 l0_4.length c0_4, .int .u64 a0_5, .int .i64 a0_6] 27 (0, 0)) (bku BK207.out)) : gb208 ≠ gb207)); clear HO0_4 BK207 HB; have HO0_4 := n0_; have BK207 := n1_; have HB := n2_; have BK208 := n3_; have GW208 := n4_; have GE208 := n5_; have NB207_208 := n6_; have NB208_207 := n7_; clear n0_ n1_ n2_ n3_ n4_ n5_ n6_ n7_ hb hbox hg; have hnb4 := NB207_208.out; have hnc4 := NB208_207.out; have hcz5_0 : w3.cell? ⟨gb207, 0, none⟩ = some (.int .i64 a0_0) := (blk_cell BK207.out 0).trans rfl; have hcz5_1 : w3.cell? ⟨gb207, 1, none⟩ = some (.int .i64 a0_1) := (blk_cell BK207.out 1).trans rfl; have hcz5_2 : w3.cell? ⟨gb207, 2, none⟩ = some (.string a0_2) := (blk_cell BK207.out 2).trans rfl; have hcz5_3 : w3.cell? ⟨gb207, 3, none⟩ = some (.string a0_3) := (blk_cell BK207.out 3).trans rfl; have hcz5_4 : w3.cell? ⟨gb207, 4, none⟩ = some (.slice A0_4 l0_4.length c0_4) := (blk_cell BK207.out 4).trans rfl; have hcz5_5 : w3.cell? ⟨gb207, 5, none⟩ = some (.int .u64 a0_5) := (blk_cell BK207.out 5).trans rfl; have hcz5_6 : w3.cell? ⟨gb207, 6, none⟩ = some (.int .i64 a0_6) := (blk_cell BK207.out 6).trans rfl; have hfz5_0 := blk_frozen BK207.out 0; have hfz5_1 := blk_frozen BK207.out 1; have hfz5_2 := blk_frozen BK207.out 2; have hfz5_3 := blk_frozen BK207.out 3; have hfz5_4 := blk_frozen BK207.out 4; have hfz5_5 := blk_frozen BK207.out 5; have hfz5_6 := blk_frozen BK207.out 6; have hcz6_0 : w3.cell? ⟨gb208, 0, none⟩ = some (.int .i64 0) := (blk_cell BK208.out 0).trans rfl; have hcz6_1 : w3.cell? ⟨gb208, 1, none⟩ = some (.int .i64 0) := (blk_cell BK208.out 1).trans rfl; have hcz6_2 : w3.cell? ⟨gb208, 2, none⟩ = some (.string (⟨#[]⟩ : ByteArray)) := (blk_cell BK208.out 2).trans rfl; have hcz6_3 : w3.cell? ⟨gb208, 3, none⟩ = some (.string (⟨#[]⟩ : ByteArray)) := (blk_cell BK208.out 3).trans rfl; have hcz6_4 : w3.cell? ⟨gb208, 4, none⟩ = some (.slice none 0 0) := (blk_cell BK208.out 4).trans rfl; have hcz6_5 : w3.cell? ⟨gb208, 5, none⟩ = some (.int .u64 0) := (blk_cell BK208.out 5).trans rfl; have hcz6_6 : w3.cell? ⟨gb208, 6, none⟩ = some (.int .i64 0) := (blk_cell BK208.out 6).trans rfl; have hfz6_0 := blk_frozen BK208.out 0; have hfz6_1 := blk_frozen BK208.out 1; have hfz6_2 := blk_frozen BK208.out 2; have hfz6_3 := blk_frozen BK208.out 3; have hfz6_4 := blk_frozen BK208.out 4; have hfz6_5 := blk_frozen BK208.out 5; have hfz6_6 := blk_frozen BK208.out 6))
 refine bodyPost_ret (results_cell_row rfl _ _ gb208 37 #[.int .i64 a0_0, .int .i64 a0_1, .string a0_2, .string a0_3, .slice A0_4 l0_4.length c0_4, .int .u64 a0_5, .int .i64 a0_6] (0, 0) _ rfl (by (with_reducible repeat (first | refine blk_drewN ?_ _ | refine blk_drew ?_ | refine blk_alloc ?_ _)); refine blk_put (cs := #[.int .i64 a0_0, .int .i64 a0_1, .string a0_2, .string a0_3, .slice A0_4 l0_4.length c0_4, .int .u64 a0_5, .int .i64 0]) ?_ 6 _ rfl; (with_reducible repeat (first | refine blk_drewN ?_ _ | refine blk_drew ?_ | refine blk_alloc ?_ _)); refine blk_put (cs := #[.int .i64 a0_0, .int .i64 a0_1, .string a0_2, .string a0_3, .slice A0_4 l0_4.length c0_4, .int .u64 0, .int .i64 0]) ?_ 5 _ rfl; (with_reducible repeat (first | refine blk_drewN ?_ _ | refine blk_drew ?_ | refine blk_alloc ?_ _)); refine blk_put (cs := #[.int .i64 a0_0, .int .i64 a0_1, .string a0_2, .string a0_3, .slice none 0 0, .int .u64 0, .int .i64 0]) ?_ 4 _ rfl; (with_reducible repeat (first | refine blk_drewN ?_ _ | refine blk_drew ?_ | refine blk_alloc ?_ _)); refine blk_put (cs := #[.int .i64 a0_0, .int .i64 a0_1, .string a0_2, .string (⟨#[]⟩ : ByteArray), .slice none 0 0, .int .u64 0, .int .i64 0]) ?_ 3 _ rfl; (with_reducible repeat (first | refine blk_drewN ?_ _ | refine blk_drew ?_ | refine blk_alloc ?_ _)); refine blk_put (cs := #[.int .i64 a0_0, .int .i64 a0_1, .string (⟨#[]⟩ : ByteArray), .string (⟨#[]⟩ : ByteArray), .slice none 0 0, .int .u64 0, .int .i64 0]) ?_ 2 _ rfl; (with_reducible repeat (first | refine blk_drewN ?_ _ | refine blk_drew ?_ | refine blk_alloc ?_ _)); refine blk_put (cs := #[.int .i64 a0_0, .int .i64 0, .string (⟨#[]⟩ : ByteArray), .string (⟨#[]⟩ : ByteArray), .slice none 0 0, .int .u64 0, .int .i64 0]) ?_ 1 _ rfl; (with_reducible repeat (first | refine blk_drewN ?_ _ | refine blk_drew ?_ | refine blk_alloc ?_ _)); refine blk_put (cs := #[.int .i64 0, .int .i64 0, .string (⟨#[]⟩ : ByteArray), .string (⟨#[]⟩ : ByteArray), .slice none 0 0, .int .u64 0, .int .i64 0]) ?_ 0 _ rfl; (with_reducible repeat (first | refine blk_drewN ?_ _ | refine blk_drew ?_ | refine blk_alloc ?_ _)); exact BK208.out) Try.underlying37 rfl (by kernel_rfl)) rfl ?_; exact ⟨_, by first | rfl | (simp [errW_none, errW_some] <;> rfl) | (simp [*, errW_none, errW_some] <;> rfl), by (with_reducible repeat (first | apply Kd.V_alloc | apply Kd.V_drewN | apply Kd.V_drew)); exact Kd.V_mono (Kd.V_far (p := ⟨gb208, 6, none⟩) (Kd.V_far (p := ⟨gb208, 5, none⟩) (Kd.V_far (p := ⟨gb208, 4, none⟩) (Kd.V_far (p := ⟨gb208, 3, none⟩) (Kd.V_far (p := ⟨gb208, 2, none⟩) (Kd.V_far (p := ⟨gb208, 1, none⟩) (Kd.V_far (p := ⟨gb208, 0, none⟩) (Kd.V_mono HO0_4.out (fun k_ hk => (⟨hk, hk.2⟩ : _ ∧ k_ ≠ gb208))) (fun _ hk => hk.2) (.int .i64 a0_0)) (fun _ hk => hk.2) (.int .i64 a0_1)) (fun _ hk => hk.2) (.string a0_2)) (fun _ hk => hk.2) (.string a0_3)) (fun _ hk => hk.2) (.slice A0_4 l0_4.length c0_4)) (fun _ hk => hk.2) (.int .u64 a0_5)) (fun _ hk => hk.2) (.int .i64 a0_6)) (fun _ hk => hk.1.1.1), by repeat (first | (with_reducible first | exact HB.out | apply below_alloc | apply pw_below_drewN | apply below_drew1 | refine below_set ?_ GE207.out | refine below_set ?_ GE208.out) | exact HB.out)⟩

/-! ### treillageref11_SameTexts: function 36 -/
def treillageref11_SameTexts.l0 : Nat → List ByteArray → List ByteArray → Int → Option (Bool)
 | 0, _, _, _ => none
 | k + 1, x0, x1, x5 => if x5 < (x0.length : Int) then (if 0 ≤ x5 then (if x5 < (x1.length : Int) then (if (rdOf ByteArray.empty x0 x5).toList = (rdOf ByteArray.empty x1 x5).toList then (treillageref11_SameTexts.l0 k x0 x1 (wrap64 (x5 + 1))) else (some false)) else (none)) else (none)) else (some true)
def treillageref11_SameTexts.f (k : Nat) (l0 : List ByteArray) (l1 : List ByteArray) : Option (Bool) := if (l0.length : Int) = (l1.length : Int) then (treillageref11_SameTexts.l0 k l0 l1 0) else (some false)
theorem treillageref11_SameTexts.mono_l : ∀ k, (∀ y0 y1 y2, LeO (treillageref11_SameTexts.l0 k y0 y1 y2) (treillageref11_SameTexts.l0 (k + 1) y0 y1 y2))
 | 0 => fun _ _ _ r h => by simp [treillageref11_SameTexts.l0] at h
 | k + 1 => by
  have ih0 := treillageref11_SameTexts.mono_l k
  ·intro y0 y1 y2
   unfold treillageref11_SameTexts.l0; repeat' first
   | (with_reducible exact ih0 _ _ _)
   | (with_reducible exact LeO.refl _)
   | (with_reducible exact LeO.none _)
   | (with_reducible refine LeO.ite ?_ ?_)
   | (with_reducible refine LeO.bind ?_ (fun _ => ?_))
   | exact ih0 _ _ _
   | exact LeO.none _
   | refine LeO.ite ?_ ?_
   | refine LeO.bind ?_ (fun _ => ?_)
theorem treillageref11_SameTexts.mono : ∀ a0 a1 k, LeO (treillageref11_SameTexts.f k a0 a1) (treillageref11_SameTexts.f (k + 1) a0 a1) := by
 intro a0 a1 k
 have ih0 := treillageref11_SameTexts.mono_l k; unfold treillageref11_SameTexts.f
 repeat' first
   | (with_reducible exact ih0 _ _ _)
   | (with_reducible exact LeO.refl _)
   | (with_reducible exact LeO.none _)
   | (with_reducible refine LeO.ite ?_ ?_)
   | (with_reducible refine LeO.bind ?_ (fun _ => ?_))
   | exact ih0 _ _ _
   | exact LeO.none _
   | refine LeO.ite ?_ ?_
   | refine LeO.bind ?_ (fun _ => ?_)
set_option maxHeartbeats 8000000 in
set_option maxRecDepth 100000 in
theorem treillageref11_SameTexts.calls (k : Nat) (A0 : Option Addr) (c0 : Nat) (l0 : List ByteArray) (A1 : Option Addr) (c1 : Nat) (l1 : List ByteArray) (r : Bool) (w : World) (hr0 : Kd.C Kd.string w A0 l0.length l0) (hc0 : l0.length ≤ c0) (hr1 : Kd.C Kd.string w A1 l1.length l1) (hc1 : l1.length ≤ c1) (h : treillageref11_SameTexts.f k l0 l1 = some r) :
  Calls Try.prog 36 #[.slice A0 l0.length c0, .slice A1 l1.length c1] w fun e w' => e = .returned (.bool r) ∧ Drawn0 w w' := by
 have HR0 := aA hr0; have HC0 := aA hc0; clear hr0 hc0; have HR1 := aA hr1; have HC1 := aA hc1; clear hr1 hc1; have H : (if (l0.length : Int) = (l1.length : Int) then (treillageref11_SameTexts.l0 k l0 l1 0) else (some false)) = some r := h; clear h; by_cases c3 : (l0.length : Int) = (l1.length : Int)
 ·rw [if_pos c3] at H; have c3b0 : ((l0.length : Int) == (l1.length : Int)) = true := beq_iff_eq.mpr c3; have c3b1 : ((l0.length : Int) != (l1.length : Int)) = false := bne_eq_false_iff_eq.mpr c3; have c3b2 : (l0.length == l1.length) = true := by first | simpa using c3 | (simp at c3 ⊢; omega)
  clear c3; have H' := aA H; clear H; go_enter Try.func36, Try.ntmps36; go_wp2; repeat (go_quiet (fail); try go_wp2)
  go_loopg [5] k (fun kq v5 w' => ∃ (x5_1 : Int), v5 = .int .i64 x5_1 ∧ Aside0 (treillageref11_SameTexts.l0 kq l0 l1 x5_1 = some r) ∧ Aside0 (kq ≤ k) ∧ Drawn0 w w')
  case atStart => exact ⟨(0), (by first | rfl | (simp; done) | (simp [*]; done)), H', ⟨Nat.le_refl _⟩, by repeat (first | exact Drawn0.refl _ | apply Drawn0.step)⟩
  case round =>
   clear H'; try clear c1
   try clear p2
   try clear c3
   try clear c3b0
   try clear c3b1
   try clear c3b2
   obtain ⟨x5_1, rfl, HA, HK1, ⟨m1, rfl⟩⟩ := hrel; cases gk with
   | zero => exact absurd HA.out (by simp [treillageref11_SameTexts.l0])
   | succ k1 =>
    have H := HA.out; clear HA; simp only [treillageref11_SameTexts.l0] at H; by_cases c4 : x5_1 < (l0.length : Int)
    ·rw [if_pos c4] at H; have c4b0 : decide (x5_1 < (l0.length : Int)) = true := decide_eq_true c4; clear c4; by_cases c5 : 0 ≤ x5_1
     rotate_left
     ·rw [if_neg c5] at H; exact absurd H (by simp)
     rw [if_pos c5] at H; have c5b0 : decide (0 ≤ x5_1) = true := decide_eq_true c5; clear c5; by_cases c6 : x5_1 < (l1.length : Int)
     rotate_left
     ·rw [if_neg c6] at H; exact absurd H (by simp)
     rw [if_pos c6] at H; have c6b0 : decide (x5_1 < (l1.length : Int)) = true := decide_eq_true c6; clear c6; by_cases c7 : (rdOf ByteArray.empty l0 x5_1).toList = (rdOf ByteArray.empty l1 x5_1).toList
     ·rw [if_pos c7] at H; have c7b0 : ((rdOf ByteArray.empty l0 x5_1).toList == (rdOf ByteArray.empty l1 x5_1).toList) = true := beq_iff_eq.mpr c7; have c7b1 : ((rdOf ByteArray.empty l0 x5_1).toList != (rdOf ByteArray.empty l1 x5_1).toList) = false := bne_eq_false_iff_eq.mpr c7; clear c7; have H' := aA H; clear H; have p209 : 0 ≤ (x5_1 : Int) := of_decide_eq_true (by first | (with_reducible assumption) | assumption); have q209 : x5_1 < (l0.length : Int) := of_decide_eq_true (by first | (with_reducible assumption) | assumption); obtain ⟨ad209, e209, hx209_0⟩ := Kd.at_string HR0.out x5_1 p209 q209; cases e209
      replace p209 := eq_true p209; replace q209 := eq_true q209; have p210 : 0 ≤ (x5_1 : Int) := of_decide_eq_true (by first | (with_reducible assumption) | assumption); have q210 : x5_1 < (l1.length : Int) := of_decide_eq_true (by first | (with_reducible assumption) | assumption); obtain ⟨ad210, e210, hx210_0⟩ := Kd.at_string HR1.out x5_1 p210 q210; cases e210
      replace p210 := eq_true p210; replace q210 := eq_true q210; go_wp2; repeat (go_quiet (fail); try go_wp2)
      go_roundg k1
      case measure => have := HK1.out; omega
      case rel => exact ⟨(wrap64 (x5_1 + 1)), (by first | rfl | (simp; done) | (simp [*]; done)), H', ⟨by have := HK1.out; omega⟩, by repeat (first | exact Drawn0.refl _ | apply Drawn0.step)⟩
     ·rw [if_neg c7] at H; have c7b0 : ((rdOf ByteArray.empty l0 x5_1).toList == (rdOf ByteArray.empty l1 x5_1).toList) = false := beq_eq_false_iff_ne.mpr c7; have c7b1 : ((rdOf ByteArray.empty l0 x5_1).toList != (rdOf ByteArray.empty l1 x5_1).toList) = true := bne_iff_ne.mpr c7; obtain rfl := Option.some.inj H; have p209 : 0 ≤ (x5_1 : Int) := of_decide_eq_true (by first | (with_reducible assumption) | assumption); have q209 : x5_1 < (l0.length : Int) := of_decide_eq_true (by first | (with_reducible assumption) | assumption); obtain ⟨ad209, e209, hx209_0⟩ := Kd.at_string HR0.out x5_1 p209 q209; cases e209
      replace p209 := eq_true p209; replace q209 := eq_true q209; have p210 : 0 ≤ (x5_1 : Int) := of_decide_eq_true (by first | (with_reducible assumption) | assumption); have q210 : x5_1 < (l1.length : Int) := of_decide_eq_true (by first | (with_reducible assumption) | assumption); obtain ⟨ad210, e210, hx210_0⟩ := Kd.at_string HR1.out x5_1 p210 q210; cases e210
      replace p210 := eq_true p210; replace q210 := eq_true q210; go_wp2; repeat (go_quiet (fail); try go_wp2)
      go_ret
      exact ⟨by first | rfl | (simp; done) | (simp [*]; done), by repeat (first | exact Drawn0.refl _ | apply Drawn0.step)⟩
    ·rw [if_neg c4] at H; have c4b0 : decide (x5_1 < (l0.length : Int)) = false := decide_eq_false c4; clear c4; obtain rfl := Option.some.inj H; go_wp2; repeat (go_quiet (fail); try go_wp2)
     go_ret
     exact ⟨by first | rfl | (simp; done) | (simp [*]; done), by repeat (first | exact Drawn0.refl _ | apply Drawn0.step)⟩
 ·rw [if_neg c3] at H; have c3b0 : ((l0.length : Int) == (l1.length : Int)) = false := beq_eq_false_iff_ne.mpr c3; have c3b1 : ((l0.length : Int) != (l1.length : Int)) = true := bne_iff_ne.mpr c3; have c3b2 : (l0.length == l1.length) = false := by first | simpa using c3 | (simp at c3 ⊢; omega)
  obtain rfl := Option.some.inj H; go_enter Try.func36, Try.ntmps36; go_wp2; repeat (go_quiet (fail); try go_wp2)
  go_ret
  exact ⟨by first | rfl | (simp; done) | (simp [*]; done), by repeat (first | exact Drawn0.refl _ | apply Drawn0.step)⟩

theorem treillagelaw11_RecLong.calls (k : Nat) (a0_0 : Int) (a0_1 : Int) (a0_2 : ByteArray) (a0_3 : ByteArray) (A0_4 : Option Addr) (c0_4 : Nat) (l0_4 : List ByteArray) (a0_5 : Int) (a0_6 : Int) (r : Bool) (w : World) (hr0_4 : Kd.C Kd.string w A0_4 l0_4.length l0_4) (hc0_4 : l0_4.length ≤ c0_4) (h : treillagelaw11_RecLong.f k a0_0 a0_1 a0_2 a0_3 l0_4 a0_5 a0_6 = some true) :
  Calls Try.prog 6 #[.agg #[.int .i64 a0_0, .int .i64 a0_1, .string a0_2, .string a0_3, .slice A0_4 l0_4.length c0_4, .int .u64 a0_5, .int .i64 a0_6]] w fun e w' => e = .returned (.bool true) ∧ Below w.heap.size w w' := treillagelaw11_RecLong.calls1 k a0_0 a0_1 a0_2 a0_3 A0_4 c0_4 l0_4 a0_5 a0_6 true w hr0_4 hc0_4 h rfl
end Go.Proofs.Ytdjkadfgmhmhcaa.PA
