-- Written by wip/hprint/hprint.py (a program of this session, over the print): not typed by hand
import Derived.Test.YtooefecjkgdpbaaDoorPAx0
import Derived.Test.YtooefecjkgdpbaaDoorPAx7
import Derived.Test.YtooefecjkgdpbaaDoorPAx9
namespace Go.Proofs.YtooefecjkgdpbaaDoor.PA
open Go.RowKit Go.Proofs.YtooefecjkgdpbaaDoorW.PrintWords Go.Proofs.YtooefecjkgdpbaaDoorW.PrintLast Go.Proofs.YtooefecjkgdpbaaDoorW.PrintMore
attribute [local go_sem] max2_int min2_int max_two min_two max_three min_three max_four min_four   -- for this text's walks alone
open Go.Proofs.YtooefecjkgdpbaaDoorH
set_option linter.unusedVariables false
set_option linter.unusedSimpArgs false

/-! ### treillageref06_encode: function 38 -/
mutual
def treillageref06_encode.j0 : Nat → ByteArray → ByteArray → Int → Int → Int → Int → ByteArray → ByteArray → Option (ByteArray)
 | 0, _, _, _, _, _, _, _, _ => none
 | k + 1, x3, x4, x154000, x154001, x154002, x154003, x154004, x154005 => (treillageref06_in.f k x4 116).bind fun t160 => (if t160 = true then ((treillageref06_number.f k x154002).bind fun t161 => (if x3.size + t161.size ≤ 9223372036854775807 then (treillageref06_encode.j1 k (x3 ++ t161) x4 x154000 x154001 x154002 x154003 x154004 x154005) else (none))) else (treillageref06_encode.j1 k x3 x4 x154000 x154001 x154002 x154003 x154004 x154005))
def treillageref06_encode.j1 : Nat → ByteArray → ByteArray → Int → Int → Int → Int → ByteArray → ByteArray → Option (ByteArray)
 | 0, _, _, _, _, _, _, _, _ => none
 | k + 1, x3, x4, x154000, x154001, x154002, x154003, x154004, x154005 => (treillageref06_in.f k x4 97).bind fun t162 => (if t162 = true then ((treillageref06_number.f k x154003).bind fun t163 => (if x3.size + t163.size ≤ 9223372036854775807 then (treillageref06_encode.j2 k (x3 ++ t163) x4 x154000 x154001 x154002 x154003 x154004 x154005) else (none))) else (treillageref06_encode.j2 k x3 x4 x154000 x154001 x154002 x154003 x154004 x154005))
def treillageref06_encode.j2 : Nat → ByteArray → ByteArray → Int → Int → Int → Int → ByteArray → ByteArray → Option (ByteArray)
 | 0, _, _, _, _, _, _, _, _ => none
 | k + 1, x3, x4, x154000, x154001, x154002, x154003, x154004, x154005 => (treillageref06_in.f k x4 110).bind fun t164 => (if t164 = true then ((treillageref06_text.f x154004).bind fun t165 => (if x3.size + t165.size ≤ 9223372036854775807 then (treillageref06_encode.j3 k (x3 ++ t165) x4 x154000 x154001 x154002 x154003 x154004 x154005) else (none))) else (treillageref06_encode.j3 k x3 x4 x154000 x154001 x154002 x154003 x154004 x154005))
def treillageref06_encode.j3 : Nat → ByteArray → ByteArray → Int → Int → Int → Int → ByteArray → ByteArray → Option (ByteArray)
 | 0, _, _, _, _, _, _, _, _ => none
 | k + 1, x3, x4, x154000, x154001, x154002, x154003, x154004, x154005 => (treillageref06_in.f k x4 120).bind fun t166 => (if t166 = true then ((treillageref06_text.f x154005).bind fun t167 => (if x3.size + t167.size ≤ 9223372036854775807 then (some (x3 ++ t167)) else (none))) else (some x3))
end
def treillageref06_encode.f (k : Nat) (a0_0 : Int) (a0_1 : Int) (a0_2 : Int) (a0_3 : Int) (a0_4 : ByteArray) (a0_5 : ByteArray) : Option (ByteArray) := (some (([(a0_0) % 256] : List Int) : List Int)).bind fun y154 => ((treillageref06_has.f k a0_0).bind fun t157 => ((treillageref06_in.f k t157 105).bind fun t158 => (if t158 = true then ((treillageref06_number.f k a0_1).bind fun t159 => (if (strOfNums y154).size + t159.size ≤ 9223372036854775807 then (treillageref06_encode.j0 k ((strOfNums y154) ++ t159) t157 a0_0 a0_1 a0_2 a0_3 a0_4 a0_5) else (none))) else (treillageref06_encode.j0 k (strOfNums y154) t157 a0_0 a0_1 a0_2 a0_3 a0_4 a0_5))))
theorem treillageref06_encode.mono_l : ∀ k, (∀ y0 y1 y2 y3 y4 y5 y6 y7, LeO (treillageref06_encode.j0 k y0 y1 y2 y3 y4 y5 y6 y7) (treillageref06_encode.j0 (k + 1) y0 y1 y2 y3 y4 y5 y6 y7)) ∧ (∀ y0 y1 y2 y3 y4 y5 y6 y7, LeO (treillageref06_encode.j1 k y0 y1 y2 y3 y4 y5 y6 y7) (treillageref06_encode.j1 (k + 1) y0 y1 y2 y3 y4 y5 y6 y7)) ∧ (∀ y0 y1 y2 y3 y4 y5 y6 y7, LeO (treillageref06_encode.j2 k y0 y1 y2 y3 y4 y5 y6 y7) (treillageref06_encode.j2 (k + 1) y0 y1 y2 y3 y4 y5 y6 y7)) ∧ (∀ y0 y1 y2 y3 y4 y5 y6 y7, LeO (treillageref06_encode.j3 k y0 y1 y2 y3 y4 y5 y6 y7) (treillageref06_encode.j3 (k + 1) y0 y1 y2 y3 y4 y5 y6 y7))
 | 0 => ⟨fun _ _ _ _ _ _ _ _ r h => by simp [treillageref06_encode.j0] at h, fun _ _ _ _ _ _ _ _ r h => by simp [treillageref06_encode.j1] at h, fun _ _ _ _ _ _ _ _ r h => by simp [treillageref06_encode.j2] at h, fun _ _ _ _ _ _ _ _ r h => by simp [treillageref06_encode.j3] at h⟩
 | k + 1 => by
  obtain ⟨ih0, ih1, ih2, ih3⟩ := treillageref06_encode.mono_l k; refine ⟨?_, ?_, ?_, ?_⟩
  ·intro y0 y1 y2 y3 y4 y5 y6 y7
   unfold treillageref06_encode.j0; repeat' first
   | (with_reducible exact ih0 _ _ _ _ _ _ _ _)
   | (with_reducible exact ih1 _ _ _ _ _ _ _ _)
   | (with_reducible exact ih2 _ _ _ _ _ _ _ _)
   | (with_reducible exact ih3 _ _ _ _ _ _ _ _)
   | (with_reducible exact treillageref06_has.mono _ _)
   | (with_reducible exact treillageref06_in.mono _ _ _)
   | (with_reducible exact treillageref06_number.mono _ _)
   | (with_reducible exact LeO.refl _)
   | (with_reducible exact LeO.none _)
   | (with_reducible refine LeO.ite ?_ ?_)
   | (with_reducible refine LeO.bind ?_ (fun _ => ?_))
   | exact ih0 _ _ _ _ _ _ _ _
   | exact ih1 _ _ _ _ _ _ _ _
   | exact ih2 _ _ _ _ _ _ _ _
   | exact ih3 _ _ _ _ _ _ _ _
   | exact treillageref06_has.mono _ _
   | exact treillageref06_in.mono _ _ _
   | exact treillageref06_number.mono _ _
   | exact LeO.none _
   | refine LeO.ite ?_ ?_
   | refine LeO.bind ?_ (fun _ => ?_)
  ·intro y0 y1 y2 y3 y4 y5 y6 y7
   unfold treillageref06_encode.j1; repeat' first
   | (with_reducible exact ih0 _ _ _ _ _ _ _ _)
   | (with_reducible exact ih1 _ _ _ _ _ _ _ _)
   | (with_reducible exact ih2 _ _ _ _ _ _ _ _)
   | (with_reducible exact ih3 _ _ _ _ _ _ _ _)
   | (with_reducible exact treillageref06_has.mono _ _)
   | (with_reducible exact treillageref06_in.mono _ _ _)
   | (with_reducible exact treillageref06_number.mono _ _)
   | (with_reducible exact LeO.refl _)
   | (with_reducible exact LeO.none _)
   | (with_reducible refine LeO.ite ?_ ?_)
   | (with_reducible refine LeO.bind ?_ (fun _ => ?_))
   | exact ih0 _ _ _ _ _ _ _ _
   | exact ih1 _ _ _ _ _ _ _ _
   | exact ih2 _ _ _ _ _ _ _ _
   | exact ih3 _ _ _ _ _ _ _ _
   | exact treillageref06_has.mono _ _
   | exact treillageref06_in.mono _ _ _
   | exact treillageref06_number.mono _ _
   | exact LeO.none _
   | refine LeO.ite ?_ ?_
   | refine LeO.bind ?_ (fun _ => ?_)
  ·intro y0 y1 y2 y3 y4 y5 y6 y7
   unfold treillageref06_encode.j2; repeat' first
   | (with_reducible exact ih0 _ _ _ _ _ _ _ _)
   | (with_reducible exact ih1 _ _ _ _ _ _ _ _)
   | (with_reducible exact ih2 _ _ _ _ _ _ _ _)
   | (with_reducible exact ih3 _ _ _ _ _ _ _ _)
   | (with_reducible exact treillageref06_has.mono _ _)
   | (with_reducible exact treillageref06_in.mono _ _ _)
   | (with_reducible exact treillageref06_number.mono _ _)
   | (with_reducible exact LeO.refl _)
   | (with_reducible exact LeO.none _)
   | (with_reducible refine LeO.ite ?_ ?_)
   | (with_reducible refine LeO.bind ?_ (fun _ => ?_))
   | exact ih0 _ _ _ _ _ _ _ _
   | exact ih1 _ _ _ _ _ _ _ _
   | exact ih2 _ _ _ _ _ _ _ _
   | exact ih3 _ _ _ _ _ _ _ _
   | exact treillageref06_has.mono _ _
   | exact treillageref06_in.mono _ _ _
   | exact treillageref06_number.mono _ _
   | exact LeO.none _
   | refine LeO.ite ?_ ?_
   | refine LeO.bind ?_ (fun _ => ?_)
  ·intro y0 y1 y2 y3 y4 y5 y6 y7
   unfold treillageref06_encode.j3; repeat' first
   | (with_reducible exact ih0 _ _ _ _ _ _ _ _)
   | (with_reducible exact ih1 _ _ _ _ _ _ _ _)
   | (with_reducible exact ih2 _ _ _ _ _ _ _ _)
   | (with_reducible exact ih3 _ _ _ _ _ _ _ _)
   | (with_reducible exact treillageref06_has.mono _ _)
   | (with_reducible exact treillageref06_in.mono _ _ _)
   | (with_reducible exact treillageref06_number.mono _ _)
   | (with_reducible exact LeO.refl _)
   | (with_reducible exact LeO.none _)
   | (with_reducible refine LeO.ite ?_ ?_)
   | (with_reducible refine LeO.bind ?_ (fun _ => ?_))
   | exact ih0 _ _ _ _ _ _ _ _
   | exact ih1 _ _ _ _ _ _ _ _
   | exact ih2 _ _ _ _ _ _ _ _
   | exact ih3 _ _ _ _ _ _ _ _
   | exact treillageref06_has.mono _ _
   | exact treillageref06_in.mono _ _ _
   | exact treillageref06_number.mono _ _
   | exact LeO.none _
   | refine LeO.ite ?_ ?_
   | refine LeO.bind ?_ (fun _ => ?_)
theorem treillageref06_encode.mono : ∀ a0 a1 a2 a3 a4 a5 k, LeO (treillageref06_encode.f k a0 a1 a2 a3 a4 a5) (treillageref06_encode.f (k + 1) a0 a1 a2 a3 a4 a5) := by
 intro a0 a1 a2 a3 a4 a5 k
 obtain ⟨ih0, ih1, ih2, ih3⟩ := treillageref06_encode.mono_l k; unfold treillageref06_encode.f
 repeat' first
   | (with_reducible exact ih0 _ _ _ _ _ _ _ _)
   | (with_reducible exact ih1 _ _ _ _ _ _ _ _)
   | (with_reducible exact ih2 _ _ _ _ _ _ _ _)
   | (with_reducible exact ih3 _ _ _ _ _ _ _ _)
   | (with_reducible exact treillageref06_has.mono _ _)
   | (with_reducible exact treillageref06_in.mono _ _ _)
   | (with_reducible exact treillageref06_number.mono _ _)
   | (with_reducible exact LeO.refl _)
   | (with_reducible exact LeO.none _)
   | (with_reducible refine LeO.ite ?_ ?_)
   | (with_reducible refine LeO.bind ?_ (fun _ => ?_))
   | exact ih0 _ _ _ _ _ _ _ _
   | exact ih1 _ _ _ _ _ _ _ _
   | exact ih2 _ _ _ _ _ _ _ _
   | exact ih3 _ _ _ _ _ _ _ _
   | exact treillageref06_has.mono _ _
   | exact treillageref06_in.mono _ _ _
   | exact treillageref06_number.mono _ _
   | exact LeO.none _
   | refine LeO.ite ?_ ?_
   | refine LeO.bind ?_ (fun _ => ?_)
set_option maxHeartbeats 8000000 in
set_option maxRecDepth 100000 in
theorem treillageref06_encode.calls (k : Nat) (a0_0 : Int) (a0_1 : Int) (a0_2 : Int) (a0_3 : Int) (a0_4 : ByteArray) (a0_5 : ByteArray) (r : ByteArray) (w : World) (h : treillageref06_encode.f k a0_0 a0_1 a0_2 a0_3 a0_4 a0_5 = some r) :
  Calls Tryd.prog 38 #[.agg #[.int .i64 a0_0, .int .i64 a0_1, .int .i64 a0_2, .int .i64 a0_3, .string a0_4, .string a0_5]] w fun e w' => e = .returned (.string r) ∧ Below w.heap.size w w' := by
 have hu29 := Tryd.underlying29; have HB := aA (Below.refl w.heap.size w); have H : ((some (([(a0_0) % 256] : List Int) : List Int)).bind fun y154 => ((treillageref06_has.f k a0_0).bind fun t157 => ((treillageref06_in.f k t157 105).bind fun t158 => (if t158 = true then ((treillageref06_number.f k a0_1).bind fun t159 => (if (strOfNums y154).size + t159.size ≤ 9223372036854775807 then (treillageref06_encode.j0 k ((strOfNums y154) ++ t159) t157 a0_0 a0_1 a0_2 a0_3 a0_4 a0_5) else (none))) else (treillageref06_encode.j0 k (strOfNums y154) t157 a0_0 a0_1 a0_2 a0_3 a0_4 a0_5))))) = some r := h; clear h; obtain ⟨y154, hy154⟩ : ∃ y_ : List Int, y_ = (([(a0_0) % 256] : List Int)) := ⟨_, rfl⟩; replace H : ((treillageref06_has.f k a0_0).bind fun t157 => ((treillageref06_in.f k t157 105).bind fun t158 => (if t158 = true then ((treillageref06_number.f k a0_1).bind fun t159 => (if (strOfNums y154).size + t159.size ≤ 9223372036854775807 then (treillageref06_encode.j0 k ((strOfNums y154) ++ t159) t157 a0_0 a0_1 a0_2 a0_3 a0_4 a0_5) else (none))) else (treillageref06_encode.j0 k (strOfNums y154) t157 a0_0 a0_1 a0_2 a0_3 a0_4 a0_5)))) = some r := by first | (rw [hy154]; with_reducible exact H) | (have H2_ := (Option.bind_some _ _).symm.trans H; rw [hy154]; with_reducible exact H2_) | (have H2_ := (Option.bind_some _ _).symm.trans H; with_reducible exact H2_) | with_reducible exact H | (rw [hy154]; exact H) | exact H
 have Ny154 := aA hy154; clear hy154; replace H := Option.bind_eq_some_iff.mp H; obtain ⟨t157, A20, H⟩ := H; replace H : ((treillageref06_in.f k t157 105).bind fun t158 => (if t158 = true then ((treillageref06_number.f k a0_1).bind fun t159 => (if (strOfNums y154).size + t159.size ≤ 9223372036854775807 then (treillageref06_encode.j0 k ((strOfNums y154) ++ t159) t157 a0_0 a0_1 a0_2 a0_3 a0_4 a0_5) else (none))) else (treillageref06_encode.j0 k (strOfNums y154) t157 a0_0 a0_1 a0_2 a0_3 a0_4 a0_5))) = some r := H; have A2 := aA A20; clear A20; replace H := Option.bind_eq_some_iff.mp H; obtain ⟨t158, A30, H⟩ := H; replace H : (if t158 = true then ((treillageref06_number.f k a0_1).bind fun t159 => (if (strOfNums y154).size + t159.size ≤ 9223372036854775807 then (treillageref06_encode.j0 k ((strOfNums y154) ++ t159) t157 a0_0 a0_1 a0_2 a0_3 a0_4 a0_5) else (none))) else (treillageref06_encode.j0 k (strOfNums y154) t157 a0_0 a0_1 a0_2 a0_3 a0_4 a0_5)) = some r := H; have A3 := aA A30; clear A30; have HC4 := aA H; clear H; go_enter Tryd.func38, Tryd.ntmps38; go_upto_if 14 with (first | ((with_reducible refine gate_dst (N := 1) rfl ?_); refine box_event ?hg (N := 1) ?hd (cs := #[.int .i64 a0_0, .int .i64 a0_1, .int .i64 a0_2, .int .i64 a0_3, .string a0_4, .string a0_5]) (t := 29) ?hr ?_; (case hd => rfl); (case hg => rfl); (case hr => first | (go_simp; done) | (go_simp; rfl)); intro gb153 hg w5 hbox hb; have n0_ := aA (below_step (blw HB.out) hb); have n1_ := aA (hbox); have n2_ := aA ((by rw [hg]; exact (below_size (blw HB.out)) : w.heap.size ≤ gb153)); have n3_ := aA ((by rw [hg]; exact (below_size (blw HB.out)) : w.heap.size ≤ gb153)); clear HB; have HB := n0_; have BK153 := n1_; have GW153 := n2_; have GE153 := n3_; clear n0_ n1_ n2_ n3_ hb hbox hg; have hcz6_0 : w5.cell? ⟨gb153, 0, none⟩ = some (.int .i64 a0_0) := (blk_cell BK153.out 0).trans rfl; have hcz6_1 : w5.cell? ⟨gb153, 1, none⟩ = some (.int .i64 a0_1) := (blk_cell BK153.out 1).trans rfl; have hcz6_2 : w5.cell? ⟨gb153, 2, none⟩ = some (.int .i64 a0_2) := (blk_cell BK153.out 2).trans rfl; have hcz6_3 : w5.cell? ⟨gb153, 3, none⟩ = some (.int .i64 a0_3) := (blk_cell BK153.out 3).trans rfl; have hcz6_4 : w5.cell? ⟨gb153, 4, none⟩ = some (.string a0_4) := (blk_cell BK153.out 4).trans rfl; have hcz6_5 : w5.cell? ⟨gb153, 5, none⟩ = some (.string a0_5) := (blk_cell BK153.out 5).trans rfl; have hfz6_0 := blk_frozen BK153.out 0; have hfz6_1 := blk_frozen BK153.out 1; have hfz6_2 := blk_frozen BK153.out 2; have hfz6_3 := blk_frozen BK153.out 3; have hfz6_4 := blk_frozen BK153.out 4; have hfz6_5 := blk_frozen BK153.out 5) | ((with_reducible refine gate_dst (N := 8) rfl ?_); refine Kd.R_lit (Kd.int .u8) _ 5 ?hg (N := 8) ?hd (xs := ([(a0_0) % 256] : List Int)) (inner := [.int .u8 ((a0_0) % 256)]) (ok := fun _ => True) (okp := fun _ => True) ?hr ?hp (fun _ hk => hk) trivial (Below.refl _ _) (Nat.le_refl _) (by simp) ?_; (case hd => rfl); (case hg => rfl); (case hr => first | (go_simp; done) | (go_simp; rfl)); (case hp => exact (Reps.one (show Kd.M (Kd.int .u8) _ _ _ ((a0_0) % 256) [.int .u8 ((a0_0) % 256)] from rfl) (Reps.none _ _))); intro v155 w7 ho8 hb hg_ hnew_; clear hg_ hnew_; (first | rw [← Ny154.out] at ho8 | (simp only [Int.reduceToNat] at ho8; rw [← Ny154.out] at ho8)); have n0_ := aA (Kd.R_lower ho8 (below_size (bls HB.out))); have n1_ := aA (blk_below (g := gb153) (o := .cells #[.int .i64 a0_0, .int .i64 a0_1, .int .i64 a0_2, .int .i64 a0_3, .string a0_4, .string a0_5] 29 (0, 0)) (bku BK153.out) hb); have n2_ := aA (below_step (bls HB.out) hb); clear BK153 HB; have HO156 := n0_; have BK153 := n1_; have HB := n2_; clear n0_ n1_ n2_ hb ho8; have hcv9 := own_string (P := Tryd.prog) Tryd.underlying58 Tryd.underlying5 Tryd.underlying9 (Kd.own_of_R HO156.out); have hcz10_0 : w7.cell? ⟨gb153, 0, none⟩ = some (.int .i64 a0_0) := (blk_cell BK153.out 0).trans rfl; have hcz10_1 : w7.cell? ⟨gb153, 1, none⟩ = some (.int .i64 a0_1) := (blk_cell BK153.out 1).trans rfl; have hcz10_2 : w7.cell? ⟨gb153, 2, none⟩ = some (.int .i64 a0_2) := (blk_cell BK153.out 2).trans rfl; have hcz10_3 : w7.cell? ⟨gb153, 3, none⟩ = some (.int .i64 a0_3) := (blk_cell BK153.out 3).trans rfl; have hcz10_4 : w7.cell? ⟨gb153, 4, none⟩ = some (.string a0_4) := (blk_cell BK153.out 4).trans rfl; have hcz10_5 : w7.cell? ⟨gb153, 5, none⟩ = some (.string a0_5) := (blk_cell BK153.out 5).trans rfl; have hfz10_0 := blk_frozen BK153.out 0; have hfz10_1 := blk_frozen BK153.out 1; have hfz10_2 := blk_frozen BK153.out 2; have hfz10_3 := blk_frozen BK153.out 3; have hfz10_4 := blk_frozen BK153.out 4; have hfz10_5 := blk_frozen BK153.out 5) | ((with_reducible refine gate_callee (f := 25) rfl ?_); refine goesL_ (some 12) rfl rfl Tryd.func25 (by kernel_rfl) rfl #[.int .i64 a0_0] rfl (by (try simp only [List.map_toArray, List.map_cons, List.map_nil]); first | done | rfl | (simp only [List.length_drop, List.length_take]; rfl)) ?_; (with_reducible refine (treillageref06_has.calls k a0_0 t157 _ A2.out).mono ?_); rintro e w' ⟨rfl, ⟨nd, rfl⟩⟩; refine ⟨_, rfl, ?_⟩) | ((with_reducible refine gate_callee (f := 26) rfl ?_); refine goesL_ (some 14) rfl rfl Tryd.func26 (by kernel_rfl) rfl #[.string t157, .int .u8 105] rfl (by (try simp only [List.map_toArray, List.map_cons, List.map_nil]); first | done | rfl | (simp only [List.length_drop, List.length_take]; rfl)) ?_; (with_reducible refine (treillageref06_in.calls k t157 105 t158 _ A3.out).mono ?_); rintro e w' ⟨rfl, ⟨nd, rfl⟩⟩; refine ⟨_, rfl, ?_⟩))
 (try simp only [Act.put, List.setIfInBounds_toArray, List.set_cons_zero, List.set_cons_succ]); go_cut [3] (fun v3 wc => ∃ (kq : Nat) (x3_3 : ByteArray), v3 = .string x3_3 ∧ Aside0 (treillageref06_encode.j0 kq x3_3 t157 a0_0 a0_1 a0_2 a0_3 a0_4 a0_5 = some r) ∧ Aside0 (kq ≤ k) ∧ Aside0 (wc.heap[gb153]? = some (.cells #[.int .i64 a0_0, .int .i64 a0_1, .int .i64 a0_2, .int .i64 a0_3, .string a0_4, .string a0_5] 29 (0, 0))) ∧ Aside0 (Below w.heap.size w wc))
 case first =>
  have H := HC4.out; clear HC4; by_cases c11 : t158 = true
  ·subst c11; have H1 : ((treillageref06_number.f k a0_1).bind fun t159 => (if (strOfNums y154).size + t159.size ≤ 9223372036854775807 then (treillageref06_encode.j0 k ((strOfNums y154) ++ t159) t157 a0_0 a0_1 a0_2 a0_3 a0_4 a0_5) else (none))) = some r := by rw [if_pos rfl] at H; exact H
   clear H; have H := H1; clear H1; replace H := Option.bind_eq_some_iff.mp H; obtain ⟨t159, A120, H⟩ := H; replace H : (if (strOfNums y154).size + t159.size ≤ 9223372036854775807 then (treillageref06_encode.j0 k ((strOfNums y154) ++ t159) t157 a0_0 a0_1 a0_2 a0_3 a0_4 a0_5) else (none)) = some r := H; have A12 := aA A120; clear A120; by_cases c13 : (strOfNums y154).size + t159.size ≤ 9223372036854775807
   rotate_left
   ·rw [if_neg c13] at H; exact absurd H (by simp)
   rw [if_pos c13] at H; have c13b0 := eq_true c13; have c13b1 : decide ((strOfNums y154).size + t159.size ≤ 9223372036854775807) = true := decide_eq_true c13; try have c13b2 : (9223372036854775807 < (strOfNums y154).size + t159.size) = False := eq_false (Nat.not_lt.2 c13)
   have H' := aA H; clear H; have hcz14_0 : w7.cell? ⟨gb153, 0, none⟩ = some (.int .i64 a0_0) := (blk_cell BK153.out 0).trans rfl; have hcz14_1 : w7.cell? ⟨gb153, 1, none⟩ = some (.int .i64 a0_1) := (blk_cell BK153.out 1).trans rfl; have hcz14_2 : w7.cell? ⟨gb153, 2, none⟩ = some (.int .i64 a0_2) := (blk_cell BK153.out 2).trans rfl; have hcz14_3 : w7.cell? ⟨gb153, 3, none⟩ = some (.int .i64 a0_3) := (blk_cell BK153.out 3).trans rfl; have hcz14_4 : w7.cell? ⟨gb153, 4, none⟩ = some (.string a0_4) := (blk_cell BK153.out 4).trans rfl; have hcz14_5 : w7.cell? ⟨gb153, 5, none⟩ = some (.string a0_5) := (blk_cell BK153.out 5).trans rfl; have hfz14_0 := blk_frozen BK153.out 0; have hfz14_1 := blk_frozen BK153.out 1; have hfz14_2 := blk_frozen BK153.out 2; have hfz14_3 := blk_frozen BK153.out 3; have hfz14_4 := blk_frozen BK153.out 4; have hfz14_5 := blk_frozen BK153.out 5; go_wp2_with (first | ((with_reducible refine gate_callee (f := 51) rfl ?_); refine goesL_ (some 18) rfl rfl Tryd.func51 (by kernel_rfl) rfl #[.int .i64 a0_1] rfl (by (try simp only [List.map_toArray, List.map_cons, List.map_nil]); first | done | rfl | (simp only [List.length_drop, List.length_take]; rfl)) ?_; (with_reducible refine (treillageref06_number.calls k a0_1 t159 _ A12.out).mono ?_); rintro e w15 ⟨rfl, hb⟩; refine ⟨_, rfl, ?_⟩; have n0_ := aA (Kd.R_below (rlu HO156.out) hb); have n1_ := aA (blk_below (g := gb153) (o := .cells #[.int .i64 a0_0, .int .i64 a0_1, .int .i64 a0_2, .int .i64 a0_3, .string a0_4, .string a0_5] 29 (0, 0)) (bku BK153.out) hb); have n2_ := aA (below_step (bls HB.out) hb); clear HO156 BK153 HB; have HO156 := n0_; have BK153 := n1_; have HB := n2_; clear n0_ n1_ n2_; (try clear hb); (try clear hb2); (try clear hk); (try clear hi)))
   go_meet
   case rel => exact ⟨_, ((strOfNums y154) ++ t159), (by first | rfl | (simp; done) | (simp [*]; done)), H', ⟨by first | omega | exact Nat.le_refl _⟩, ⟨by (with_reducible repeat (first | refine blk_drewN ?_ _ | refine blk_drew ?_ | refine blk_alloc ?_ _)); exact BK153.out⟩, ⟨by repeat (first | (with_reducible first | exact HB.out | apply below_alloc | apply pw_below_drewN | apply below_drew1 | refine below_set ?_ GE153.out) | exact HB.out)⟩⟩
  ·replace c11 := Bool.eq_false_iff.mpr c11; subst c11; have H1 : (treillageref06_encode.j0 k (strOfNums y154) t157 a0_0 a0_1 a0_2 a0_3 a0_4 a0_5) = some r := by rw [if_neg (show ¬ (false = true) by decide)] at H; exact H
   clear H; have H := H1; clear H1; have H' := aA H; clear H; go_wp2; go_meet
   case rel => exact ⟨_, (strOfNums y154), (by first | rfl | (simp; done) | (simp [*]; done)), H', ⟨by first | omega | exact Nat.le_refl _⟩, ⟨by (with_reducible repeat (first | refine blk_drewN ?_ _ | refine blk_drew ?_ | refine blk_alloc ?_ _)); exact BK153.out⟩, ⟨by repeat (first | (with_reducible first | exact HB.out | apply below_alloc | apply pw_below_drewN | apply below_drew1 | refine below_set ?_ GE153.out) | exact HB.out)⟩⟩
 case rest =>
  clear HC4; try clear c1
  try clear c2
  try clear p2
  try clear c3
  try clear c5
  try clear hcv9
  try clear c11
  try clear c13
  try clear c13b0
  try clear c13b1
  try clear c13b2
  try clear hcz10_0
  try clear hcz10_1
  try clear hcz10_2
  try clear hcz10_3
  try clear hcz10_4
  try clear hcz10_5
  try clear hcz14_0
  try clear hcz14_1
  try clear hcz14_2
  try clear hcz14_3
  try clear hcz14_4
  try clear hcz14_5
  try clear hcz6_0
  try clear hcz6_1
  try clear hcz6_2
  try clear hcz6_3
  try clear hcz6_4
  try clear hcz6_5
  try clear hfz10_0
  try clear hfz10_1
  try clear hfz10_2
  try clear hfz10_3
  try clear hfz10_4
  try clear hfz10_5
  try clear hfz14_0
  try clear hfz14_1
  try clear hfz14_2
  try clear hfz14_3
  try clear hfz14_4
  try clear hfz14_5
  try clear hfz6_0
  try clear hfz6_1
  try clear hfz6_2
  try clear hfz6_3
  try clear hfz6_4
  try clear hfz6_5
  obtain ⟨kq, x3_3, rfl, HA, HJ3, BK153, HB⟩ := hcut; cases kq with
  | zero => exact absurd HA.out (by simp [treillageref06_encode.j0])
  | succ kj3 =>
   have H := HA.out; clear HA; simp only [treillageref06_encode.j0] at H; replace H := Option.bind_eq_some_iff.mp H; obtain ⟨t160, A160, H⟩ := H; replace H : (if t160 = true then ((treillageref06_number.f kj3 a0_2).bind fun t161 => (if x3_3.size + t161.size ≤ 9223372036854775807 then (treillageref06_encode.j1 kj3 (x3_3 ++ t161) t157 a0_0 a0_1 a0_2 a0_3 a0_4 a0_5) else (none))) else (treillageref06_encode.j1 kj3 x3_3 t157 a0_0 a0_1 a0_2 a0_3 a0_4 a0_5)) = some r := H; have A16 := aA A160; clear A160; have HC17 := aA H; clear H; go_upto_if 21 with (first | ((with_reducible refine gate_callee (f := 26) rfl ?_); refine goesL_ (some 21) rfl rfl Tryd.func26 (by kernel_rfl) rfl #[.string t157, .int .u8 116] rfl (by (try simp only [List.map_toArray, List.map_cons, List.map_nil]); first | done | rfl | (simp only [List.length_drop, List.length_take]; rfl)) ?_; (with_reducible refine (treillageref06_in.calls kj3 t157 116 t160 _ A16.out).mono ?_); rintro e w' ⟨rfl, ⟨nd, rfl⟩⟩; refine ⟨_, rfl, ?_⟩))
   (try simp only [Act.put, List.setIfInBounds_toArray, List.set_cons_zero, List.set_cons_succ]); go_cut [3] (fun v3 wc => ∃ (kq : Nat) (x3_16 : ByteArray), v3 = .string x3_16 ∧ Aside0 (treillageref06_encode.j1 kq x3_16 t157 a0_0 a0_1 a0_2 a0_3 a0_4 a0_5 = some r) ∧ Aside0 (kq ≤ kj3) ∧ Aside0 (wc.heap[gb153]? = some (.cells #[.int .i64 a0_0, .int .i64 a0_1, .int .i64 a0_2, .int .i64 a0_3, .string a0_4, .string a0_5] 29 (0, 0))) ∧ Aside0 (Below w.heap.size w wc))
   case first =>
    have H := HC17.out; clear HC17; by_cases c18 : t160 = true
    ·subst c18; have H1 : ((treillageref06_number.f kj3 a0_2).bind fun t161 => (if x3_3.size + t161.size ≤ 9223372036854775807 then (treillageref06_encode.j1 kj3 (x3_3 ++ t161) t157 a0_0 a0_1 a0_2 a0_3 a0_4 a0_5) else (none))) = some r := by rw [if_pos rfl] at H; exact H
     clear H; have H := H1; clear H1; replace H := Option.bind_eq_some_iff.mp H; obtain ⟨t161, A190, H⟩ := H; replace H : (if x3_3.size + t161.size ≤ 9223372036854775807 then (treillageref06_encode.j1 kj3 (x3_3 ++ t161) t157 a0_0 a0_1 a0_2 a0_3 a0_4 a0_5) else (none)) = some r := H; have A19 := aA A190; clear A190; by_cases c20 : x3_3.size + t161.size ≤ 9223372036854775807
     rotate_left
     ·rw [if_neg c20] at H; exact absurd H (by simp)
     rw [if_pos c20] at H; have c20b0 := eq_true c20; have c20b1 : decide (x3_3.size + t161.size ≤ 9223372036854775807) = true := decide_eq_true c20; try have c20b2 : (9223372036854775807 < x3_3.size + t161.size) = False := eq_false (Nat.not_lt.2 c20)
     have H' := aA H; clear H; have hcz21_0 : wc.cell? ⟨gb153, 0, none⟩ = some (.int .i64 a0_0) := (blk_cell BK153.out 0).trans rfl; have hcz21_1 : wc.cell? ⟨gb153, 1, none⟩ = some (.int .i64 a0_1) := (blk_cell BK153.out 1).trans rfl; have hcz21_2 : wc.cell? ⟨gb153, 2, none⟩ = some (.int .i64 a0_2) := (blk_cell BK153.out 2).trans rfl; have hcz21_3 : wc.cell? ⟨gb153, 3, none⟩ = some (.int .i64 a0_3) := (blk_cell BK153.out 3).trans rfl; have hcz21_4 : wc.cell? ⟨gb153, 4, none⟩ = some (.string a0_4) := (blk_cell BK153.out 4).trans rfl; have hcz21_5 : wc.cell? ⟨gb153, 5, none⟩ = some (.string a0_5) := (blk_cell BK153.out 5).trans rfl; have hfz21_0 := blk_frozen BK153.out 0; have hfz21_1 := blk_frozen BK153.out 1; have hfz21_2 := blk_frozen BK153.out 2; have hfz21_3 := blk_frozen BK153.out 3; have hfz21_4 := blk_frozen BK153.out 4; have hfz21_5 := blk_frozen BK153.out 5; go_wp2_with (first | ((with_reducible refine gate_callee (f := 51) rfl ?_); refine goesL_ (some 25) rfl rfl Tryd.func51 (by kernel_rfl) rfl #[.int .i64 a0_2] rfl (by (try simp only [List.map_toArray, List.map_cons, List.map_nil]); first | done | rfl | (simp only [List.length_drop, List.length_take]; rfl)) ?_; (with_reducible refine (treillageref06_number.calls kj3 a0_2 t161 _ A19.out).mono ?_); rintro e w22 ⟨rfl, hb⟩; refine ⟨_, rfl, ?_⟩; have n0_ := aA (blk_below (g := gb153) (o := .cells #[.int .i64 a0_0, .int .i64 a0_1, .int .i64 a0_2, .int .i64 a0_3, .string a0_4, .string a0_5] 29 (0, 0)) (bku BK153.out) hb); have n1_ := aA (below_step (bls HB.out) hb); clear BK153 HB; have BK153 := n0_; have HB := n1_; clear n0_ n1_; (try clear hb); (try clear hb2); (try clear hk); (try clear hi)))
     go_meet
     case rel => exact ⟨_, (x3_3 ++ t161), (by first | rfl | (simp; done) | (simp [*]; done)), H', ⟨by have := HJ3.out; first | omega | exact Nat.le_refl _⟩, ⟨by (with_reducible repeat (first | refine blk_drewN ?_ _ | refine blk_drew ?_ | refine blk_alloc ?_ _)); exact BK153.out⟩, ⟨by repeat (first | (with_reducible first | exact HB.out | apply below_alloc | apply pw_below_drewN | apply below_drew1 | refine below_set ?_ GE153.out) | exact HB.out)⟩⟩
    ·replace c18 := Bool.eq_false_iff.mpr c18; subst c18; have H1 : (treillageref06_encode.j1 kj3 x3_3 t157 a0_0 a0_1 a0_2 a0_3 a0_4 a0_5) = some r := by rw [if_neg (show ¬ (false = true) by decide)] at H; exact H
     clear H; have H := H1; clear H1; have H' := aA H; clear H; go_wp2; go_meet
     case rel => exact ⟨_, (x3_3), (by first | rfl | (simp; done) | (simp [*]; done)), H', ⟨by have := HJ3.out; first | omega | exact Nat.le_refl _⟩, ⟨by (with_reducible repeat (first | refine blk_drewN ?_ _ | refine blk_drew ?_ | refine blk_alloc ?_ _)); exact BK153.out⟩, ⟨by repeat (first | (with_reducible first | exact HB.out | apply below_alloc | apply pw_below_drewN | apply below_drew1 | refine below_set ?_ GE153.out) | exact HB.out)⟩⟩
   case rest =>
    clear HC17; try clear c1
    try clear c2
    try clear p2
    try clear c3
    try clear c5
    try clear hcv9
    try clear c11
    try clear c13
    try clear c13b0
    try clear c13b1
    try clear c13b2
    try clear c18
    try clear c20
    try clear c20b0
    try clear c20b1
    try clear c20b2
    try clear hcz10_0
    try clear hcz10_1
    try clear hcz10_2
    try clear hcz10_3
    try clear hcz10_4
    try clear hcz10_5
    try clear hcz14_0
    try clear hcz14_1
    try clear hcz14_2
    try clear hcz14_3
    try clear hcz14_4
    try clear hcz14_5
    try clear hcz21_0
    try clear hcz21_1
    try clear hcz21_2
    try clear hcz21_3
    try clear hcz21_4
    try clear hcz21_5
    try clear hcz6_0
    try clear hcz6_1
    try clear hcz6_2
    try clear hcz6_3
    try clear hcz6_4
    try clear hcz6_5
    try clear hfz10_0
    try clear hfz10_1
    try clear hfz10_2
    try clear hfz10_3
    try clear hfz10_4
    try clear hfz10_5
    try clear hfz14_0
    try clear hfz14_1
    try clear hfz14_2
    try clear hfz14_3
    try clear hfz14_4
    try clear hfz14_5
    try clear hfz21_0
    try clear hfz21_1
    try clear hfz21_2
    try clear hfz21_3
    try clear hfz21_4
    try clear hfz21_5
    try clear hfz6_0
    try clear hfz6_1
    try clear hfz6_2
    try clear hfz6_3
    try clear hfz6_4
    try clear hfz6_5
    try clear p2
    obtain ⟨kq, x3_16, rfl, HA, HJ16, BK153, HB⟩ := hcut; cases kq with
    | zero => exact absurd HA.out (by simp [treillageref06_encode.j1])
    | succ kj16 =>
     have H := HA.out; clear HA; simp only [treillageref06_encode.j1] at H; replace H := Option.bind_eq_some_iff.mp H; obtain ⟨t162, A230, H⟩ := H; replace H : (if t162 = true then ((treillageref06_number.f kj16 a0_3).bind fun t163 => (if x3_16.size + t163.size ≤ 9223372036854775807 then (treillageref06_encode.j2 kj16 (x3_16 ++ t163) t157 a0_0 a0_1 a0_2 a0_3 a0_4 a0_5) else (none))) else (treillageref06_encode.j2 kj16 x3_16 t157 a0_0 a0_1 a0_2 a0_3 a0_4 a0_5)) = some r := H; have A23 := aA A230; clear A230; have HC24 := aA H; clear H; go_upto_if 28 with (first | ((with_reducible refine gate_callee (f := 26) rfl ?_); refine goesL_ (some 28) rfl rfl Tryd.func26 (by kernel_rfl) rfl #[.string t157, .int .u8 97] rfl (by (try simp only [List.map_toArray, List.map_cons, List.map_nil]); first | done | rfl | (simp only [List.length_drop, List.length_take]; rfl)) ?_; (with_reducible refine (treillageref06_in.calls kj16 t157 97 t162 _ A23.out).mono ?_); rintro e w' ⟨rfl, ⟨nd, rfl⟩⟩; refine ⟨_, rfl, ?_⟩))
     (try simp only [Act.put, List.setIfInBounds_toArray, List.set_cons_zero, List.set_cons_succ]); go_cut [3] (fun v3 wc => ∃ (kq : Nat) (x3_23 : ByteArray), v3 = .string x3_23 ∧ Aside0 (treillageref06_encode.j2 kq x3_23 t157 a0_0 a0_1 a0_2 a0_3 a0_4 a0_5 = some r) ∧ Aside0 (kq ≤ kj16) ∧ Aside0 (wc.heap[gb153]? = some (.cells #[.int .i64 a0_0, .int .i64 a0_1, .int .i64 a0_2, .int .i64 a0_3, .string a0_4, .string a0_5] 29 (0, 0))) ∧ Aside0 (Below w.heap.size w wc))
     case first =>
      have H := HC24.out; clear HC24; by_cases c25 : t162 = true
      ·subst c25; have H1 : ((treillageref06_number.f kj16 a0_3).bind fun t163 => (if x3_16.size + t163.size ≤ 9223372036854775807 then (treillageref06_encode.j2 kj16 (x3_16 ++ t163) t157 a0_0 a0_1 a0_2 a0_3 a0_4 a0_5) else (none))) = some r := by rw [if_pos rfl] at H; exact H
       clear H; have H := H1; clear H1; replace H := Option.bind_eq_some_iff.mp H; obtain ⟨t163, A260, H⟩ := H; replace H : (if x3_16.size + t163.size ≤ 9223372036854775807 then (treillageref06_encode.j2 kj16 (x3_16 ++ t163) t157 a0_0 a0_1 a0_2 a0_3 a0_4 a0_5) else (none)) = some r := H; have A26 := aA A260; clear A260; by_cases c27 : x3_16.size + t163.size ≤ 9223372036854775807
       rotate_left
       ·rw [if_neg c27] at H; exact absurd H (by simp)
       rw [if_pos c27] at H; have c27b0 := eq_true c27; have c27b1 : decide (x3_16.size + t163.size ≤ 9223372036854775807) = true := decide_eq_true c27; try have c27b2 : (9223372036854775807 < x3_16.size + t163.size) = False := eq_false (Nat.not_lt.2 c27)
       have H' := aA H; clear H; have hcz28_0 : wc.cell? ⟨gb153, 0, none⟩ = some (.int .i64 a0_0) := (blk_cell BK153.out 0).trans rfl; have hcz28_1 : wc.cell? ⟨gb153, 1, none⟩ = some (.int .i64 a0_1) := (blk_cell BK153.out 1).trans rfl; have hcz28_2 : wc.cell? ⟨gb153, 2, none⟩ = some (.int .i64 a0_2) := (blk_cell BK153.out 2).trans rfl; have hcz28_3 : wc.cell? ⟨gb153, 3, none⟩ = some (.int .i64 a0_3) := (blk_cell BK153.out 3).trans rfl; have hcz28_4 : wc.cell? ⟨gb153, 4, none⟩ = some (.string a0_4) := (blk_cell BK153.out 4).trans rfl; have hcz28_5 : wc.cell? ⟨gb153, 5, none⟩ = some (.string a0_5) := (blk_cell BK153.out 5).trans rfl; have hfz28_0 := blk_frozen BK153.out 0; have hfz28_1 := blk_frozen BK153.out 1; have hfz28_2 := blk_frozen BK153.out 2; have hfz28_3 := blk_frozen BK153.out 3; have hfz28_4 := blk_frozen BK153.out 4; have hfz28_5 := blk_frozen BK153.out 5; go_wp2_with (first | ((with_reducible refine gate_callee (f := 51) rfl ?_); refine goesL_ (some 32) rfl rfl Tryd.func51 (by kernel_rfl) rfl #[.int .i64 a0_3] rfl (by (try simp only [List.map_toArray, List.map_cons, List.map_nil]); first | done | rfl | (simp only [List.length_drop, List.length_take]; rfl)) ?_; (with_reducible refine (treillageref06_number.calls kj16 a0_3 t163 _ A26.out).mono ?_); rintro e w29 ⟨rfl, hb⟩; refine ⟨_, rfl, ?_⟩; have n0_ := aA (blk_below (g := gb153) (o := .cells #[.int .i64 a0_0, .int .i64 a0_1, .int .i64 a0_2, .int .i64 a0_3, .string a0_4, .string a0_5] 29 (0, 0)) (bku BK153.out) hb); have n1_ := aA (below_step (bls HB.out) hb); clear BK153 HB; have BK153 := n0_; have HB := n1_; clear n0_ n1_; (try clear hb); (try clear hb2); (try clear hk); (try clear hi)))
       go_meet
       case rel => exact ⟨_, (x3_16 ++ t163), (by first | rfl | (simp; done) | (simp [*]; done)), H', ⟨by have := HJ3.out; have := HJ16.out; first | omega | exact Nat.le_refl _⟩, ⟨by (with_reducible repeat (first | refine blk_drewN ?_ _ | refine blk_drew ?_ | refine blk_alloc ?_ _)); exact BK153.out⟩, ⟨by repeat (first | (with_reducible first | exact HB.out | apply below_alloc | apply pw_below_drewN | apply below_drew1 | refine below_set ?_ GE153.out) | exact HB.out)⟩⟩
      ·replace c25 := Bool.eq_false_iff.mpr c25; subst c25; have H1 : (treillageref06_encode.j2 kj16 x3_16 t157 a0_0 a0_1 a0_2 a0_3 a0_4 a0_5) = some r := by rw [if_neg (show ¬ (false = true) by decide)] at H; exact H
       clear H; have H := H1; clear H1; have H' := aA H; clear H; go_wp2; go_meet
       case rel => exact ⟨_, (x3_16), (by first | rfl | (simp; done) | (simp [*]; done)), H', ⟨by have := HJ3.out; have := HJ16.out; first | omega | exact Nat.le_refl _⟩, ⟨by (with_reducible repeat (first | refine blk_drewN ?_ _ | refine blk_drew ?_ | refine blk_alloc ?_ _)); exact BK153.out⟩, ⟨by repeat (first | (with_reducible first | exact HB.out | apply below_alloc | apply pw_below_drewN | apply below_drew1 | refine below_set ?_ GE153.out) | exact HB.out)⟩⟩
     case rest =>
      clear HC24; try clear c1
      try clear c2
      try clear p2
      try clear c3
      try clear c5
      try clear hcv9
      try clear c11
      try clear c13
      try clear c13b0
      try clear c13b1
      try clear c13b2
      try clear c18
      try clear c20
      try clear c20b0
      try clear c20b1
      try clear c20b2
      try clear c25
      try clear c26
      try clear c27
      try clear c27b0
      try clear c27b1
      try clear c27b2
      try clear hcz10_0
      try clear hcz10_1
      try clear hcz10_2
      try clear hcz10_3
      try clear hcz10_4
      try clear hcz10_5
      try clear hcz14_0
      try clear hcz14_1
      try clear hcz14_2
      try clear hcz14_3
      try clear hcz14_4
      try clear hcz14_5
      try clear hcz21_0
      try clear hcz21_1
      try clear hcz21_2
      try clear hcz21_3
      try clear hcz21_4
      try clear hcz21_5
      try clear hcz28_0
      try clear hcz28_1
      try clear hcz28_2
      try clear hcz28_3
      try clear hcz28_4
      try clear hcz28_5
      try clear hcz6_0
      try clear hcz6_1
      try clear hcz6_2
      try clear hcz6_3
      try clear hcz6_4
      try clear hcz6_5
      try clear hfz10_0
      try clear hfz10_1
      try clear hfz10_2
      try clear hfz10_3
      try clear hfz10_4
      try clear hfz10_5
      try clear hfz14_0
      try clear hfz14_1
      try clear hfz14_2
      try clear hfz14_3
      try clear hfz14_4
      try clear hfz14_5
      try clear hfz21_0
      try clear hfz21_1
      try clear hfz21_2
      try clear hfz21_3
      try clear hfz21_4
      try clear hfz21_5
      try clear hfz28_0
      try clear hfz28_1
      try clear hfz28_2
      try clear hfz28_3
      try clear hfz28_4
      try clear hfz28_5
      try clear hfz6_0
      try clear hfz6_1
      try clear hfz6_2
      try clear hfz6_3
      try clear hfz6_4
      try clear hfz6_5
      try clear p2
      obtain ⟨kq, x3_23, rfl, HA, HJ23, BK153, HB⟩ := hcut; cases kq with
      | zero => exact absurd HA.out (by simp [treillageref06_encode.j2])
      | succ kj23 =>
       have H := HA.out; clear HA; simp only [treillageref06_encode.j2] at H; replace H := Option.bind_eq_some_iff.mp H; obtain ⟨t164, A300, H⟩ := H; replace H : (if t164 = true then ((treillageref06_text.f a0_4).bind fun t165 => (if x3_23.size + t165.size ≤ 9223372036854775807 then (treillageref06_encode.j3 kj23 (x3_23 ++ t165) t157 a0_0 a0_1 a0_2 a0_3 a0_4 a0_5) else (none))) else (treillageref06_encode.j3 kj23 x3_23 t157 a0_0 a0_1 a0_2 a0_3 a0_4 a0_5)) = some r := H; have A30 := aA A300; clear A300; have HC31 := aA H; clear H; go_upto_if 35 with (first | ((with_reducible refine gate_callee (f := 26) rfl ?_); refine goesL_ (some 35) rfl rfl Tryd.func26 (by kernel_rfl) rfl #[.string t157, .int .u8 110] rfl (by (try simp only [List.map_toArray, List.map_cons, List.map_nil]); first | done | rfl | (simp only [List.length_drop, List.length_take]; rfl)) ?_; (with_reducible refine (treillageref06_in.calls kj23 t157 110 t164 _ A30.out).mono ?_); rintro e w' ⟨rfl, ⟨nd, rfl⟩⟩; refine ⟨_, rfl, ?_⟩))
       (try simp only [Act.put, List.setIfInBounds_toArray, List.set_cons_zero, List.set_cons_succ]); go_cut [3] (fun v3 wc => ∃ (kq : Nat) (x3_30 : ByteArray), v3 = .string x3_30 ∧ Aside0 (treillageref06_encode.j3 kq x3_30 t157 a0_0 a0_1 a0_2 a0_3 a0_4 a0_5 = some r) ∧ Aside0 (kq ≤ kj23) ∧ Aside0 (wc.heap[gb153]? = some (.cells #[.int .i64 a0_0, .int .i64 a0_1, .int .i64 a0_2, .int .i64 a0_3, .string a0_4, .string a0_5] 29 (0, 0))) ∧ Aside0 (Below w.heap.size w wc))
       case first =>
        have H := HC31.out; clear HC31; by_cases c32 : t164 = true
        ·subst c32; have H1 : ((treillageref06_text.f a0_4).bind fun t165 => (if x3_23.size + t165.size ≤ 9223372036854775807 then (treillageref06_encode.j3 kj23 (x3_23 ++ t165) t157 a0_0 a0_1 a0_2 a0_3 a0_4 a0_5) else (none))) = some r := by rw [if_pos rfl] at H; exact H
         clear H; have H := H1; clear H1; replace H := Option.bind_eq_some_iff.mp H; obtain ⟨t165, A330, H⟩ := H; replace H : (if x3_23.size + t165.size ≤ 9223372036854775807 then (treillageref06_encode.j3 kj23 (x3_23 ++ t165) t157 a0_0 a0_1 a0_2 a0_3 a0_4 a0_5) else (none)) = some r := H; have A33 := aA A330; clear A330; by_cases c34 : x3_23.size + t165.size ≤ 9223372036854775807
         rotate_left
         ·rw [if_neg c34] at H; exact absurd H (by simp)
         rw [if_pos c34] at H; have c34b0 := eq_true c34; have c34b1 : decide (x3_23.size + t165.size ≤ 9223372036854775807) = true := decide_eq_true c34; try have c34b2 : (9223372036854775807 < x3_23.size + t165.size) = False := eq_false (Nat.not_lt.2 c34)
         have H' := aA H; clear H; have hcz35_0 : wc.cell? ⟨gb153, 0, none⟩ = some (.int .i64 a0_0) := (blk_cell BK153.out 0).trans rfl; have hcz35_1 : wc.cell? ⟨gb153, 1, none⟩ = some (.int .i64 a0_1) := (blk_cell BK153.out 1).trans rfl; have hcz35_2 : wc.cell? ⟨gb153, 2, none⟩ = some (.int .i64 a0_2) := (blk_cell BK153.out 2).trans rfl; have hcz35_3 : wc.cell? ⟨gb153, 3, none⟩ = some (.int .i64 a0_3) := (blk_cell BK153.out 3).trans rfl; have hcz35_4 : wc.cell? ⟨gb153, 4, none⟩ = some (.string a0_4) := (blk_cell BK153.out 4).trans rfl; have hcz35_5 : wc.cell? ⟨gb153, 5, none⟩ = some (.string a0_5) := (blk_cell BK153.out 5).trans rfl; have hfz35_0 := blk_frozen BK153.out 0; have hfz35_1 := blk_frozen BK153.out 1; have hfz35_2 := blk_frozen BK153.out 2; have hfz35_3 := blk_frozen BK153.out 3; have hfz35_4 := blk_frozen BK153.out 4; have hfz35_5 := blk_frozen BK153.out 5; go_wp2_with (first | ((with_reducible refine gate_callee (f := 52) rfl ?_); refine goesL_ (some 39) rfl rfl Tryd.func52 (by kernel_rfl) rfl #[.string a0_4] rfl (by (try simp only [List.map_toArray, List.map_cons, List.map_nil]); first | done | rfl | (simp only [List.length_drop, List.length_take]; rfl)) ?_; (with_reducible refine (treillageref06_text.calls a0_4 t165 _ A33.out).mono ?_); rintro e w36 ⟨rfl, hb⟩; refine ⟨_, rfl, ?_⟩; have n0_ := aA (blk_below (g := gb153) (o := .cells #[.int .i64 a0_0, .int .i64 a0_1, .int .i64 a0_2, .int .i64 a0_3, .string a0_4, .string a0_5] 29 (0, 0)) (bku BK153.out) hb); have n1_ := aA (below_step (bls HB.out) hb); clear BK153 HB; have BK153 := n0_; have HB := n1_; clear n0_ n1_; (try clear hb); (try clear hb2); (try clear hk); (try clear hi)))
         go_meet
         case rel => exact ⟨_, (x3_23 ++ t165), (by first | rfl | (simp; done) | (simp [*]; done)), H', ⟨by have := HJ3.out; have := HJ16.out; have := HJ23.out; first | omega | exact Nat.le_refl _⟩, ⟨by (with_reducible repeat (first | refine blk_drewN ?_ _ | refine blk_drew ?_ | refine blk_alloc ?_ _)); exact BK153.out⟩, ⟨by repeat (first | (with_reducible first | exact HB.out | apply below_alloc | apply pw_below_drewN | apply below_drew1 | refine below_set ?_ GE153.out) | exact HB.out)⟩⟩
        ·replace c32 := Bool.eq_false_iff.mpr c32; subst c32; have H1 : (treillageref06_encode.j3 kj23 x3_23 t157 a0_0 a0_1 a0_2 a0_3 a0_4 a0_5) = some r := by rw [if_neg (show ¬ (false = true) by decide)] at H; exact H
         clear H; have H := H1; clear H1; have H' := aA H; clear H; go_wp2; go_meet
         case rel => exact ⟨_, (x3_23), (by first | rfl | (simp; done) | (simp [*]; done)), H', ⟨by have := HJ3.out; have := HJ16.out; have := HJ23.out; first | omega | exact Nat.le_refl _⟩, ⟨by (with_reducible repeat (first | refine blk_drewN ?_ _ | refine blk_drew ?_ | refine blk_alloc ?_ _)); exact BK153.out⟩, ⟨by repeat (first | (with_reducible first | exact HB.out | apply below_alloc | apply pw_below_drewN | apply below_drew1 | refine below_set ?_ GE153.out) | exact HB.out)⟩⟩
       case rest =>
        clear HC31; try clear c1
        try clear c2
        try clear p2
        try clear c3
        try clear c5
        try clear hcv9
        try clear c11
        try clear c13
        try clear c13b0
        try clear c13b1
        try clear c13b2
        try clear c18
        try clear c20
        try clear c20b0
        try clear c20b1
        try clear c20b2
        try clear c25
        try clear c26
        try clear c27
        try clear c27b0
        try clear c27b1
        try clear c27b2
        try clear c32
        try clear c34
        try clear c34b0
        try clear c34b1
        try clear c34b2
        try clear hcz10_0
        try clear hcz10_1
        try clear hcz10_2
        try clear hcz10_3
        try clear hcz10_4
        try clear hcz10_5
        try clear hcz14_0
        try clear hcz14_1
        try clear hcz14_2
        try clear hcz14_3
        try clear hcz14_4
        try clear hcz14_5
        try clear hcz21_0
        try clear hcz21_1
        try clear hcz21_2
        try clear hcz21_3
        try clear hcz21_4
        try clear hcz21_5
        try clear hcz28_0
        try clear hcz28_1
        try clear hcz28_2
        try clear hcz28_3
        try clear hcz28_4
        try clear hcz28_5
        try clear hcz35_0
        try clear hcz35_1
        try clear hcz35_2
        try clear hcz35_3
        try clear hcz35_4
        try clear hcz35_5
        try clear hcz6_0
        try clear hcz6_1
        try clear hcz6_2
        try clear hcz6_3
        try clear hcz6_4
        try clear hcz6_5
        try clear hfz10_0
        try clear hfz10_1
        try clear hfz10_2
        try clear hfz10_3
        try clear hfz10_4
        try clear hfz10_5
        try clear hfz14_0
        try clear hfz14_1
        try clear hfz14_2
        try clear hfz14_3
        try clear hfz14_4
        try clear hfz14_5
        try clear hfz21_0
        try clear hfz21_1
        try clear hfz21_2
        try clear hfz21_3
        try clear hfz21_4
        try clear hfz21_5
        try clear hfz28_0
        try clear hfz28_1
        try clear hfz28_2
        try clear hfz28_3
        try clear hfz28_4
        try clear hfz28_5
        try clear hfz35_0
        try clear hfz35_1
        try clear hfz35_2
        try clear hfz35_3
        try clear hfz35_4
        try clear hfz35_5
        try clear hfz6_0
        try clear hfz6_1
        try clear hfz6_2
        try clear hfz6_3
        try clear hfz6_4
        try clear hfz6_5
        try clear p2
        obtain ⟨kq, x3_30, rfl, HA, HJ30, BK153, HB⟩ := hcut; cases kq with
        | zero => exact absurd HA.out (by simp [treillageref06_encode.j3])
        | succ kj30 =>
         have H := HA.out; clear HA; simp only [treillageref06_encode.j3] at H; replace H := Option.bind_eq_some_iff.mp H; obtain ⟨t166, A370, H⟩ := H; replace H : (if t166 = true then ((treillageref06_text.f a0_5).bind fun t167 => (if x3_30.size + t167.size ≤ 9223372036854775807 then (some (x3_30 ++ t167)) else (none))) else (some x3_30)) = some r := H; have A37 := aA A370; clear A370; by_cases c38 : t166 = true
         ·subst c38; have H1 : ((treillageref06_text.f a0_5).bind fun t167 => (if x3_30.size + t167.size ≤ 9223372036854775807 then (some (x3_30 ++ t167)) else (none))) = some r := by rw [if_pos rfl] at H; exact H
          clear H; have H := H1; clear H1; replace H := Option.bind_eq_some_iff.mp H; obtain ⟨t167, A390, H⟩ := H; replace H : (if x3_30.size + t167.size ≤ 9223372036854775807 then (some (x3_30 ++ t167)) else (none)) = some r := H; have A39 := aA A390; clear A390; by_cases c40 : x3_30.size + t167.size ≤ 9223372036854775807
          rotate_left
          ·rw [if_neg c40] at H; exact absurd H (by simp)
          rw [if_pos c40] at H; have c40b0 := eq_true c40; have c40b1 : decide (x3_30.size + t167.size ≤ 9223372036854775807) = true := decide_eq_true c40; try have c40b2 : (9223372036854775807 < x3_30.size + t167.size) = False := eq_false (Nat.not_lt.2 c40)
          obtain rfl := Option.some.inj H; go_wp2_with (first | ((with_reducible refine gate_callee (f := 26) rfl ?_); refine goesL_ (some 42) rfl rfl Tryd.func26 (by kernel_rfl) rfl #[.string t157, .int .u8 120] rfl (by (try simp only [List.map_toArray, List.map_cons, List.map_nil]); first | done | rfl | (simp only [List.length_drop, List.length_take]; rfl)) ?_; (with_reducible refine (treillageref06_in.calls kj30 t157 120 true _ A37.out).mono ?_); rintro e w' ⟨rfl, ⟨nd, rfl⟩⟩; refine ⟨_, rfl, ?_⟩; have hcz41_0 : wc.cell? ⟨gb153, 0, none⟩ = some (.int .i64 a0_0) := (blk_cell BK153.out 0).trans rfl; have hcz41_1 : wc.cell? ⟨gb153, 1, none⟩ = some (.int .i64 a0_1) := (blk_cell BK153.out 1).trans rfl; have hcz41_2 : wc.cell? ⟨gb153, 2, none⟩ = some (.int .i64 a0_2) := (blk_cell BK153.out 2).trans rfl; have hcz41_3 : wc.cell? ⟨gb153, 3, none⟩ = some (.int .i64 a0_3) := (blk_cell BK153.out 3).trans rfl; have hcz41_4 : wc.cell? ⟨gb153, 4, none⟩ = some (.string a0_4) := (blk_cell BK153.out 4).trans rfl; have hcz41_5 : wc.cell? ⟨gb153, 5, none⟩ = some (.string a0_5) := (blk_cell BK153.out 5).trans rfl; have hfz41_0 := blk_frozen BK153.out 0; have hfz41_1 := blk_frozen BK153.out 1; have hfz41_2 := blk_frozen BK153.out 2; have hfz41_3 := blk_frozen BK153.out 3; have hfz41_4 := blk_frozen BK153.out 4; have hfz41_5 := blk_frozen BK153.out 5) | ((with_reducible refine gate_callee (f := 52) rfl ?_); refine goesL_ (some 46) rfl rfl Tryd.func52 (by kernel_rfl) rfl #[.string a0_5] rfl (by (try simp only [List.map_toArray, List.map_cons, List.map_nil]); first | done | rfl | (simp only [List.length_drop, List.length_take]; rfl)) ?_; (with_reducible refine (treillageref06_text.calls a0_5 t167 _ A39.out).mono ?_); rintro e w42 ⟨rfl, hb⟩; refine ⟨_, rfl, ?_⟩; have n0_ := aA (blk_below (g := gb153) (o := .cells #[.int .i64 a0_0, .int .i64 a0_1, .int .i64 a0_2, .int .i64 a0_3, .string a0_4, .string a0_5] 29 (0, 0)) (bku BK153.out) hb); have n1_ := aA (below_step (bls HB.out) hb); clear BK153 HB; have BK153 := n0_; have HB := n1_; clear n0_ n1_; (try clear hb); (try clear hb2); (try clear hk); (try clear hi)))
          go_ret
          exact ⟨by first | rfl | (simp [errW_none, errW_some] <;> rfl) | (simp [*, errW_none, errW_some] <;> rfl), by repeat (first | (with_reducible first | exact HB.out | apply below_alloc | apply pw_below_drewN | apply below_drew1 | refine below_set ?_ GE153.out) | exact HB.out)⟩
         ·replace c38 := Bool.eq_false_iff.mpr c38; subst c38; have H1 : (some x3_30) = some r := by rw [if_neg (show ¬ (false = true) by decide)] at H; exact H
          clear H; have H := H1; clear H1; obtain rfl := Option.some.inj H; go_wp2_with (first | ((with_reducible refine gate_callee (f := 26) rfl ?_); refine goesL_ (some 42) rfl rfl Tryd.func26 (by kernel_rfl) rfl #[.string t157, .int .u8 120] rfl (by (try simp only [List.map_toArray, List.map_cons, List.map_nil]); first | done | rfl | (simp only [List.length_drop, List.length_take]; rfl)) ?_; (with_reducible refine (treillageref06_in.calls kj30 t157 120 false _ A37.out).mono ?_); rintro e w' ⟨rfl, ⟨nd, rfl⟩⟩; refine ⟨_, rfl, ?_⟩))
          go_ret
          exact ⟨by first | rfl | (simp [errW_none, errW_some] <;> rfl) | (simp [*, errW_none, errW_some] <;> rfl), by repeat (first | (with_reducible first | exact HB.out | apply below_alloc | apply pw_below_drewN | apply below_drew1 | refine below_set ?_ GE153.out) | exact HB.out)⟩

end Go.Proofs.YtooefecjkgdpbaaDoor.PA
