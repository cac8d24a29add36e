-- Written by wip/hprint/hprint.py (a program of this session, over the print): not typed by hand
import Derived.Test.YtooefecjkgdpbaaDoorPAx0
import Derived.Test.YtooefecjkgdpbaaDoorPAx3
import Derived.Test.YtooefecjkgdpbaaDoorPAx4
import Derived.Test.YtooefecjkgdpbaaDoorPAx6
import Derived.Test.YtooefecjkgdpbaaDoorPAx7
namespace Go.Proofs.YtooefecjkgdpbaaDoor.PA
open Go.RowKit Go.Proofs.YtooefecjkgdpbaaDoorW.PrintWords Go.Proofs.YtooefecjkgdpbaaDoorW.PrintLast Go.Proofs.YtooefecjkgdpbaaDoorW.PrintMore
attribute [local go_sem] max2_int min2_int max_two min_two max_three min_three max_four min_four   -- for this text's walks alone
open Go.Proofs.YtooefecjkgdpbaaDoorH
set_option linter.unusedVariables false
set_option linter.unusedSimpArgs false

/-! ### treillageref06_Print: function 14 -/
def treillageref06_Print.l0 : Nat → ByteArray → ByteArray → Int → Int → Int → Int → Int → ByteArray → ByteArray → Option (ByteArray)
 | 0, _, _, _, _, _, _, _, _, _ => none
 | k + 1, x3, x4, x5, x120000, x120001, x120002, x120003, x120004, x120005 => if x5 < (x4.size : Int) then (if 0 ≤ x5 then (if (bt x4 x5) = 105 then (if x3.size + 1 ≤ 9223372036854775807 then ((treillageref06_Digits.f k x120001).bind fun t126 => (if (x3 ++ (⟨#[32]⟩ : ByteArray)).size + t126.size ≤ 9223372036854775807 then (treillageref06_Print.l0 k ((x3 ++ (⟨#[32]⟩ : ByteArray)) ++ t126) x4 (wrap64 (x5 + 1)) x120000 x120001 x120002 x120003 x120004 x120005) else (none))) else (none)) else (if (bt x4 x5) = 116 then (if x3.size + 1 ≤ 9223372036854775807 then ((treillageref06_Digits.f k x120002).bind fun t127 => (if (x3 ++ (⟨#[32]⟩ : ByteArray)).size + t127.size ≤ 9223372036854775807 then (treillageref06_Print.l0 k ((x3 ++ (⟨#[32]⟩ : ByteArray)) ++ t127) x4 (wrap64 (x5 + 1)) x120000 x120001 x120002 x120003 x120004 x120005) else (none))) else (none)) else (if (bt x4 x5) = 97 then (if x3.size + 1 ≤ 9223372036854775807 then ((treillageref06_Digits.f k x120003).bind fun t128 => (if (x3 ++ (⟨#[32]⟩ : ByteArray)).size + t128.size ≤ 9223372036854775807 then (treillageref06_Print.l0 k ((x3 ++ (⟨#[32]⟩ : ByteArray)) ++ t128) x4 (wrap64 (x5 + 1)) x120000 x120001 x120002 x120003 x120004 x120005) else (none))) else (none)) else (if (bt x4 x5) = 110 then (if x3.size + 2 ≤ 9223372036854775807 then (if (x3 ++ (⟨#[32, 91]⟩ : ByteArray)).size + x120004.size ≤ 9223372036854775807 then (if ((x3 ++ (⟨#[32, 91]⟩ : ByteArray)) ++ x120004).size + 1 ≤ 9223372036854775807 then (treillageref06_Print.l0 k (((x3 ++ (⟨#[32, 91]⟩ : ByteArray)) ++ x120004) ++ (⟨#[93]⟩ : ByteArray)) x4 (wrap64 (x5 + 1)) x120000 x120001 x120002 x120003 x120004 x120005) else (none)) else (none)) else (none)) else (if (bt x4 x5) = 120 then (if x3.size + 2 ≤ 9223372036854775807 then (if (x3 ++ (⟨#[32, 91]⟩ : ByteArray)).size + x120005.size ≤ 9223372036854775807 then (if ((x3 ++ (⟨#[32, 91]⟩ : ByteArray)) ++ x120005).size + 1 ≤ 9223372036854775807 then (treillageref06_Print.l0 k (((x3 ++ (⟨#[32, 91]⟩ : ByteArray)) ++ x120005) ++ (⟨#[93]⟩ : ByteArray)) x4 (wrap64 (x5 + 1)) x120000 x120001 x120002 x120003 x120004 x120005) else (none)) else (none)) else (none)) else (treillageref06_Print.l0 k x3 x4 (wrap64 (x5 + 1)) x120000 x120001 x120002 x120003 x120004 x120005)))))) else (none)) else (some x3)
def treillageref06_Print.f (k : Nat) (a0_0 : Int) (a0_1 : Int) (a0_2 : Int) (a0_3 : Int) (a0_4 : ByteArray) (a0_5 : ByteArray) : Option (ByteArray) := (treillageref06_May.f k a0_0 a0_1 a0_2 a0_3 a0_4 a0_5).bind fun t120 => (if t120 = true then ((some (([(⟨#[101, 108, 101, 109, 101, 110, 116]⟩ : ByteArray), (⟨#[116, 101, 120, 116]⟩ : ByteArray), (⟨#[99, 111, 109, 109, 101, 110, 116]⟩ : ByteArray), (⟨#[105, 110, 115, 101, 114, 116]⟩ : ByteArray), (⟨#[114, 101, 109, 111, 118, 101]⟩ : ByteArray), (⟨#[115, 101, 116]⟩ : ByteArray), (⟨#[117, 110, 115, 101, 116]⟩ : ByteArray), (⟨#[99, 104, 97, 110, 103, 101]⟩ : ByteArray)] : List ByteArray) : List ByteArray)).bind fun y121 => (if 0 ≤ (wrap64 (a0_0 - 1)) then (if (wrap64 (a0_0 - 1)) < (y121.length : Int) then ((treillageref06_has.f k a0_0).bind fun t125 => (treillageref06_Print.l0 k (rdOf ByteArray.empty y121 (wrap64 (a0_0 - 1))) t125 0 a0_0 a0_1 a0_2 a0_3 a0_4 a0_5)) else (none)) else (none))) else (some (⟨#[]⟩ : ByteArray)))
theorem treillageref06_Print.mono_l : ∀ k, (∀ y0 y1 y2 y3 y4 y5 y6 y7 y8, LeO (treillageref06_Print.l0 k y0 y1 y2 y3 y4 y5 y6 y7 y8) (treillageref06_Print.l0 (k + 1) y0 y1 y2 y3 y4 y5 y6 y7 y8))
 | 0 => fun _ _ _ _ _ _ _ _ _ r h => by simp [treillageref06_Print.l0] at h
 | k + 1 => by
  have ih0 := treillageref06_Print.mono_l k
  ·intro y0 y1 y2 y3 y4 y5 y6 y7 y8
   unfold treillageref06_Print.l0; repeat' first
   | (with_reducible exact ih0 _ _ _ _ _ _ _ _ _)
   | (with_reducible exact treillageref06_Digits.mono _ _)
   | (with_reducible exact treillageref06_May.mono _ _ _ _ _ _ _)
   | (with_reducible exact treillageref06_has.mono _ _)
   | (with_reducible exact LeO.refl _)
   | (with_reducible exact LeO.none _)
   | (with_reducible refine LeO.ite ?_ ?_)
   | (with_reducible refine LeO.bind ?_ (fun _ => ?_))
   | exact ih0 _ _ _ _ _ _ _ _ _
   | exact treillageref06_Digits.mono _ _
   | exact treillageref06_May.mono _ _ _ _ _ _ _
   | exact treillageref06_has.mono _ _
   | exact LeO.none _
   | refine LeO.ite ?_ ?_
   | refine LeO.bind ?_ (fun _ => ?_)
theorem treillageref06_Print.mono : ∀ a0 a1 a2 a3 a4 a5 k, LeO (treillageref06_Print.f k a0 a1 a2 a3 a4 a5) (treillageref06_Print.f (k + 1) a0 a1 a2 a3 a4 a5) := by
 intro a0 a1 a2 a3 a4 a5 k
 have ih0 := treillageref06_Print.mono_l k; unfold treillageref06_Print.f
 repeat' first
   | (with_reducible exact ih0 _ _ _ _ _ _ _ _ _)
   | (with_reducible exact treillageref06_Digits.mono _ _)
   | (with_reducible exact treillageref06_May.mono _ _ _ _ _ _ _)
   | (with_reducible exact treillageref06_has.mono _ _)
   | (with_reducible exact LeO.refl _)
   | (with_reducible exact LeO.none _)
   | (with_reducible refine LeO.ite ?_ ?_)
   | (with_reducible refine LeO.bind ?_ (fun _ => ?_))
   | exact ih0 _ _ _ _ _ _ _ _ _
   | exact treillageref06_Digits.mono _ _
   | exact treillageref06_May.mono _ _ _ _ _ _ _
   | exact treillageref06_has.mono _ _
   | exact LeO.none _
   | refine LeO.ite ?_ ?_
   | refine LeO.bind ?_ (fun _ => ?_)
set_option maxHeartbeats 8000000 in
set_option maxRecDepth 100000 in
theorem treillageref06_Print.calls (k : Nat) (a0_0 : Int) (a0_1 : Int) (a0_2 : Int) (a0_3 : Int) (a0_4 : ByteArray) (a0_5 : ByteArray) (r : ByteArray) (w : World) (h : treillageref06_Print.f k a0_0 a0_1 a0_2 a0_3 a0_4 a0_5 = some r) :
  Calls Tryd.prog 14 #[.agg #[.int .i64 a0_0, .int .i64 a0_1, .int .i64 a0_2, .int .i64 a0_3, .string a0_4, .string a0_5]] w fun e w' => e = .returned (.string r) ∧ Below w.heap.size w w' := by
 have hu29 := Tryd.underlying29; have HB := aA (Below.refl w.heap.size w); have H : ((treillageref06_May.f k a0_0 a0_1 a0_2 a0_3 a0_4 a0_5).bind fun t120 => (if t120 = true then ((some (([(⟨#[101, 108, 101, 109, 101, 110, 116]⟩ : ByteArray), (⟨#[116, 101, 120, 116]⟩ : ByteArray), (⟨#[99, 111, 109, 109, 101, 110, 116]⟩ : ByteArray), (⟨#[105, 110, 115, 101, 114, 116]⟩ : ByteArray), (⟨#[114, 101, 109, 111, 118, 101]⟩ : ByteArray), (⟨#[115, 101, 116]⟩ : ByteArray), (⟨#[117, 110, 115, 101, 116]⟩ : ByteArray), (⟨#[99, 104, 97, 110, 103, 101]⟩ : ByteArray)] : List ByteArray) : List ByteArray)).bind fun y121 => (if 0 ≤ (wrap64 (a0_0 - 1)) then (if (wrap64 (a0_0 - 1)) < (y121.length : Int) then ((treillageref06_has.f k a0_0).bind fun t125 => (treillageref06_Print.l0 k (rdOf ByteArray.empty y121 (wrap64 (a0_0 - 1))) t125 0 a0_0 a0_1 a0_2 a0_3 a0_4 a0_5)) else (none)) else (none))) else (some (⟨#[]⟩ : ByteArray)))) = some r := h; clear h; replace H := Option.bind_eq_some_iff.mp H; obtain ⟨t120, A20, H⟩ := H; replace H : (if t120 = true then ((some (([(⟨#[101, 108, 101, 109, 101, 110, 116]⟩ : ByteArray), (⟨#[116, 101, 120, 116]⟩ : ByteArray), (⟨#[99, 111, 109, 109, 101, 110, 116]⟩ : ByteArray), (⟨#[105, 110, 115, 101, 114, 116]⟩ : ByteArray), (⟨#[114, 101, 109, 111, 118, 101]⟩ : ByteArray), (⟨#[115, 101, 116]⟩ : ByteArray), (⟨#[117, 110, 115, 101, 116]⟩ : ByteArray), (⟨#[99, 104, 97, 110, 103, 101]⟩ : ByteArray)] : List ByteArray) : List ByteArray)).bind fun y121 => (if 0 ≤ (wrap64 (a0_0 - 1)) then (if (wrap64 (a0_0 - 1)) < (y121.length : Int) then ((treillageref06_has.f k a0_0).bind fun t125 => (treillageref06_Print.l0 k (rdOf ByteArray.empty y121 (wrap64 (a0_0 - 1))) t125 0 a0_0 a0_1 a0_2 a0_3 a0_4 a0_5)) else (none)) else (none))) else (some (⟨#[]⟩ : ByteArray))) = some r := H; have A2 := aA A20; clear A20; by_cases c3 : t120 = true
 ·subst c3; have H1 : ((some (([(⟨#[101, 108, 101, 109, 101, 110, 116]⟩ : ByteArray), (⟨#[116, 101, 120, 116]⟩ : ByteArray), (⟨#[99, 111, 109, 109, 101, 110, 116]⟩ : ByteArray), (⟨#[105, 110, 115, 101, 114, 116]⟩ : ByteArray), (⟨#[114, 101, 109, 111, 118, 101]⟩ : ByteArray), (⟨#[115, 101, 116]⟩ : ByteArray), (⟨#[117, 110, 115, 101, 116]⟩ : ByteArray), (⟨#[99, 104, 97, 110, 103, 101]⟩ : ByteArray)] : List ByteArray) : List ByteArray)).bind fun y121 => (if 0 ≤ (wrap64 (a0_0 - 1)) then (if (wrap64 (a0_0 - 1)) < (y121.length : Int) then ((treillageref06_has.f k a0_0).bind fun t125 => (treillageref06_Print.l0 k (rdOf ByteArray.empty y121 (wrap64 (a0_0 - 1))) t125 0 a0_0 a0_1 a0_2 a0_3 a0_4 a0_5)) else (none)) else (none))) = some r := by rw [if_pos rfl] at H; exact H
  clear H; have H := H1; clear H1; obtain ⟨y121, hy121⟩ : ∃ y_ : List ByteArray, y_ = (([(⟨#[101, 108, 101, 109, 101, 110, 116]⟩ : ByteArray), (⟨#[116, 101, 120, 116]⟩ : ByteArray), (⟨#[99, 111, 109, 109, 101, 110, 116]⟩ : ByteArray), (⟨#[105, 110, 115, 101, 114, 116]⟩ : ByteArray), (⟨#[114, 101, 109, 111, 118, 101]⟩ : ByteArray), (⟨#[115, 101, 116]⟩ : ByteArray), (⟨#[117, 110, 115, 101, 116]⟩ : ByteArray), (⟨#[99, 104, 97, 110, 103, 101]⟩ : ByteArray)] : List ByteArray)) := ⟨_, rfl⟩; replace H : (if 0 ≤ (wrap64 (a0_0 - 1)) then (if (wrap64 (a0_0 - 1)) < (y121.length : Int) then ((treillageref06_has.f k a0_0).bind fun t125 => (treillageref06_Print.l0 k (rdOf ByteArray.empty y121 (wrap64 (a0_0 - 1))) t125 0 a0_0 a0_1 a0_2 a0_3 a0_4 a0_5)) else (none)) else (none)) = some r := by first | (rw [hy121]; with_reducible exact H) | (have H2_ := (Option.bind_some _ _).symm.trans H; rw [hy121]; with_reducible exact H2_) | (have H2_ := (Option.bind_some _ _).symm.trans H; with_reducible exact H2_) | with_reducible exact H | (rw [hy121]; exact H) | exact H
  have Ny121 := aA hy121; clear hy121; obtain ⟨ji4, hji4⟩ : ∃ j_ : Int, (wrap64 (a0_0 - 1)) = j_ := ⟨_, rfl⟩; replace H : (if 0 ≤ (ji4) then (if (ji4) < (y121.length : Int) then ((treillageref06_has.f k a0_0).bind fun t125 => (treillageref06_Print.l0 k (rdOf ByteArray.empty y121 (ji4)) t125 0 a0_0 a0_1 a0_2 a0_3 a0_4 a0_5)) else (none)) else (none)) = some r := by first | (rw [hji4] at H; exact H) | (simp only [hji4] at H ⊢; exact H)
  (try rw [hji4] at A2); have hji4w : (IntKind.i64.wrap (a0_0 - 1)) = ji4 := (i64_w _).trans hji4; by_cases c5 : 0 ≤ (ji4)
  rotate_left
  ·rw [if_neg c5] at H; exact absurd H (by simp)
  rw [if_pos c5] at H; have c5b0 : decide (0 ≤ (ji4)) = true := decide_eq_true c5; clear c5; by_cases c6 : (ji4) < (y121.length : Int)
  rotate_left
  ·rw [if_neg c6] at H; exact absurd H (by simp)
  rw [if_pos c6] at H; have c6b0 : decide ((ji4) < (y121.length : Int)) = true := decide_eq_true c6; clear c6; replace H := Option.bind_eq_some_iff.mp H; obtain ⟨t125, A70, H⟩ := H; replace H : (treillageref06_Print.l0 k (rdOf ByteArray.empty y121 (ji4)) t125 0 a0_0 a0_1 a0_2 a0_3 a0_4 a0_5) = some r := H; have A7 := aA A70; clear A70; have H' := aA H; clear H; go_enter Tryd.func14, Tryd.ntmps14; go_wp2_with (first | ((with_reducible refine gate_dst (N := 1) rfl ?_); refine box_event ?hg (N := 1) ?hd (cs := #[.int .i64 a0_0, .int .i64 a0_1, .int .i64 a0_2, .int .i64 a0_3, .string a0_4, .string a0_5]) (t := 29) ?hr ?_; (case hd => rfl); (case hg => rfl); (case hr => first | (go_simp; done) | (go_simp; rfl)); intro gb119 hg w8 hbox hb; have n0_ := aA (below_step (blw HB.out) hb); have n1_ := aA (hbox); have n2_ := aA ((by rw [hg]; exact (below_size (blw HB.out)) : w.heap.size ≤ gb119)); have n3_ := aA ((by rw [hg]; exact (below_size (blw HB.out)) : w.heap.size ≤ gb119)); clear HB; have HB := n0_; have BK119 := n1_; have GW119 := n2_; have GE119 := n3_; clear n0_ n1_ n2_ n3_ hb hbox hg; have hcz9_0 : w8.cell? ⟨gb119, 0, none⟩ = some (.int .i64 a0_0) := (blk_cell BK119.out 0).trans rfl; have hcz9_1 : w8.cell? ⟨gb119, 1, none⟩ = some (.int .i64 a0_1) := (blk_cell BK119.out 1).trans rfl; have hcz9_2 : w8.cell? ⟨gb119, 2, none⟩ = some (.int .i64 a0_2) := (blk_cell BK119.out 2).trans rfl; have hcz9_3 : w8.cell? ⟨gb119, 3, none⟩ = some (.int .i64 a0_3) := (blk_cell BK119.out 3).trans rfl; have hcz9_4 : w8.cell? ⟨gb119, 4, none⟩ = some (.string a0_4) := (blk_cell BK119.out 4).trans rfl; have hcz9_5 : w8.cell? ⟨gb119, 5, none⟩ = some (.string a0_5) := (blk_cell BK119.out 5).trans rfl; have hfz9_0 := blk_frozen BK119.out 0; have hfz9_1 := blk_frozen BK119.out 1; have hfz9_2 := blk_frozen BK119.out 2; have hfz9_3 := blk_frozen BK119.out 3; have hfz9_4 := blk_frozen BK119.out 4; have hfz9_5 := blk_frozen BK119.out 5) | ((with_reducible refine gate_callee (f := 12) rfl ?_); refine goesL_ (some 7) rfl rfl Tryd.func12 (by kernel_rfl) rfl #[.agg #[.int .i64 a0_0, .int .i64 a0_1, .int .i64 a0_2, .int .i64 a0_3, .string a0_4, .string a0_5]] rfl (by (try simp only [List.map_toArray, List.map_cons, List.map_nil]); first | done | rfl | (simp only [List.length_drop, List.length_take]; rfl)) ?_; (with_reducible refine (treillageref06_May.calls k a0_0 a0_1 a0_2 a0_3 a0_4 a0_5 true _ A2.out).mono ?_); rintro e w10 ⟨rfl, hb⟩; refine ⟨_, rfl, ?_⟩; have n0_ := aA (blk_below (g := gb119) (o := .cells #[.int .i64 a0_0, .int .i64 a0_1, .int .i64 a0_2, .int .i64 a0_3, .string a0_4, .string a0_5] 29 (0, 0)) (bku BK119.out) hb); have n1_ := aA (below_step (bls HB.out) hb); clear BK119 HB; have BK119 := n0_; have HB := n1_; clear n0_ n1_; (try clear hb); (try clear hb2); (try clear hk); (try clear hi)) | ((with_reducible refine gate_dst (N := 9) rfl ?_); refine Kd.R_lit Kd.string _ 9 ?hg (N := 9) ?hd (xs := ([(⟨#[101, 108, 101, 109, 101, 110, 116]⟩ : ByteArray), (⟨#[116, 101, 120, 116]⟩ : ByteArray), (⟨#[99, 111, 109, 109, 101, 110, 116]⟩ : ByteArray), (⟨#[105, 110, 115, 101, 114, 116]⟩ : ByteArray), (⟨#[114, 101, 109, 111, 118, 101]⟩ : ByteArray), (⟨#[115, 101, 116]⟩ : ByteArray), (⟨#[117, 110, 115, 101, 116]⟩ : ByteArray), (⟨#[99, 104, 97, 110, 103, 101]⟩ : ByteArray)] : List ByteArray)) (inner := [.string (⟨#[101, 108, 101, 109, 101, 110, 116]⟩ : ByteArray), .string (⟨#[116, 101, 120, 116]⟩ : ByteArray), .string (⟨#[99, 111, 109, 109, 101, 110, 116]⟩ : ByteArray), .string (⟨#[105, 110, 115, 101, 114, 116]⟩ : ByteArray), .string (⟨#[114, 101, 109, 111, 118, 101]⟩ : ByteArray), .string (⟨#[115, 101, 116]⟩ : ByteArray), .string (⟨#[117, 110, 115, 101, 116]⟩ : ByteArray), .string (⟨#[99, 104, 97, 110, 103, 101]⟩ : ByteArray)]) (ok := fun _ => True) (okp := fun _ => True) ?hr ?hp (fun _ hk => hk) trivial (Below.refl _ _) (Nat.le_refl _) (by simp) ?_; (case hd => rfl); (case hg => rfl); (case hr => first | (go_simp; done) | (go_simp; rfl)); (case hp => exact (Reps.one (show Kd.M Kd.string _ _ _ (⟨#[101, 108, 101, 109, 101, 110, 116]⟩ : ByteArray) [.string (⟨#[101, 108, 101, 109, 101, 110, 116]⟩ : ByteArray)] from rfl) (Reps.one (show Kd.M Kd.string _ _ _ (⟨#[116, 101, 120, 116]⟩ : ByteArray) [.string (⟨#[116, 101, 120, 116]⟩ : ByteArray)] from rfl) (Reps.one (show Kd.M Kd.string _ _ _ (⟨#[99, 111, 109, 109, 101, 110, 116]⟩ : ByteArray) [.string (⟨#[99, 111, 109, 109, 101, 110, 116]⟩ : ByteArray)] from rfl) (Reps.one (show Kd.M Kd.string _ _ _ (⟨#[105, 110, 115, 101, 114, 116]⟩ : ByteArray) [.string (⟨#[105, 110, 115, 101, 114, 116]⟩ : ByteArray)] from rfl) (Reps.one (show Kd.M Kd.string _ _ _ (⟨#[114, 101, 109, 111, 118, 101]⟩ : ByteArray) [.string (⟨#[114, 101, 109, 111, 118, 101]⟩ : ByteArray)] from rfl) (Reps.one (show Kd.M Kd.string _ _ _ (⟨#[115, 101, 116]⟩ : ByteArray) [.string (⟨#[115, 101, 116]⟩ : ByteArray)] from rfl) (Reps.one (show Kd.M Kd.string _ _ _ (⟨#[117, 110, 115, 101, 116]⟩ : ByteArray) [.string (⟨#[117, 110, 115, 101, 116]⟩ : ByteArray)] from rfl) (Reps.one (show Kd.M Kd.string _ _ _ (⟨#[99, 104, 97, 110, 103, 101]⟩ : ByteArray) [.string (⟨#[99, 104, 97, 110, 103, 101]⟩ : ByteArray)] from rfl) (Reps.none _ _)))))))))); intro v122 w11 ho12 hb hg_ hnew_; clear hg_ hnew_; (first | rw [← Ny121.out] at ho12 | (simp only [Int.reduceToNat] at ho12; rw [← Ny121.out] at ho12)); have n0_ := aA (Kd.R_lower ho12 (below_size (bls HB.out))); have n1_ := aA (blk_below (g := gb119) (o := .cells #[.int .i64 a0_0, .int .i64 a0_1, .int .i64 a0_2, .int .i64 a0_3, .string a0_4, .string a0_5] 29 (0, 0)) (bku BK119.out) hb); have n2_ := aA (below_step (bls HB.out) hb); clear BK119 HB; have HO123 := n0_; have BK119 := n1_; have HB := n2_; clear n0_ n1_ n2_ hb ho12; have hcz13_0 : w11.cell? ⟨gb119, 0, none⟩ = some (.int .i64 a0_0) := (blk_cell BK119.out 0).trans rfl; have hcz13_1 : w11.cell? ⟨gb119, 1, none⟩ = some (.int .i64 a0_1) := (blk_cell BK119.out 1).trans rfl; have hcz13_2 : w11.cell? ⟨gb119, 2, none⟩ = some (.int .i64 a0_2) := (blk_cell BK119.out 2).trans rfl; have hcz13_3 : w11.cell? ⟨gb119, 3, none⟩ = some (.int .i64 a0_3) := (blk_cell BK119.out 3).trans rfl; have hcz13_4 : w11.cell? ⟨gb119, 4, none⟩ = some (.string a0_4) := (blk_cell BK119.out 4).trans rfl; have hcz13_5 : w11.cell? ⟨gb119, 5, none⟩ = some (.string a0_5) := (blk_cell BK119.out 5).trans rfl; have hfz13_0 := blk_frozen BK119.out 0; have hfz13_1 := blk_frozen BK119.out 1; have hfz13_2 := blk_frozen BK119.out 2; have hfz13_3 := blk_frozen BK119.out 3; have hfz13_4 := blk_frozen BK119.out 4; have hfz13_5 := blk_frozen BK119.out 5; obtain ⟨Ao14, co14, eo14⟩ := Kd.R_slice HO123.out; subst eo14; have p124 : 0 ≤ ((ji4) : Int) := of_decide_eq_true (by first | (with_reducible assumption) | assumption); have q124 : (ji4) < (y121.length : Int) := of_decide_eq_true (by first | (with_reducible assumption) | assumption); obtain ⟨ad124, e124, hx124_0⟩ := Kd.at_string (Kd.R_reads' HO123.out).2.2 (ji4) p124 q124; cases e124; replace p124 := eq_true p124; replace q124 := eq_true q124) | ((with_reducible refine gate_callee (f := 25) rfl ?_); refine goesL_ (some 17) rfl rfl Tryd.func25 (by kernel_rfl) rfl #[.int .i64 a0_0] rfl (by (try simp only [List.map_toArray, List.map_cons, List.map_nil]); first | done | rfl | (simp only [List.length_drop, List.length_take]; rfl)) ?_; (with_reducible refine (treillageref06_has.calls k a0_0 t125 _ A7.out).mono ?_); rintro e w' ⟨rfl, ⟨nd, rfl⟩⟩; refine ⟨_, rfl, ?_⟩))
  go_loopg [3, 5] k (fun kq v3 v5 w' => ∃ (x3_1 : ByteArray) (x5_1 : Int), v3 = .string x3_1 ∧ v5 = .int .i64 x5_1 ∧ Aside0 (treillageref06_Print.l0 kq x3_1 t125 x5_1 a0_0 a0_1 a0_2 a0_3 a0_4 a0_5 = some r) ∧ Aside0 (kq ≤ k) ∧ Aside0 (w'.heap[gb119]? = some (.cells #[.int .i64 a0_0, .int .i64 a0_1, .int .i64 a0_2, .int .i64 a0_3, .string a0_4, .string a0_5] 29 (0, 0))) ∧ Aside0 (Below w.heap.size w w'))
  case atStart => exact ⟨(rdOf ByteArray.empty y121 (ji4)), (0), (by first | rfl | (simp; done) | (simp only [← hji4] <;> (first | rfl | simp)) | (simp [*]; done)), (by first | rfl | (simp; done) | (simp [*]; done)), H', ⟨Nat.le_refl _⟩, ⟨by (with_reducible repeat (first | refine blk_drewN ?_ _ | refine blk_drew ?_ | refine blk_alloc ?_ _)); exact BK119.out⟩, ⟨by repeat (first | (with_reducible first | exact HB.out | apply below_alloc | apply pw_below_drewN | apply below_drew1 | refine below_set ?_ GE119.out) | exact HB.out)⟩⟩
  case round =>
   clear H'; try clear c1
   try clear p1
   try clear q1
   try clear hx1
   try clear c2
   try clear p2
   try clear c3
   try clear c5
   try clear c5b0
   try clear c6
   try clear c6b0
   try clear p6
   try clear c12
   try clear p12
   try clear q12
   try clear hx12
   try clear c14
   try clear hcz13_0
   try clear hcz13_1
   try clear hcz13_2
   try clear hcz13_3
   try clear hcz13_4
   try clear hcz13_5
   try clear hcz9_0
   try clear hcz9_1
   try clear hcz9_2
   try clear hcz9_3
   try clear hcz9_4
   try clear hcz9_5
   try clear hfz13_0
   try clear hfz13_1
   try clear hfz13_2
   try clear hfz13_3
   try clear hfz13_4
   try clear hfz13_5
   try clear hfz9_0
   try clear hfz9_1
   try clear hfz9_2
   try clear hfz9_3
   try clear hfz9_4
   try clear hfz9_5
   try clear hx124_0
   try clear p124
   try clear q124
   obtain ⟨x3_1, x5_1, rfl, rfl, HA, HK1, BK119, HB⟩ := hrel; cases gk with
   | zero => exact absurd HA.out (by simp [treillageref06_Print.l0])
   | succ k1 =>
    have H := HA.out; clear HA; simp only [treillageref06_Print.l0] at H; by_cases c15 : x5_1 < (t125.size : Int)
    ·rw [if_pos c15] at H; have c15b0 : decide (x5_1 < (t125.size : Int)) = true := decide_eq_true c15; clear c15; by_cases c16 : 0 ≤ x5_1
     rotate_left
     ·rw [if_neg c16] at H; exact absurd H (by simp)
     rw [if_pos c16] at H; have c16b0 : decide (0 ≤ x5_1) = true := decide_eq_true c16; clear c16; by_cases c18 : (bt t125 x5_1) = 105
     ·rw [if_pos c18] at H; have c18b0 : ((bt t125 x5_1) == 105) = true := beq_iff_eq.mpr c18; have c18b1 : ((bt t125 x5_1) != 105) = false := bne_eq_false_iff_eq.mpr c18; clear c18; by_cases c19 : x3_1.size + 1 ≤ 9223372036854775807
      rotate_left
      ·rw [if_neg c19] at H; exact absurd H (by simp)
      rw [if_pos c19] at H; have c19b0 := eq_true c19; have c19b1 : decide (x3_1.size + 1 ≤ 9223372036854775807) = true := decide_eq_true c19; try have c19b2 : (9223372036854775807 < x3_1.size + 1) = False := eq_false (Nat.not_lt.2 c19)
      replace H := Option.bind_eq_some_iff.mp H; obtain ⟨t126, A200, H⟩ := H; replace H : (if (x3_1 ++ (⟨#[32]⟩ : ByteArray)).size + t126.size ≤ 9223372036854775807 then (treillageref06_Print.l0 k1 ((x3_1 ++ (⟨#[32]⟩ : ByteArray)) ++ t126) t125 (wrap64 (x5_1 + 1)) a0_0 a0_1 a0_2 a0_3 a0_4 a0_5) else (none)) = some r := H; have A20 := aA A200; clear A200; by_cases c21 : (x3_1 ++ (⟨#[32]⟩ : ByteArray)).size + t126.size ≤ 9223372036854775807
      rotate_left
      ·rw [if_neg c21] at H; exact absurd H (by simp)
      rw [if_pos c21] at H; have c21b0 := eq_true c21; have c21b1 : decide ((x3_1 ++ (⟨#[32]⟩ : ByteArray)).size + t126.size ≤ 9223372036854775807) = true := decide_eq_true c21; try have c21b2 : (9223372036854775807 < (x3_1 ++ (⟨#[32]⟩ : ByteArray)).size + t126.size) = False := eq_false (Nat.not_lt.2 c21); try have c21s : (9223372036854775807 < x3_1.size + 1 + t126.size) = False := eq_false (Nat.not_lt.2 (by have hh := c21; simp only [ByteArray.size_append] at hh; exact hh))
      have H' := aA H; clear H; have p17 : 0 ≤ (x5_1 : Int) := of_decide_eq_true (by first | (with_reducible assumption) | assumption); have q17 : x5_1 < (t125.size : Int) := of_decide_eq_true (by first | (with_reducible assumption) | assumption); have hx17 := bt_at t125 x5_1; replace p17 := eq_true p17; replace q17 := eq_true q17; have hcz22_0 : wr.cell? ⟨gb119, 0, none⟩ = some (.int .i64 a0_0) := (blk_cell BK119.out 0).trans rfl; have hcz22_1 : wr.cell? ⟨gb119, 1, none⟩ = some (.int .i64 a0_1) := (blk_cell BK119.out 1).trans rfl; have hcz22_2 : wr.cell? ⟨gb119, 2, none⟩ = some (.int .i64 a0_2) := (blk_cell BK119.out 2).trans rfl; have hcz22_3 : wr.cell? ⟨gb119, 3, none⟩ = some (.int .i64 a0_3) := (blk_cell BK119.out 3).trans rfl; have hcz22_4 : wr.cell? ⟨gb119, 4, none⟩ = some (.string a0_4) := (blk_cell BK119.out 4).trans rfl; have hcz22_5 : wr.cell? ⟨gb119, 5, none⟩ = some (.string a0_5) := (blk_cell BK119.out 5).trans rfl; have hfz22_0 := blk_frozen BK119.out 0; have hfz22_1 := blk_frozen BK119.out 1; have hfz22_2 := blk_frozen BK119.out 2; have hfz22_3 := blk_frozen BK119.out 3; have hfz22_4 := blk_frozen BK119.out 4; have hfz22_5 := blk_frozen BK119.out 5; go_wp2_with (first | ((with_reducible refine gate_callee (f := 30) rfl ?_); refine goesL_ (some 33) rfl rfl Tryd.func30 (by kernel_rfl) rfl #[.int .i64 a0_1] rfl (by (try simp only [List.map_toArray, List.map_cons, List.map_nil]); first | done | rfl | (simp only [List.length_drop, List.length_take]; rfl)) ?_; (with_reducible refine (treillageref06_Digits.calls k1 a0_1 t126 _ A20.out).mono ?_); rintro e w23 ⟨rfl, hb⟩; refine ⟨_, rfl, ?_⟩; have n0_ := aA (blk_below (g := gb119) (o := .cells #[.int .i64 a0_0, .int .i64 a0_1, .int .i64 a0_2, .int .i64 a0_3, .string a0_4, .string a0_5] 29 (0, 0)) (bku BK119.out) hb); have n1_ := aA (below_step (bls HB.out) hb); clear BK119 HB; have BK119 := n0_; have HB := n1_; clear n0_ n1_; (try clear hb); (try clear hb2); (try clear hk); (try clear hi)))
      go_roundg k1
      case measure => have := HK1.out; omega
      case rel => exact ⟨((x3_1 ++ (⟨#[32]⟩ : ByteArray)) ++ t126), (wrap64 (x5_1 + 1)), (by first | rfl | (simp; done) | (simp [*]; done)), (by first | rfl | (simp; done) | (simp [*]; done)), H', ⟨by have := HK1.out; omega⟩, ⟨by (with_reducible repeat (first | refine blk_drewN ?_ _ | refine blk_drew ?_ | refine blk_alloc ?_ _)); exact BK119.out⟩, ⟨by repeat (first | (with_reducible first | exact HB.out | apply below_alloc | apply pw_below_drewN | apply below_drew1 | refine below_set ?_ GE119.out) | exact HB.out)⟩⟩
     ·rw [if_neg c18] at H; have c18b0 : ((bt t125 x5_1) == 105) = false := beq_eq_false_iff_ne.mpr c18; have c18b1 : ((bt t125 x5_1) != 105) = true := bne_iff_ne.mpr c18; by_cases c24 : (bt t125 x5_1) = 116
      ·rw [if_pos c24] at H; have c24b0 : ((bt t125 x5_1) == 116) = true := beq_iff_eq.mpr c24; have c24b1 : ((bt t125 x5_1) != 116) = false := bne_eq_false_iff_eq.mpr c24; clear c24; by_cases c25 : x3_1.size + 1 ≤ 9223372036854775807
       rotate_left
       ·rw [if_neg c25] at H; exact absurd H (by simp)
       rw [if_pos c25] at H; have c25b0 := eq_true c25; have c25b1 : decide (x3_1.size + 1 ≤ 9223372036854775807) = true := decide_eq_true c25; try have c25b2 : (9223372036854775807 < x3_1.size + 1) = False := eq_false (Nat.not_lt.2 c25)
       replace H := Option.bind_eq_some_iff.mp H; obtain ⟨t127, A260, H⟩ := H; replace H : (if (x3_1 ++ (⟨#[32]⟩ : ByteArray)).size + t127.size ≤ 9223372036854775807 then (treillageref06_Print.l0 k1 ((x3_1 ++ (⟨#[32]⟩ : ByteArray)) ++ t127) t125 (wrap64 (x5_1 + 1)) a0_0 a0_1 a0_2 a0_3 a0_4 a0_5) else (none)) = some r := H; have A26 := aA A260; clear A260; by_cases c27 : (x3_1 ++ (⟨#[32]⟩ : ByteArray)).size + t127.size ≤ 9223372036854775807
       rotate_left
       ·rw [if_neg c27] at H; exact absurd H (by simp)
       rw [if_pos c27] at H; have c27b0 := eq_true c27; have c27b1 : decide ((x3_1 ++ (⟨#[32]⟩ : ByteArray)).size + t127.size ≤ 9223372036854775807) = true := decide_eq_true c27; try have c27b2 : (9223372036854775807 < (x3_1 ++ (⟨#[32]⟩ : ByteArray)).size + t127.size) = False := eq_false (Nat.not_lt.2 c27); try have c27s : (9223372036854775807 < x3_1.size + 1 + t127.size) = False := eq_false (Nat.not_lt.2 (by have hh := c27; simp only [ByteArray.size_append] at hh; exact hh))
       have H' := aA H; clear H; have p17 : 0 ≤ (x5_1 : Int) := of_decide_eq_true (by first | (with_reducible assumption) | assumption); have q17 : x5_1 < (t125.size : Int) := of_decide_eq_true (by first | (with_reducible assumption) | assumption); have hx17 := bt_at t125 x5_1; replace p17 := eq_true p17; replace q17 := eq_true q17; have hcz28_0 : wr.cell? ⟨gb119, 0, none⟩ = some (.int .i64 a0_0) := (blk_cell BK119.out 0).trans rfl; have hcz28_1 : wr.cell? ⟨gb119, 1, none⟩ = some (.int .i64 a0_1) := (blk_cell BK119.out 1).trans rfl; have hcz28_2 : wr.cell? ⟨gb119, 2, none⟩ = some (.int .i64 a0_2) := (blk_cell BK119.out 2).trans rfl; have hcz28_3 : wr.cell? ⟨gb119, 3, none⟩ = some (.int .i64 a0_3) := (blk_cell BK119.out 3).trans rfl; have hcz28_4 : wr.cell? ⟨gb119, 4, none⟩ = some (.string a0_4) := (blk_cell BK119.out 4).trans rfl; have hcz28_5 : wr.cell? ⟨gb119, 5, none⟩ = some (.string a0_5) := (blk_cell BK119.out 5).trans rfl; have hfz28_0 := blk_frozen BK119.out 0; have hfz28_1 := blk_frozen BK119.out 1; have hfz28_2 := blk_frozen BK119.out 2; have hfz28_3 := blk_frozen BK119.out 3; have hfz28_4 := blk_frozen BK119.out 4; have hfz28_5 := blk_frozen BK119.out 5; go_wp2_with (first | ((with_reducible refine gate_callee (f := 30) rfl ?_); refine goesL_ (some 41) rfl rfl Tryd.func30 (by kernel_rfl) rfl #[.int .i64 a0_2] rfl (by (try simp only [List.map_toArray, List.map_cons, List.map_nil]); first | done | rfl | (simp only [List.length_drop, List.length_take]; rfl)) ?_; (with_reducible refine (treillageref06_Digits.calls k1 a0_2 t127 _ A26.out).mono ?_); rintro e w29 ⟨rfl, hb⟩; refine ⟨_, rfl, ?_⟩; have n0_ := aA (blk_below (g := gb119) (o := .cells #[.int .i64 a0_0, .int .i64 a0_1, .int .i64 a0_2, .int .i64 a0_3, .string a0_4, .string a0_5] 29 (0, 0)) (bku BK119.out) hb); have n1_ := aA (below_step (bls HB.out) hb); clear BK119 HB; have BK119 := n0_; have HB := n1_; clear n0_ n1_; (try clear hb); (try clear hb2); (try clear hk); (try clear hi)))
       go_roundg k1
       case measure => have := HK1.out; omega
       case rel => exact ⟨((x3_1 ++ (⟨#[32]⟩ : ByteArray)) ++ t127), (wrap64 (x5_1 + 1)), (by first | rfl | (simp; done) | (simp [*]; done)), (by first | rfl | (simp; done) | (simp [*]; done)), H', ⟨by have := HK1.out; omega⟩, ⟨by (with_reducible repeat (first | refine blk_drewN ?_ _ | refine blk_drew ?_ | refine blk_alloc ?_ _)); exact BK119.out⟩, ⟨by repeat (first | (with_reducible first | exact HB.out | apply below_alloc | apply pw_below_drewN | apply below_drew1 | refine below_set ?_ GE119.out) | exact HB.out)⟩⟩
      ·rw [if_neg c24] at H; have c24b0 : ((bt t125 x5_1) == 116) = false := beq_eq_false_iff_ne.mpr c24; have c24b1 : ((bt t125 x5_1) != 116) = true := bne_iff_ne.mpr c24; by_cases c30 : (bt t125 x5_1) = 97
       ·rw [if_pos c30] at H; have c30b0 : ((bt t125 x5_1) == 97) = true := beq_iff_eq.mpr c30; have c30b1 : ((bt t125 x5_1) != 97) = false := bne_eq_false_iff_eq.mpr c30; clear c30; by_cases c31 : x3_1.size + 1 ≤ 9223372036854775807
        rotate_left
        ·rw [if_neg c31] at H; exact absurd H (by simp)
        rw [if_pos c31] at H; have c31b0 := eq_true c31; have c31b1 : decide (x3_1.size + 1 ≤ 9223372036854775807) = true := decide_eq_true c31; try have c31b2 : (9223372036854775807 < x3_1.size + 1) = False := eq_false (Nat.not_lt.2 c31)
        replace H := Option.bind_eq_some_iff.mp H; obtain ⟨t128, A320, H⟩ := H; replace H : (if (x3_1 ++ (⟨#[32]⟩ : ByteArray)).size + t128.size ≤ 9223372036854775807 then (treillageref06_Print.l0 k1 ((x3_1 ++ (⟨#[32]⟩ : ByteArray)) ++ t128) t125 (wrap64 (x5_1 + 1)) a0_0 a0_1 a0_2 a0_3 a0_4 a0_5) else (none)) = some r := H; have A32 := aA A320; clear A320; by_cases c33 : (x3_1 ++ (⟨#[32]⟩ : ByteArray)).size + t128.size ≤ 9223372036854775807
        rotate_left
        ·rw [if_neg c33] at H; exact absurd H (by simp)
        rw [if_pos c33] at H; have c33b0 := eq_true c33; have c33b1 : decide ((x3_1 ++ (⟨#[32]⟩ : ByteArray)).size + t128.size ≤ 9223372036854775807) = true := decide_eq_true c33; try have c33b2 : (9223372036854775807 < (x3_1 ++ (⟨#[32]⟩ : ByteArray)).size + t128.size) = False := eq_false (Nat.not_lt.2 c33); try have c33s : (9223372036854775807 < x3_1.size + 1 + t128.size) = False := eq_false (Nat.not_lt.2 (by have hh := c33; simp only [ByteArray.size_append] at hh; exact hh))
        have H' := aA H; clear H; have p17 : 0 ≤ (x5_1 : Int) := of_decide_eq_true (by first | (with_reducible assumption) | assumption); have q17 : x5_1 < (t125.size : Int) := of_decide_eq_true (by first | (with_reducible assumption) | assumption); have hx17 := bt_at t125 x5_1; replace p17 := eq_true p17; replace q17 := eq_true q17; have hcz34_0 : wr.cell? ⟨gb119, 0, none⟩ = some (.int .i64 a0_0) := (blk_cell BK119.out 0).trans rfl; have hcz34_1 : wr.cell? ⟨gb119, 1, none⟩ = some (.int .i64 a0_1) := (blk_cell BK119.out 1).trans rfl; have hcz34_2 : wr.cell? ⟨gb119, 2, none⟩ = some (.int .i64 a0_2) := (blk_cell BK119.out 2).trans rfl; have hcz34_3 : wr.cell? ⟨gb119, 3, none⟩ = some (.int .i64 a0_3) := (blk_cell BK119.out 3).trans rfl; have hcz34_4 : wr.cell? ⟨gb119, 4, none⟩ = some (.string a0_4) := (blk_cell BK119.out 4).trans rfl; have hcz34_5 : wr.cell? ⟨gb119, 5, none⟩ = some (.string a0_5) := (blk_cell BK119.out 5).trans rfl; have hfz34_0 := blk_frozen BK119.out 0; have hfz34_1 := blk_frozen BK119.out 1; have hfz34_2 := blk_frozen BK119.out 2; have hfz34_3 := blk_frozen BK119.out 3; have hfz34_4 := blk_frozen BK119.out 4; have hfz34_5 := blk_frozen BK119.out 5; go_wp2_with (first | ((with_reducible refine gate_callee (f := 30) rfl ?_); refine goesL_ (some 49) rfl rfl Tryd.func30 (by kernel_rfl) rfl #[.int .i64 a0_3] rfl (by (try simp only [List.map_toArray, List.map_cons, List.map_nil]); first | done | rfl | (simp only [List.length_drop, List.length_take]; rfl)) ?_; (with_reducible refine (treillageref06_Digits.calls k1 a0_3 t128 _ A32.out).mono ?_); rintro e w35 ⟨rfl, hb⟩; refine ⟨_, rfl, ?_⟩; have n0_ := aA (blk_below (g := gb119) (o := .cells #[.int .i64 a0_0, .int .i64 a0_1, .int .i64 a0_2, .int .i64 a0_3, .string a0_4, .string a0_5] 29 (0, 0)) (bku BK119.out) hb); have n1_ := aA (below_step (bls HB.out) hb); clear BK119 HB; have BK119 := n0_; have HB := n1_; clear n0_ n1_; (try clear hb); (try clear hb2); (try clear hk); (try clear hi)))
        go_roundg k1
        case measure => have := HK1.out; omega
        case rel => exact ⟨((x3_1 ++ (⟨#[32]⟩ : ByteArray)) ++ t128), (wrap64 (x5_1 + 1)), (by first | rfl | (simp; done) | (simp [*]; done)), (by first | rfl | (simp; done) | (simp [*]; done)), H', ⟨by have := HK1.out; omega⟩, ⟨by (with_reducible repeat (first | refine blk_drewN ?_ _ | refine blk_drew ?_ | refine blk_alloc ?_ _)); exact BK119.out⟩, ⟨by repeat (first | (with_reducible first | exact HB.out | apply below_alloc | apply pw_below_drewN | apply below_drew1 | refine below_set ?_ GE119.out) | exact HB.out)⟩⟩
       ·rw [if_neg c30] at H; have c30b0 : ((bt t125 x5_1) == 97) = false := beq_eq_false_iff_ne.mpr c30; have c30b1 : ((bt t125 x5_1) != 97) = true := bne_iff_ne.mpr c30; by_cases c36 : (bt t125 x5_1) = 110
        ·rw [if_pos c36] at H; have c36b0 : ((bt t125 x5_1) == 110) = true := beq_iff_eq.mpr c36; have c36b1 : ((bt t125 x5_1) != 110) = false := bne_eq_false_iff_eq.mpr c36; clear c36; by_cases c37 : x3_1.size + 2 ≤ 9223372036854775807
         rotate_left
         ·rw [if_neg c37] at H; exact absurd H (by simp)
         rw [if_pos c37] at H; have c37b0 := eq_true c37; have c37b1 : decide (x3_1.size + 2 ≤ 9223372036854775807) = true := decide_eq_true c37; try have c37b2 : (9223372036854775807 < x3_1.size + 2) = False := eq_false (Nat.not_lt.2 c37)
         by_cases c38 : (x3_1 ++ (⟨#[32, 91]⟩ : ByteArray)).size + a0_4.size ≤ 9223372036854775807
         rotate_left
         ·rw [if_neg c38] at H; exact absurd H (by simp)
         rw [if_pos c38] at H; have c38b0 := eq_true c38; have c38b1 : decide ((x3_1 ++ (⟨#[32, 91]⟩ : ByteArray)).size + a0_4.size ≤ 9223372036854775807) = true := decide_eq_true c38; try have c38b2 : (9223372036854775807 < (x3_1 ++ (⟨#[32, 91]⟩ : ByteArray)).size + a0_4.size) = False := eq_false (Nat.not_lt.2 c38); try have c38s : (9223372036854775807 < x3_1.size + 2 + a0_4.size) = False := eq_false (Nat.not_lt.2 (by have hh := c38; simp only [ByteArray.size_append] at hh; exact hh))
         by_cases c39 : ((x3_1 ++ (⟨#[32, 91]⟩ : ByteArray)) ++ a0_4).size + 1 ≤ 9223372036854775807
         rotate_left
         ·rw [if_neg c39] at H; exact absurd H (by simp)
         rw [if_pos c39] at H; have c39b0 := eq_true c39; have c39b1 : decide (((x3_1 ++ (⟨#[32, 91]⟩ : ByteArray)) ++ a0_4).size + 1 ≤ 9223372036854775807) = true := decide_eq_true c39; try have c39b2 : (9223372036854775807 < ((x3_1 ++ (⟨#[32, 91]⟩ : ByteArray)) ++ a0_4).size + 1) = False := eq_false (Nat.not_lt.2 c39); try have c39s : (9223372036854775807 < x3_1.size + 2 + a0_4.size + 1) = False := eq_false (Nat.not_lt.2 (by have hh := c39; simp only [ByteArray.size_append] at hh; exact hh))
         have H' := aA H; clear H; have p17 : 0 ≤ (x5_1 : Int) := of_decide_eq_true (by first | (with_reducible assumption) | assumption); have q17 : x5_1 < (t125.size : Int) := of_decide_eq_true (by first | (with_reducible assumption) | assumption); have hx17 := bt_at t125 x5_1; replace p17 := eq_true p17; replace q17 := eq_true q17; have hcz40_0 : wr.cell? ⟨gb119, 0, none⟩ = some (.int .i64 a0_0) := (blk_cell BK119.out 0).trans rfl; have hcz40_1 : wr.cell? ⟨gb119, 1, none⟩ = some (.int .i64 a0_1) := (blk_cell BK119.out 1).trans rfl; have hcz40_2 : wr.cell? ⟨gb119, 2, none⟩ = some (.int .i64 a0_2) := (blk_cell BK119.out 2).trans rfl; have hcz40_3 : wr.cell? ⟨gb119, 3, none⟩ = some (.int .i64 a0_3) := (blk_cell BK119.out 3).trans rfl; have hcz40_4 : wr.cell? ⟨gb119, 4, none⟩ = some (.string a0_4) := (blk_cell BK119.out 4).trans rfl; have hcz40_5 : wr.cell? ⟨gb119, 5, none⟩ = some (.string a0_5) := (blk_cell BK119.out 5).trans rfl; have hfz40_0 := blk_frozen BK119.out 0; have hfz40_1 := blk_frozen BK119.out 1; have hfz40_2 := blk_frozen BK119.out 2; have hfz40_3 := blk_frozen BK119.out 3; have hfz40_4 := blk_frozen BK119.out 4; have hfz40_5 := blk_frozen BK119.out 5; go_wp2; go_roundg k1
         case measure => have := HK1.out; omega
         case rel => exact ⟨(((x3_1 ++ (⟨#[32, 91]⟩ : ByteArray)) ++ a0_4) ++ (⟨#[93]⟩ : ByteArray)), (wrap64 (x5_1 + 1)), (by first | rfl | (simp; done) | (simp [*]; done)), (by first | rfl | (simp; done) | (simp [*]; done)), H', ⟨by have := HK1.out; omega⟩, ⟨by (with_reducible repeat (first | refine blk_drewN ?_ _ | refine blk_drew ?_ | refine blk_alloc ?_ _)); exact BK119.out⟩, ⟨by repeat (first | (with_reducible first | exact HB.out | apply below_alloc | apply pw_below_drewN | apply below_drew1 | refine below_set ?_ GE119.out) | exact HB.out)⟩⟩
        ·rw [if_neg c36] at H; have c36b0 : ((bt t125 x5_1) == 110) = false := beq_eq_false_iff_ne.mpr c36; have c36b1 : ((bt t125 x5_1) != 110) = true := bne_iff_ne.mpr c36; by_cases c41 : (bt t125 x5_1) = 120
         ·rw [if_pos c41] at H; have c41b0 : ((bt t125 x5_1) == 120) = true := beq_iff_eq.mpr c41; have c41b1 : ((bt t125 x5_1) != 120) = false := bne_eq_false_iff_eq.mpr c41; clear c41; by_cases c42 : x3_1.size + 2 ≤ 9223372036854775807
          rotate_left
          ·rw [if_neg c42] at H; exact absurd H (by simp)
          rw [if_pos c42] at H; have c42b0 := eq_true c42; have c42b1 : decide (x3_1.size + 2 ≤ 9223372036854775807) = true := decide_eq_true c42; try have c42b2 : (9223372036854775807 < x3_1.size + 2) = False := eq_false (Nat.not_lt.2 c42)
          by_cases c43 : (x3_1 ++ (⟨#[32, 91]⟩ : ByteArray)).size + a0_5.size ≤ 9223372036854775807
          rotate_left
          ·rw [if_neg c43] at H; exact absurd H (by simp)
          rw [if_pos c43] at H; have c43b0 := eq_true c43; have c43b1 : decide ((x3_1 ++ (⟨#[32, 91]⟩ : ByteArray)).size + a0_5.size ≤ 9223372036854775807) = true := decide_eq_true c43; try have c43b2 : (9223372036854775807 < (x3_1 ++ (⟨#[32, 91]⟩ : ByteArray)).size + a0_5.size) = False := eq_false (Nat.not_lt.2 c43); try have c43s : (9223372036854775807 < x3_1.size + 2 + a0_5.size) = False := eq_false (Nat.not_lt.2 (by have hh := c43; simp only [ByteArray.size_append] at hh; exact hh))
          by_cases c44 : ((x3_1 ++ (⟨#[32, 91]⟩ : ByteArray)) ++ a0_5).size + 1 ≤ 9223372036854775807
          rotate_left
          ·rw [if_neg c44] at H; exact absurd H (by simp)
          rw [if_pos c44] at H; have c44b0 := eq_true c44; have c44b1 : decide (((x3_1 ++ (⟨#[32, 91]⟩ : ByteArray)) ++ a0_5).size + 1 ≤ 9223372036854775807) = true := decide_eq_true c44; try have c44b2 : (9223372036854775807 < ((x3_1 ++ (⟨#[32, 91]⟩ : ByteArray)) ++ a0_5).size + 1) = False := eq_false (Nat.not_lt.2 c44); try have c44s : (9223372036854775807 < x3_1.size + 2 + a0_5.size + 1) = False := eq_false (Nat.not_lt.2 (by have hh := c44; simp only [ByteArray.size_append] at hh; exact hh))
          have H' := aA H; clear H; have p17 : 0 ≤ (x5_1 : Int) := of_decide_eq_true (by first | (with_reducible assumption) | assumption); have q17 : x5_1 < (t125.size : Int) := of_decide_eq_true (by first | (with_reducible assumption) | assumption); have hx17 := bt_at t125 x5_1; replace p17 := eq_true p17; replace q17 := eq_true q17; have hcz45_0 : wr.cell? ⟨gb119, 0, none⟩ = some (.int .i64 a0_0) := (blk_cell BK119.out 0).trans rfl; have hcz45_1 : wr.cell? ⟨gb119, 1, none⟩ = some (.int .i64 a0_1) := (blk_cell BK119.out 1).trans rfl; have hcz45_2 : wr.cell? ⟨gb119, 2, none⟩ = some (.int .i64 a0_2) := (blk_cell BK119.out 2).trans rfl; have hcz45_3 : wr.cell? ⟨gb119, 3, none⟩ = some (.int .i64 a0_3) := (blk_cell BK119.out 3).trans rfl; have hcz45_4 : wr.cell? ⟨gb119, 4, none⟩ = some (.string a0_4) := (blk_cell BK119.out 4).trans rfl; have hcz45_5 : wr.cell? ⟨gb119, 5, none⟩ = some (.string a0_5) := (blk_cell BK119.out 5).trans rfl; have hfz45_0 := blk_frozen BK119.out 0; have hfz45_1 := blk_frozen BK119.out 1; have hfz45_2 := blk_frozen BK119.out 2; have hfz45_3 := blk_frozen BK119.out 3; have hfz45_4 := blk_frozen BK119.out 4; have hfz45_5 := blk_frozen BK119.out 5; go_wp2; go_roundg k1
          case measure => have := HK1.out; omega
          case rel => exact ⟨(((x3_1 ++ (⟨#[32, 91]⟩ : ByteArray)) ++ a0_5) ++ (⟨#[93]⟩ : ByteArray)), (wrap64 (x5_1 + 1)), (by first | rfl | (simp; done) | (simp [*]; done)), (by first | rfl | (simp; done) | (simp [*]; done)), H', ⟨by have := HK1.out; omega⟩, ⟨by (with_reducible repeat (first | refine blk_drewN ?_ _ | refine blk_drew ?_ | refine blk_alloc ?_ _)); exact BK119.out⟩, ⟨by repeat (first | (with_reducible first | exact HB.out | apply below_alloc | apply pw_below_drewN | apply below_drew1 | refine below_set ?_ GE119.out) | exact HB.out)⟩⟩
         ·rw [if_neg c41] at H; have c41b0 : ((bt t125 x5_1) == 120) = false := beq_eq_false_iff_ne.mpr c41; have c41b1 : ((bt t125 x5_1) != 120) = true := bne_iff_ne.mpr c41; have H' := aA H; clear H; have p17 : 0 ≤ (x5_1 : Int) := of_decide_eq_true (by first | (with_reducible assumption) | assumption); have q17 : x5_1 < (t125.size : Int) := of_decide_eq_true (by first | (with_reducible assumption) | assumption); have hx17 := bt_at t125 x5_1; replace p17 := eq_true p17; replace q17 := eq_true q17; go_wp2; go_roundg k1
          case measure => have := HK1.out; omega
          case rel => exact ⟨(x3_1), (wrap64 (x5_1 + 1)), (by first | rfl | (simp; done) | (simp [*]; done)), (by first | rfl | (simp; done) | (simp [*]; done)), H', ⟨by have := HK1.out; omega⟩, ⟨by (with_reducible repeat (first | refine blk_drewN ?_ _ | refine blk_drew ?_ | refine blk_alloc ?_ _)); exact BK119.out⟩, ⟨by repeat (first | (with_reducible first | exact HB.out | apply below_alloc | apply pw_below_drewN | apply below_drew1 | refine below_set ?_ GE119.out) | exact HB.out)⟩⟩
    ·rw [if_neg c15] at H; have c15b0 : decide (x5_1 < (t125.size : Int)) = false := decide_eq_false c15; clear c15; obtain rfl := Option.some.inj H; go_wp2; go_ret
     exact ⟨by first | rfl | (simp [errW_none, errW_some] <;> rfl) | (simp only [← hji4]; first | rfl | (simp [errW_none, errW_some] <;> rfl)) | (simp [*, errW_none, errW_some] <;> rfl), by repeat (first | (with_reducible first | exact HB.out | apply below_alloc | apply pw_below_drewN | apply below_drew1 | refine below_set ?_ GE119.out) | exact HB.out)⟩
 ·replace c3 := Bool.eq_false_iff.mpr c3; subst c3; have H1 : (some (⟨#[]⟩ : ByteArray)) = some r := by rw [if_neg (show ¬ (false = true) by decide)] at H; exact H
  clear H; have H := H1; clear H1; obtain rfl := Option.some.inj H; go_enter Tryd.func14, Tryd.ntmps14; go_wp2_with (first | ((with_reducible refine gate_dst (N := 1) rfl ?_); refine box_event ?hg (N := 1) ?hd (cs := #[.int .i64 a0_0, .int .i64 a0_1, .int .i64 a0_2, .int .i64 a0_3, .string a0_4, .string a0_5]) (t := 29) ?hr ?_; (case hd => rfl); (case hg => rfl); (case hr => first | (go_simp; done) | (go_simp; rfl)); intro gb119 hg w46 hbox hb; have n0_ := aA (below_step (blw HB.out) hb); have n1_ := aA (hbox); have n2_ := aA ((by rw [hg]; exact (below_size (blw HB.out)) : w.heap.size ≤ gb119)); have n3_ := aA ((by rw [hg]; exact (below_size (blw HB.out)) : w.heap.size ≤ gb119)); clear HB; have HB := n0_; have BK119 := n1_; have GW119 := n2_; have GE119 := n3_; clear n0_ n1_ n2_ n3_ hb hbox hg; have hcz47_0 : w46.cell? ⟨gb119, 0, none⟩ = some (.int .i64 a0_0) := (blk_cell BK119.out 0).trans rfl; have hcz47_1 : w46.cell? ⟨gb119, 1, none⟩ = some (.int .i64 a0_1) := (blk_cell BK119.out 1).trans rfl; have hcz47_2 : w46.cell? ⟨gb119, 2, none⟩ = some (.int .i64 a0_2) := (blk_cell BK119.out 2).trans rfl; have hcz47_3 : w46.cell? ⟨gb119, 3, none⟩ = some (.int .i64 a0_3) := (blk_cell BK119.out 3).trans rfl; have hcz47_4 : w46.cell? ⟨gb119, 4, none⟩ = some (.string a0_4) := (blk_cell BK119.out 4).trans rfl; have hcz47_5 : w46.cell? ⟨gb119, 5, none⟩ = some (.string a0_5) := (blk_cell BK119.out 5).trans rfl; have hfz47_0 := blk_frozen BK119.out 0; have hfz47_1 := blk_frozen BK119.out 1; have hfz47_2 := blk_frozen BK119.out 2; have hfz47_3 := blk_frozen BK119.out 3; have hfz47_4 := blk_frozen BK119.out 4; have hfz47_5 := blk_frozen BK119.out 5) | ((with_reducible refine gate_callee (f := 12) rfl ?_); refine goesL_ (some 7) rfl rfl Tryd.func12 (by kernel_rfl) rfl #[.agg #[.int .i64 a0_0, .int .i64 a0_1, .int .i64 a0_2, .int .i64 a0_3, .string a0_4, .string a0_5]] rfl (by (try simp only [List.map_toArray, List.map_cons, List.map_nil]); first | done | rfl | (simp only [List.length_drop, List.length_take]; rfl)) ?_; (with_reducible refine (treillageref06_May.calls k a0_0 a0_1 a0_2 a0_3 a0_4 a0_5 false _ A2.out).mono ?_); rintro e w48 ⟨rfl, hb⟩; refine ⟨_, rfl, ?_⟩; have n0_ := aA (blk_below (g := gb119) (o := .cells #[.int .i64 a0_0, .int .i64 a0_1, .int .i64 a0_2, .int .i64 a0_3, .string a0_4, .string a0_5] 29 (0, 0)) (bku BK119.out) hb); have n1_ := aA (below_step (bls HB.out) hb); clear BK119 HB; have BK119 := n0_; have HB := n1_; clear n0_ n1_; (try clear hb); (try clear hb2); (try clear hk); (try clear hi)))
  go_ret
  exact ⟨by first | rfl | (simp [errW_none, errW_some] <;> rfl) | (simp [*, errW_none, errW_some] <;> rfl), by repeat (first | (with_reducible first | exact HB.out | apply below_alloc | apply pw_below_drewN | apply below_drew1 | refine below_set ?_ GE119.out) | exact HB.out)⟩

/-! ### treillagelaw06_OpTells: function 3 -/
def treillagelaw06_OpTells.j0 : Nat → Bool → Int → Int → Int → Int → ByteArray → ByteArray → Option (Bool)
 | 0, _, _, _, _, _, _, _ => none
 | k + 1, x10, x130000, x130001, x130002, x130003, x130004, x130005 => if x10 = true then ((treillagelaw06_shown.f k).bind fun t135 => (some t135)) else ((op_May.f x130000 x130001 x130002 x130003 x130004 x130005).bind fun t136 => ((treillageref06_May.f k x130000 x130001 x130002 x130003 x130004 x130005).bind fun t137 => (if (t136 == t137) = true then ((op_Print.f x130000 x130001 x130002 x130003 x130004 x130005).bind fun t138 => ((treillageref06_Print.f k x130000 x130001 x130002 x130003 x130004 x130005).bind fun t139 => (some (t138.toList == t139.toList)))) else (some false))))
def treillagelaw06_OpTells.f (k : Nat) (a0_0 : Int) (a0_1 : Int) (a0_2 : Int) (a0_3 : Int) (a0_4 : ByteArray) (a0_5 : ByteArray) : Option (Bool) := (treillagelaw06_bounded.f k (([(⟨a0_0, a0_1, a0_2, a0_3, a0_4, a0_5⟩ : S23)] : List (S23)))).bind fun t133 => (if t133 = true then ((treillagelaw06_shown.f k).bind fun t134 => (treillagelaw06_OpTells.j0 k (!t134) a0_0 a0_1 a0_2 a0_3 a0_4 a0_5)) else (treillagelaw06_OpTells.j0 k true a0_0 a0_1 a0_2 a0_3 a0_4 a0_5))
theorem treillagelaw06_OpTells.mono_l : ∀ k, (∀ y0 y1 y2 y3 y4 y5 y6, LeO (treillagelaw06_OpTells.j0 k y0 y1 y2 y3 y4 y5 y6) (treillagelaw06_OpTells.j0 (k + 1) y0 y1 y2 y3 y4 y5 y6))
 | 0 => fun _ _ _ _ _ _ _ r h => by simp [treillagelaw06_OpTells.j0] at h
 | k + 1 => by
  have ih0 := treillagelaw06_OpTells.mono_l k
  ·intro y0 y1 y2 y3 y4 y5 y6
   unfold treillagelaw06_OpTells.j0; repeat' first
   | (with_reducible exact ih0 _ _ _ _ _ _ _)
   | (with_reducible exact treillagelaw06_bounded.mono _ _)
   | (with_reducible exact treillagelaw06_shown.mono _)
   | (with_reducible exact treillageref06_May.mono _ _ _ _ _ _ _)
   | (with_reducible exact treillageref06_Print.mono _ _ _ _ _ _ _)
   | (with_reducible exact LeO.refl _)
   | (with_reducible exact LeO.none _)
   | (with_reducible refine LeO.ite ?_ ?_)
   | (with_reducible refine LeO.bind ?_ (fun _ => ?_))
   | exact ih0 _ _ _ _ _ _ _
   | exact treillagelaw06_bounded.mono _ _
   | exact treillagelaw06_shown.mono _
   | exact treillageref06_May.mono _ _ _ _ _ _ _
   | exact treillageref06_Print.mono _ _ _ _ _ _ _
   | exact LeO.none _
   | refine LeO.ite ?_ ?_
   | refine LeO.bind ?_ (fun _ => ?_)
theorem treillagelaw06_OpTells.mono : ∀ a0 a1 a2 a3 a4 a5 k, LeO (treillagelaw06_OpTells.f k a0 a1 a2 a3 a4 a5) (treillagelaw06_OpTells.f (k + 1) a0 a1 a2 a3 a4 a5) := by
 intro a0 a1 a2 a3 a4 a5 k
 have ih0 := treillagelaw06_OpTells.mono_l k; unfold treillagelaw06_OpTells.f
 repeat' first
   | (with_reducible exact ih0 _ _ _ _ _ _ _)
   | (with_reducible exact treillagelaw06_bounded.mono _ _)
   | (with_reducible exact treillagelaw06_shown.mono _)
   | (with_reducible exact treillageref06_May.mono _ _ _ _ _ _ _)
   | (with_reducible exact treillageref06_Print.mono _ _ _ _ _ _ _)
   | (with_reducible exact LeO.refl _)
   | (with_reducible exact LeO.none _)
   | (with_reducible refine LeO.ite ?_ ?_)
   | (with_reducible refine LeO.bind ?_ (fun _ => ?_))
   | exact ih0 _ _ _ _ _ _ _
   | exact treillagelaw06_bounded.mono _ _
   | exact treillagelaw06_shown.mono _
   | exact treillageref06_May.mono _ _ _ _ _ _ _
   | exact treillageref06_Print.mono _ _ _ _ _ _ _
   | exact LeO.none _
   | refine LeO.ite ?_ ?_
   | refine LeO.bind ?_ (fun _ => ?_)
def treillagelaw06_OpTells.T3 : Bool × List (List Nat × List Nat) := (true, [([], []), ([0], [0]), ([], []), ([2, 1], [2]), ([1, 3], [1, 3]), ([4, 3], [4]), ([5], [5]), ([6, 5, 5], [5, 6]), ([5], [5]), ([8, 7, 5], [5, 8]), ([7, 9, 5], [5, 7, 9]), ([5, 10], [5, 10]), ([11, 9, 0, 1, 2, 3, 4, 5, 6, 7, 8, 9, 10, 11], [11])])
def treillagelaw06_OpTells.B3 : List Nat := [0, 1, 0, 7, 15, 31, 63, 127, 63, 511, 1023, 2047, 4095]
theorem treillagelaw06_OpTells.tab3 : rtab .any (opsOf Tryd.f3 3) = treillagelaw06_OpTells.T3 := by kernel_rfl
theorem treillagelaw06_OpTells.bits3 : waitsOk treillagelaw06_OpTells.T3.2 treillagelaw06_OpTells.B3 = true := by kernel_rfl
set_option maxHeartbeats 8000000 in
set_option maxRecDepth 100000 in
theorem treillagelaw06_OpTells.calls1 (k : Nat) (a0_0 : Int) (a0_1 : Int) (a0_2 : Int) (a0_3 : Int) (a0_4 : ByteArray) (a0_5 : ByteArray) (r : Bool) (w : World) (hTb : Tab w) (h : treillagelaw06_OpTells.f k a0_0 a0_1 a0_2 a0_3 a0_4 a0_5 = some r) (hr_ : r = true) :
  Calls Tryd.prog 3 #[.agg #[.int .i64 a0_0, .int .i64 a0_1, .int .i64 a0_2, .int .i64 a0_3, .string a0_4, .string a0_5]] w fun e w' => e = .returned (.bool r) ∧ Below w.heap.size w w' := by
 have HTb := aA hTb; clear hTb; have hu23 := Tryd.underlying23; have HB := aA (Below.refl w.heap.size w); have H : ((treillagelaw06_bounded.f k (([(⟨a0_0, a0_1, a0_2, a0_3, a0_4, a0_5⟩ : S23)] : List (S23)))).bind fun t133 => (if t133 = true then ((treillagelaw06_shown.f k).bind fun t134 => (treillagelaw06_OpTells.j0 k (!t134) a0_0 a0_1 a0_2 a0_3 a0_4 a0_5)) else (treillagelaw06_OpTells.j0 k true a0_0 a0_1 a0_2 a0_3 a0_4 a0_5))) = some r := h; clear h; have HC2 := aA H; clear H; go_enter Tryd.func3, Tryd.ntmps3; go_upto_region 1 with (first | ((with_reducible refine gate_dst (N := 1) rfl ?_); refine box_event ?hg (N := 1) ?hd (cs := #[.int .i64 a0_0, .int .i64 a0_1, .int .i64 a0_2, .int .i64 a0_3, .string a0_4, .string a0_5]) (t := 23) ?hr ?_; (case hd => rfl); (case hg => rfl); (case hr => first | (go_simp; done) | (go_simp; rfl)); intro gb129 hg w3 hbox hb; have n0_ := aA (below_step (blw HB.out) hb); have n1_ := aA (hbox); have n2_ := aA ((by rw [hg]; exact (below_size (blw HB.out)) : w.heap.size ≤ gb129)); have n3_ := aA ((by rw [hg]; exact (below_size (blw HB.out)) : w.heap.size ≤ gb129)); clear HB; have HB := n0_; have BK129 := n1_; have GW129 := n2_; have GE129 := n3_; clear n0_ n1_ n2_ n3_ hb hbox hg))
 (try simp only [Act.put, List.setIfInBounds_toArray, List.set_cons_zero, List.set_cons_succ]); go_cut [10] (fun v10 wc => ∃ (kq : Nat) (x10_1 : Bool), v10 = .bool x10_1 ∧ Aside0 (treillagelaw06_OpTells.j0 kq x10_1 a0_0 a0_1 a0_2 a0_3 a0_4 a0_5 = some r) ∧ Aside0 (kq ≤ k) ∧ Aside0 (wc.heap[gb129]? = some (.cells #[.int .i64 a0_0, .int .i64 a0_1, .int .i64 a0_2, .int .i64 a0_3, .string a0_4, .string a0_5] 23 (0, 0))) ∧ Aside0 (Below w.heap.size w wc))
 case first =>
  have H := HC2.out; clear HC2; obtain ⟨y130, hy130⟩ : ∃ y_ : List (S23), y_ = (([(⟨a0_0, a0_1, a0_2, a0_3, a0_4, a0_5⟩ : S23)] : List (S23))) := ⟨_, rfl⟩; replace H : ((treillagelaw06_bounded.f k y130).bind fun t133 => (if t133 = true then ((treillagelaw06_shown.f k).bind fun t134 => (treillagelaw06_OpTells.j0 k (!t134) a0_0 a0_1 a0_2 a0_3 a0_4 a0_5)) else (treillagelaw06_OpTells.j0 k true a0_0 a0_1 a0_2 a0_3 a0_4 a0_5))) = some r := by first | (rw [hy130]; with_reducible exact H) | (have H2_ := (Option.bind_some _ _).symm.trans H; rw [hy130]; with_reducible exact H2_) | (have H2_ := (Option.bind_some _ _).symm.trans H; with_reducible exact H2_) | with_reducible exact H | (rw [hy130]; exact H) | exact H
  have Ny130 := aA hy130; clear hy130; replace H := Option.bind_eq_some_iff.mp H; obtain ⟨t133, A40, H⟩ := H; replace H : (if t133 = true then ((treillagelaw06_shown.f k).bind fun t134 => (treillagelaw06_OpTells.j0 k (!t134) a0_0 a0_1 a0_2 a0_3 a0_4 a0_5)) else (treillagelaw06_OpTells.j0 k true a0_0 a0_1 a0_2 a0_3 a0_4 a0_5)) = some r := H; have A4 := aA A40; clear A40; by_cases c5 : t133 = true
  ·subst c5; have H1 : ((treillagelaw06_shown.f k).bind fun t134 => (treillagelaw06_OpTells.j0 k (!t134) a0_0 a0_1 a0_2 a0_3 a0_4 a0_5)) = some r := by rw [if_pos rfl] at H; exact H
   clear H; have H := H1; clear H1; replace H := Option.bind_eq_some_iff.mp H; obtain ⟨t134, A60, H⟩ := H; replace H : (treillagelaw06_OpTells.j0 k (!t134) a0_0 a0_1 a0_2 a0_3 a0_4 a0_5) = some r := H; have A6 := aA A60; clear A60; have H' := aA H; clear H; have hcz7_0 : w3.cell? ⟨gb129, 0, none⟩ = some (.int .i64 a0_0) := (blk_cell BK129.out 0).trans rfl; have hcz7_1 : w3.cell? ⟨gb129, 1, none⟩ = some (.int .i64 a0_1) := (blk_cell BK129.out 1).trans rfl; have hcz7_2 : w3.cell? ⟨gb129, 2, none⟩ = some (.int .i64 a0_2) := (blk_cell BK129.out 2).trans rfl; have hcz7_3 : w3.cell? ⟨gb129, 3, none⟩ = some (.int .i64 a0_3) := (blk_cell BK129.out 3).trans rfl; have hcz7_4 : w3.cell? ⟨gb129, 4, none⟩ = some (.string a0_4) := (blk_cell BK129.out 4).trans rfl; have hcz7_5 : w3.cell? ⟨gb129, 5, none⟩ = some (.string a0_5) := (blk_cell BK129.out 5).trans rfl; have hfz7_0 := blk_frozen BK129.out 0; have hfz7_1 := blk_frozen BK129.out 1; have hfz7_2 := blk_frozen BK129.out 2; have hfz7_3 := blk_frozen BK129.out 3; have hfz7_4 := blk_frozen BK129.out 4; have hfz7_5 := blk_frozen BK129.out 5; go_wp2_with (first | ((with_reducible refine gate_dst (N := 4) rfl ?_); refine Kd.R_lit k23 _ 23 ?hg (N := 4) ?hd (xs := ([(⟨a0_0, a0_1, a0_2, a0_3, a0_4, a0_5⟩ : S23)] : List (S23))) (inner := [.int .i64 a0_0, .int .i64 a0_1, .int .i64 a0_2, .int .i64 a0_3, .string a0_4, .string a0_5]) (ok := fun _ => True) (okp := fun _ => True) ?hr ?hp (fun _ hk => hk) trivial (Below.refl _ _) (Nat.le_refl _) (by simp) ?_; (case hd => rfl); (case hg => rfl); (case hr => first | (go_simp; done) | (go_simp; rfl)); (case hp => exact (Reps.c6 (show Kd.M k23 _ _ _ (⟨a0_0, a0_1, a0_2, a0_3, a0_4, a0_5⟩ : S23) [.int .i64 a0_0, .int .i64 a0_1, .int .i64 a0_2, .int .i64 a0_3, .string a0_4, .string a0_5] from (k23_mkM _ _ _ (⟨a0_0, a0_1, a0_2, a0_3, a0_4, a0_5⟩ : S23) )) (Reps.none _ _))); intro v131 w8 ho9 hb hg_ hnew_; clear hg_ hnew_; (first | rw [← Ny130.out] at ho9 | (simp only [Int.reduceToNat] at ho9; rw [← Ny130.out] at ho9)); have n0_ := aA (Kd.R_lower (Kd.R_newB ho9 (g := gb129) (o := .cells #[.int .i64 a0_0, .int .i64 a0_1, .int .i64 a0_2, .int .i64 a0_3, .string a0_4, .string a0_5] 23 (0, 0)) (bku BK129.out)) (below_size (bls HB.out))); have n1_ := aA (blk_below (g := gb129) (o := .cells #[.int .i64 a0_0, .int .i64 a0_1, .int .i64 a0_2, .int .i64 a0_3, .string a0_4, .string a0_5] 23 (0, 0)) (bku BK129.out) hb); have n2_ := aA (below_step (bls HB.out) hb); clear BK129 HB; have HO132 := n0_; have BK129 := n1_; have HB := n2_; clear n0_ n1_ n2_ hb ho9; obtain ⟨Ao10, co10, eo10⟩ := Kd.R_slice HO132.out; subst eo10) | ((with_reducible refine gate_callee (f := 9) rfl ?_); refine goesL_ (some 5) rfl rfl Tryd.func9 (by kernel_rfl) rfl #[.slice Ao10 y130.length co10] rfl (by (try simp only [List.map_toArray, List.map_cons, List.map_nil]); first | done | rfl | (simp only [List.length_drop, List.length_take]; rfl)) ?_; (with_reducible refine (treillagelaw06_bounded.calls k _ _ y130 true _ ?side1 ?side2 A4.out).mono ?_); (case side1 => repeat (first | exact (Kd.R_reads' HO132.out).2.2 | (with_reducible refine Kd.C_alloc ?_ _) | (with_reducible refine Kd.C_drewN ?_ _) | (with_reducible refine Kd.C_drew ?_))); (case side2 => exact (Kd.R_reads' HO132.out).2.1); rintro e w' ⟨rfl, ⟨nd, rfl⟩⟩; refine ⟨_, rfl, ?_⟩) | (go_at_call 10; (with_reducible refine (treillagelaw06_shown.calls k  t134 _ (by exact HTb.out.below (blw HB.out)) A6.out).mono ?_); rintro e w11 ⟨rfl, hb⟩; have n0_ := aA (Kd.R_below (rlu HO132.out) hb); have n1_ := aA (blk_below (g := gb129) (o := .cells #[.int .i64 a0_0, .int .i64 a0_1, .int .i64 a0_2, .int .i64 a0_3, .string a0_4, .string a0_5] 23 (0, 0)) (bku BK129.out) hb); have n2_ := aA (below_step (bls HB.out) hb); clear HO132 BK129 HB; have HO132 := n0_; have BK129 := n1_; have HB := n2_; clear n0_ n1_ n2_; (try clear hb); (try clear hb2); (try clear hk); (try clear hi)))
   go_meet
   case rel => exact ⟨_, (!t134), (by first | rfl | (simp; done) | (simp [*]; done)), H', ⟨by first | omega | exact Nat.le_refl _⟩, ⟨by (with_reducible repeat (first | refine blk_drewN ?_ _ | refine blk_drew ?_ | refine blk_alloc ?_ _)); exact BK129.out⟩, ⟨by repeat (first | (with_reducible first | exact HB.out | apply below_alloc | apply pw_below_drewN | apply below_drew1 | refine below_set ?_ GE129.out) | exact HB.out)⟩⟩
  ·replace c5 := Bool.eq_false_iff.mpr c5; subst c5; have H1 : (treillagelaw06_OpTells.j0 k true a0_0 a0_1 a0_2 a0_3 a0_4 a0_5) = some r := by rw [if_neg (show ¬ (false = true) by decide)] at H; exact H
   clear H; have H := H1; clear H1; have H' := aA H; clear H; have hcz12_0 : w3.cell? ⟨gb129, 0, none⟩ = some (.int .i64 a0_0) := (blk_cell BK129.out 0).trans rfl; have hcz12_1 : w3.cell? ⟨gb129, 1, none⟩ = some (.int .i64 a0_1) := (blk_cell BK129.out 1).trans rfl; have hcz12_2 : w3.cell? ⟨gb129, 2, none⟩ = some (.int .i64 a0_2) := (blk_cell BK129.out 2).trans rfl; have hcz12_3 : w3.cell? ⟨gb129, 3, none⟩ = some (.int .i64 a0_3) := (blk_cell BK129.out 3).trans rfl; have hcz12_4 : w3.cell? ⟨gb129, 4, none⟩ = some (.string a0_4) := (blk_cell BK129.out 4).trans rfl; have hcz12_5 : w3.cell? ⟨gb129, 5, none⟩ = some (.string a0_5) := (blk_cell BK129.out 5).trans rfl; have hfz12_0 := blk_frozen BK129.out 0; have hfz12_1 := blk_frozen BK129.out 1; have hfz12_2 := blk_frozen BK129.out 2; have hfz12_3 := blk_frozen BK129.out 3; have hfz12_4 := blk_frozen BK129.out 4; have hfz12_5 := blk_frozen BK129.out 5; go_wp2_with (first | ((with_reducible refine gate_dst (N := 4) rfl ?_); refine Kd.R_lit k23 _ 23 ?hg (N := 4) ?hd (xs := ([(⟨a0_0, a0_1, a0_2, a0_3, a0_4, a0_5⟩ : S23)] : List (S23))) (inner := [.int .i64 a0_0, .int .i64 a0_1, .int .i64 a0_2, .int .i64 a0_3, .string a0_4, .string a0_5]) (ok := fun _ => True) (okp := fun _ => True) ?hr ?hp (fun _ hk => hk) trivial (Below.refl _ _) (Nat.le_refl _) (by simp) ?_; (case hd => rfl); (case hg => rfl); (case hr => first | (go_simp; done) | (go_simp; rfl)); (case hp => exact (Reps.c6 (show Kd.M k23 _ _ _ (⟨a0_0, a0_1, a0_2, a0_3, a0_4, a0_5⟩ : S23) [.int .i64 a0_0, .int .i64 a0_1, .int .i64 a0_2, .int .i64 a0_3, .string a0_4, .string a0_5] from (k23_mkM _ _ _ (⟨a0_0, a0_1, a0_2, a0_3, a0_4, a0_5⟩ : S23) )) (Reps.none _ _))); intro v131 w13 ho14 hb hg_ hnew_; clear hg_ hnew_; (first | rw [← Ny130.out] at ho14 | (simp only [Int.reduceToNat] at ho14; rw [← Ny130.out] at ho14)); have n0_ := aA (Kd.R_lower (Kd.R_newB ho14 (g := gb129) (o := .cells #[.int .i64 a0_0, .int .i64 a0_1, .int .i64 a0_2, .int .i64 a0_3, .string a0_4, .string a0_5] 23 (0, 0)) (bku BK129.out)) (below_size (bls HB.out))); have n1_ := aA (blk_below (g := gb129) (o := .cells #[.int .i64 a0_0, .int .i64 a0_1, .int .i64 a0_2, .int .i64 a0_3, .string a0_4, .string a0_5] 23 (0, 0)) (bku BK129.out) hb); have n2_ := aA (below_step (bls HB.out) hb); clear BK129 HB; have HO132 := n0_; have BK129 := n1_; have HB := n2_; clear n0_ n1_ n2_ hb ho14; obtain ⟨Ao15, co15, eo15⟩ := Kd.R_slice HO132.out; subst eo15) | ((with_reducible refine gate_callee (f := 9) rfl ?_); refine goesL_ (some 5) rfl rfl Tryd.func9 (by kernel_rfl) rfl #[.slice Ao15 y130.length co15] rfl (by (try simp only [List.map_toArray, List.map_cons, List.map_nil]); first | done | rfl | (simp only [List.length_drop, List.length_take]; rfl)) ?_; (with_reducible refine (treillagelaw06_bounded.calls k _ _ y130 false _ ?side1 ?side2 A4.out).mono ?_); (case side1 => repeat (first | exact (Kd.R_reads' HO132.out).2.2 | (with_reducible refine Kd.C_alloc ?_ _) | (with_reducible refine Kd.C_drewN ?_ _) | (with_reducible refine Kd.C_drew ?_))); (case side2 => exact (Kd.R_reads' HO132.out).2.1); rintro e w' ⟨rfl, ⟨nd, rfl⟩⟩; refine ⟨_, rfl, ?_⟩))
   go_meet
   case rel => exact ⟨_, (true), (by first | rfl | (simp; done) | (simp [*]; done)), H', ⟨by first | omega | exact Nat.le_refl _⟩, ⟨by (with_reducible repeat (first | refine blk_drewN ?_ _ | refine blk_drew ?_ | refine blk_alloc ?_ _)); exact BK129.out⟩, ⟨by repeat (first | (with_reducible first | exact HB.out | apply below_alloc | apply pw_below_drewN | apply below_drew1 | refine below_set ?_ GE129.out) | exact HB.out)⟩⟩
 case rest =>
  clear HC2; try clear p2
  try clear c3
  try clear c5
  try clear c6
  try clear c9
  try clear hcz12_0
  try clear hcz12_1
  try clear hcz12_2
  try clear hcz12_3
  try clear hcz12_4
  try clear hcz12_5
  try clear hcz7_0
  try clear hcz7_1
  try clear hcz7_2
  try clear hcz7_3
  try clear hcz7_4
  try clear hcz7_5
  try clear hfz12_0
  try clear hfz12_1
  try clear hfz12_2
  try clear hfz12_3
  try clear hfz12_4
  try clear hfz12_5
  try clear hfz7_0
  try clear hfz7_1
  try clear hfz7_2
  try clear hfz7_3
  try clear hfz7_4
  try clear hfz7_5
  obtain ⟨kq, x10_1, rfl, HA, HJ1, BK129, HB⟩ := hcut; cases kq with
  | zero => exact absurd HA.out (by simp [treillagelaw06_OpTells.j0])
  | succ kj1 =>
   have H := HA.out; clear HA; simp only [treillagelaw06_OpTells.j0] at H; by_cases c16 : x10_1 = true
   ·subst c16; have H1 : ((treillagelaw06_shown.f kj1).bind fun t135 => (some t135)) = some r := by rw [if_pos rfl] at H; exact H
    clear H; have H := H1; clear H1; replace H := Option.bind_eq_some_iff.mp H; obtain ⟨t135, A170, H⟩ := H; replace H : (some t135) = some r := H; have A17 := aA A170; clear A170; obtain rfl := Option.some.inj H; go_wp2_with (first | ((with_reducible refine gate_callee (f := 10) rfl ?_); refine goesL_ (some 11) rfl rfl Tryd.func10 (by kernel_rfl) rfl #[] rfl (by (try simp only [List.map_toArray, List.map_cons, List.map_nil]); first | done | rfl | (simp only [List.length_drop, List.length_take]; rfl)) ?_; (with_reducible refine (treillagelaw06_shown.calls kj1  t135 _ (by exact HTb.out.below (blw HB.out)) A17.out).mono ?_); rintro e w18 ⟨rfl, hb⟩; refine ⟨_, rfl, ?_⟩; have n0_ := aA (blk_below (g := gb129) (o := .cells #[.int .i64 a0_0, .int .i64 a0_1, .int .i64 a0_2, .int .i64 a0_3, .string a0_4, .string a0_5] 23 (0, 0)) (bku BK129.out) hb); have n1_ := aA (below_step (bls HB.out) hb); clear BK129 HB; have BK129 := n0_; have HB := n1_; clear n0_ n1_; (try clear hb); (try clear hb2); (try clear hk); (try clear hi)))
    go_ret
    exact ⟨by first | rfl | (simp [errW_none, errW_some] <;> rfl) | (simp [*, errW_none, errW_some] <;> rfl), by repeat (first | (with_reducible first | exact HB.out | apply below_alloc | apply pw_below_drewN | apply below_drew1 | refine below_set ?_ GE129.out) | exact HB.out)⟩
   ·replace c16 := Bool.eq_false_iff.mpr c16; subst c16; have H1 : ((op_May.f a0_0 a0_1 a0_2 a0_3 a0_4 a0_5).bind fun t136 => ((treillageref06_May.f kj1 a0_0 a0_1 a0_2 a0_3 a0_4 a0_5).bind fun t137 => (if (t136 == t137) = true then ((op_Print.f a0_0 a0_1 a0_2 a0_3 a0_4 a0_5).bind fun t138 => ((treillageref06_Print.f kj1 a0_0 a0_1 a0_2 a0_3 a0_4 a0_5).bind fun t139 => (some (t138.toList == t139.toList)))) else (some false)))) = some r := by rw [if_neg (show ¬ (false = true) by decide)] at H; exact H
    clear H; have H := H1; clear H1; replace H := Option.bind_eq_some_iff.mp H; obtain ⟨t136, A190, H⟩ := H; replace H : ((treillageref06_May.f kj1 a0_0 a0_1 a0_2 a0_3 a0_4 a0_5).bind fun t137 => (if (t136 == t137) = true then ((op_Print.f a0_0 a0_1 a0_2 a0_3 a0_4 a0_5).bind fun t138 => ((treillageref06_Print.f kj1 a0_0 a0_1 a0_2 a0_3 a0_4 a0_5).bind fun t139 => (some (t138.toList == t139.toList)))) else (some false))) = some r := H; have A19 := aA A190; clear A190; replace H := Option.bind_eq_some_iff.mp H; obtain ⟨t137, A200, H⟩ := H; replace H : (if (t136 == t137) = true then ((op_Print.f a0_0 a0_1 a0_2 a0_3 a0_4 a0_5).bind fun t138 => ((treillageref06_Print.f kj1 a0_0 a0_1 a0_2 a0_3 a0_4 a0_5).bind fun t139 => (some (t138.toList == t139.toList)))) else (some false)) = some r := H; have A20 := aA A200; clear A200; by_cases c21 : (t136 == t137) = true
    ·rw [if_pos c21] at H; have c21b0 : (t136 == t137) = true := c21; (try (have c21b1 : decide (t136 = t137) = true := by simpa using c21)); (try (have c21b2 : (t136 == t137) = true := by simpa using c21)); clear c21; replace H := Option.bind_eq_some_iff.mp H; obtain ⟨t138, A220, H⟩ := H; replace H : ((treillageref06_Print.f kj1 a0_0 a0_1 a0_2 a0_3 a0_4 a0_5).bind fun t139 => (some (t138.toList == t139.toList))) = some r := H; have A22 := aA A220; clear A220; replace H := Option.bind_eq_some_iff.mp H; obtain ⟨t139, A230, H⟩ := H; replace H : (some (t138.toList == t139.toList)) = some r := H; have A23 := aA A230; clear A230; obtain rfl := Option.some.inj H; try go_wp2
     have n0_ := aA (blk_drew BK129.out); have n1_ := aA (below_drew1 HB.out); clear BK129; clear HB; have BK129 := n0_; have HB := n1_; clear n0_ n1_; refine start_ (n := 13) (S := fun w' => w'.cell? ⟨gb129, 0, none⟩ = some (.int .i64 a0_0) ∧ w'.cell? ⟨gb129, 1, none⟩ = some (.int .i64 a0_1) ∧ w'.cell? ⟨gb129, 2, none⟩ = some (.int .i64 a0_2) ∧ w'.cell? ⟨gb129, 3, none⟩ = some (.int .i64 a0_3) ∧ w'.cell? ⟨gb129, 4, none⟩ = some (.string a0_4) ∧ w'.cell? ⟨gb129, 5, none⟩ = some (.string a0_5)) (ds := []) #[false, false, false, false, false, false, false, false, false, false, false, false, false] (by kernel_rfl) rfl rfl ⟨(blk_cell BK129.out 0).trans rfl, (blk_cell BK129.out 1).trans rfl, (blk_cell BK129.out 2).trans rfl, (blk_cell BK129.out 3).trans rfl, (blk_cell BK129.out 4).trans rfl, (blk_cell BK129.out 5).trans rfl⟩ (fun hHeld => ?_); refine with_tabW treillagelaw06_OpTells.tab3 treillagelaw06_OpTells.bits3 (fun HT_ HW_ => ?_); generalize wc.drew = w24 at BK129 HB hHeld ⊢; refine take_ (i := 0) (N := some 12) (v := ?_) (a' := ?_) #[true, false, false, false, false, false, false, false, false, false, false, false, false] rfl rfl (take_ofW HT_.out HW_.out (by kernel_rfl)) (fun _ _ _ h => h) (Or.inl ⟨by rfl, ?_⟩) hHeld ?_ ?_; rotate_left
     ·rintro w' ⟨s0, s1, s2, s3, s4, s5⟩
      go_simp
      with_reducible rfl
     rotate_left
     ·simp only [Act.put, List.setIfInBounds_toArray, List.set_cons_zero, List.set_cons_succ, i64_w, i32_w]; rfl
     refine take_ (i := 2) (N := some 14) (v := ?_) (a' := ?_) #[true, false, true, false, false, false, false, false, false, false, false, false, false] rfl rfl (take_ofW HT_.out HW_.out (by kernel_rfl)) (fun _ _ _ h => h) (Or.inl ⟨by rfl, ?_⟩) hHeld ?_ ?_; rotate_left
     ·rintro w' ⟨s0, s1, s2, s3, s4, s5⟩
      go_simp
      with_reducible rfl
     rotate_left
     ·simp only [Act.put, List.setIfInBounds_toArray, List.set_cons_zero, List.set_cons_succ, i64_w, i32_w]; rfl
     refine one_ (i := 1) (N := some 13) #[true, true, true, false, false, false, false, false, false, false, false, false, false] rfl rfl (one_of HT_.out (by kernel_rfl)) (by decide) (fun K hK => ?_); refine goes_ Tryd.func11 (by kernel_rfl) rfl #[.agg #[.int .i64 a0_0, .int .i64 a0_1, .int .i64 a0_2, .int .i64 a0_3, .string a0_4, .string a0_5]] (by rfl) rfl rfl (by (try simp only [List.map_toArray, List.map_cons, List.map_nil]); first | done | rfl | (simp only [List.length_drop, List.length_take]; rfl)) ?_; with_reducible refine (op_May.calls a0_0 a0_1 a0_2 a0_3 a0_4 a0_5 t136 _ A19.out).mono ?_
     rintro e w25 ⟨rfl, hb⟩
     refine ⟨_, rfl, ?_⟩; have n0_ := aA (blk_below (g := gb129) (o := .cells #[.int .i64 a0_0, .int .i64 a0_1, .int .i64 a0_2, .int .i64 a0_3, .string a0_4, .string a0_5] 23 (0, 0)) (bku BK129.out) hb); have n1_ := aA (below_step (bls HB.out) hb); clear BK129; clear HB; have BK129 := n0_; have HB := n1_; clear n0_ n1_; (try clear hb); (try clear hb2); (try clear hk); (try clear hi); refine hK.out _ _ ⟨(blk_cell BK129.out 0).trans rfl, (blk_cell BK129.out 1).trans rfl, (blk_cell BK129.out 2).trans rfl, (blk_cell BK129.out 3).trans rfl, (blk_cell BK129.out 4).trans rfl, (blk_cell BK129.out 5).trans rfl⟩ (fun hHeld => ?_); clear hK K; refine norm_ (a' := ?_) ?_ ?_; rotate_left
     ·show Act.put _ (some 13) _ = _
      simp only [Act.put, List.setIfInBounds_toArray, List.set_cons_zero, List.set_cons_succ, i64_w, i32_w]; rfl
     refine one_ (i := 3) (N := some 15) #[true, true, true, true, false, false, false, false, false, false, false, false, false] rfl rfl (one_of HT_.out (by kernel_rfl)) (by decide) (fun K hK => ?_); refine goes_ Tryd.func12 (by kernel_rfl) rfl #[.agg #[.int .i64 a0_0, .int .i64 a0_1, .int .i64 a0_2, .int .i64 a0_3, .string a0_4, .string a0_5]] (by rfl) rfl rfl (by (try simp only [List.map_toArray, List.map_cons, List.map_nil]); first | done | rfl | (simp only [List.length_drop, List.length_take]; rfl)) ?_; with_reducible refine (treillageref06_May.calls kj1 a0_0 a0_1 a0_2 a0_3 a0_4 a0_5 t137 _ A20.out).mono ?_
     rintro e w26 ⟨rfl, hb⟩
     refine ⟨_, rfl, ?_⟩; have n0_ := aA (blk_below (g := gb129) (o := .cells #[.int .i64 a0_0, .int .i64 a0_1, .int .i64 a0_2, .int .i64 a0_3, .string a0_4, .string a0_5] 23 (0, 0)) (bku BK129.out) hb); have n1_ := aA (below_step (bls HB.out) hb); clear BK129; clear HB; have BK129 := n0_; have HB := n1_; clear n0_ n1_; (try clear hb); (try clear hb2); (try clear hk); (try clear hi); refine hK.out _ _ ⟨(blk_cell BK129.out 0).trans rfl, (blk_cell BK129.out 1).trans rfl, (blk_cell BK129.out 2).trans rfl, (blk_cell BK129.out 3).trans rfl, (blk_cell BK129.out 4).trans rfl, (blk_cell BK129.out 5).trans rfl⟩ (fun hHeld => ?_); clear hK K; refine norm_ (a' := ?_) ?_ ?_; rotate_left
     ·show Act.put _ (some 15) _ = _
      simp only [Act.put, List.setIfInBounds_toArray, List.set_cons_zero, List.set_cons_succ, i64_w, i32_w]; rfl
     refine pure_ (i := 4) (N := some 16) (v := ?_) (a' := ?_) #[true, true, true, true, true, false, false, false, false, false, false, false, false] rfl rfl (any_of HT_.out (by kernel_rfl)) (fun _ _ _ h => h) (Or.inl ⟨by rfl, ?_⟩) ?_ ?_; rotate_left
     ·intro w'
      go_simp
      with_reducible rfl
     rotate_left
     ·simp only [Act.put, List.setIfInBounds_toArray, List.set_cons_zero, List.set_cons_succ, i64_w, i32_w]; rfl
     refine pure_ (i := 5) (N := some 17) (v := ?_) (a' := ?_) #[true, true, true, true, true, true, false, false, false, false, false, false, false] rfl rfl (any_of HT_.out (by kernel_rfl)) (fun _ _ _ h => h) (Or.inl ⟨by rfl, ?_⟩) ?_ ?_; rotate_left
     ·intro w'
      go_simp
      with_reducible rfl
     rotate_left
     ·simp only [Act.put, List.setIfInBounds_toArray, List.set_cons_zero, List.set_cons_succ, i64_w, i32_w]; rfl
     refine take_ (i := 6) (N := some 18) (v := ?_) (a' := ?_) #[true, true, true, true, true, true, true, false, false, false, false, false, false] rfl rfl (take_ofW HT_.out HW_.out (by kernel_rfl)) (fun _ _ _ h => h) (Or.inl ⟨by rfl, ?_⟩) hHeld ?_ ?_; rotate_left
     ·rintro w' ⟨s0, s1, s2, s3, s4, s5⟩
      go_simp
      with_reducible rfl
     rotate_left
     ·simp only [Act.put, List.setIfInBounds_toArray, List.set_cons_zero, List.set_cons_succ, i64_w, i32_w]; rfl
     refine take_ (i := 8) (N := some 20) (v := ?_) (a' := ?_) #[true, true, true, true, true, true, true, false, true, false, false, false, false] rfl rfl (take_ofW HT_.out HW_.out (by kernel_rfl)) (fun _ _ _ h => h) (Or.inl ⟨by rfl, ?_⟩) hHeld ?_ ?_; rotate_left
     ·rintro w' ⟨s0, s1, s2, s3, s4, s5⟩
      go_simp
      with_reducible rfl
     rotate_left
     ·simp only [Act.put, List.setIfInBounds_toArray, List.set_cons_zero, List.set_cons_succ, i64_w, i32_w]; rfl
     refine one_ (i := 7) (N := some 19) #[true, true, true, true, true, true, true, true, true, false, false, false, false] rfl rfl (one_of HT_.out (by kernel_rfl)) (by decide) (fun K hK => ?_); refine goes_ Tryd.func13 (by kernel_rfl) rfl #[.agg #[.int .i64 a0_0, .int .i64 a0_1, .int .i64 a0_2, .int .i64 a0_3, .string a0_4, .string a0_5]] (by rfl) rfl rfl (by (try simp only [List.map_toArray, List.map_cons, List.map_nil]); first | done | rfl | (simp only [List.length_drop, List.length_take]; rfl)) ?_; with_reducible refine (op_Print.calls a0_0 a0_1 a0_2 a0_3 a0_4 a0_5 t138 _ A22.out (by exact HTb.out.below (blw HB.out))).mono ?_
     rintro e w27 ⟨rfl, hb⟩
     refine ⟨_, rfl, ?_⟩; have n0_ := aA (blk_below (g := gb129) (o := .cells #[.int .i64 a0_0, .int .i64 a0_1, .int .i64 a0_2, .int .i64 a0_3, .string a0_4, .string a0_5] 23 (0, 0)) (bku BK129.out) hb); have n1_ := aA (below_step (bls HB.out) hb); clear BK129; clear HB; have BK129 := n0_; have HB := n1_; clear n0_ n1_; (try clear hb); (try clear hb2); (try clear hk); (try clear hi); refine hK.out _ _ ⟨(blk_cell BK129.out 0).trans rfl, (blk_cell BK129.out 1).trans rfl, (blk_cell BK129.out 2).trans rfl, (blk_cell BK129.out 3).trans rfl, (blk_cell BK129.out 4).trans rfl, (blk_cell BK129.out 5).trans rfl⟩ (fun hHeld => ?_); clear hK K; refine norm_ (a' := ?_) ?_ ?_; rotate_left
     ·show Act.put _ (some 19) _ = _
      simp only [Act.put, List.setIfInBounds_toArray, List.set_cons_zero, List.set_cons_succ, i64_w, i32_w]; rfl
     refine one_ (i := 9) (N := some 21) #[true, true, true, true, true, true, true, true, true, true, false, false, false] rfl rfl (one_of HT_.out (by kernel_rfl)) (by decide) (fun K hK => ?_); refine goes_ Tryd.func14 (by kernel_rfl) rfl #[.agg #[.int .i64 a0_0, .int .i64 a0_1, .int .i64 a0_2, .int .i64 a0_3, .string a0_4, .string a0_5]] (by rfl) rfl rfl (by (try simp only [List.map_toArray, List.map_cons, List.map_nil]); first | done | rfl | (simp only [List.length_drop, List.length_take]; rfl)) ?_; with_reducible refine (treillageref06_Print.calls kj1 a0_0 a0_1 a0_2 a0_3 a0_4 a0_5 t139 _ A23.out).mono ?_
     rintro e w28 ⟨rfl, hb⟩
     refine ⟨_, rfl, ?_⟩; have n0_ := aA (blk_below (g := gb129) (o := .cells #[.int .i64 a0_0, .int .i64 a0_1, .int .i64 a0_2, .int .i64 a0_3, .string a0_4, .string a0_5] 23 (0, 0)) (bku BK129.out) hb); have n1_ := aA (below_step (bls HB.out) hb); clear BK129; clear HB; have BK129 := n0_; have HB := n1_; clear n0_ n1_; (try clear hb); (try clear hb2); (try clear hk); (try clear hi); refine hK.out _ _ ⟨(blk_cell BK129.out 0).trans rfl, (blk_cell BK129.out 1).trans rfl, (blk_cell BK129.out 2).trans rfl, (blk_cell BK129.out 3).trans rfl, (blk_cell BK129.out 4).trans rfl, (blk_cell BK129.out 5).trans rfl⟩ (fun hHeld => ?_); clear hK K; refine norm_ (a' := ?_) ?_ ?_; rotate_left
     ·show Act.put _ (some 21) _ = _
      simp only [Act.put, List.setIfInBounds_toArray, List.set_cons_zero, List.set_cons_succ, i64_w, i32_w]; rfl
     refine pure_ (i := 10) (N := some 22) (v := ?_) (a' := ?_) #[true, true, true, true, true, true, true, true, true, true, true, false, false] rfl rfl (any_of HT_.out (by kernel_rfl)) (fun _ _ _ h => h) (Or.inl ⟨by rfl, ?_⟩) ?_ ?_; rotate_left
     ·intro w'
      go_simp
      with_reducible rfl
     rotate_left
     ·simp only [Act.put, List.setIfInBounds_toArray, List.set_cons_zero, List.set_cons_succ, i64_w, i32_w]; rfl
     refine pure_ (i := 11) (N := some 23) (v := ?_) (a' := ?_) #[true, true, true, true, true, true, true, true, true, true, true, true, false] rfl rfl (any_of HT_.out (by kernel_rfl)) (fun _ _ _ h => h) (Or.inl ⟨by rfl, ?_⟩) ?_ ?_; rotate_left
     ·intro w'
      go_simp
      with_reducible rfl
     rotate_left
     ·simp only [Act.put, List.setIfInBounds_toArray, List.set_cons_zero, List.set_cons_succ, i64_w, i32_w]; rfl
     refine pure_ (i := 12) (N := some 2) (v := ?_) (a' := ?_) #[true, true, true, true, true, true, true, true, true, true, true, true, true] rfl rfl (any_of HT_.out (by kernel_rfl)) (fun _ _ _ h => h) (Or.inl ⟨by rfl, ?_⟩) ?_ ?_; rotate_left
     ·intro w'
      go_simp
      with_reducible rfl
     rotate_left
     ·simp only [Act.put, List.setIfInBounds_toArray, List.set_cons_zero, List.set_cons_succ, i64_w, i32_w]; rfl
     refine done_ (done_of HT_.out (by kernel_rfl)) ?_; try go_wp2
     go_ret
     exact ⟨by first | rfl | (simp [errW_none, errW_some] <;> rfl) | (simp [*, errW_none, errW_some] <;> rfl), by repeat (first | (with_reducible first | exact HB.out | apply below_alloc | apply pw_below_drewN | apply below_drew1 | refine below_set ?_ GE129.out) | exact HB.out)⟩
    ·rw [if_neg c21] at H; have c21b0 : (t136 == t137) = false := by simpa using c21
     (try (have c21b1 : decide (t136 = t137) = false := by simpa using c21)); (try (have c21b2 : (t136 == t137) = false := by simpa using c21)); (try (have c21b3 : ¬ (t136 = t137) := by simpa using c21)); clear c21; exact absurd ((Option.some.inj H).trans hr_) (by decide)

theorem treillagelaw06_OpTells.calls (k : Nat) (a0_0 : Int) (a0_1 : Int) (a0_2 : Int) (a0_3 : Int) (a0_4 : ByteArray) (a0_5 : ByteArray) (r : Bool) (w : World) (hTb : Tab w) (h : treillagelaw06_OpTells.f k a0_0 a0_1 a0_2 a0_3 a0_4 a0_5 = some true) :
  Calls Tryd.prog 3 #[.agg #[.int .i64 a0_0, .int .i64 a0_1, .int .i64 a0_2, .int .i64 a0_3, .string a0_4, .string a0_5]] w fun e w' => e = .returned (.bool true) ∧ Below w.heap.size w w' := treillagelaw06_OpTells.calls1 k a0_0 a0_1 a0_2 a0_3 a0_4 a0_5 true w hTb h rfl
end Go.Proofs.YtooefecjkgdpbaaDoor.PA
