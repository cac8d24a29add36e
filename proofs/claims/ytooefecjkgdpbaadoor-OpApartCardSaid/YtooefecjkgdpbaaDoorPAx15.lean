-- Written by wip/hprint/hprint.py (a program of this session, over the print): not typed by hand
import Derived.Test.YtooefecjkgdpbaaDoorPAx0
import Derived.Test.YtooefecjkgdpbaaDoorPAx3
import Derived.Test.YtooefecjkgdpbaaDoorPAx5
import Derived.Test.YtooefecjkgdpbaaDoorPAx6
import Derived.Test.YtooefecjkgdpbaaDoorPAx11
import Derived.Test.YtooefecjkgdpbaaDoorPAx12
namespace Go.Proofs.YtooefecjkgdpbaaDoor.PA
open Go.RowKit Go.Proofs.YtooefecjkgdpbaaDoorW.PrintWords Go.Proofs.YtooefecjkgdpbaaDoorW.PrintLast Go.Proofs.YtooefecjkgdpbaaDoorW.PrintMore
attribute [local go_sem] max2_int min2_int max_two min_two max_three min_three max_four min_four   -- for this text's walks alone
open Go.Proofs.YtooefecjkgdpbaaDoorH
set_option linter.unusedVariables false
set_option linter.unusedSimpArgs false

/-! ### treillagelaw06_OpApart: function 8 -/
mutual
def treillagelaw06_OpApart.j0 : Nat → List (S23) → List (S23) → Bool → Option (Bool)
 | 0, _, _, _ => none
 | k + 1, x0, x1, x20 => if x20 = true then ((treillagelaw06_shown.f k).bind fun t281 => (some t281)) else ((op_Encode.f k x0).bind fun bt282 => ((op_Encode.f k x1).bind fun bt284 => (if bt282.2 = 0 then (treillagelaw06_OpApart.j1 k x0 x1 bt282.1 bt282.2 bt284.1 bt284.2 (bt284.2 != 0)) else (treillagelaw06_OpApart.j1 k x0 x1 bt282.1 bt282.2 bt284.1 bt284.2 true))))
def treillagelaw06_OpApart.j1 : Nat → List (S23) → List (S23) → ByteArray → Int → ByteArray → Int → Bool → Option (Bool)
 | 0, _, _, _, _, _, _, _ => none
 | k + 1, x0, x1, x5, x6, x7, x8, x37 => if x37 = true then (if x6 = 0 then (if x8 = 0 then (some false) else (some (x7.toList == ([] : List UInt8)))) else (if x5.toList = ([] : List UInt8) then (some true) else (if x8 = 0 then (some false) else (some (x7.toList == ([] : List UInt8)))))) else ((treillagelaw06_its.f k x0).bind fun t286 => ((treillagelaw06_its.f k x1).bind fun t289 => ((treillageref06_Same.f k t286 t289).bind fun t292 => (some ((x5.toList == x7.toList) == t292)))))
end
def treillagelaw06_OpApart.f (k : Nat) (l0 : List (S23)) (l1 : List (S23)) : Option (Bool) := (treillagelaw06_bounded.f k l0).bind fun t278 => (if t278 = true then ((treillagelaw06_bounded.f k l1).bind fun t279 => (if t279 = true then ((treillagelaw06_shown.f k).bind fun t280 => (treillagelaw06_OpApart.j0 k l0 l1 (!t280))) else (treillagelaw06_OpApart.j0 k l0 l1 true))) else (treillagelaw06_OpApart.j0 k l0 l1 true))
theorem treillagelaw06_OpApart.mono_l : ∀ k, (∀ y0 y1 y2, LeO (treillagelaw06_OpApart.j0 k y0 y1 y2) (treillagelaw06_OpApart.j0 (k + 1) y0 y1 y2)) ∧ (∀ y0 y1 y2 y3 y4 y5 y6, LeO (treillagelaw06_OpApart.j1 k y0 y1 y2 y3 y4 y5 y6) (treillagelaw06_OpApart.j1 (k + 1) y0 y1 y2 y3 y4 y5 y6))
 | 0 => ⟨fun _ _ _ r h => by simp [treillagelaw06_OpApart.j0] at h, fun _ _ _ _ _ _ _ r h => by simp [treillagelaw06_OpApart.j1] at h⟩
 | k + 1 => by
  obtain ⟨ih0, ih1⟩ := treillagelaw06_OpApart.mono_l k; refine ⟨?_, ?_⟩
  ·intro y0 y1 y2
   unfold treillagelaw06_OpApart.j0; repeat' first
   | (with_reducible exact ih0 _ _ _)
   | (with_reducible exact ih1 _ _ _ _ _ _ _)
   | (with_reducible exact op_Encode.mono _ _)
   | (with_reducible exact treillagelaw06_bounded.mono _ _)
   | (with_reducible exact treillagelaw06_its.mono _ _)
   | (with_reducible exact treillagelaw06_shown.mono _)
   | (with_reducible exact treillageref06_Same.mono _ _ _)
   | (with_reducible exact LeO.refl _)
   | (with_reducible exact LeO.none _)
   | (with_reducible refine LeO.ite ?_ ?_)
   | (with_reducible refine LeO.bind ?_ (fun _ => ?_))
   | exact ih0 _ _ _
   | exact ih1 _ _ _ _ _ _ _
   | exact op_Encode.mono _ _
   | exact treillagelaw06_bounded.mono _ _
   | exact treillagelaw06_its.mono _ _
   | exact treillagelaw06_shown.mono _
   | exact treillageref06_Same.mono _ _ _
   | exact LeO.none _
   | refine LeO.ite ?_ ?_
   | refine LeO.bind ?_ (fun _ => ?_)
  ·intro y0 y1 y2 y3 y4 y5 y6
   unfold treillagelaw06_OpApart.j1; repeat' first
   | (with_reducible exact ih0 _ _ _)
   | (with_reducible exact ih1 _ _ _ _ _ _ _)
   | (with_reducible exact op_Encode.mono _ _)
   | (with_reducible exact treillagelaw06_bounded.mono _ _)
   | (with_reducible exact treillagelaw06_its.mono _ _)
   | (with_reducible exact treillagelaw06_shown.mono _)
   | (with_reducible exact treillageref06_Same.mono _ _ _)
   | (with_reducible exact LeO.refl _)
   | (with_reducible exact LeO.none _)
   | (with_reducible refine LeO.ite ?_ ?_)
   | (with_reducible refine LeO.bind ?_ (fun _ => ?_))
   | exact ih0 _ _ _
   | exact ih1 _ _ _ _ _ _ _
   | exact op_Encode.mono _ _
   | exact treillagelaw06_bounded.mono _ _
   | exact treillagelaw06_its.mono _ _
   | exact treillagelaw06_shown.mono _
   | exact treillageref06_Same.mono _ _ _
   | exact LeO.none _
   | refine LeO.ite ?_ ?_
   | refine LeO.bind ?_ (fun _ => ?_)
theorem treillagelaw06_OpApart.mono : ∀ a0 a1 k, LeO (treillagelaw06_OpApart.f k a0 a1) (treillagelaw06_OpApart.f (k + 1) a0 a1) := by
 intro a0 a1 k
 obtain ⟨ih0, ih1⟩ := treillagelaw06_OpApart.mono_l k; unfold treillagelaw06_OpApart.f
 repeat' first
   | (with_reducible exact ih0 _ _ _)
   | (with_reducible exact ih1 _ _ _ _ _ _ _)
   | (with_reducible exact op_Encode.mono _ _)
   | (with_reducible exact treillagelaw06_bounded.mono _ _)
   | (with_reducible exact treillagelaw06_its.mono _ _)
   | (with_reducible exact treillagelaw06_shown.mono _)
   | (with_reducible exact treillageref06_Same.mono _ _ _)
   | (with_reducible exact LeO.refl _)
   | (with_reducible exact LeO.none _)
   | (with_reducible refine LeO.ite ?_ ?_)
   | (with_reducible refine LeO.bind ?_ (fun _ => ?_))
   | exact ih0 _ _ _
   | exact ih1 _ _ _ _ _ _ _
   | exact op_Encode.mono _ _
   | exact treillagelaw06_bounded.mono _ _
   | exact treillagelaw06_its.mono _ _
   | exact treillagelaw06_shown.mono _
   | exact treillageref06_Same.mono _ _ _
   | exact LeO.none _
   | refine LeO.ite ?_ ?_
   | refine LeO.bind ?_ (fun _ => ?_)
set_option maxHeartbeats 8000000 in
set_option maxRecDepth 100000 in
theorem treillagelaw06_OpApart.calls1 (k : Nat) (A0 : Option Addr) (c0 : Nat) (l0 : List (S23)) (A1 : Option Addr) (c1 : Nat) (l1 : List (S23)) (r : Bool) (w : World) (hTb : Tab w) (hr0 : Kd.C k23 w A0 l0.length l0) (hc0 : l0.length ≤ c0) (hr1 : Kd.C k23 w A1 l1.length l1) (hc1 : l1.length ≤ c1) (h : treillagelaw06_OpApart.f k l0 l1 = some r) (hr_ : r = true) :
  Calls Tryd.prog 8 #[.slice A0 l0.length c0, .slice A1 l1.length c1] w fun e w' => e = .returned (.bool r) ∧ Below w.heap.size w w' := by
 have HTb := aA hTb; clear hTb; have HR0 := aA hr0; have HC0 := aA hc0; clear hr0 hc0; have HR1 := aA hr1; have HC1 := aA hc1; clear hr1 hc1; have HB := aA (Below.refl w.heap.size w); have H : ((treillagelaw06_bounded.f k l0).bind fun t278 => (if t278 = true then ((treillagelaw06_bounded.f k l1).bind fun t279 => (if t279 = true then ((treillagelaw06_shown.f k).bind fun t280 => (treillagelaw06_OpApart.j0 k l0 l1 (!t280))) else (treillagelaw06_OpApart.j0 k l0 l1 true))) else (treillagelaw06_OpApart.j0 k l0 l1 true))) = some r := h; clear h; have HC3 := aA H; clear H; go_enter Tryd.func8, Tryd.ntmps8; go_upto_region 1 with (fail)
 go_cut [20] (fun v20 wc => ∃ (kq : Nat) (x20_2 : Bool), v20 = .bool x20_2 ∧ Aside0 (treillagelaw06_OpApart.j0 kq l0 l1 x20_2 = some r) ∧ Aside0 (kq ≤ k) ∧ Aside0 (Below w.heap.size w wc))
 case first =>
  have H := HC3.out; clear HC3; replace H := Option.bind_eq_some_iff.mp H; obtain ⟨t278, A40, H⟩ := H; replace H : (if t278 = true then ((treillagelaw06_bounded.f k l1).bind fun t279 => (if t279 = true then ((treillagelaw06_shown.f k).bind fun t280 => (treillagelaw06_OpApart.j0 k l0 l1 (!t280))) else (treillagelaw06_OpApart.j0 k l0 l1 true))) else (treillagelaw06_OpApart.j0 k l0 l1 true)) = some r := H; have A4 := aA A40; clear A40; by_cases c5 : t278 = true
  ·subst c5; have H1 : ((treillagelaw06_bounded.f k l1).bind fun t279 => (if t279 = true then ((treillagelaw06_shown.f k).bind fun t280 => (treillagelaw06_OpApart.j0 k l0 l1 (!t280))) else (treillagelaw06_OpApart.j0 k l0 l1 true))) = some r := by rw [if_pos rfl] at H; exact H
   clear H; have H := H1; clear H1; replace H := Option.bind_eq_some_iff.mp H; obtain ⟨t279, A60, H⟩ := H; replace H : (if t279 = true then ((treillagelaw06_shown.f k).bind fun t280 => (treillagelaw06_OpApart.j0 k l0 l1 (!t280))) else (treillagelaw06_OpApart.j0 k l0 l1 true)) = some r := H; have A6 := aA A60; clear A60; by_cases c7 : t279 = true
   ·subst c7; have H1 : ((treillagelaw06_shown.f k).bind fun t280 => (treillagelaw06_OpApart.j0 k l0 l1 (!t280))) = some r := by rw [if_pos rfl] at H; exact H
    clear H; have H := H1; clear H1; replace H := Option.bind_eq_some_iff.mp H; obtain ⟨t280, A80, H⟩ := H; replace H : (treillagelaw06_OpApart.j0 k l0 l1 (!t280)) = some r := H; have A8 := aA A80; clear A80; have H' := aA H; clear H; go_wp2_with (first | ((with_reducible refine gate_callee (f := 9) rfl ?_); refine goesL_ (some 10) rfl rfl Tryd.func9 (by kernel_rfl) rfl #[.slice A0 l0.length c0] rfl (by (try simp only [List.map_toArray, List.map_cons, List.map_nil]); first | done | rfl | (simp only [List.length_drop, List.length_take]; rfl)) ?_; (with_reducible refine (treillagelaw06_bounded.calls k _ _ l0 true _ ?side1 ?side2 A4.out).mono ?_); (case side1 => repeat (first | exact (Kd.C_below HR0.out HB.out) | (with_reducible refine Kd.C_alloc ?_ _) | (with_reducible refine Kd.C_drewN ?_ _) | (with_reducible refine Kd.C_drew ?_))); (case side2 => exact HC0.out); rintro e w' ⟨rfl, ⟨nd, rfl⟩⟩; refine ⟨_, rfl, ?_⟩) | (go_at_call 9; (with_reducible refine (treillagelaw06_bounded.calls k _ _ l1 true _ ?side1 ?side2 A6.out).mono ?_); (case side1 => repeat (first | exact (Kd.C_below HR1.out (blw HB.out)) | (with_reducible refine Kd.C_alloc ?_ _) | (with_reducible refine Kd.C_drewN ?_ _) | (with_reducible refine Kd.C_drew ?_))); (case side2 => exact HC1.out); rintro e w' ⟨rfl, ⟨nd, rfl⟩⟩) | (go_at_call 10; (with_reducible refine (treillagelaw06_shown.calls k  t280 _ (by exact HTb.out.below (blw HB.out)) A8.out).mono ?_); rintro e w9 ⟨rfl, hb⟩; have n0_ := aA (below_step (blw HB.out) hb); clear HB; have HB := n0_; clear n0_; (try clear hb); (try clear hb2); (try clear hk); (try clear hi)))
    go_meet
    case rel => exact ⟨_, (!t280), (by first | rfl | (simp; done) | (simp [*]; done)), H', ⟨by first | omega | exact Nat.le_refl _⟩, ⟨by repeat (first | (with_reducible first | exact HB.out | apply below_alloc | apply pw_below_drewN | apply below_drew1) | exact HB.out)⟩⟩
   ·replace c7 := Bool.eq_false_iff.mpr c7; subst c7; have H1 : (treillagelaw06_OpApart.j0 k l0 l1 true) = some r := by rw [if_neg (show ¬ (false = true) by decide)] at H; exact H
    clear H; have H := H1; clear H1; have H' := aA H; clear H; go_wp2_with (first | ((with_reducible refine gate_callee (f := 9) rfl ?_); refine goesL_ (some 10) rfl rfl Tryd.func9 (by kernel_rfl) rfl #[.slice A0 l0.length c0] rfl (by (try simp only [List.map_toArray, List.map_cons, List.map_nil]); first | done | rfl | (simp only [List.length_drop, List.length_take]; rfl)) ?_; (with_reducible refine (treillagelaw06_bounded.calls k _ _ l0 true _ ?side1 ?side2 A4.out).mono ?_); (case side1 => repeat (first | exact (Kd.C_below HR0.out HB.out) | (with_reducible refine Kd.C_alloc ?_ _) | (with_reducible refine Kd.C_drewN ?_ _) | (with_reducible refine Kd.C_drew ?_))); (case side2 => exact HC0.out); rintro e w' ⟨rfl, ⟨nd, rfl⟩⟩; refine ⟨_, rfl, ?_⟩) | (go_at_call 9; (with_reducible refine (treillagelaw06_bounded.calls k _ _ l1 false _ ?side1 ?side2 A6.out).mono ?_); (case side1 => repeat (first | exact (Kd.C_below HR1.out (blw HB.out)) | (with_reducible refine Kd.C_alloc ?_ _) | (with_reducible refine Kd.C_drewN ?_ _) | (with_reducible refine Kd.C_drew ?_))); (case side2 => exact HC1.out); rintro e w' ⟨rfl, ⟨nd, rfl⟩⟩))
    go_meet
    case rel => exact ⟨_, (true), (by first | rfl | (simp; done) | (simp [*]; done)), H', ⟨by first | omega | exact Nat.le_refl _⟩, ⟨by repeat (first | (with_reducible first | exact HB.out | apply below_alloc | apply pw_below_drewN | apply below_drew1) | exact HB.out)⟩⟩
  ·replace c5 := Bool.eq_false_iff.mpr c5; subst c5; have H1 : (treillagelaw06_OpApart.j0 k l0 l1 true) = some r := by rw [if_neg (show ¬ (false = true) by decide)] at H; exact H
   clear H; have H := H1; clear H1; have H' := aA H; clear H; go_wp2_with (first | ((with_reducible refine gate_callee (f := 9) rfl ?_); refine goesL_ (some 10) rfl rfl Tryd.func9 (by kernel_rfl) rfl #[.slice A0 l0.length c0] rfl (by (try simp only [List.map_toArray, List.map_cons, List.map_nil]); first | done | rfl | (simp only [List.length_drop, List.length_take]; rfl)) ?_; (with_reducible refine (treillagelaw06_bounded.calls k _ _ l0 false _ ?side1 ?side2 A4.out).mono ?_); (case side1 => repeat (first | exact (Kd.C_below HR0.out HB.out) | (with_reducible refine Kd.C_alloc ?_ _) | (with_reducible refine Kd.C_drewN ?_ _) | (with_reducible refine Kd.C_drew ?_))); (case side2 => exact HC0.out); rintro e w' ⟨rfl, ⟨nd, rfl⟩⟩; refine ⟨_, rfl, ?_⟩))
   go_meet
   case rel => exact ⟨_, (true), (by first | rfl | (simp; done) | (simp [*]; done)), H', ⟨by first | omega | exact Nat.le_refl _⟩, ⟨by repeat (first | (with_reducible first | exact HB.out | apply below_alloc | apply pw_below_drewN | apply below_drew1) | exact HB.out)⟩⟩
 case rest =>
  clear HC3; try clear c1
  try clear p2
  try clear c5
  try clear c7
  try clear c8
  try clear c9
  obtain ⟨kq, x20_2, rfl, HA, HJ2, HB⟩ := hcut; cases kq with
  | zero => exact absurd HA.out (by simp [treillagelaw06_OpApart.j0])
  | succ kj2 =>
   have H := HA.out; clear HA; simp only [treillagelaw06_OpApart.j0] at H; by_cases c10 : x20_2 = true
   ·subst c10; have H1 : ((treillagelaw06_shown.f kj2).bind fun t281 => (some t281)) = some r := by rw [if_pos rfl] at H; exact H
    clear H; have H := H1; clear H1; replace H := Option.bind_eq_some_iff.mp H; obtain ⟨t281, A110, H⟩ := H; replace H : (some t281) = some r := H; have A11 := aA A110; clear A110; obtain rfl := Option.some.inj H; go_wp2_with (first | ((with_reducible refine gate_callee (f := 10) rfl ?_); refine goesL_ (some 21) rfl rfl Tryd.func10 (by kernel_rfl) rfl #[] rfl (by (try simp only [List.map_toArray, List.map_cons, List.map_nil]); first | done | rfl | (simp only [List.length_drop, List.length_take]; rfl)) ?_; (with_reducible refine (treillagelaw06_shown.calls kj2  t281 _ (by exact HTb.out.below (blw HB.out)) A11.out).mono ?_); rintro e w12 ⟨rfl, hb⟩; refine ⟨_, rfl, ?_⟩; have n0_ := aA (below_step (blw HB.out) hb); clear HB; have HB := n0_; clear n0_; (try clear hb); (try clear hb2); (try clear hk); (try clear hi)))
    go_ret
    exact ⟨by first | rfl | (simp [errW_none, errW_some] <;> rfl) | (simp [*, errW_none, errW_some] <;> rfl), by repeat (first | (with_reducible first | exact HB.out | apply below_alloc | apply pw_below_drewN | apply below_drew1) | exact HB.out)⟩
   ·replace c10 := Bool.eq_false_iff.mpr c10; subst c10; have H1 : ((op_Encode.f kj2 l0).bind fun bt282 => ((op_Encode.f kj2 l1).bind fun bt284 => (if bt282.2 = 0 then (treillagelaw06_OpApart.j1 kj2 l0 l1 bt282.1 bt282.2 bt284.1 bt284.2 (bt284.2 != 0)) else (treillagelaw06_OpApart.j1 kj2 l0 l1 bt282.1 bt282.2 bt284.1 bt284.2 true)))) = some r := by rw [if_neg (show ¬ (false = true) by decide)] at H; exact H
    clear H; have H := H1; clear H1; replace H := Option.bind_eq_some_iff.mp H; obtain ⟨⟨t282, t283⟩, A130, H⟩ := H; replace H : ((op_Encode.f kj2 l1).bind fun bt284 => (if t283 = 0 then (treillagelaw06_OpApart.j1 kj2 l0 l1 t282 t283 bt284.1 bt284.2 (bt284.2 != 0)) else (treillagelaw06_OpApart.j1 kj2 l0 l1 t282 t283 bt284.1 bt284.2 true))) = some r := H; have A13 := aA A130; clear A130; replace H := Option.bind_eq_some_iff.mp H; obtain ⟨⟨t284, t285⟩, A140, H⟩ := H; replace H : (if t283 = 0 then (treillagelaw06_OpApart.j1 kj2 l0 l1 t282 t283 t284 t285 (t285 != 0)) else (treillagelaw06_OpApart.j1 kj2 l0 l1 t282 t283 t284 t285 true)) = some r := H; have A14 := aA A140; clear A140; have HC15 := aA H; clear H; go_upto_region 5 with (first | ((with_reducible refine gate_callee (f := 15) rfl ?_); refine goesL_ (some 24) rfl rfl Tryd.func15 (by kernel_rfl) rfl #[.slice A0 l0.length c0] rfl (by (try simp only [List.map_toArray, List.map_cons, List.map_nil]); first | done | rfl | (simp only [List.length_drop, List.length_take]; rfl)) ?_; (with_reducible refine (op_Encode.calls kj2 _ _ l0 t282 t283 _ ?side1 ?side2 A13.out).mono ?_); (case side1 => repeat (first | exact (Kd.C_below HR0.out HB.out) | (with_reducible refine Kd.C_alloc ?_ _) | (with_reducible refine Kd.C_drewN ?_ _) | (with_reducible refine Kd.C_drew ?_))); (case side2 => exact HC0.out); rintro e w16 ⟨rfl, hb⟩; refine ⟨_, rfl, ?_⟩; have n0_ := aA (below_step (blw HB.out) hb); clear HB; have HB := n0_; clear n0_; (try clear hb); (try clear hb2); (try clear hk); (try clear hi)) | ((with_reducible refine gate_callee (f := 15) rfl ?_); refine goesL_ (some 29) rfl rfl Tryd.func15 (by kernel_rfl) rfl #[.slice A1 l1.length c1] rfl (by (try simp only [List.map_toArray, List.map_cons, List.map_nil]); first | done | rfl | (simp only [List.length_drop, List.length_take]; rfl)) ?_; (with_reducible refine (op_Encode.calls kj2 _ _ l1 t284 t285 _ ?side1 ?side2 A14.out).mono ?_); (case side1 => repeat (first | exact (Kd.C_below HR1.out HB.out) | (with_reducible refine Kd.C_alloc ?_ _) | (with_reducible refine Kd.C_drewN ?_ _) | (with_reducible refine Kd.C_drew ?_))); (case side2 => exact HC1.out); rintro e w17 ⟨rfl, hb⟩; refine ⟨_, rfl, ?_⟩; have n0_ := aA (below_step (blw HB.out) hb); clear HB; have HB := n0_; clear n0_; (try clear hb); (try clear hb2); (try clear hk); (try clear hi)))
    (try simp only [Act.put, List.setIfInBounds_toArray, List.set_cons_zero, List.set_cons_succ]); go_cut [37] (fun v37 wc => ∃ (kq : Nat) (x37_14 : Bool), v37 = .bool x37_14 ∧ Aside0 (treillagelaw06_OpApart.j1 kq l0 l1 t282 t283 t284 t285 x37_14 = some r) ∧ Aside0 (kq ≤ kj2) ∧ Aside0 (Below w.heap.size w wc))
    case first =>
     have H := HC15.out; clear HC15; by_cases c18 : t283 = 0
     ·rw [if_pos c18] at H; have c18b0 : (t283 == 0) = true := beq_iff_eq.mpr c18; have c18b1 : (t283 != 0) = false := bne_eq_false_iff_eq.mpr c18; clear c18; (first | rw [c18b0] | rw [c18b1] | (simp only [i64_w, i32_w]; rw [c18b0]) | skip)
      have H' := aA H; clear H; go_wp2; go_meet
      case rel => exact ⟨_, ((t285 != 0)), (by first | rfl | (simp; done) | (simp [*]; done)), H', ⟨by have := HJ2.out; first | omega | exact Nat.le_refl _⟩, ⟨by repeat (first | (with_reducible first | exact HB.out | apply below_alloc | apply pw_below_drewN | apply below_drew1) | exact HB.out)⟩⟩
     ·rw [if_neg c18] at H; have c18b0 : (t283 == 0) = false := beq_eq_false_iff_ne.mpr c18; have c18b1 : (t283 != 0) = true := bne_iff_ne.mpr c18; (first | rw [c18b0] | rw [c18b1] | (simp only [i64_w, i32_w]; rw [c18b0]) | skip)
      have H' := aA H; clear H; go_wp2; go_meet
      case rel => exact ⟨_, (true), (by first | rfl | (simp; done) | (simp [*]; done)), H', ⟨by have := HJ2.out; first | omega | exact Nat.le_refl _⟩, ⟨by repeat (first | (with_reducible first | exact HB.out | apply below_alloc | apply pw_below_drewN | apply below_drew1) | exact HB.out)⟩⟩
    case rest =>
     clear HC15; try clear c1
     try clear p2
     try clear c5
     try clear c7
     try clear c8
     try clear c9
     try clear c10
     try clear c15
     try clear c18
     try clear c18b0
     try clear c18b1
     try clear p2
     obtain ⟨kq, x37_14, rfl, HA, HJ14, HB⟩ := hcut; cases kq with
     | zero => exact absurd HA.out (by simp [treillagelaw06_OpApart.j1])
     | succ kj14 =>
      have H := HA.out; clear HA; simp only [treillagelaw06_OpApart.j1] at H; by_cases c19 : x37_14 = true
      ·subst c19; have H1 : (if t283 = 0 then (if t285 = 0 then (some false) else (some (t284.toList == ([] : List UInt8)))) else (if t282.toList = ([] : List UInt8) then (some true) else (if t285 = 0 then (some false) else (some (t284.toList == ([] : List UInt8)))))) = some r := by rw [if_pos rfl] at H; exact H
       clear H; have H := H1; clear H1; by_cases c20 : t283 = 0
       ·rw [if_pos c20] at H; have c20b0 : (t283 == 0) = true := beq_iff_eq.mpr c20; have c20b1 : (t283 != 0) = false := bne_eq_false_iff_eq.mpr c20; clear c20; by_cases c21 : t285 = 0
        ·rw [if_pos c21] at H; have c21b0 : (t285 == 0) = true := beq_iff_eq.mpr c21; have c21b1 : (t285 != 0) = false := bne_eq_false_iff_eq.mpr c21; clear c21; exact absurd ((Option.some.inj H).trans hr_) (by decide)
        ·rw [if_neg c21] at H; have c21b0 : (t285 == 0) = false := beq_eq_false_iff_ne.mpr c21; have c21b1 : (t285 != 0) = true := bne_iff_ne.mpr c21; obtain rfl := Option.some.inj H; go_wp2; go_ret
         exact ⟨by first | rfl | (simp [errW_none, errW_some] <;> rfl) | (simp [*, errW_none, errW_some] <;> rfl), by repeat (first | (with_reducible first | exact HB.out | apply below_alloc | apply pw_below_drewN | apply below_drew1) | exact HB.out)⟩
       ·rw [if_neg c20] at H; have c20b0 : (t283 == 0) = false := beq_eq_false_iff_ne.mpr c20; have c20b1 : (t283 != 0) = true := bne_iff_ne.mpr c20; by_cases c22 : t282.toList = ([] : List UInt8)
        ·rw [if_pos c22] at H; have c22b0 : (t282.toList == ([] : List UInt8)) = true := beq_iff_eq.mpr c22; have c22b1 : (t282.toList != ([] : List UInt8)) = false := bne_eq_false_iff_eq.mpr c22; clear c22; obtain rfl := Option.some.inj H; go_wp2; go_ret
         exact ⟨by first | rfl | (simp [errW_none, errW_some] <;> rfl) | (simp [*, errW_none, errW_some] <;> rfl), by repeat (first | (with_reducible first | exact HB.out | apply below_alloc | apply pw_below_drewN | apply below_drew1) | exact HB.out)⟩
        ·rw [if_neg c22] at H; have c22b0 : (t282.toList == ([] : List UInt8)) = false := beq_eq_false_iff_ne.mpr c22; have c22b1 : (t282.toList != ([] : List UInt8)) = true := bne_iff_ne.mpr c22; by_cases c23 : t285 = 0
         ·rw [if_pos c23] at H; have c23b0 : (t285 == 0) = true := beq_iff_eq.mpr c23; have c23b1 : (t285 != 0) = false := bne_eq_false_iff_eq.mpr c23; clear c23; exact absurd ((Option.some.inj H).trans hr_) (by decide)
         ·rw [if_neg c23] at H; have c23b0 : (t285 == 0) = false := beq_eq_false_iff_ne.mpr c23; have c23b1 : (t285 != 0) = true := bne_iff_ne.mpr c23; obtain rfl := Option.some.inj H; go_wp2; go_ret
          exact ⟨by first | rfl | (simp [errW_none, errW_some] <;> rfl) | (simp [*, errW_none, errW_some] <;> rfl), by repeat (first | (with_reducible first | exact HB.out | apply below_alloc | apply pw_below_drewN | apply below_drew1) | exact HB.out)⟩
      ·replace c19 := Bool.eq_false_iff.mpr c19; subst c19; have H1 : ((treillagelaw06_its.f kj14 l0).bind fun t286 => ((treillagelaw06_its.f kj14 l1).bind fun t289 => ((treillageref06_Same.f kj14 t286 t289).bind fun t292 => (some ((t282.toList == t284.toList) == t292))))) = some r := by rw [if_neg (show ¬ (false = true) by decide)] at H; exact H
       clear H; have H := H1; clear H1; replace H := Option.bind_eq_some_iff.mp H; obtain ⟨t286, A240, H⟩ := H; replace H : ((treillagelaw06_its.f kj14 l1).bind fun t289 => ((treillageref06_Same.f kj14 t286 t289).bind fun t292 => (some ((t282.toList == t284.toList) == t292)))) = some r := H; have A24 := aA A240; clear A240; replace H := Option.bind_eq_some_iff.mp H; obtain ⟨t289, A250, H⟩ := H; replace H : ((treillageref06_Same.f kj14 t286 t289).bind fun t292 => (some ((t282.toList == t284.toList) == t292))) = some r := H; have A25 := aA A250; clear A250; replace H := Option.bind_eq_some_iff.mp H; obtain ⟨t292, A260, H⟩ := H; replace H : (some ((t282.toList == t284.toList) == t292)) = some r := H; have A26 := aA A260; clear A260; obtain rfl := Option.some.inj H; go_wp2_with (first | ((with_reducible refine gate_callee (f := 17) rfl ?_); refine goesL_ (some 56) rfl rfl Tryd.func17 (by kernel_rfl) rfl #[.slice A0 l0.length c0] rfl (by (try simp only [List.map_toArray, List.map_cons, List.map_nil]); first | done | rfl | (simp only [List.length_drop, List.length_take]; rfl)) ?_; (with_reducible refine (treillagelaw06_its.calls kj14 _ _ l0 t286 _ ?side1 ?side2 A24.out).mono ?_); (case side1 => repeat (first | exact (Kd.C_below HR0.out HB.out) | (with_reducible refine Kd.C_alloc ?_ _) | (with_reducible refine Kd.C_drewN ?_ _) | (with_reducible refine Kd.C_drew ?_))); (case side2 => exact HC0.out); rintro e w27 ⟨v287, rfl, ho0, hb⟩; refine ⟨_, rfl, ?_⟩; have n0_ := aA (Kd.R_lower ho0 (below_size (blw HB.out))); have n1_ := aA (below_step (blw HB.out) hb); clear HB; have HO288 := n0_; have HB := n1_; clear n0_ n1_; (try clear hb); (try clear hb2); (try clear hk); (try clear hi); (try clear ho0)) | ((with_reducible refine gate_callee (f := 17) rfl ?_); refine goesL_ (some 58) rfl rfl Tryd.func17 (by kernel_rfl) rfl #[.slice A1 l1.length c1] rfl (by (try simp only [List.map_toArray, List.map_cons, List.map_nil]); first | done | rfl | (simp only [List.length_drop, List.length_take]; rfl)) ?_; (with_reducible refine (treillagelaw06_its.calls kj14 _ _ l1 t289 _ ?side1 ?side2 A25.out).mono ?_); (case side1 => repeat (first | exact (Kd.C_below HR1.out HB.out) | (with_reducible refine Kd.C_alloc ?_ _) | (with_reducible refine Kd.C_drewN ?_ _) | (with_reducible refine Kd.C_drew ?_))); (case side2 => exact HC1.out); rintro e w28 ⟨v290, rfl, ho0, hb⟩; refine ⟨_, rfl, ?_⟩; have n0_ := aA (Kd.R_elder' (rlu HO288.out) (Kd.R_base ho0) hb); have n1_ := aA (Kd.R_lower (Kd.R_new' ho0 (Kd.R_lt (rlu HO288.out))) (below_size (blw HB.out))); have n2_ := aA (below_step (blw HB.out) hb); clear HO288 HB; have HO288 := n0_; have HO291 := n1_; have HB := n2_; clear n0_ n1_ n2_; (try clear hb); (try clear hb2); (try clear hk); (try clear hi); (try clear ho0); obtain ⟨Ao29, co29, eo29⟩ := Kd.R_slice HO288.out; subst eo29; obtain ⟨Ao30, co30, eo30⟩ := Kd.R_slice HO291.out; subst eo30) | ((with_reducible refine gate_callee (f := 20) rfl ?_); refine goesL_ (some 59) rfl rfl Tryd.func20 (by kernel_rfl) rfl #[.slice Ao29 t286.length co29, .slice Ao30 t289.length co30] rfl (by (try simp only [List.map_toArray, List.map_cons, List.map_nil]); first | done | rfl | (simp only [List.length_drop, List.length_take]; rfl)) ?_; (with_reducible refine (treillageref06_Same.calls kj14 _ _ t286 _ _ t289 t292 _ ?side1 ?side2 ?side3 ?side4 A26.out).mono ?_); (case side1 => repeat (first | exact (Kd.R_reads' HO288.out).2.2 | (with_reducible refine Kd.C_alloc ?_ _) | (with_reducible refine Kd.C_drewN ?_ _) | (with_reducible refine Kd.C_drew ?_))); (case side2 => exact (Kd.R_reads' HO288.out).2.1); (case side3 => repeat (first | exact (Kd.R_reads' HO291.out).2.2 | (with_reducible refine Kd.C_alloc ?_ _) | (with_reducible refine Kd.C_drewN ?_ _) | (with_reducible refine Kd.C_drew ?_))); (case side4 => exact (Kd.R_reads' HO291.out).2.1); rintro e w' ⟨rfl, ⟨nd, rfl⟩⟩; refine ⟨_, rfl, ?_⟩))
       go_ret
       exact ⟨by first | rfl | (simp [errW_none, errW_some] <;> rfl) | (simp [*, errW_none, errW_some] <;> rfl), by repeat (first | (with_reducible first | exact HB.out | apply below_alloc | apply pw_below_drewN | apply below_drew1) | exact HB.out)⟩

theorem treillagelaw06_OpApart.calls (k : Nat) (A0 : Option Addr) (c0 : Nat) (l0 : List (S23)) (A1 : Option Addr) (c1 : Nat) (l1 : List (S23)) (r : Bool) (w : World) (hTb : Tab w) (hr0 : Kd.C k23 w A0 l0.length l0) (hc0 : l0.length ≤ c0) (hr1 : Kd.C k23 w A1 l1.length l1) (hc1 : l1.length ≤ c1) (h : treillagelaw06_OpApart.f k l0 l1 = some true) :
  Calls Tryd.prog 8 #[.slice A0 l0.length c0, .slice A1 l1.length c1] w fun e w' => e = .returned (.bool true) ∧ Below w.heap.size w w' := treillagelaw06_OpApart.calls1 k A0 c0 l0 A1 c1 l1 true w hTb hr0 hc0 hr1 hc1 h rfl
end Go.Proofs.YtooefecjkgdpbaaDoor.PA
