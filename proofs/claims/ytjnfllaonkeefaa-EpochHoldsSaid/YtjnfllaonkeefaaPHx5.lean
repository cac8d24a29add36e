-- Written by wip/hprint/hprint.py (a program of this session, over the print): not typed by hand
import Derived.Test.YtjnfllaonkeefaaPHx0
import Derived.Test.YtjnfllaonkeefaaPHx1
import Derived.Test.YtjnfllaonkeefaaPHx2
import Derived.Test.YtjnfllaonkeefaaPHx3
import Derived.Test.YtjnfllaonkeefaaPHx4
namespace Go.Proofs.Ytjnfllaonkeefaa.PH
open Go.RowKit Go.Proofs.YtjnfllaonkeefaaW.PrintWords Go.Proofs.YtjnfllaonkeefaaW.PrintLast Go.Proofs.YtjnfllaonkeefaaW.PrintMore
attribute [local go_sem] max2_int min2_int max_two min_two max_three min_three max_four min_four   -- for this text's walks alone
open Go.Proofs.YtjnfllaonkeefaaH
set_option linter.unusedVariables false
set_option linter.unusedSimpArgs false

attribute [local go_sem high] eqA60
/-! ### treillagelaw14_EpochHolds: function 5 -/
mutual
def treillagelaw14_EpochHolds.j0 : Nat → List (S42) → Bool → Option (Bool)
 | 0, _, _ => none
 | k + 1, x0, x21 => if x21 = true then ((treillagelaw14_shown.f).bind fun t129 => (some t129)) else ((epoch_New.f 4).bind fun bt130 => (treillagelaw14_EpochHolds.l0 k x0 (([] : List (S60))) 0 bt130.1 bt130.2.1 bt130.2.2))
def treillagelaw14_EpochHolds.l0 : Nat → List (S42) → List (S60) → Int → Int → List Int → List (S64) → Option (Bool)
 | 0, _, _, _, _, _, _ => none
 | k + 1, x0, x4, x5, x138000, x138001, x138002 => if x5 < (x0.length : Int) then (if 0 ≤ x5 then (if (x138001.length : Int) = 4 then (if ((rd_T42 x0 x5).f0) = 0 then ((epoch_Pin.f x138000 x138001 x138002 (Go.bits .and .i64 ((rd_T42 x0 x5).f1) 3) (IntKind.u64.wrap (x138000 - (mn x138000 (Int.tmod ((rd_T42 x0 x5).f2) 2))))).bind fun bt143 => (treillagelaw14_EpochHolds.l0 k x0 x4 (wrap64 (x5 + 1)) bt143.1 bt143.2.1 bt143.2.2.1)) else (if ((rd_T42 x0 x5).f0) = 1 then ((epoch_Unpin.f x138000 x138001 x138002 (Go.bits .and .i64 ((rd_T42 x0 x5).f1) 3)).bind fun bt151 => (treillagelaw14_EpochHolds.l1 k x0 x4 x5 (Go.bits .and .i64 ((rd_T42 x0 x5).f1) 3) 0 bt151.1 bt151.2.1 bt151.2.2.1)) else (if ((rd_T42 x0 x5).f0) = 2 then (treillagelaw14_EpochHolds.l2 k x0 x4 x5 0 x138000 x138001 x138002 false false false false) else ((epoch_Advance.f k x138000 x138001 x138002).bind fun bt178 => (treillagelaw14_EpochHolds.l3 k x0 x4 x5 0 bt178.1 bt178.2.1 bt178.2.2.1 bt178.2.2.2.1 bt178.2.2.2.2.1))))) else (some false)) else (none)) else (some true)
def treillagelaw14_EpochHolds.l1 : Nat → List (S42) → List (S60) → Int → Int → Int → Int → List Int → List (S64) → Option (Bool)
 | 0, _, _, _, _, _, _, _, _ => none
 | k + 1, x0, x4, x5, x7, x8, x138000, x138001, x138002 => if x8 < (x4.length : Int) then (if 0 ≤ x8 then (if 0 ≤ x7 then (if x7 < 4 then (if x7 = 0 then (treillagelaw14_EpochHolds.l1 k x0 (x4.set (x8 : Int).toNat (⟨false, (rd_T60 x4 x8).f1, (rd_T60 x4 x8).f2, (rd_T60 x4 x8).f3⟩ : S60)) x5 x7 (wrap64 (x8 + 1)) x138000 x138001 x138002) else (if x7 = 1 then (treillagelaw14_EpochHolds.l1 k x0 (x4.set (x8 : Int).toNat (⟨(rd_T60 x4 x8).f0, false, (rd_T60 x4 x8).f2, (rd_T60 x4 x8).f3⟩ : S60)) x5 x7 (wrap64 (x8 + 1)) x138000 x138001 x138002) else (if x7 = 2 then (treillagelaw14_EpochHolds.l1 k x0 (x4.set (x8 : Int).toNat (⟨(rd_T60 x4 x8).f0, (rd_T60 x4 x8).f1, false, (rd_T60 x4 x8).f3⟩ : S60)) x5 x7 (wrap64 (x8 + 1)) x138000 x138001 x138002) else (treillagelaw14_EpochHolds.l1 k x0 (x4.set (x8 : Int).toNat (⟨(rd_T60 x4 x8).f0, (rd_T60 x4 x8).f1, (rd_T60 x4 x8).f2, false⟩ : S60)) x5 x7 (wrap64 (x8 + 1)) x138000 x138001 x138002)))) else (none)) else (none)) else (none)) else (treillagelaw14_EpochHolds.l0 k x0 x4 (wrap64 (x5 + 1)) x138000 x138001 x138002)
def treillagelaw14_EpochHolds.l2 : Nat → List (S42) → List (S60) → Int → Int → Int → List Int → List (S64) → Bool → Bool → Bool → Bool → Option (Bool)
 | 0, _, _, _, _, _, _, _, _, _, _, _ => none
 | k + 1, x0, x4, x5, x10, x138000, x138001, x138002, x164000, x164001, x164002, x164003 => if x10 < 4 then (if 0 ≤ x10 then (if x10 < (x138001.length : Int) then (if x10 = 0 then (treillagelaw14_EpochHolds.l2 k x0 x4 x5 (wrap64 (x10 + 1)) x138000 x138001 x138002 ((rd x138001 x10) != 0) x164001 x164002 x164003) else (if x10 = 1 then (treillagelaw14_EpochHolds.l2 k x0 x4 x5 (wrap64 (x10 + 1)) x138000 x138001 x138002 x164000 ((rd x138001 x10) != 0) x164002 x164003) else (if x10 = 2 then (treillagelaw14_EpochHolds.l2 k x0 x4 x5 (wrap64 (x10 + 1)) x138000 x138001 x138002 x164000 x164001 ((rd x138001 x10) != 0) x164003) else (treillagelaw14_EpochHolds.l2 k x0 x4 x5 (wrap64 (x10 + 1)) x138000 x138001 x138002 x164000 x164001 x164002 ((rd x138001 x10) != 0))))) else (none)) else (none)) else ((epoch_Retire.f x138000 x138001 x138002 (([IntKind.u64.wrap ((x4.length : Int))] : List Int)) ([] : List Int)).bind fun bt168 => (if x4.length < 35184372088832 then (treillagelaw14_EpochHolds.l0 k x0 (x4 ++ [(⟨x164000, x164001, x164002, x164003⟩ : S60)]) (wrap64 (x5 + 1)) bt168.1 bt168.2.1 bt168.2.2) else (none)))
def treillagelaw14_EpochHolds.l3 : Nat → List (S42) → List (S60) → Int → Int → Int → List Int → List (S64) → List Int → List Int → Option (Bool)
 | 0, _, _, _, _, _, _, _, _, _ => none
 | k + 1, x0, x4, x5, x14, x138000, x138001, x138002, x194000, x194001 => if x14 < (x194000.length : Int) then (if 0 ≤ x14 then (if (rd x194000 x14) ≥ (IntKind.u64.wrap ((x4.length : Int))) then (some false) else (if 0 ≤ (rd x194000 x14) then (if (rd x194000 x14) < (x4.length : Int) then (if (((rd_T60 x4 (rd x194000 x14)).f0) || (((rd_T60 x4 (rd x194000 x14)).f1) || (((rd_T60 x4 (rd x194000 x14)).f2) || (((rd_T60 x4 (rd x194000 x14)).f3))))) = true then (some false) else (treillagelaw14_EpochHolds.l3 k x0 x4 x5 (wrap64 (x14 + 1)) x138000 x138001 x138002 x194000 x194001)) else (none)) else (none))) else (none)) else (treillagelaw14_EpochHolds.l0 k x0 x4 (wrap64 (x5 + 1)) x138000 x138001 x138002)
end
def treillagelaw14_EpochHolds.f (k : Nat) (l0 : List (S42)) : Option (Bool) := (treillagelaw14_bounded.f k l0).bind fun t127 => (if t127 = true then ((treillagelaw14_shown.f).bind fun t128 => (treillagelaw14_EpochHolds.j0 k l0 (!t128))) else (treillagelaw14_EpochHolds.j0 k l0 true))
theorem treillagelaw14_EpochHolds.mono_l : ∀ k, (∀ y0 y1, LeO (treillagelaw14_EpochHolds.j0 k y0 y1) (treillagelaw14_EpochHolds.j0 (k + 1) y0 y1)) ∧ (∀ y0 y1 y2 y3 y4 y5, LeO (treillagelaw14_EpochHolds.l0 k y0 y1 y2 y3 y4 y5) (treillagelaw14_EpochHolds.l0 (k + 1) y0 y1 y2 y3 y4 y5)) ∧ (∀ y0 y1 y2 y3 y4 y5 y6 y7, LeO (treillagelaw14_EpochHolds.l1 k y0 y1 y2 y3 y4 y5 y6 y7) (treillagelaw14_EpochHolds.l1 (k + 1) y0 y1 y2 y3 y4 y5 y6 y7)) ∧ (∀ y0 y1 y2 y3 y4 y5 y6 y7 y8 y9 y10, LeO (treillagelaw14_EpochHolds.l2 k y0 y1 y2 y3 y4 y5 y6 y7 y8 y9 y10) (treillagelaw14_EpochHolds.l2 (k + 1) y0 y1 y2 y3 y4 y5 y6 y7 y8 y9 y10)) ∧ (∀ y0 y1 y2 y3 y4 y5 y6 y7 y8, LeO (treillagelaw14_EpochHolds.l3 k y0 y1 y2 y3 y4 y5 y6 y7 y8) (treillagelaw14_EpochHolds.l3 (k + 1) y0 y1 y2 y3 y4 y5 y6 y7 y8))
 | 0 => ⟨fun _ _ r h => by simp [treillagelaw14_EpochHolds.j0] at h, fun _ _ _ _ _ _ r h => by simp [treillagelaw14_EpochHolds.l0] at h, fun _ _ _ _ _ _ _ _ r h => by simp [treillagelaw14_EpochHolds.l1] at h, fun _ _ _ _ _ _ _ _ _ _ _ r h => by simp [treillagelaw14_EpochHolds.l2] at h, fun _ _ _ _ _ _ _ _ _ r h => by simp [treillagelaw14_EpochHolds.l3] at h⟩
 | k + 1 => by
  obtain ⟨ih0, ih1, ih2, ih3, ih4⟩ := treillagelaw14_EpochHolds.mono_l k; refine ⟨?_, ?_, ?_, ?_, ?_⟩
  ·intro y0 y1
   unfold treillagelaw14_EpochHolds.j0; repeat' first
   | (with_reducible exact ih0 _ _)
   | (with_reducible exact ih1 _ _ _ _ _ _)
   | (with_reducible exact ih2 _ _ _ _ _ _ _ _)
   | (with_reducible exact ih3 _ _ _ _ _ _ _ _ _ _ _)
   | (with_reducible exact ih4 _ _ _ _ _ _ _ _ _)
   | (with_reducible exact epoch_Advance.mono _ _ _ _)
   | (with_reducible exact treillagelaw14_bounded.mono _ _)
   | (with_reducible exact LeO.refl _)
   | (with_reducible exact LeO.none _)
   | (with_reducible refine LeO.ite ?_ ?_)
   | (with_reducible refine LeO.bind ?_ (fun _ => ?_))
   | exact ih0 _ _
   | exact ih1 _ _ _ _ _ _
   | exact ih2 _ _ _ _ _ _ _ _
   | exact ih3 _ _ _ _ _ _ _ _ _ _ _
   | exact ih4 _ _ _ _ _ _ _ _ _
   | exact epoch_Advance.mono _ _ _ _
   | exact treillagelaw14_bounded.mono _ _
   | exact LeO.none _
   | refine LeO.ite ?_ ?_
   | refine LeO.bind ?_ (fun _ => ?_)
  ·intro y0 y1 y2 y3 y4 y5
   unfold treillagelaw14_EpochHolds.l0; repeat' first
   | (with_reducible exact ih0 _ _)
   | (with_reducible exact ih1 _ _ _ _ _ _)
   | (with_reducible exact ih2 _ _ _ _ _ _ _ _)
   | (with_reducible exact ih3 _ _ _ _ _ _ _ _ _ _ _)
   | (with_reducible exact ih4 _ _ _ _ _ _ _ _ _)
   | (with_reducible exact epoch_Advance.mono _ _ _ _)
   | (with_reducible exact treillagelaw14_bounded.mono _ _)
   | (with_reducible exact LeO.refl _)
   | (with_reducible exact LeO.none _)
   | (with_reducible refine LeO.ite ?_ ?_)
   | (with_reducible refine LeO.bind ?_ (fun _ => ?_))
   | exact ih0 _ _
   | exact ih1 _ _ _ _ _ _
   | exact ih2 _ _ _ _ _ _ _ _
   | exact ih3 _ _ _ _ _ _ _ _ _ _ _
   | exact ih4 _ _ _ _ _ _ _ _ _
   | exact epoch_Advance.mono _ _ _ _
   | exact treillagelaw14_bounded.mono _ _
   | exact LeO.none _
   | refine LeO.ite ?_ ?_
   | refine LeO.bind ?_ (fun _ => ?_)
  ·intro y0 y1 y2 y3 y4 y5 y6 y7
   unfold treillagelaw14_EpochHolds.l1; repeat' first
   | (with_reducible exact ih0 _ _)
   | (with_reducible exact ih1 _ _ _ _ _ _)
   | (with_reducible exact ih2 _ _ _ _ _ _ _ _)
   | (with_reducible exact ih3 _ _ _ _ _ _ _ _ _ _ _)
   | (with_reducible exact ih4 _ _ _ _ _ _ _ _ _)
   | (with_reducible exact epoch_Advance.mono _ _ _ _)
   | (with_reducible exact treillagelaw14_bounded.mono _ _)
   | (with_reducible exact LeO.refl _)
   | (with_reducible exact LeO.none _)
   | (with_reducible refine LeO.ite ?_ ?_)
   | (with_reducible refine LeO.bind ?_ (fun _ => ?_))
   | exact ih0 _ _
   | exact ih1 _ _ _ _ _ _
   | exact ih2 _ _ _ _ _ _ _ _
   | exact ih3 _ _ _ _ _ _ _ _ _ _ _
   | exact ih4 _ _ _ _ _ _ _ _ _
   | exact epoch_Advance.mono _ _ _ _
   | exact treillagelaw14_bounded.mono _ _
   | exact LeO.none _
   | refine LeO.ite ?_ ?_
   | refine LeO.bind ?_ (fun _ => ?_)
  ·intro y0 y1 y2 y3 y4 y5 y6 y7 y8 y9 y10
   unfold treillagelaw14_EpochHolds.l2; repeat' first
   | (with_reducible exact ih0 _ _)
   | (with_reducible exact ih1 _ _ _ _ _ _)
   | (with_reducible exact ih2 _ _ _ _ _ _ _ _)
   | (with_reducible exact ih3 _ _ _ _ _ _ _ _ _ _ _)
   | (with_reducible exact ih4 _ _ _ _ _ _ _ _ _)
   | (with_reducible exact epoch_Advance.mono _ _ _ _)
   | (with_reducible exact treillagelaw14_bounded.mono _ _)
   | (with_reducible exact LeO.refl _)
   | (with_reducible exact LeO.none _)
   | (with_reducible refine LeO.ite ?_ ?_)
   | (with_reducible refine LeO.bind ?_ (fun _ => ?_))
   | exact ih0 _ _
   | exact ih1 _ _ _ _ _ _
   | exact ih2 _ _ _ _ _ _ _ _
   | exact ih3 _ _ _ _ _ _ _ _ _ _ _
   | exact ih4 _ _ _ _ _ _ _ _ _
   | exact epoch_Advance.mono _ _ _ _
   | exact treillagelaw14_bounded.mono _ _
   | exact LeO.none _
   | refine LeO.ite ?_ ?_
   | refine LeO.bind ?_ (fun _ => ?_)
  ·intro y0 y1 y2 y3 y4 y5 y6 y7 y8
   unfold treillagelaw14_EpochHolds.l3; repeat' first
   | (with_reducible exact ih0 _ _)
   | (with_reducible exact ih1 _ _ _ _ _ _)
   | (with_reducible exact ih2 _ _ _ _ _ _ _ _)
   | (with_reducible exact ih3 _ _ _ _ _ _ _ _ _ _ _)
   | (with_reducible exact ih4 _ _ _ _ _ _ _ _ _)
   | (with_reducible exact epoch_Advance.mono _ _ _ _)
   | (with_reducible exact treillagelaw14_bounded.mono _ _)
   | (with_reducible exact LeO.refl _)
   | (with_reducible exact LeO.none _)
   | (with_reducible refine LeO.ite ?_ ?_)
   | (with_reducible refine LeO.bind ?_ (fun _ => ?_))
   | exact ih0 _ _
   | exact ih1 _ _ _ _ _ _
   | exact ih2 _ _ _ _ _ _ _ _
   | exact ih3 _ _ _ _ _ _ _ _ _ _ _
   | exact ih4 _ _ _ _ _ _ _ _ _
   | exact epoch_Advance.mono _ _ _ _
   | exact treillagelaw14_bounded.mono _ _
   | exact LeO.none _
   | refine LeO.ite ?_ ?_
   | refine LeO.bind ?_ (fun _ => ?_)
theorem treillagelaw14_EpochHolds.mono : ∀ a0 k, LeO (treillagelaw14_EpochHolds.f k a0) (treillagelaw14_EpochHolds.f (k + 1) a0) := by
 intro a0 k
 obtain ⟨ih0, ih1, ih2, ih3, ih4⟩ := treillagelaw14_EpochHolds.mono_l k; unfold treillagelaw14_EpochHolds.f
 repeat' first
   | (with_reducible exact ih0 _ _)
   | (with_reducible exact ih1 _ _ _ _ _ _)
   | (with_reducible exact ih2 _ _ _ _ _ _ _ _)
   | (with_reducible exact ih3 _ _ _ _ _ _ _ _ _ _ _)
   | (with_reducible exact ih4 _ _ _ _ _ _ _ _ _)
   | (with_reducible exact epoch_Advance.mono _ _ _ _)
   | (with_reducible exact treillagelaw14_bounded.mono _ _)
   | (with_reducible exact LeO.refl _)
   | (with_reducible exact LeO.none _)
   | (with_reducible refine LeO.ite ?_ ?_)
   | (with_reducible refine LeO.bind ?_ (fun _ => ?_))
   | exact ih0 _ _
   | exact ih1 _ _ _ _ _ _
   | exact ih2 _ _ _ _ _ _ _ _
   | exact ih3 _ _ _ _ _ _ _ _ _ _ _
   | exact ih4 _ _ _ _ _ _ _ _ _
   | exact epoch_Advance.mono _ _ _ _
   | exact treillagelaw14_bounded.mono _ _
   | exact LeO.none _
   | refine LeO.ite ?_ ?_
   | refine LeO.bind ?_ (fun _ => ?_)
set_option maxHeartbeats 8000000 in
set_option maxRecDepth 100000 in
theorem treillagelaw14_EpochHolds.calls1 (k : Nat) (A0 : Option Addr) (c0 : Nat) (l0 : List (S42)) (r : Bool) (w : World) (hr0 : Kd.C k42 w A0 l0.length l0) (hc0 : l0.length ≤ c0) (h : treillagelaw14_EpochHolds.f k l0 = some r) (hr_ : r = true) :
  Calls Try.prog 5 #[.slice A0 l0.length c0] w fun e w' => e = .returned (.bool r) ∧ Below w.heap.size w w' := by
 have hu26 := Try.underlying26; have hu42 := Try.underlying42; have hu60 := Try.underlying60; have hu30 := Try.underlying30; have HR0 := aA hr0; have HC0 := aA hc0; clear hr0 hc0; have HB := aA (Below.refl w.heap.size w); have H : ((treillagelaw14_bounded.f k l0).bind fun E7 => (if E7 = true then ((treillagelaw14_shown.f).bind fun Yn => (treillagelaw14_EpochHolds.j0 k l0 (!Yn))) else (treillagelaw14_EpochHolds.j0 k l0 true))) = some r := h; clear h; have HC2 := aA H; clear H; go_enter Try.func5, Try.ntmps5; go_upto_region 1 with (fail)
 go_cut [21] (fun v21 wc => ∃ (kq : Nat) (Ee : Bool), v21 = .bool Ee ∧ Aside0 (treillagelaw14_EpochHolds.j0 kq l0 Ee = some r) ∧ Aside0 (kq ≤ k) ∧ Aside0 (Below w.heap.size w wc))
 case first =>
  have H := HC2.out; clear HC2; replace H := Option.bind_eq_some_iff.mp H; obtain ⟨E7, A30, H⟩ := H; replace H : (if E7 = true then ((treillagelaw14_shown.f).bind fun Yn => (treillagelaw14_EpochHolds.j0 k l0 (!Yn))) else (treillagelaw14_EpochHolds.j0 k l0 true)) = some r := H; have A3 := aA A30; clear A30; by_cases c4 : E7 = true
  ·subst c4; have H1 : ((treillagelaw14_shown.f).bind fun Yn => (treillagelaw14_EpochHolds.j0 k l0 (!Yn))) = some r := by rw [if_pos rfl] at H; exact H
   clear H; have H := H1; clear H1; replace H := Option.bind_eq_some_iff.mp H; obtain ⟨Yn, A50, H⟩ := H; replace H : (treillagelaw14_EpochHolds.j0 k l0 (!Yn)) = some r := H; have A5 := aA A50; clear A50; have H' := aA H; clear H; go_wp2_with (first | ((with_reducible refine gate_callee (f := 12) rfl ?_); refine goesL_ (some 16) rfl rfl Try.func12 (by kernel_rfl) rfl #[.slice A0 l0.length c0] rfl (by (try simp only [List.map_toArray, List.map_cons, List.map_nil]); first | done | rfl | (simp only [List.length_drop, List.length_take]; rfl)) ?_; (with_reducible refine (treillagelaw14_bounded.calls k _ _ l0 true _ ?side1 ?side2 A3.out).mono ?_); (case side1 => repeat (first | exact (Kd.C_below HR0.out HB.out) | (with_reducible refine Kd.C_alloc ?_ _) | (with_reducible refine Kd.C_drewN ?_ _) | (with_reducible refine Kd.C_drew ?_))); (case side2 => exact HC0.out); rintro e w' ⟨rfl, ⟨nd, rfl⟩⟩; refine ⟨_, rfl, ?_⟩) | (go_at_call 11; (with_reducible refine (treillagelaw14_shown.calls  Yn _ A5.out).mono ?_); rintro e w6 ⟨rfl, hb⟩; have n0_ := aA (below_step (blw HB.out) hb); clear HB; have HB := n0_; clear n0_; (try clear hb); (try clear hb2); (try clear hk); (try clear hi)))
   go_meet
   case rel => exact ⟨_, (!Yn), (by first | rfl | (simp; done) | (simp [*]; done) | (simp; exact wrapin_ (by assumption) (by assumption))), H', ⟨by first | omega | exact Nat.le_refl _⟩, ⟨by repeat (first | (with_reducible first | exact HB.out | apply below_alloc | apply pw_below_drewN | apply below_drew1) | exact HB.out)⟩⟩
  ·replace c4 := Bool.eq_false_iff.mpr c4; subst c4; have H1 : (treillagelaw14_EpochHolds.j0 k l0 true) = some r := by rw [if_neg (show ¬ (false = true) by decide)] at H; exact H
   clear H; have H := H1; clear H1; have H' := aA H; clear H; go_wp2_with (first | ((with_reducible refine gate_callee (f := 12) rfl ?_); refine goesL_ (some 16) rfl rfl Try.func12 (by kernel_rfl) rfl #[.slice A0 l0.length c0] rfl (by (try simp only [List.map_toArray, List.map_cons, List.map_nil]); first | done | rfl | (simp only [List.length_drop, List.length_take]; rfl)) ?_; (with_reducible refine (treillagelaw14_bounded.calls k _ _ l0 false _ ?side1 ?side2 A3.out).mono ?_); (case side1 => repeat (first | exact (Kd.C_below HR0.out HB.out) | (with_reducible refine Kd.C_alloc ?_ _) | (with_reducible refine Kd.C_drewN ?_ _) | (with_reducible refine Kd.C_drew ?_))); (case side2 => exact HC0.out); rintro e w' ⟨rfl, ⟨nd, rfl⟩⟩; refine ⟨_, rfl, ?_⟩))
   go_meet
   case rel => exact ⟨_, (true), (by first | rfl | (simp; done) | (simp [*]; done) | (simp; exact wrapin_ (by assumption) (by assumption))), H', ⟨by first | omega | exact Nat.le_refl _⟩, ⟨by repeat (first | (with_reducible first | exact HB.out | apply below_alloc | apply pw_below_drewN | apply below_drew1) | exact HB.out)⟩⟩
 case rest =>
  clear HC2; try clear c1
  try clear p2
  try clear c4
  try clear c5
  obtain ⟨kq, Ee, rfl, HA, HJ1, HB⟩ := hcut; cases kq with
  | zero => exact absurd HA.out (by simp [treillagelaw14_EpochHolds.j0])
  | succ kj1 =>
   have H := HA.out; clear HA; simp only [treillagelaw14_EpochHolds.j0] at H; by_cases c7 : Ee = true
   ·subst c7; have H1 : ((treillagelaw14_shown.f).bind fun E8 => (some E8)) = some r := by rw [if_pos rfl] at H; exact H
    clear H; have H := H1; clear H1; replace H := Option.bind_eq_some_iff.mp H; obtain ⟨E8, A80, H⟩ := H; replace H : (some E8) = some r := H; have A8 := aA A80; clear A80; obtain rfl := Option.some.inj H; go_wp2_with (first | ((with_reducible refine gate_callee (f := 11) rfl ?_); refine goesL_ (some 22) rfl rfl Try.func11 (by kernel_rfl) rfl #[] rfl (by (try simp only [List.map_toArray, List.map_cons, List.map_nil]); first | done | rfl | (simp only [List.length_drop, List.length_take]; rfl)) ?_; (with_reducible refine (treillagelaw14_shown.calls  E8 _ A8.out).mono ?_); rintro e w9 ⟨rfl, hb⟩; refine ⟨_, rfl, ?_⟩; have n0_ := aA (below_step (blw HB.out) hb); clear HB; have HB := n0_; clear n0_; (try clear hb); (try clear hb2); (try clear hk); (try clear hi)))
    go_ret
    exact ⟨by first | rfl | (simp [errW_none, errW_some] <;> rfl) | (simp [*, errW_none, errW_some] <;> rfl), by repeat (first | (with_reducible first | exact HB.out | apply below_alloc | apply pw_below_drewN | apply below_drew1) | exact HB.out)⟩
   ·replace c7 := Bool.eq_false_iff.mpr c7; subst c7; have H1 : ((epoch_New.f 4).bind fun E9 => (treillagelaw14_EpochHolds.l0 kj1 l0 (([] : List (S60))) 0 E9.1 E9.2.1 E9.2.2)) = some r := by rw [if_neg (show ¬ (false = true) by decide)] at H; exact H
    clear H; have H := H1; clear H1; replace H := Option.bind_eq_some_iff.mp H; obtain ⟨⟨Yo, Yp, Yq⟩, A100, H⟩ := H; replace H : (treillagelaw14_EpochHolds.l0 kj1 l0 (([] : List (S60))) 0 Yo Yp Yq) = some r := H; have A10 := aA A100; clear A100; obtain ⟨Fs, hy138⟩ : ∃ y_ : List (S60), y_ = (([] : List (S60))) := ⟨_, rfl⟩; replace H : (treillagelaw14_EpochHolds.l0 kj1 l0 Fs 0 Yo Yp Yq) = some r := by first | (rw [hy138]; with_reducible exact H) | (have H2_ := (Option.bind_some _ _).symm.trans H; rw [hy138]; with_reducible exact H2_) | (have H2_ := (Option.bind_some _ _).symm.trans H; with_reducible exact H2_) | with_reducible exact H | (rw [hy138]; exact H) | exact H
    have Ny138 := aA hy138; clear hy138; have H' := aA H; clear H; go_wp2_with (first | ((with_reducible refine gate_callee (f := 9) rfl ?_); refine goesL_ (some 23) rfl rfl Try.func9 (by kernel_rfl) rfl #[.int .i64 4] rfl (by (try simp only [List.map_toArray, List.map_cons, List.map_nil]); first | done | rfl | (simp only [List.length_drop, List.length_take]; rfl)) ?_; (with_reducible refine (epoch_New.calls 4 Yo Yp Yq _ A10.out).mono ?_); rintro e w11 ⟨v132, v135, rfl, ho0, ho1, hb⟩; refine ⟨_, rfl, ?_⟩; have n0_ := aA (Kd.V_lower (Kd.V_mono (ok' := fun k_ => True) ho0 (fun k_ hk_ => trivial)) (below_size (blw HB.out))); have n1_ := aA (Kd.V_lower (Kd.V_mono (ok' := fun k_ => True) ho1 (fun k_ hk_ => trivial)) (below_size (blw HB.out))); have n2_ := aA (below_step (blw HB.out) hb); clear HB; have Yc := n0_; have Yd := n1_; have HB := n2_; clear n0_ n1_ n2_; (try clear hb); (try clear hb2); (try clear hk); (try clear hi); (try clear ho0); (try clear ho1)) | ((with_reducible refine gate_dst (N := 3) rfl ?_); refine box_event ?hg (N := 3) ?hd (cs := #[.int .u64 0, .slice none 0 0, .slice none 0 0]) (t := 26) ?hr ?_; (case hd => rfl); (case hg => rfl); (case hr => first | (go_simp; done) | (go_simp; rfl)); intro Jb hg w12 hbox hb; have n0_ := aA (Kd.V_below (Kd.V_elderB (vlu Yc.out) Jb (Nat.le_of_eq hg.symm)) hb); have n1_ := aA (Kd.V_below (Kd.V_elderB (vlu Yd.out) Jb (Nat.le_of_eq hg.symm)) hb); have n2_ := aA (below_step (blw HB.out) hb); have n3_ := aA (hbox); have n4_ := aA ((by rw [hg]; exact (below_size (blw HB.out)) : w.heap.size ≤ Jb)); have n5_ := aA ((by rw [hg]; exact (below_size (blw HB.out)) : w.heap.size ≤ Jb)); clear Yc Yd HB; have Yc := n0_; have Yd := n1_; have HB := n2_; have Jd := n3_; have GW137 := n4_; have Qc := n5_; clear n0_ n1_ n2_ n3_ n4_ n5_ hb hbox hg; have Y0 : w12.cell? ⟨Jb, 0, none⟩ = some (.int .u64 0) := (blk_cell Jd.out 0).trans rfl; have Y1 : w12.cell? ⟨Jb, 1, none⟩ = some (.slice none 0 0) := (blk_cell Jd.out 1).trans rfl; have Y2 : w12.cell? ⟨Jb, 2, none⟩ = some (.slice none 0 0) := (blk_cell Jd.out 2).trans rfl; have Y3 := blk_frozen Jd.out 0; have Y4 := blk_frozen Jd.out 1; have Y5 := blk_frozen Jd.out 2; obtain ⟨Ef, Eg, eo14⟩ := Kd.V_slice Yc.out; subst eo14; obtain ⟨Fa, Fb, eo15⟩ := Kd.V_slice Yd.out; subst eo15) | ((with_reducible refine gate_dst (N := 24) rfl ?_); refine Kd.R_lit k60 _ 60 ?hg (N := 24) ?hd (xs := ([] : List (S60))) (inner := []) (ok := fun _ => True) (okp := fun _ => True) ?hr ?hp (fun _ hk => hk) trivial (Below.refl _ _) (Nat.le_refl _) (by simp) ?_; (case hd => rfl); (case hg => rfl); (case hr => first | (go_simp; done) | (go_simp; rfl)); (case hp => exact (Reps.none _ _)); intro v139 w16 ho17 hb hg_ hnew_; clear hg_ hnew_; (first | rw [← Ny138.out] at ho17 | (simp only [Int.reduceToNat] at ho17; rw [← Ny138.out] at ho17)); have n0_ := aA (Kd.V_elder' (vlu ((Kd.V_mono (Kd.V_far (p := ⟨Jb, 2, none⟩) (Kd.V_far (p := ⟨Jb, 1, none⟩) (Kd.V_far (p := ⟨Jb, 0, none⟩) (Kd.V_mono Yc.out (fun k_ hk => (⟨hk, hk.2⟩ : _ ∧ k_ ≠ Jb))) (fun _ hk => hk.2) (.int .u64 Yo)) (fun _ hk => hk.2) (.slice Ef Yp.length Eg)) (fun _ hk => hk.2) (.slice Fa Yq.length Fb)) (fun _ h_ => h_.1)))) (Kd.R_base ho17) hb); have n1_ := aA (Kd.V_elder' (vlu ((Kd.V_mono (Kd.V_far (p := ⟨Jb, 2, none⟩) (Kd.V_far (p := ⟨Jb, 1, none⟩) (Kd.V_far (p := ⟨Jb, 0, none⟩) (Kd.V_mono Yd.out (fun k_ hk => (⟨hk, hk.2⟩ : _ ∧ k_ ≠ Jb))) (fun _ hk => hk.2) (.int .u64 Yo)) (fun _ hk => hk.2) (.slice Ef Yp.length Eg)) (fun _ hk => hk.2) (.slice Fa Yq.length Fb)) (fun _ h_ => h_.1)))) (Kd.R_base ho17) hb); have n2_ := aA (Kd.R_lower ho17 (below_size (bls HB.out))); have n3_ := aA (blk_below (g := Jb) (o := .cells #[.int .u64 Yo, .slice Ef Yp.length Eg, .slice Fa Yq.length Fb] 26 (0, 0)) (by (with_reducible repeat (first | refine blk_drewN ?_ _ | refine blk_drew ?_ | refine blk_alloc ?_ _)); refine blk_put (cs := #[.int .u64 Yo, .slice Ef Yp.length Eg, .slice none 0 0]) ?_ 2 _ rfl; (with_reducible repeat (first | refine blk_drewN ?_ _ | refine blk_drew ?_ | refine blk_alloc ?_ _)); refine blk_put (cs := #[.int .u64 Yo, .slice none 0 0, .slice none 0 0]) ?_ 1 _ rfl; (with_reducible repeat (first | refine blk_drewN ?_ _ | refine blk_drew ?_ | refine blk_alloc ?_ _)); refine blk_put (cs := #[.int .u64 0, .slice none 0 0, .slice none 0 0]) ?_ 0 _ rfl; (with_reducible repeat (first | refine blk_drewN ?_ _ | refine blk_drew ?_ | refine blk_alloc ?_ _)); exact Jd.out) hb); have n4_ := aA (below_step (bls HB.out) hb); clear Yc Yd Jd HB; have Yc := n0_; have Yd := n1_; have HO140 := n2_; have Jd := n3_; have HB := n4_; clear n0_ n1_ n2_ n3_ n4_ hb ho17))
    go_loopg [4, 5] kj1 (fun kq v4 v5 w' => ∃ (Jw : List (S60)) (Ja : Int) (Ji : Int) (Jh : List Int) (Jl : List (S64)) (u138001 : Value) (u138002 : Value), v5 = .int .i64 Ja ∧ Aside0 (treillagelaw14_EpochHolds.l0 kq l0 Jw Ja Ji Jh Jl = some r) ∧ Aside0 (kq ≤ kj1) ∧ Aside0 (Kd.R k60 60 w' w.heap.size (fun _ => True) v4 Jw) ∧ Aside0 (Kd.V (Kd.int .u64) 22 w' w.heap.size (fun k_ => some k_ ≠ (v4 : Value).ownBlock ∧ k_ ≠ Jb) u138001 Jh) ∧ Aside0 (Kd.V k64 64 w' w.heap.size (fun k_ => some k_ ≠ (v4 : Value).ownBlock ∧ k_ ≠ Jb) u138002 Jl) ∧ Aside0 (w'.heap[Jb]? = some (.cells #[.int .u64 Ji, u138001, u138002] 26 (0, 0))) ∧ Aside0 (Below w.heap.size w w'))
    case atStart => exact ⟨(Fs), (0), (Yo), (Yp), (Yq), (.slice Ef Yp.length Eg), (.slice Fa Yq.length Fb), (by first | rfl | (simp; done) | (simp [*]; done) | (simp; exact wrapin_ (by assumption) (by assumption))), H', ⟨Nat.le_refl _⟩, ⟨by (with_reducible repeat (first | apply Kd.R_alloc | apply Kd.R_drewN | apply Kd.R_drew)); exact HO140.out⟩, ⟨by (with_reducible repeat (first | apply Kd.V_alloc | apply Kd.V_drewN | apply Kd.V_drew)); exact Kd.V_mono Yc.out (fun _ hk => ⟨hk.2, hk.1.2⟩)⟩, ⟨by (with_reducible repeat (first | apply Kd.V_alloc | apply Kd.V_drewN | apply Kd.V_drew)); exact Kd.V_mono Yd.out (fun _ hk => ⟨hk.2, hk.1.2⟩)⟩, ⟨by (with_reducible repeat (first | refine blk_drewN ?_ _ | refine blk_drew ?_ | refine blk_alloc ?_ _)); exact Jd.out⟩, ⟨by repeat (first | (with_reducible first | exact HB.out | apply below_alloc | apply pw_below_drewN | apply below_drew1 | refine below_set ?_ Qc.out) | exact HB.out)⟩⟩
    case round =>
     clear H'; try clear c1
     try clear p2
     try clear c4
     try clear c5
     try clear c7
     try clear c9
     try clear c11
     try clear c12
     try clear Y0
     try clear Y1
     try clear Y2
     try clear Y3
     try clear Y4
     try clear Y5
     try clear p2
     obtain ⟨Jw, Ja, Ji, Jh, Jl, u138001, u138002, rfl, HA, HK2, Jk, Jf, Jg, Jd, HB⟩ := hrel; cases gk with
     | zero => exact absurd HA.out (by simp [treillagelaw14_EpochHolds.l0])
     | succ k2 =>
      have H := HA.out; clear HA; simp only [treillagelaw14_EpochHolds.l0] at H; by_cases c18 : Ja < (l0.length : Int)
      ·rw [if_pos c18] at H; have c18b0 : decide (Ja < (l0.length : Int)) = true := decide_eq_true c18; clear c18; by_cases c19 : 0 ≤ Ja
       rotate_left
       ·rw [if_neg c19] at H; exact absurd H (by simp)
       rw [if_pos c19] at H; have c19b0 : decide (0 ≤ Ja) = true := decide_eq_true c19; clear c19; by_cases c20 : (Jh.length : Int) = 4
       ·rw [if_pos c20] at H; have c20b0 : ((Jh.length : Int) == 4) = true := beq_iff_eq.mpr c20; have c20b1 : ((Jh.length : Int) != 4) = false := bne_eq_false_iff_eq.mpr c20; clear c20; by_cases c21 : ((rd_T42 l0 Ja).f0) = 0
        ·rw [if_pos c21] at H; have c21b0 : (((rd_T42 l0 Ja).f0) == 0) = true := beq_iff_eq.mpr c21; have c21b1 : (((rd_T42 l0 Ja).f0) != 0) = false := bne_eq_false_iff_eq.mpr c21; clear c21; obtain ⟨ji22, hji22⟩ : ∃ j_ : Int, (mn Ji (Int.tmod ((rd_T42 l0 Ja).f2) 2)) = j_ := ⟨_, rfl⟩; replace H : ((epoch_Pin.f Ji Jh Jl (Go.bits .and .i64 ((rd_T42 l0 Ja).f1) 3) (IntKind.u64.wrap (Ji - (ji22)))).bind fun Fc => (treillagelaw14_EpochHolds.l0 k2 l0 Jw (wrap64 (Ja + 1)) Fc.1 Fc.2.1 Fc.2.2.1)) = some r := by first | (rw [hji22] at H; exact H) | (simp only [hji22] at H ⊢; exact H)
         have hji22_ : (if (Int.tmod ((rd_T42 l0 Ja).f2) 2) < Ji then (Int.tmod ((rd_T42 l0 Ja).f2) 2) else Ji) = ji22 := hji22; replace H := Option.bind_eq_some_iff.mp H; obtain ⟨⟨Yr, Ys, Y9, t150⟩, A230, H⟩ := H; replace H : (treillagelaw14_EpochHolds.l0 k2 l0 Jw (wrap64 (Ja + 1)) Yr Ys Y9) = some r := H; have A23 := aA A230; clear A230; have H' := aA H; clear H; have p141 : 0 ≤ (Ja : Int) := of_decide_eq_true (by first | (with_reducible assumption) | assumption); have q141 : Ja < (l0.length : Int) := of_decide_eq_true (by first | (with_reducible assumption) | assumption); obtain ⟨ad141, A141_3, c141_3, A141_4, c141_4, e141, hx141_0, hx141_1, hx141_2, hx141_3, hx141_4, hl141_3, hi141_3, hl141_4, hi141_4⟩ := at_T42 HR0.out Ja p141 q141; cases e141
         replace hx141_0 := (HB.out.cell (World.block_lt_of_cell? w _ hx141_0)).trans hx141_0; replace hx141_1 := (HB.out.cell (World.block_lt_of_cell? w _ hx141_1)).trans hx141_1; replace hx141_2 := (HB.out.cell (World.block_lt_of_cell? w _ hx141_2)).trans hx141_2; replace hx141_3 := (HB.out.cell (World.block_lt_of_cell? w _ hx141_3)).trans hx141_3; replace hx141_4 := (HB.out.cell (World.block_lt_of_cell? w _ hx141_4)).trans hx141_4; have HR141_3 := aA hi141_3; have HC141_3 := aA hl141_3; clear hi141_3 hl141_3; have HR141_4 := aA hi141_4; have HC141_4 := aA hl141_4; clear hi141_4 hl141_4; replace p141 := eq_true p141; replace q141 := eq_true q141; go_wp2_with (first | ((with_reducible refine gate_dst (N := 6) rfl ?_); refine box_event ?hg (N := 6) ?hd (cs := #[.int .i64 0, .int .i64 0, .int .u64 0, .slice none 0 0, .slice none 0 0]) (t := 42) ?hr ?_; (case hd => rfl); (case hg => rfl); (case hr => first | (go_simp; done) | (go_simp; rfl)); intro Jc hg w24 hbox hb; have n0_ := aA (Kd.R_below (rlu Jk.out) hb); have n1_ := aA (Kd.V_below (Kd.V_elderB (vlu Jf.out) Jc (Nat.le_of_eq hg.symm)) hb); have n2_ := aA (Kd.V_below (Kd.V_elderB (vlu Jg.out) Jc (Nat.le_of_eq hg.symm)) hb); have n3_ := aA (blk_below (g := Jb) (o := .cells #[.int .u64 Ji, u138001, u138002] 26 (0, 0)) (bku Jd.out) hb); have n4_ := aA (below_step (bls HB.out) hb); have n5_ := aA (hbox); have n6_ := aA ((by rw [hg]; exact (below_size (bls HB.out)) : w.heap.size ≤ Jc)); have n7_ := aA ((by rw [hg]; exact (below_size (bls HB.out)) : w.heap.size ≤ Jc)); have n8_ := aA ((by rw [hg]; exact Nat.ne_of_lt (blk_lt (g := Jb) (o := .cells #[.int .u64 Ji, u138001, u138002] 26 (0, 0)) (bku Jd.out)) : Jb ≠ Jc)); have n9_ := aA ((by rw [hg]; exact Nat.ne_of_gt (blk_lt (g := Jb) (o := .cells #[.int .u64 Ji, u138001, u138002] 26 (0, 0)) (bku Jd.out)) : Jc ≠ Jb)); clear Jk Jf Jg Jd HB; have Jk := n0_; have Jf := n1_; have Jg := n2_; have Jd := n3_; have HB := n4_; have Je := n5_; have Fd := n6_; have J8 := n7_; have Jo := n8_; have Jy := n9_; clear n0_ n1_ n2_ n3_ n4_ n5_ n6_ n7_ n8_ n9_ hb hbox hg; have hnb25 := Jy.out; have hnc25 := Jo.out; have Zi : w24.cell? ⟨Jc, 0, none⟩ = some (.int .i64 0) := (blk_cell Je.out 0).trans rfl; have Zj : w24.cell? ⟨Jc, 1, none⟩ = some (.int .i64 0) := (blk_cell Je.out 1).trans rfl; have Zk : w24.cell? ⟨Jc, 2, none⟩ = some (.int .u64 0) := (blk_cell Je.out 2).trans rfl; have Zl : w24.cell? ⟨Jc, 3, none⟩ = some (.slice none 0 0) := (blk_cell Je.out 3).trans rfl; have Zm : w24.cell? ⟨Jc, 4, none⟩ = some (.slice none 0 0) := (blk_cell Je.out 4).trans rfl; have Zn := blk_frozen Je.out 0; have Zo := blk_frozen Je.out 1; have Zp := blk_frozen Je.out 2; have Zq := blk_frozen Je.out 3; have Zr := blk_frozen Je.out 4) | ((with_reducible refine gate_store (t := 42) (p := 6) rfl ?_); refine store_event (t := 42) (p := 6) (v := ?vo_w27) (w1 := (((((w24.setCell ⟨Jc, 0, none⟩ (.int .i64 ((rd_T42 l0 Ja).f0))).setCell ⟨Jc, 1, none⟩ (.int .i64 ((rd_T42 l0 Ja).f1))).setCell ⟨Jc, 2, none⟩ (.int .u64 ((rd_T42 l0 Ja).f2))).setCell ⟨Jc, 3, none⟩ (.slice A141_3 ((rd_T42 l0 Ja).f3.f0).length c141_3)).setCell ⟨Jc, 4, none⟩ (.slice A141_4 ((rd_T42 l0 Ja).f3.f1).length c141_4))) ?hg ?ho ?hn ?hr ?_; (case ho => rfl); (case hg => rfl); (case hn => rfl); (case hr => first | (go_simp; done) | (go_simp; rfl)); intro w27 hw; have n0_ : Aside0 (Kd.R k60 60 w27 w.heap.size (fun _ => True) u4 Jw) := ⟨(by rw [hw]; exact (rlu (Kd.R_mono (Kd.R_far (p := ⟨Jc, 4, none⟩) (Kd.R_far (p := ⟨Jc, 3, none⟩) (Kd.R_far (p := ⟨Jc, 2, none⟩) (Kd.R_far (p := ⟨Jc, 1, none⟩) (Kd.R_far (p := ⟨Jc, 0, none⟩) (Kd.R_types Jk.out Je.out (by decide)) (fun _ hk => hk.2) (.int .i64 ((rd_T42 l0 Ja).f0))) (fun _ hk => hk.2) (.int .i64 ((rd_T42 l0 Ja).f1))) (fun _ hk => hk.2) (.int .u64 ((rd_T42 l0 Ja).f2))) (fun _ hk => hk.2) (.slice A141_3 ((rd_T42 l0 Ja).f3.f0).length c141_3)) (fun _ hk => hk.2) (.slice A141_4 ((rd_T42 l0 Ja).f3.f1).length c141_4)) (fun _ hk => trivial))))⟩; have n1_ : Aside0 (Kd.V (Kd.int .u64) 22 w27 w.heap.size (fun k_ => some k_ ≠ (u4 : Value).ownBlock ∧ k_ ≠ Jb ∧ k_ ≠ Jc) u138001 Jh) := ⟨(by rw [hw]; exact (vlu (Kd.V_mono (Kd.V_far (p := ⟨Jc, 4, none⟩) (Kd.V_far (p := ⟨Jc, 3, none⟩) (Kd.V_far (p := ⟨Jc, 2, none⟩) (Kd.V_far (p := ⟨Jc, 1, none⟩) (Kd.V_far (p := ⟨Jc, 0, none⟩) (Kd.V_mono Jf.out (fun k_ hk => (⟨hk, hk.2⟩ : _ ∧ k_ ≠ Jc))) (fun _ hk => hk.2) (.int .i64 ((rd_T42 l0 Ja).f0))) (fun _ hk => hk.2) (.int .i64 ((rd_T42 l0 Ja).f1))) (fun _ hk => hk.2) (.int .u64 ((rd_T42 l0 Ja).f2))) (fun _ hk => hk.2) (.slice A141_3 ((rd_T42 l0 Ja).f3.f0).length c141_3)) (fun _ hk => hk.2) (.slice A141_4 ((rd_T42 l0 Ja).f3.f1).length c141_4)) (fun _ hk => ⟨hk.1.1.1, ⟨hk.1.1.2, hk.1.2⟩⟩))))⟩; have n2_ : Aside0 (Kd.V k64 64 w27 w.heap.size (fun k_ => some k_ ≠ (u4 : Value).ownBlock ∧ k_ ≠ Jb ∧ k_ ≠ Jc) u138002 Jl) := ⟨(by rw [hw]; exact (vlu (Kd.V_mono (Kd.V_far (p := ⟨Jc, 4, none⟩) (Kd.V_far (p := ⟨Jc, 3, none⟩) (Kd.V_far (p := ⟨Jc, 2, none⟩) (Kd.V_far (p := ⟨Jc, 1, none⟩) (Kd.V_far (p := ⟨Jc, 0, none⟩) (Kd.V_mono Jg.out (fun k_ hk => (⟨hk, hk.2⟩ : _ ∧ k_ ≠ Jc))) (fun _ hk => hk.2) (.int .i64 ((rd_T42 l0 Ja).f0))) (fun _ hk => hk.2) (.int .i64 ((rd_T42 l0 Ja).f1))) (fun _ hk => hk.2) (.int .u64 ((rd_T42 l0 Ja).f2))) (fun _ hk => hk.2) (.slice A141_3 ((rd_T42 l0 Ja).f3.f0).length c141_3)) (fun _ hk => hk.2) (.slice A141_4 ((rd_T42 l0 Ja).f3.f1).length c141_4)) (fun _ hk => ⟨hk.1.1.1, ⟨hk.1.1.2, hk.1.2⟩⟩))))⟩; have n3_ : Aside0 (w27.heap[Jb]? = some (.cells #[.int .u64 Ji, u138001, u138002] 26 (0, 0))) := ⟨(by rw [hw]; exact (by (with_reducible repeat (first | refine blk_drewN ?_ _ | refine blk_drew ?_ | refine blk_alloc ?_ _)); refine blk_far ?_ Jo.out _; (with_reducible repeat (first | refine blk_drewN ?_ _ | refine blk_drew ?_ | refine blk_alloc ?_ _)); refine blk_far ?_ Jo.out _; (with_reducible repeat (first | refine blk_drewN ?_ _ | refine blk_drew ?_ | refine blk_alloc ?_ _)); refine blk_far ?_ Jo.out _; (with_reducible repeat (first | refine blk_drewN ?_ _ | refine blk_drew ?_ | refine blk_alloc ?_ _)); refine blk_far ?_ Jo.out _; (with_reducible repeat (first | refine blk_drewN ?_ _ | refine blk_drew ?_ | refine blk_alloc ?_ _)); refine blk_far ?_ Jo.out _; (with_reducible repeat (first | refine blk_drewN ?_ _ | refine blk_drew ?_ | refine blk_alloc ?_ _)); exact Jd.out))⟩; have n4_ : Aside0 (w27.heap[Jc]? = some (.cells #[.int .i64 ((rd_T42 l0 Ja).f0), .int .i64 ((rd_T42 l0 Ja).f1), .int .u64 ((rd_T42 l0 Ja).f2), .slice A141_3 ((rd_T42 l0 Ja).f3.f0).length c141_3, .slice A141_4 ((rd_T42 l0 Ja).f3.f1).length c141_4] 42 (0, 0))) := ⟨(by rw [hw]; exact (by (with_reducible repeat (first | refine blk_drewN ?_ _ | refine blk_drew ?_ | refine blk_alloc ?_ _)); refine blk_put (cs := #[.int .i64 ((rd_T42 l0 Ja).f0), .int .i64 ((rd_T42 l0 Ja).f1), .int .u64 ((rd_T42 l0 Ja).f2), .slice A141_3 ((rd_T42 l0 Ja).f3.f0).length c141_3, .slice none 0 0]) ?_ 4 _ rfl; (with_reducible repeat (first | refine blk_drewN ?_ _ | refine blk_drew ?_ | refine blk_alloc ?_ _)); refine blk_put (cs := #[.int .i64 ((rd_T42 l0 Ja).f0), .int .i64 ((rd_T42 l0 Ja).f1), .int .u64 ((rd_T42 l0 Ja).f2), .slice none 0 0, .slice none 0 0]) ?_ 3 _ rfl; (with_reducible repeat (first | refine blk_drewN ?_ _ | refine blk_drew ?_ | refine blk_alloc ?_ _)); refine blk_put (cs := #[.int .i64 ((rd_T42 l0 Ja).f0), .int .i64 ((rd_T42 l0 Ja).f1), .int .u64 0, .slice none 0 0, .slice none 0 0]) ?_ 2 _ rfl; (with_reducible repeat (first | refine blk_drewN ?_ _ | refine blk_drew ?_ | refine blk_alloc ?_ _)); refine blk_put (cs := #[.int .i64 ((rd_T42 l0 Ja).f0), .int .i64 0, .int .u64 0, .slice none 0 0, .slice none 0 0]) ?_ 1 _ rfl; (with_reducible repeat (first | refine blk_drewN ?_ _ | refine blk_drew ?_ | refine blk_alloc ?_ _)); refine blk_put (cs := #[.int .i64 0, .int .i64 0, .int .u64 0, .slice none 0 0, .slice none 0 0]) ?_ 0 _ rfl; (with_reducible repeat (first | refine blk_drewN ?_ _ | refine blk_drew ?_ | refine blk_alloc ?_ _)); exact Je.out))⟩; have n5_ : Aside0 (Below w.heap.size w w27) := ⟨(by rw [hw]; exact (bls HB.out))⟩; clear hw Jk Jf Jg Jd Je HB; have Jk := n0_; have Jf := n1_; have Jg := n2_; have Jd := n3_; have Je := n4_; have HB := n5_; clear n0_ n1_ n2_ n3_ n4_ n5_; have Zs : w27.cell? ⟨Jc, 0, none⟩ = some (.int .i64 ((rd_T42 l0 Ja).f0)) := (blk_cell Je.out 0).trans rfl; have Zt : w27.cell? ⟨Jc, 1, none⟩ = some (.int .i64 ((rd_T42 l0 Ja).f1)) := (blk_cell Je.out 1).trans rfl; have Zu : w27.cell? ⟨Jc, 2, none⟩ = some (.int .u64 ((rd_T42 l0 Ja).f2)) := (blk_cell Je.out 2).trans rfl; have Zv : w27.cell? ⟨Jc, 3, none⟩ = some (.slice A141_3 ((rd_T42 l0 Ja).f3.f0).length c141_3) := (blk_cell Je.out 3).trans rfl; have Zw : w27.cell? ⟨Jc, 4, none⟩ = some (.slice A141_4 ((rd_T42 l0 Ja).f3.f1).length c141_4) := (blk_cell Je.out 4).trans rfl; have Zx := blk_frozen Je.out 0; have Zy := blk_frozen Je.out 1; have Zz := blk_frozen Je.out 2; have Z0 := blk_frozen Je.out 3; have Z1 := blk_frozen Je.out 4; have Z2 : w27.cell? ⟨Jb, 0, none⟩ = some (.int .u64 Ji) := (blk_cell Jd.out 0).trans rfl; have Z3 : w27.cell? ⟨Jb, 1, none⟩ = some (u138001) := (blk_cell Jd.out 1).trans rfl; have Z4 : w27.cell? ⟨Jb, 2, none⟩ = some (u138002) := (blk_cell Jd.out 2).trans rfl; have Z5 := blk_frozen Jd.out 0; have Z6 := blk_frozen Jd.out 1; have Z7 := blk_frozen Jd.out 2; obtain ⟨Za, Zb, eo30⟩ := Kd.V_slice Jf.out; subst eo30; obtain ⟨Yt, Yu, eo31⟩ := Kd.V_slice Jg.out; subst eo31) | ((with_reducible refine gate_callee (f := 14) rfl ?_); refine goesL_ (some 93) rfl rfl Try.func14 (by kernel_rfl) rfl #[.agg #[.int .u64 Ji, .slice Za Jh.length Zb, .slice Yt Jl.length Yu], .int .i64 (Go.bits .and .i64 ((rd_T42 l0 Ja).f1) 3), .int .u64 (IntKind.u64.wrap (Ji - (ji22)))] rfl (by (try simp only [List.map_toArray, List.map_cons, List.map_nil]); first | done | (simp only [hji22]; rfl) | rfl | (simp only [List.length_drop, List.length_take]; rfl)) ?_; (with_reducible refine (epoch_Pin.calls Ji (fun k_ => (some k_ ≠ (u4 : Value).ownBlock ∧ (k_ ≠ Jb ∧ k_ ≠ Jc))) _ _ Jh (fun k_ => (some k_ ≠ (u4 : Value).ownBlock ∧ (k_ ≠ Jb ∧ k_ ≠ Jc))) _ _ Jl (Go.bits .and .i64 ((rd_T42 l0 Ja).f1) 3) (IntKind.u64.wrap (Ji - (ji22))) Yr Ys Y9 t150 _ ?side1 ?side2 A23.out).mono ?_); (case side1 => first | exact Jf.out | exact V_below Jf.out (blw (Below.refl _ _)) (fun k_ hk_ => by first | exact hk_ | exact ⟨⟨hk_.1, hk_.2.1⟩, hk_.2.2⟩)); (case side2 => first | exact Jg.out | exact V_below Jg.out (blw (Below.refl _ _)) (fun k_ hk_ => by first | exact hk_ | exact ⟨⟨hk_.1, hk_.2.1⟩, hk_.2.2⟩)); rintro e w32 ⟨v145, v148, rfl, ho0, ho1, hb⟩; refine ⟨_, rfl, ?_⟩; have n0_ := aA (Kd.R_below (rlu Jk.out) hb); have n1_ := aA (Kd.V_below (vlu Jf.out) hb); have n2_ := aA (Kd.V_below (vlu Jg.out) hb); have n3_ := aA (Kd.V_lower (Kd.V_mono (ok' := fun k_ => some k_ ≠ (u4 : Value).ownBlock ∧ k_ ≠ Jb ∧ k_ ≠ Jc) ho0 (fun k_ hk_ => ⟨Or.elim hk_ (fun hs_ => Or.elim hs_ (fun hs_ => hs_.1) (fun hs_ => hs_.1)) (fun hn_ => (Kd.fresh' (Kd.R_lt (rlu Jk.out)) k_ hn_)), Or.elim hk_ (fun hs_ => Or.elim hs_ (fun hs_ => hs_.2.1) (fun hs_ => hs_.2.1)) (fun hn_ => (Kd.freshB (g := Jb) (o := .cells #[.int .u64 Ji, .slice Za Jh.length Zb, .slice Yt Jl.length Yu] 26 (0, 0)) (bku Jd.out) k_ hn_)), Or.elim hk_ (fun hs_ => Or.elim hs_ (fun hs_ => hs_.2.2) (fun hs_ => hs_.2.2)) (fun hn_ => (Kd.freshB (g := Jc) (o := .cells #[.int .i64 ((rd_T42 l0 Ja).f0), .int .i64 ((rd_T42 l0 Ja).f1), .int .u64 ((rd_T42 l0 Ja).f2), .slice A141_3 ((rd_T42 l0 Ja).f3.f0).length c141_3, .slice A141_4 ((rd_T42 l0 Ja).f3.f1).length c141_4] 42 (0, 0)) (bku Je.out) k_ hn_))⟩)) (below_size (bls HB.out))); have n4_ := aA (Kd.V_lower (Kd.V_mono (ok' := fun k_ => some k_ ≠ (u4 : Value).ownBlock ∧ k_ ≠ Jb ∧ k_ ≠ Jc) ho1 (fun k_ hk_ => ⟨Or.elim hk_ (fun hs_ => Or.elim hs_ (fun hs_ => hs_.1) (fun hs_ => hs_.1)) (fun hn_ => (Kd.fresh' (Kd.R_lt (rlu Jk.out)) k_ hn_)), Or.elim hk_ (fun hs_ => Or.elim hs_ (fun hs_ => hs_.2.1) (fun hs_ => hs_.2.1)) (fun hn_ => (Kd.freshB (g := Jb) (o := .cells #[.int .u64 Ji, .slice Za Jh.length Zb, .slice Yt Jl.length Yu] 26 (0, 0)) (bku Jd.out) k_ hn_)), Or.elim hk_ (fun hs_ => Or.elim hs_ (fun hs_ => hs_.2.2) (fun hs_ => hs_.2.2)) (fun hn_ => (Kd.freshB (g := Jc) (o := .cells #[.int .i64 ((rd_T42 l0 Ja).f0), .int .i64 ((rd_T42 l0 Ja).f1), .int .u64 ((rd_T42 l0 Ja).f2), .slice A141_3 ((rd_T42 l0 Ja).f3.f0).length c141_3, .slice A141_4 ((rd_T42 l0 Ja).f3.f1).length c141_4] 42 (0, 0)) (bku Je.out) k_ hn_))⟩)) (below_size (bls HB.out))); have n5_ := aA (blk_below (g := Jb) (o := .cells #[.int .u64 Ji, .slice Za Jh.length Zb, .slice Yt Jl.length Yu] 26 (0, 0)) (bku Jd.out) hb); have n6_ := aA (blk_below (g := Jc) (o := .cells #[.int .i64 ((rd_T42 l0 Ja).f0), .int .i64 ((rd_T42 l0 Ja).f1), .int .u64 ((rd_T42 l0 Ja).f2), .slice A141_3 ((rd_T42 l0 Ja).f3.f0).length c141_3, .slice A141_4 ((rd_T42 l0 Ja).f3.f1).length c141_4] 42 (0, 0)) (bku Je.out) hb); have n7_ := aA (below_step (bls HB.out) hb); clear Jk Jf Jg Jd Je HB; have Jk := n0_; have Jf := n1_; have Jg := n2_; have Fo := n3_; have Fp := n4_; have Jd := n5_; have Je := n6_; have HB := n7_; clear n0_ n1_ n2_ n3_ n4_ n5_ n6_ n7_; (try clear hb); (try clear hb2); (try clear hk); (try clear hi); (try clear ho0); (try clear ho1); have Z8 : w32.cell? ⟨Jb, 0, none⟩ = some (.int .u64 Ji) := (blk_cell Jd.out 0).trans rfl; have Z9 : w32.cell? ⟨Jb, 1, none⟩ = some (.slice Za Jh.length Zb) := (blk_cell Jd.out 1).trans rfl; have Da : w32.cell? ⟨Jb, 2, none⟩ = some (.slice Yt Jl.length Yu) := (blk_cell Jd.out 2).trans rfl; have Db := blk_frozen Jd.out 0; have Dc := blk_frozen Jd.out 1; have Dd := blk_frozen Jd.out 2; obtain ⟨Eh, Ei, eo34⟩ := Kd.V_slice Fo.out; subst eo34; obtain ⟨Fe, Ff, eo35⟩ := Kd.V_slice Fp.out; subst eo35))
         go_roundg k2
         case measure => have := HJ1.out; have := HK2.out; omega
         case rel => exact ⟨(Jw), (wrap64 (Ja + 1)), (Yr), (Ys), (Y9), (.slice Eh Ys.length Ei), (.slice Fe Y9.length Ff), (by first | rfl | (simp; done) | (simp [*]; done) | (simp; exact wrapin_ (by assumption) (by assumption))), H', ⟨by have := HJ1.out; have := HK2.out; omega⟩, ⟨by (with_reducible repeat (first | apply Kd.R_alloc | apply Kd.R_drewN | apply Kd.R_drew)); exact Kd.R_mono (Kd.R_far (p := ⟨Jb, 2, none⟩) (Kd.R_far (p := ⟨Jb, 1, none⟩) (Kd.R_far (p := ⟨Jb, 0, none⟩) (Kd.R_types Jk.out Jd.out (by decide)) (fun _ hk => hk.2) (.int .u64 Yr)) (fun _ hk => hk.2) (.slice Eh Ys.length Ei)) (fun _ hk => hk.2) (.slice Fe Y9.length Ff)) (fun _ hk => trivial)⟩, ⟨by (with_reducible repeat (first | apply Kd.V_alloc | apply Kd.V_drewN | apply Kd.V_drew)); exact Kd.V_mono (Kd.V_far (p := ⟨Jb, 2, none⟩) (Kd.V_far (p := ⟨Jb, 1, none⟩) (Kd.V_far (p := ⟨Jb, 0, none⟩) (Kd.V_mono Fo.out (fun k_ hk => (⟨hk, hk.2.1⟩ : _ ∧ k_ ≠ Jb))) (fun _ hk => hk.2) (.int .u64 Yr)) (fun _ hk => hk.2) (.slice Eh Ys.length Ei)) (fun _ hk => hk.2) (.slice Fe Y9.length Ff)) (fun _ hk => ⟨hk.1.1, hk.1.2.1⟩)⟩, ⟨by (with_reducible repeat (first | apply Kd.V_alloc | apply Kd.V_drewN | apply Kd.V_drew)); exact Kd.V_mono (Kd.V_far (p := ⟨Jb, 2, none⟩) (Kd.V_far (p := ⟨Jb, 1, none⟩) (Kd.V_far (p := ⟨Jb, 0, none⟩) (Kd.V_mono Fp.out (fun k_ hk => (⟨hk, hk.2.1⟩ : _ ∧ k_ ≠ Jb))) (fun _ hk => hk.2) (.int .u64 Yr)) (fun _ hk => hk.2) (.slice Eh Ys.length Ei)) (fun _ hk => hk.2) (.slice Fe Y9.length Ff)) (fun _ hk => ⟨hk.1.1, hk.1.2.1⟩)⟩, ⟨by (with_reducible repeat (first | refine blk_drewN ?_ _ | refine blk_drew ?_ | refine blk_alloc ?_ _)); refine blk_put (cs := #[.int .u64 Yr, .slice Eh Ys.length Ei, .slice Yt Jl.length Yu]) ?_ 2 _ rfl; (with_reducible repeat (first | refine blk_drewN ?_ _ | refine blk_drew ?_ | refine blk_alloc ?_ _)); refine blk_put (cs := #[.int .u64 Yr, .slice Za Jh.length Zb, .slice Yt Jl.length Yu]) ?_ 1 _ rfl; (with_reducible repeat (first | refine blk_drewN ?_ _ | refine blk_drew ?_ | refine blk_alloc ?_ _)); refine blk_put (cs := #[.int .u64 Ji, .slice Za Jh.length Zb, .slice Yt Jl.length Yu]) ?_ 0 _ rfl; (with_reducible repeat (first | refine blk_drewN ?_ _ | refine blk_drew ?_ | refine blk_alloc ?_ _)); exact Jd.out⟩, ⟨by repeat (first | (with_reducible first | exact HB.out | apply below_alloc | apply pw_below_drewN | apply below_drew1 | refine below_set ?_ Qc.out | refine below_set ?_ J8.out) | exact HB.out)⟩⟩
        ·rw [if_neg c21] at H; have c21b0 : (((rd_T42 l0 Ja).f0) == 0) = false := beq_eq_false_iff_ne.mpr c21; have c21b1 : (((rd_T42 l0 Ja).f0) != 0) = true := bne_iff_ne.mpr c21; by_cases c36 : ((rd_T42 l0 Ja).f0) = 1
         ·rw [if_pos c36] at H; have c36b0 : (((rd_T42 l0 Ja).f0) == 1) = true := beq_iff_eq.mpr c36; have c36b1 : (((rd_T42 l0 Ja).f0) != 1) = false := bne_eq_false_iff_eq.mpr c36; clear c36; replace H := Option.bind_eq_some_iff.mp H; obtain ⟨⟨Qn, Qk, Qm, t158⟩, A370, H⟩ := H; replace H : (treillagelaw14_EpochHolds.l1 k2 l0 Jw Ja (Go.bits .and .i64 ((rd_T42 l0 Ja).f1) 3) 0 Qn Qk Qm) = some r := H; have A37 := aA A370; clear A370; have H' := aA H; clear H; have p141 : 0 ≤ (Ja : Int) := of_decide_eq_true (by first | (with_reducible assumption) | assumption); have q141 : Ja < (l0.length : Int) := of_decide_eq_true (by first | (with_reducible assumption) | assumption); obtain ⟨ad141, A141_3, c141_3, A141_4, c141_4, e141, hx141_0, hx141_1, hx141_2, hx141_3, hx141_4, hl141_3, hi141_3, hl141_4, hi141_4⟩ := at_T42 HR0.out Ja p141 q141; cases e141
          replace hx141_0 := (HB.out.cell (World.block_lt_of_cell? w _ hx141_0)).trans hx141_0; replace hx141_1 := (HB.out.cell (World.block_lt_of_cell? w _ hx141_1)).trans hx141_1; replace hx141_2 := (HB.out.cell (World.block_lt_of_cell? w _ hx141_2)).trans hx141_2; replace hx141_3 := (HB.out.cell (World.block_lt_of_cell? w _ hx141_3)).trans hx141_3; replace hx141_4 := (HB.out.cell (World.block_lt_of_cell? w _ hx141_4)).trans hx141_4; have HR141_3 := aA hi141_3; have HC141_3 := aA hl141_3; clear hi141_3 hl141_3; have HR141_4 := aA hi141_4; have HC141_4 := aA hl141_4; clear hi141_4 hl141_4; replace p141 := eq_true p141; replace q141 := eq_true q141; go_wp2_with (first | ((with_reducible refine gate_dst (N := 6) rfl ?_); refine box_event ?hg (N := 6) ?hd (cs := #[.int .i64 0, .int .i64 0, .int .u64 0, .slice none 0 0, .slice none 0 0]) (t := 42) ?hr ?_; (case hd => rfl); (case hg => rfl); (case hr => first | (go_simp; done) | (go_simp; rfl)); intro Jc hg w38 hbox hb; have n0_ := aA (Kd.R_below (rlu Jk.out) hb); have n1_ := aA (Kd.V_below (Kd.V_elderB (vlu Jf.out) Jc (Nat.le_of_eq hg.symm)) hb); have n2_ := aA (Kd.V_below (Kd.V_elderB (vlu Jg.out) Jc (Nat.le_of_eq hg.symm)) hb); have n3_ := aA (blk_below (g := Jb) (o := .cells #[.int .u64 Ji, u138001, u138002] 26 (0, 0)) (bku Jd.out) hb); have n4_ := aA (below_step (bls HB.out) hb); have n5_ := aA (hbox); have n6_ := aA ((by rw [hg]; exact (below_size (bls HB.out)) : w.heap.size ≤ Jc)); have n7_ := aA ((by rw [hg]; exact (below_size (bls HB.out)) : w.heap.size ≤ Jc)); have n8_ := aA ((by rw [hg]; exact Nat.ne_of_lt (blk_lt (g := Jb) (o := .cells #[.int .u64 Ji, u138001, u138002] 26 (0, 0)) (bku Jd.out)) : Jb ≠ Jc)); have n9_ := aA ((by rw [hg]; exact Nat.ne_of_gt (blk_lt (g := Jb) (o := .cells #[.int .u64 Ji, u138001, u138002] 26 (0, 0)) (bku Jd.out)) : Jc ≠ Jb)); clear Jk Jf Jg Jd HB; have Jk := n0_; have Jf := n1_; have Jg := n2_; have Jd := n3_; have HB := n4_; have Je := n5_; have Fd := n6_; have J8 := n7_; have Jo := n8_; have Jy := n9_; clear n0_ n1_ n2_ n3_ n4_ n5_ n6_ n7_ n8_ n9_ hb hbox hg; have hnb39 := Jy.out; have hnc39 := Jo.out; have De : w38.cell? ⟨Jc, 0, none⟩ = some (.int .i64 0) := (blk_cell Je.out 0).trans rfl; have Df : w38.cell? ⟨Jc, 1, none⟩ = some (.int .i64 0) := (blk_cell Je.out 1).trans rfl; have Dg : w38.cell? ⟨Jc, 2, none⟩ = some (.int .u64 0) := (blk_cell Je.out 2).trans rfl; have Dh : w38.cell? ⟨Jc, 3, none⟩ = some (.slice none 0 0) := (blk_cell Je.out 3).trans rfl; have Di : w38.cell? ⟨Jc, 4, none⟩ = some (.slice none 0 0) := (blk_cell Je.out 4).trans rfl; have Dj := blk_frozen Je.out 0; have Dk := blk_frozen Je.out 1; have Dl := blk_frozen Je.out 2; have Dm := blk_frozen Je.out 3; have Dn := blk_frozen Je.out 4) | ((with_reducible refine gate_store (t := 42) (p := 6) rfl ?_); refine store_event (t := 42) (p := 6) (v := ?vo_w41) (w1 := (((((w38.setCell ⟨Jc, 0, none⟩ (.int .i64 ((rd_T42 l0 Ja).f0))).setCell ⟨Jc, 1, none⟩ (.int .i64 ((rd_T42 l0 Ja).f1))).setCell ⟨Jc, 2, none⟩ (.int .u64 ((rd_T42 l0 Ja).f2))).setCell ⟨Jc, 3, none⟩ (.slice A141_3 ((rd_T42 l0 Ja).f3.f0).length c141_3)).setCell ⟨Jc, 4, none⟩ (.slice A141_4 ((rd_T42 l0 Ja).f3.f1).length c141_4))) ?hg ?ho ?hn ?hr ?_; (case ho => rfl); (case hg => rfl); (case hn => rfl); (case hr => first | (go_simp; done) | (go_simp; rfl)); intro w41 hw; have n0_ : Aside0 (Kd.R k60 60 w41 w.heap.size (fun _ => True) u4 Jw) := ⟨(by rw [hw]; exact (rlu (Kd.R_mono (Kd.R_far (p := ⟨Jc, 4, none⟩) (Kd.R_far (p := ⟨Jc, 3, none⟩) (Kd.R_far (p := ⟨Jc, 2, none⟩) (Kd.R_far (p := ⟨Jc, 1, none⟩) (Kd.R_far (p := ⟨Jc, 0, none⟩) (Kd.R_types Jk.out Je.out (by decide)) (fun _ hk => hk.2) (.int .i64 ((rd_T42 l0 Ja).f0))) (fun _ hk => hk.2) (.int .i64 ((rd_T42 l0 Ja).f1))) (fun _ hk => hk.2) (.int .u64 ((rd_T42 l0 Ja).f2))) (fun _ hk => hk.2) (.slice A141_3 ((rd_T42 l0 Ja).f3.f0).length c141_3)) (fun _ hk => hk.2) (.slice A141_4 ((rd_T42 l0 Ja).f3.f1).length c141_4)) (fun _ hk => trivial))))⟩; have n1_ : Aside0 (Kd.V (Kd.int .u64) 22 w41 w.heap.size (fun k_ => some k_ ≠ (u4 : Value).ownBlock ∧ k_ ≠ Jb ∧ k_ ≠ Jc) u138001 Jh) := ⟨(by rw [hw]; exact (vlu (Kd.V_mono (Kd.V_far (p := ⟨Jc, 4, none⟩) (Kd.V_far (p := ⟨Jc, 3, none⟩) (Kd.V_far (p := ⟨Jc, 2, none⟩) (Kd.V_far (p := ⟨Jc, 1, none⟩) (Kd.V_far (p := ⟨Jc, 0, none⟩) (Kd.V_mono Jf.out (fun k_ hk => (⟨hk, hk.2⟩ : _ ∧ k_ ≠ Jc))) (fun _ hk => hk.2) (.int .i64 ((rd_T42 l0 Ja).f0))) (fun _ hk => hk.2) (.int .i64 ((rd_T42 l0 Ja).f1))) (fun _ hk => hk.2) (.int .u64 ((rd_T42 l0 Ja).f2))) (fun _ hk => hk.2) (.slice A141_3 ((rd_T42 l0 Ja).f3.f0).length c141_3)) (fun _ hk => hk.2) (.slice A141_4 ((rd_T42 l0 Ja).f3.f1).length c141_4)) (fun _ hk => ⟨hk.1.1.1, ⟨hk.1.1.2, hk.1.2⟩⟩))))⟩; have n2_ : Aside0 (Kd.V k64 64 w41 w.heap.size (fun k_ => some k_ ≠ (u4 : Value).ownBlock ∧ k_ ≠ Jb ∧ k_ ≠ Jc) u138002 Jl) := ⟨(by rw [hw]; exact (vlu (Kd.V_mono (Kd.V_far (p := ⟨Jc, 4, none⟩) (Kd.V_far (p := ⟨Jc, 3, none⟩) (Kd.V_far (p := ⟨Jc, 2, none⟩) (Kd.V_far (p := ⟨Jc, 1, none⟩) (Kd.V_far (p := ⟨Jc, 0, none⟩) (Kd.V_mono Jg.out (fun k_ hk => (⟨hk, hk.2⟩ : _ ∧ k_ ≠ Jc))) (fun _ hk => hk.2) (.int .i64 ((rd_T42 l0 Ja).f0))) (fun _ hk => hk.2) (.int .i64 ((rd_T42 l0 Ja).f1))) (fun _ hk => hk.2) (.int .u64 ((rd_T42 l0 Ja).f2))) (fun _ hk => hk.2) (.slice A141_3 ((rd_T42 l0 Ja).f3.f0).length c141_3)) (fun _ hk => hk.2) (.slice A141_4 ((rd_T42 l0 Ja).f3.f1).length c141_4)) (fun _ hk => ⟨hk.1.1.1, ⟨hk.1.1.2, hk.1.2⟩⟩))))⟩; have n3_ : Aside0 (w41.heap[Jb]? = some (.cells #[.int .u64 Ji, u138001, u138002] 26 (0, 0))) := ⟨(by rw [hw]; exact (by (with_reducible repeat (first | refine blk_drewN ?_ _ | refine blk_drew ?_ | refine blk_alloc ?_ _)); refine blk_far ?_ Jo.out _; (with_reducible repeat (first | refine blk_drewN ?_ _ | refine blk_drew ?_ | refine blk_alloc ?_ _)); refine blk_far ?_ Jo.out _; (with_reducible repeat (first | refine blk_drewN ?_ _ | refine blk_drew ?_ | refine blk_alloc ?_ _)); refine blk_far ?_ Jo.out _; (with_reducible repeat (first | refine blk_drewN ?_ _ | refine blk_drew ?_ | refine blk_alloc ?_ _)); refine blk_far ?_ Jo.out _; (with_reducible repeat (first | refine blk_drewN ?_ _ | refine blk_drew ?_ | refine blk_alloc ?_ _)); refine blk_far ?_ Jo.out _; (with_reducible repeat (first | refine blk_drewN ?_ _ | refine blk_drew ?_ | refine blk_alloc ?_ _)); exact Jd.out))⟩; have n4_ : Aside0 (w41.heap[Jc]? = some (.cells #[.int .i64 ((rd_T42 l0 Ja).f0), .int .i64 ((rd_T42 l0 Ja).f1), .int .u64 ((rd_T42 l0 Ja).f2), .slice A141_3 ((rd_T42 l0 Ja).f3.f0).length c141_3, .slice A141_4 ((rd_T42 l0 Ja).f3.f1).length c141_4] 42 (0, 0))) := ⟨(by rw [hw]; exact (by (with_reducible repeat (first | refine blk_drewN ?_ _ | refine blk_drew ?_ | refine blk_alloc ?_ _)); refine blk_put (cs := #[.int .i64 ((rd_T42 l0 Ja).f0), .int .i64 ((rd_T42 l0 Ja).f1), .int .u64 ((rd_T42 l0 Ja).f2), .slice A141_3 ((rd_T42 l0 Ja).f3.f0).length c141_3, .slice none 0 0]) ?_ 4 _ rfl; (with_reducible repeat (first | refine blk_drewN ?_ _ | refine blk_drew ?_ | refine blk_alloc ?_ _)); refine blk_put (cs := #[.int .i64 ((rd_T42 l0 Ja).f0), .int .i64 ((rd_T42 l0 Ja).f1), .int .u64 ((rd_T42 l0 Ja).f2), .slice none 0 0, .slice none 0 0]) ?_ 3 _ rfl; (with_reducible repeat (first | refine blk_drewN ?_ _ | refine blk_drew ?_ | refine blk_alloc ?_ _)); refine blk_put (cs := #[.int .i64 ((rd_T42 l0 Ja).f0), .int .i64 ((rd_T42 l0 Ja).f1), .int .u64 0, .slice none 0 0, .slice none 0 0]) ?_ 2 _ rfl; (with_reducible repeat (first | refine blk_drewN ?_ _ | refine blk_drew ?_ | refine blk_alloc ?_ _)); refine blk_put (cs := #[.int .i64 ((rd_T42 l0 Ja).f0), .int .i64 0, .int .u64 0, .slice none 0 0, .slice none 0 0]) ?_ 1 _ rfl; (with_reducible repeat (first | refine blk_drewN ?_ _ | refine blk_drew ?_ | refine blk_alloc ?_ _)); refine blk_put (cs := #[.int .i64 0, .int .i64 0, .int .u64 0, .slice none 0 0, .slice none 0 0]) ?_ 0 _ rfl; (with_reducible repeat (first | refine blk_drewN ?_ _ | refine blk_drew ?_ | refine blk_alloc ?_ _)); exact Je.out))⟩; have n5_ : Aside0 (Below w.heap.size w w41) := ⟨(by rw [hw]; exact (bls HB.out))⟩; clear hw Jk Jf Jg Jd Je HB; have Jk := n0_; have Jf := n1_; have Jg := n2_; have Jd := n3_; have Je := n4_; have HB := n5_; clear n0_ n1_ n2_ n3_ n4_ n5_; have Do : w41.cell? ⟨Jc, 0, none⟩ = some (.int .i64 ((rd_T42 l0 Ja).f0)) := (blk_cell Je.out 0).trans rfl; have Dp : w41.cell? ⟨Jc, 1, none⟩ = some (.int .i64 ((rd_T42 l0 Ja).f1)) := (blk_cell Je.out 1).trans rfl; have Dq : w41.cell? ⟨Jc, 2, none⟩ = some (.int .u64 ((rd_T42 l0 Ja).f2)) := (blk_cell Je.out 2).trans rfl; have Dr : w41.cell? ⟨Jc, 3, none⟩ = some (.slice A141_3 ((rd_T42 l0 Ja).f3.f0).length c141_3) := (blk_cell Je.out 3).trans rfl; have Ds : w41.cell? ⟨Jc, 4, none⟩ = some (.slice A141_4 ((rd_T42 l0 Ja).f3.f1).length c141_4) := (blk_cell Je.out 4).trans rfl; have Dt := blk_frozen Je.out 0; have Du := blk_frozen Je.out 1; have Dv := blk_frozen Je.out 2; have Dw := blk_frozen Je.out 3; have Dx := blk_frozen Je.out 4; have Dy : w41.cell? ⟨Jb, 0, none⟩ = some (.int .u64 Ji) := (blk_cell Jd.out 0).trans rfl; have Dz : w41.cell? ⟨Jb, 1, none⟩ = some (u138001) := (blk_cell Jd.out 1).trans rfl; have D0 : w41.cell? ⟨Jb, 2, none⟩ = some (u138002) := (blk_cell Jd.out 2).trans rfl; have D1 := blk_frozen Jd.out 0; have D2 := blk_frozen Jd.out 1; have D3 := blk_frozen Jd.out 2; obtain ⟨Zc, Zd, eo44⟩ := Kd.V_slice Jf.out; subst eo44; obtain ⟨Yv, Yw, eo45⟩ := Kd.V_slice Jg.out; subst eo45) | ((with_reducible refine gate_callee (f := 16) rfl ?_); refine goesL_ (some 101) rfl rfl Try.func16 (by kernel_rfl) rfl #[.agg #[.int .u64 Ji, .slice Zc Jh.length Zd, .slice Yv Jl.length Yw], .int .i64 (Go.bits .and .i64 ((rd_T42 l0 Ja).f1) 3)] rfl (by (try simp only [List.map_toArray, List.map_cons, List.map_nil]); first | done | rfl | (simp only [List.length_drop, List.length_take]; rfl)) ?_; (with_reducible refine (epoch_Unpin.calls Ji (fun k_ => (some k_ ≠ (u4 : Value).ownBlock ∧ (k_ ≠ Jb ∧ k_ ≠ Jc))) _ _ Jh (fun k_ => (some k_ ≠ (u4 : Value).ownBlock ∧ (k_ ≠ Jb ∧ k_ ≠ Jc))) _ _ Jl (Go.bits .and .i64 ((rd_T42 l0 Ja).f1) 3) Qn Qk Qm t158 _ ?side1 ?side2 A37.out).mono ?_); (case side1 => first | exact Jf.out | exact V_below Jf.out (blw (Below.refl _ _)) (fun k_ hk_ => by first | exact hk_ | exact ⟨⟨hk_.1, hk_.2.1⟩, hk_.2.2⟩)); (case side2 => first | exact Jg.out | exact V_below Jg.out (blw (Below.refl _ _)) (fun k_ hk_ => by first | exact hk_ | exact ⟨⟨hk_.1, hk_.2.1⟩, hk_.2.2⟩)); rintro e w46 ⟨v153, v156, rfl, ho0, ho1, hb⟩; refine ⟨_, rfl, ?_⟩; have n0_ := aA (Kd.R_below (rlu Jk.out) hb); have n1_ := aA (Kd.V_below (vlu Jf.out) hb); have n2_ := aA (Kd.V_below (vlu Jg.out) hb); have n3_ := aA (Kd.V_lower (Kd.V_mono (ok' := fun k_ => some k_ ≠ (u4 : Value).ownBlock ∧ k_ ≠ Jb ∧ k_ ≠ Jc) ho0 (fun k_ hk_ => ⟨Or.elim hk_ (fun hs_ => Or.elim hs_ (fun hs_ => hs_.1) (fun hs_ => hs_.1)) (fun hn_ => (Kd.fresh' (Kd.R_lt (rlu Jk.out)) k_ hn_)), Or.elim hk_ (fun hs_ => Or.elim hs_ (fun hs_ => hs_.2.1) (fun hs_ => hs_.2.1)) (fun hn_ => (Kd.freshB (g := Jb) (o := .cells #[.int .u64 Ji, .slice Zc Jh.length Zd, .slice Yv Jl.length Yw] 26 (0, 0)) (bku Jd.out) k_ hn_)), Or.elim hk_ (fun hs_ => Or.elim hs_ (fun hs_ => hs_.2.2) (fun hs_ => hs_.2.2)) (fun hn_ => (Kd.freshB (g := Jc) (o := .cells #[.int .i64 ((rd_T42 l0 Ja).f0), .int .i64 ((rd_T42 l0 Ja).f1), .int .u64 ((rd_T42 l0 Ja).f2), .slice A141_3 ((rd_T42 l0 Ja).f3.f0).length c141_3, .slice A141_4 ((rd_T42 l0 Ja).f3.f1).length c141_4] 42 (0, 0)) (bku Je.out) k_ hn_))⟩)) (below_size (bls HB.out))); have n4_ := aA (Kd.V_lower (Kd.V_mono (ok' := fun k_ => some k_ ≠ (u4 : Value).ownBlock ∧ k_ ≠ Jb ∧ k_ ≠ Jc) ho1 (fun k_ hk_ => ⟨Or.elim hk_ (fun hs_ => Or.elim hs_ (fun hs_ => hs_.1) (fun hs_ => hs_.1)) (fun hn_ => (Kd.fresh' (Kd.R_lt (rlu Jk.out)) k_ hn_)), Or.elim hk_ (fun hs_ => Or.elim hs_ (fun hs_ => hs_.2.1) (fun hs_ => hs_.2.1)) (fun hn_ => (Kd.freshB (g := Jb) (o := .cells #[.int .u64 Ji, .slice Zc Jh.length Zd, .slice Yv Jl.length Yw] 26 (0, 0)) (bku Jd.out) k_ hn_)), Or.elim hk_ (fun hs_ => Or.elim hs_ (fun hs_ => hs_.2.2) (fun hs_ => hs_.2.2)) (fun hn_ => (Kd.freshB (g := Jc) (o := .cells #[.int .i64 ((rd_T42 l0 Ja).f0), .int .i64 ((rd_T42 l0 Ja).f1), .int .u64 ((rd_T42 l0 Ja).f2), .slice A141_3 ((rd_T42 l0 Ja).f3.f0).length c141_3, .slice A141_4 ((rd_T42 l0 Ja).f3.f1).length c141_4] 42 (0, 0)) (bku Je.out) k_ hn_))⟩)) (below_size (bls HB.out))); have n5_ := aA (blk_below (g := Jb) (o := .cells #[.int .u64 Ji, .slice Zc Jh.length Zd, .slice Yv Jl.length Yw] 26 (0, 0)) (bku Jd.out) hb); have n6_ := aA (blk_below (g := Jc) (o := .cells #[.int .i64 ((rd_T42 l0 Ja).f0), .int .i64 ((rd_T42 l0 Ja).f1), .int .u64 ((rd_T42 l0 Ja).f2), .slice A141_3 ((rd_T42 l0 Ja).f3.f0).length c141_3, .slice A141_4 ((rd_T42 l0 Ja).f3.f1).length c141_4] 42 (0, 0)) (bku Je.out) hb); have n7_ := aA (below_step (bls HB.out) hb); clear Jk Jf Jg Jd Je HB; have Jk := n0_; have Jf := n1_; have Jg := n2_; have Fq := n3_; have Fr := n4_; have Jd := n5_; have Je := n6_; have HB := n7_; clear n0_ n1_ n2_ n3_ n4_ n5_ n6_ n7_; (try clear hb); (try clear hb2); (try clear hk); (try clear hi); (try clear ho0); (try clear ho1); have D4 : w46.cell? ⟨Jb, 0, none⟩ = some (.int .u64 Ji) := (blk_cell Jd.out 0).trans rfl; have D5 : w46.cell? ⟨Jb, 1, none⟩ = some (.slice Zc Jh.length Zd) := (blk_cell Jd.out 1).trans rfl; have D6 : w46.cell? ⟨Jb, 2, none⟩ = some (.slice Yv Jl.length Yw) := (blk_cell Jd.out 2).trans rfl; have D7 := blk_frozen Jd.out 0; have D8 := blk_frozen Jd.out 1; have D9 := blk_frozen Jd.out 2; obtain ⟨Q9, Ya, eo48⟩ := Kd.V_slice Fq.out; subst eo48; obtain ⟨Yl, Ym, eo49⟩ := Kd.V_slice Fr.out; subst eo49))
          go_loopg [8] k2 (fun kq v8 w' => ∃ (Jn : List (S60)) (Jj : Int), v8 = .int .i64 Jj ∧ Aside0 (treillagelaw14_EpochHolds.l1 kq l0 Jn Ja (Go.bits .and .i64 ((rd_T42 l0 Ja).f1) 3) Jj Qn Qk Qm = some r) ∧ Aside0 (kq ≤ k2) ∧ Aside0 (Kd.R k60 60 w' w.heap.size (fun _ => True) u4 Jn) ∧ Aside0 (Kd.V (Kd.int .u64) 22 w' w.heap.size (fun k_ => some k_ ≠ (u4 : Value).ownBlock ∧ k_ ≠ Jb ∧ k_ ≠ Jc) (.slice Q9 Qk.length Ya) Qk) ∧ Aside0 (Kd.V k64 64 w' w.heap.size (fun k_ => some k_ ≠ (u4 : Value).ownBlock ∧ k_ ≠ Jb ∧ k_ ≠ Jc) (.slice Yl Qm.length Ym) Qm) ∧ Aside0 (w'.heap[Jb]? = some (.cells #[.int .u64 Qn, (.slice Q9 Qk.length Ya), (.slice Yl Qm.length Ym)] 26 (0, 0))) ∧ Aside0 (w'.heap[Jc]? = some (.cells #[.int .i64 ((rd_T42 l0 Ja).f0), .int .i64 ((rd_T42 l0 Ja).f1), .int .u64 ((rd_T42 l0 Ja).f2), (.slice A141_3 ((rd_T42 l0 Ja).f3.f0).length c141_3), (.slice A141_4 ((rd_T42 l0 Ja).f3.f1).length c141_4)] 42 (0, 0))) ∧ Aside0 (Below w.heap.size w w'))
          case atStart => exact ⟨(Jw), (0), (by first | rfl | (simp; done) | (simp [*]; done) | (simp; exact wrapin_ (by assumption) (by assumption))), H', ⟨Nat.le_refl _⟩, ⟨by (with_reducible repeat (first | apply Kd.R_alloc | apply Kd.R_drewN | apply Kd.R_drew)); exact Kd.R_mono (Kd.R_far (p := ⟨Jb, 2, none⟩) (Kd.R_far (p := ⟨Jb, 1, none⟩) (Kd.R_far (p := ⟨Jb, 0, none⟩) (Kd.R_types Jk.out Jd.out (by decide)) (fun _ hk => hk.2) (.int .u64 Qn)) (fun _ hk => hk.2) (.slice Q9 Qk.length Ya)) (fun _ hk => hk.2) (.slice Yl Qm.length Ym)) (fun _ hk => trivial)⟩, ⟨by (with_reducible repeat (first | apply Kd.V_alloc | apply Kd.V_drewN | apply Kd.V_drew)); exact Kd.V_mono (Kd.V_far (p := ⟨Jb, 2, none⟩) (Kd.V_far (p := ⟨Jb, 1, none⟩) (Kd.V_far (p := ⟨Jb, 0, none⟩) (Kd.V_mono Fq.out (fun k_ hk => (⟨hk, hk.2.1⟩ : _ ∧ k_ ≠ Jb))) (fun _ hk => hk.2) (.int .u64 Qn)) (fun _ hk => hk.2) (.slice Q9 Qk.length Ya)) (fun _ hk => hk.2) (.slice Yl Qm.length Ym)) (fun _ hk => ⟨hk.1.1, ⟨hk.1.2.1, hk.1.2.2⟩⟩)⟩, ⟨by (with_reducible repeat (first | apply Kd.V_alloc | apply Kd.V_drewN | apply Kd.V_drew)); exact Kd.V_mono (Kd.V_far (p := ⟨Jb, 2, none⟩) (Kd.V_far (p := ⟨Jb, 1, none⟩) (Kd.V_far (p := ⟨Jb, 0, none⟩) (Kd.V_mono Fr.out (fun k_ hk => (⟨hk, hk.2.1⟩ : _ ∧ k_ ≠ Jb))) (fun _ hk => hk.2) (.int .u64 Qn)) (fun _ hk => hk.2) (.slice Q9 Qk.length Ya)) (fun _ hk => hk.2) (.slice Yl Qm.length Ym)) (fun _ hk => ⟨hk.1.1, ⟨hk.1.2.1, hk.1.2.2⟩⟩)⟩, ⟨by (with_reducible repeat (first | refine blk_drewN ?_ _ | refine blk_drew ?_ | refine blk_alloc ?_ _)); refine blk_put (cs := #[.int .u64 Qn, .slice Q9 Qk.length Ya, .slice Yv Jl.length Yw]) ?_ 2 _ rfl; (with_reducible repeat (first | refine blk_drewN ?_ _ | refine blk_drew ?_ | refine blk_alloc ?_ _)); refine blk_put (cs := #[.int .u64 Qn, .slice Zc Jh.length Zd, .slice Yv Jl.length Yw]) ?_ 1 _ rfl; (with_reducible repeat (first | refine blk_drewN ?_ _ | refine blk_drew ?_ | refine blk_alloc ?_ _)); refine blk_put (cs := #[.int .u64 Ji, .slice Zc Jh.length Zd, .slice Yv Jl.length Yw]) ?_ 0 _ rfl; (with_reducible repeat (first | refine blk_drewN ?_ _ | refine blk_drew ?_ | refine blk_alloc ?_ _)); exact Jd.out⟩, ⟨by (with_reducible repeat (first | refine blk_drewN ?_ _ | refine blk_drew ?_ | refine blk_alloc ?_ _)); refine blk_far ?_ Jy.out _; (with_reducible repeat (first | refine blk_drewN ?_ _ | refine blk_drew ?_ | refine blk_alloc ?_ _)); refine blk_far ?_ Jy.out _; (with_reducible repeat (first | refine blk_drewN ?_ _ | refine blk_drew ?_ | refine blk_alloc ?_ _)); refine blk_far ?_ Jy.out _; (with_reducible repeat (first | refine blk_drewN ?_ _ | refine blk_drew ?_ | refine blk_alloc ?_ _)); exact Je.out⟩, ⟨by repeat (first | (with_reducible first | exact HB.out | apply below_alloc | apply pw_below_drewN | apply below_drew1 | refine below_set ?_ Qc.out | refine below_set ?_ J8.out) | exact HB.out)⟩⟩
          case round =>
           clear H'; try clear c1
           try clear p1
           try clear q1
           try clear hx1
           try clear c2
           try clear p2
           try clear c3
           try clear c4
           try clear c5
           try clear p6
           try clear c7
           try clear c9
           try clear c11
           try clear c12
           try clear c14
           try clear p14
           try clear q14
           try clear hx14
           try clear c16
           try clear c18
           try clear c18b0
           try clear c19
           try clear c19b0
           try clear c20
           try clear c20b0
           try clear c20b1
           try clear c21
           try clear c21b0
           try clear c21b1
           try clear c25
           try clear c36
           try clear c36b0
           try clear c36b1
           try clear c39
           try clear Y0
           try clear Y1
           try clear Y2
           try clear Zi
           try clear Zj
           try clear Zk
           try clear Zl
           try clear Zm
           try clear Zs
           try clear Zt
           try clear Zu
           try clear Zv
           try clear Zw
           try clear Z2
           try clear Z3
           try clear Z4
           try clear Z8
           try clear Z9
           try clear Da
           try clear De
           try clear Df
           try clear Dg
           try clear Dh
           try clear Di
           try clear Do
           try clear Dp
           try clear Dq
           try clear Dr
           try clear Ds
           try clear Dy
           try clear Dz
           try clear D0
           try clear D4
           try clear D5
           try clear D6
           try clear Y3
           try clear Y4
           try clear Y5
           try clear Zn
           try clear Zo
           try clear Zp
           try clear Zq
           try clear Zr
           try clear Zx
           try clear Zy
           try clear Zz
           try clear Z0
           try clear Z1
           try clear Z5
           try clear Z6
           try clear Z7
           try clear Db
           try clear Dc
           try clear Dd
           try clear Dj
           try clear Dk
           try clear Dl
           try clear Dm
           try clear Dn
           try clear Dt
           try clear Du
           try clear Dv
           try clear Dw
           try clear Dx
           try clear D1
           try clear D2
           try clear D3
           try clear D7
           try clear D8
           try clear D9
           try clear hx141_0
           try clear hx141_1
           try clear hx141_2
           try clear hx141_3
           try clear hx141_4
           try clear p141
           try clear p2
           try clear q141
           obtain ⟨Jn, Jj, rfl, HA, HK3, Jk, Jf, Jg, Jd, Je, HB⟩ := hrel; cases gk with
           | zero => exact absurd HA.out (by simp [treillagelaw14_EpochHolds.l1])
           | succ k3 =>
            have H := HA.out; clear HA; simp only [treillagelaw14_EpochHolds.l1] at H; by_cases c50 : Jj < (Jn.length : Int)
            ·rw [if_pos c50] at H; have c50b0 : decide (Jj < (Jn.length : Int)) = true := decide_eq_true c50; clear c50; by_cases c51 : 0 ≤ Jj
             rotate_left
             ·rw [if_neg c51] at H; exact absurd H (by simp)
             rw [if_pos c51] at H; have c51b0 : decide (0 ≤ Jj) = true := decide_eq_true c51; clear c51; by_cases c53 : 0 ≤ (Go.bits .and .i64 ((rd_T42 l0 Ja).f1) 3)
             rotate_left
             ·rw [if_neg c53] at H; exact absurd H (by simp)
             rw [if_pos c53] at H; have c53b0 : decide (0 ≤ (Go.bits .and .i64 ((rd_T42 l0 Ja).f1) 3)) = true := decide_eq_true c53; clear c53; by_cases c54 : (Go.bits .and .i64 ((rd_T42 l0 Ja).f1) 3) < 4
             rotate_left
             ·rw [if_neg c54] at H; exact absurd H (by simp)
             rw [if_pos c54] at H; have c54b0 : decide ((Go.bits .and .i64 ((rd_T42 l0 Ja).f1) 3) < 4) = true := decide_eq_true c54; clear c54; by_cases c55 : (Go.bits .and .i64 ((rd_T42 l0 Ja).f1) 3) = 0
             ·rw [if_pos c55] at H; have c55b0 : ((Go.bits .and .i64 ((rd_T42 l0 Ja).f1) 3) == 0) = true := beq_iff_eq.mpr c55; have c55b1 : ((Go.bits .and .i64 ((rd_T42 l0 Ja).f1) 3) != 0) = false := bne_eq_false_iff_eq.mpr c55; clear c55; obtain ⟨Fj, hy159⟩ : ∃ y_ : List (S60), y_ = (Jn.set (Jj : Int).toNat (⟨false, (rd_T60 Jn Jj).f1, (rd_T60 Jn Jj).f2, (rd_T60 Jn Jj).f3⟩ : S60)) := ⟨_, rfl⟩; replace H : (treillagelaw14_EpochHolds.l1 k3 l0 Fj Ja (Go.bits .and .i64 ((rd_T42 l0 Ja).f1) 3) (wrap64 (Jj + 1)) Qn Qk Qm) = some r := by first | (rw [hy159]; with_reducible exact H) | (have H2_ := (Option.bind_some _ _).symm.trans H; rw [hy159]; with_reducible exact H2_) | (have H2_ := (Option.bind_some _ _).symm.trans H; with_reducible exact H2_) | with_reducible exact H | (rw [hy159]; exact H) | exact H
              have Ny159 := aA hy159; clear hy159; have H' := aA H; clear H; obtain ⟨Ao57, Ea, eo57⟩ := Kd.R_slice Jk.out; subst eo57; have p52 : 0 ≤ (Jj : Int) := of_decide_eq_true (by first | (with_reducible assumption) | assumption); have q52 : (Jj : Int) < ((Jn.length : Int) : Int) := of_decide_eq_true (by first | (with_reducible assumption) | assumption); obtain ⟨go52, Fk, eo52, Yb, gl52, cl52, HG52⟩ := Kd.R_form Jk.out (by omega); (first | cases eo52 | (injection eo52 with ea_ en_ ec_; (first | subst ea_ | (injection ea_ with ea_; subst ea_)); subst ec_; clear en_))
              have GB52 := aA Yb; have GG52 := aA HG52; clear Yb gl52 HG52; obtain ⟨ce52, hcl52, hM52, hcc52, hfr52⟩ := Kd.R_elem Jk.out z60 (Jj : Int) p52 q52; obtain rfl := k60_openM hM52; have hx52_0 : wr.cell? ⟨go52, (Jj : Int).toNat * 4, none⟩ = some (.bool ((rd_T60 Jn Jj).f0)) := hcc52 0 _ rfl; have hx52_1 : wr.cell? ⟨go52, (Jj : Int).toNat * 4 + 1, none⟩ = some (.bool ((rd_T60 Jn Jj).f1)) := hcc52 1 _ rfl; have hx52_2 : wr.cell? ⟨go52, (Jj : Int).toNat * 4 + 2, none⟩ = some (.bool ((rd_T60 Jn Jj).f2)) := hcc52 2 _ rfl; have hx52_3 : wr.cell? ⟨go52, (Jj : Int).toNat * 4 + 3, none⟩ = some (.bool ((rd_T60 Jn Jj).f3)) := hcc52 3 _ rfl; have hf52_0 : wr.frozen? ⟨go52, (Jj : Int).toNat * 4, none⟩ = false := hfr52 0; have hf52_1 : wr.frozen? ⟨go52, (Jj : Int).toNat * 4 + 1, none⟩ = false := hfr52 1; have hf52_2 : wr.frozen? ⟨go52, (Jj : Int).toNat * 4 + 2, none⟩ = false := hfr52 2; have hf52_3 : wr.frozen? ⟨go52, (Jj : Int).toNat * 4 + 3, none⟩ = false := hfr52 3; clear hcl52 hcc52 hfr52 hM52; replace p52 := eq_true p52; replace q52 := eq_true q52; have p56 := eq_true (of_decide_eq_true (by first | (with_reducible assumption) | assumption) : 0 ≤ ((Go.bits .and .i64 ((rd_T42 l0 Ja).f1) 3) : Int)); have q56 := eq_true (of_decide_eq_true (by first | (with_reducible assumption) | assumption) : ((Go.bits .and .i64 ((rd_T42 l0 Ja).f1) 3) : Int) < 4); have t56 : ((Go.bits .and .i64 ((rd_T42 l0 Ja).f1) 3) : Int).toNat = 0 := ix0_ (by first | (with_reducible assumption) | assumption); have HX58 := aA (show Kd.R k60 60 wr w.heap.size (fun _ => True) (.slice (some ⟨go52, 0, none⟩) Jn.length Ea) Jn from (rlu Jk.out)); obtain ⟨ce58, hcl58, hM58, hcc58, hfr58⟩ := Kd.R_elem HX58.out z60 (Jj : Int) (of_decide_eq_true (by first | (with_reducible assumption) | assumption)) (by have h_ : (Jj : Int) < ((Jn.length : Int) : Int) := of_decide_eq_true (by first | (with_reducible assumption) | assumption); first | exact h_ | (have e_ := (Kd.R_reads' Jk.out).1; omega) | simpa using h_); obtain rfl := k60_openM hM58; have HP58 := Kd.R_seg HX58.out (Jj : Int) (of_decide_eq_true (by first | (with_reducible assumption) | assumption)) (by have h_ : (Jj : Int) < ((Jn.length : Int) : Int) := of_decide_eq_true (by first | (with_reducible assumption) | assumption); first | exact h_ | (have e_ := (Kd.R_reads' Jk.out).1; omega) | simpa using h_) (seg := [.bool false]) (j := 0) hcl58 hcc58 (show 1 ≤ 4 from by decide) (x' := (⟨false, (rd_T60 Jn Jj).f1, (rd_T60 Jn Jj).f2, (rd_T60 Jn Jj).f3⟩ : S60)) (k60_mkM _ _ _ (⟨false, (rd_T60 Jn Jj).f1, (rd_T60 Jn Jj).f2, (rd_T60 Jn Jj).f3⟩ : S60) ) (fun _ hk => hk); have hx58_0 := hcc58 0 _ rfl; (try simp only [show (k60).sz = 4 from rfl, Nat.mul_one, Nat.add_zero] at hx58_0); have hf58_0 := hfr58 0; (try simp only [show (k60).sz = 4 from rfl, Nat.mul_one, Nat.add_zero] at hf58_0); clear hcl58 hcc58 hfr58 hM58; go_wp2_with (first | ((with_reducible refine gate_store (t := 4) (p := 114) rfl ?_); refine store_event (t := 4) (p := 114) (v := ?vo_w59) (w1 := (wr.setCell ⟨go52, (Jj : Int).toNat * 4, none⟩ (.bool false))) ?hg ?ho ?hn ?hr ?_; (case ho => rfl); (case hg => rfl); (case hn => rfl); (case hr => first | (go_simp; done) | (go_simp; rfl)); intro w59 hw; have hg : wr.grownBy w59 (some go52) := (by rw [hw]; exact HP58.2); have hp_ : Kd.R k60 60 w59 w.heap.size (fun _ => True) (.slice (some ⟨go52, 0, none⟩) Jn.length Ea) Fj := (by rw [hw, Ny159.out]; exact HP58.1); clear HP58; have n0_ := aA (hp_); have n1_ := aA (Kd.V_afterv (v := (.slice (some ⟨go52, 0, none⟩) Jn.length Ea)) (v1 := (.slice (some ⟨go52, 0, none⟩) Jn.length Ea)) (ok := (fun k_ => k_ ≠ Jb ∧ k_ ≠ Jc)) (vlu (Kd.V_mono Jf.out (fun _ hk => ⟨⟨hk.2.1, hk.2.2⟩, hk.1⟩))) hg (.inl rfl)); have n2_ := aA (Kd.V_afterv (v := (.slice (some ⟨go52, 0, none⟩) Jn.length Ea)) (v1 := (.slice (some ⟨go52, 0, none⟩) Jn.length Ea)) (ok := (fun k_ => k_ ≠ Jb ∧ k_ ≠ Jc)) (vlu (Kd.V_mono Jg.out (fun _ hk => ⟨⟨hk.2.1, hk.2.2⟩, hk.1⟩))) hg (.inl rfl)); have n3_ := aA (blk_grown (g := Jb) (o := .cells #[.int .u64 Qn, .slice Q9 Qk.length Ya, .slice Yl Qm.length Ym] 26 (0, 0)) (bku Jd.out) hg (Kd.R_ne Jk.out Jd.out (by decide))); have n4_ := aA (blk_grown (g := Jc) (o := .cells #[.int .i64 ((rd_T42 l0 Ja).f0), .int .i64 ((rd_T42 l0 Ja).f1), .int .u64 ((rd_T42 l0 Ja).f2), .slice A141_3 ((rd_T42 l0 Ja).f3.f0).length c141_3, .slice A141_4 ((rd_T42 l0 Ja).f3.f1).length c141_4] 42 (0, 0)) (bku Je.out) hg (Kd.R_ne Jk.out Je.out (by decide))); have n5_ := aA ((by rw [hw]; exact below_set (HB.out) GB52.out : Below w.heap.size w w59)); clear Jk Jf Jg Jd Je HB; have Jk := n0_; have Jf := n1_; have Jg := n2_; have Jd := n3_; have Je := n4_; have HB := n5_; clear n0_ n1_ n2_ n3_ n4_ n5_ hg hw hp_))
              go_roundg k3
              case measure => have := HJ1.out; have := HK2.out; have := HK3.out; omega
              case rel => exact ⟨(Fj), (wrap64 (Jj + 1)), (by first | rfl | (simp; done) | (simp [*]; done) | (simp; exact wrapin_ (by assumption) (by assumption))), H', ⟨by have := HJ1.out; have := HK2.out; have := HK3.out; omega⟩, ⟨by (with_reducible repeat (first | apply Kd.R_alloc | apply Kd.R_drewN | apply Kd.R_drew)); exact Jk.out⟩, ⟨by (with_reducible repeat (first | apply Kd.V_alloc | apply Kd.V_drewN | apply Kd.V_drew)); exact Kd.V_mono Jf.out (fun _ hk => ⟨hk.2, ⟨hk.1.1, hk.1.2⟩⟩)⟩, ⟨by (with_reducible repeat (first | apply Kd.V_alloc | apply Kd.V_drewN | apply Kd.V_drew)); exact Kd.V_mono Jg.out (fun _ hk => ⟨hk.2, ⟨hk.1.1, hk.1.2⟩⟩)⟩, ⟨by (with_reducible repeat (first | refine blk_drewN ?_ _ | refine blk_drew ?_ | refine blk_alloc ?_ _)); exact Jd.out⟩, ⟨by (with_reducible repeat (first | refine blk_drewN ?_ _ | refine blk_drew ?_ | refine blk_alloc ?_ _)); exact Je.out⟩, ⟨by repeat (first | (with_reducible first | exact HB.out | apply below_alloc | apply pw_below_drewN | apply below_drew1 | refine below_set ?_ Qc.out | refine below_set ?_ J8.out) | exact HB.out)⟩⟩
             ·rw [if_neg c55] at H; have c55b0 : ((Go.bits .and .i64 ((rd_T42 l0 Ja).f1) 3) == 0) = false := beq_eq_false_iff_ne.mpr c55; have c55b1 : ((Go.bits .and .i64 ((rd_T42 l0 Ja).f1) 3) != 0) = true := bne_iff_ne.mpr c55; by_cases c60 : (Go.bits .and .i64 ((rd_T42 l0 Ja).f1) 3) = 1
              ·rw [if_pos c60] at H; have c60b0 : ((Go.bits .and .i64 ((rd_T42 l0 Ja).f1) 3) == 1) = true := beq_iff_eq.mpr c60; have c60b1 : ((Go.bits .and .i64 ((rd_T42 l0 Ja).f1) 3) != 1) = false := bne_eq_false_iff_eq.mpr c60; clear c60; obtain ⟨Fl, hy160⟩ : ∃ y_ : List (S60), y_ = (Jn.set (Jj : Int).toNat (⟨(rd_T60 Jn Jj).f0, false, (rd_T60 Jn Jj).f2, (rd_T60 Jn Jj).f3⟩ : S60)) := ⟨_, rfl⟩; replace H : (treillagelaw14_EpochHolds.l1 k3 l0 Fl Ja (Go.bits .and .i64 ((rd_T42 l0 Ja).f1) 3) (wrap64 (Jj + 1)) Qn Qk Qm) = some r := by first | (rw [hy160]; with_reducible exact H) | (have H2_ := (Option.bind_some _ _).symm.trans H; rw [hy160]; with_reducible exact H2_) | (have H2_ := (Option.bind_some _ _).symm.trans H; with_reducible exact H2_) | with_reducible exact H | (rw [hy160]; exact H) | exact H
               have Ny160 := aA hy160; clear hy160; have H' := aA H; clear H; obtain ⟨Ao62, Eb, eo62⟩ := Kd.R_slice Jk.out; subst eo62; have p52 : 0 ≤ (Jj : Int) := of_decide_eq_true (by first | (with_reducible assumption) | assumption); have q52 : (Jj : Int) < ((Jn.length : Int) : Int) := of_decide_eq_true (by first | (with_reducible assumption) | assumption); obtain ⟨go52, Fk, eo52, Yb, gl52, cl52, HG52⟩ := Kd.R_form Jk.out (by omega); (first | cases eo52 | (injection eo52 with ea_ en_ ec_; (first | subst ea_ | (injection ea_ with ea_; subst ea_)); subst ec_; clear en_))
               have GB52 := aA Yb; have GG52 := aA HG52; clear Yb gl52 HG52; obtain ⟨ce52, hcl52, hM52, hcc52, hfr52⟩ := Kd.R_elem Jk.out z60 (Jj : Int) p52 q52; obtain rfl := k60_openM hM52; have hx52_0 : wr.cell? ⟨go52, (Jj : Int).toNat * 4, none⟩ = some (.bool ((rd_T60 Jn Jj).f0)) := hcc52 0 _ rfl; have hx52_1 : wr.cell? ⟨go52, (Jj : Int).toNat * 4 + 1, none⟩ = some (.bool ((rd_T60 Jn Jj).f1)) := hcc52 1 _ rfl; have hx52_2 : wr.cell? ⟨go52, (Jj : Int).toNat * 4 + 2, none⟩ = some (.bool ((rd_T60 Jn Jj).f2)) := hcc52 2 _ rfl; have hx52_3 : wr.cell? ⟨go52, (Jj : Int).toNat * 4 + 3, none⟩ = some (.bool ((rd_T60 Jn Jj).f3)) := hcc52 3 _ rfl; have hf52_0 : wr.frozen? ⟨go52, (Jj : Int).toNat * 4, none⟩ = false := hfr52 0; have hf52_1 : wr.frozen? ⟨go52, (Jj : Int).toNat * 4 + 1, none⟩ = false := hfr52 1; have hf52_2 : wr.frozen? ⟨go52, (Jj : Int).toNat * 4 + 2, none⟩ = false := hfr52 2; have hf52_3 : wr.frozen? ⟨go52, (Jj : Int).toNat * 4 + 3, none⟩ = false := hfr52 3; clear hcl52 hcc52 hfr52 hM52; replace p52 := eq_true p52; replace q52 := eq_true q52; have p61 := eq_true (of_decide_eq_true (by first | (with_reducible assumption) | assumption) : 0 ≤ ((Go.bits .and .i64 ((rd_T42 l0 Ja).f1) 3) : Int)); have q61 := eq_true (of_decide_eq_true (by first | (with_reducible assumption) | assumption) : ((Go.bits .and .i64 ((rd_T42 l0 Ja).f1) 3) : Int) < 4); have t61 : ((Go.bits .and .i64 ((rd_T42 l0 Ja).f1) 3) : Int).toNat = 1 := ix1_ (by first | (with_reducible assumption) | assumption); have HX63 := aA (show Kd.R k60 60 wr w.heap.size (fun _ => True) (.slice (some ⟨go52, 0, none⟩) Jn.length Eb) Jn from (rlu Jk.out)); obtain ⟨ce63, hcl63, hM63, hcc63, hfr63⟩ := Kd.R_elem HX63.out z60 (Jj : Int) (of_decide_eq_true (by first | (with_reducible assumption) | assumption)) (by have h_ : (Jj : Int) < ((Jn.length : Int) : Int) := of_decide_eq_true (by first | (with_reducible assumption) | assumption); first | exact h_ | (have e_ := (Kd.R_reads' Jk.out).1; omega) | simpa using h_); obtain rfl := k60_openM hM63; have HP63 := Kd.R_seg HX63.out (Jj : Int) (of_decide_eq_true (by first | (with_reducible assumption) | assumption)) (by have h_ : (Jj : Int) < ((Jn.length : Int) : Int) := of_decide_eq_true (by first | (with_reducible assumption) | assumption); first | exact h_ | (have e_ := (Kd.R_reads' Jk.out).1; omega) | simpa using h_) (seg := [.bool false]) (j := 1) hcl63 hcc63 (show 2 ≤ 4 from by decide) (x' := (⟨(rd_T60 Jn Jj).f0, false, (rd_T60 Jn Jj).f2, (rd_T60 Jn Jj).f3⟩ : S60)) (k60_mkM _ _ _ (⟨(rd_T60 Jn Jj).f0, false, (rd_T60 Jn Jj).f2, (rd_T60 Jn Jj).f3⟩ : S60) ) (fun _ hk => hk); have hx63_1 := hcc63 1 _ rfl; (try simp only [show (k60).sz = 4 from rfl, Nat.mul_one, Nat.add_zero] at hx63_1); have hf63_1 := hfr63 1; (try simp only [show (k60).sz = 4 from rfl, Nat.mul_one, Nat.add_zero] at hf63_1); clear hcl63 hcc63 hfr63 hM63; go_wp2_with (first | ((with_reducible refine gate_store (t := 4) (p := 114) rfl ?_); refine store_event (t := 4) (p := 114) (v := ?vo_w64) (w1 := (wr.setCell ⟨go52, (Jj : Int).toNat * 4 + 1, none⟩ (.bool false))) ?hg ?ho ?hn ?hr ?_; (case ho => rfl); (case hg => rfl); (case hn => rfl); (case hr => first | (go_simp; done) | (go_simp; rfl)); intro w64 hw; have hg : wr.grownBy w64 (some go52) := (by rw [hw]; exact HP63.2); have hp_ : Kd.R k60 60 w64 w.heap.size (fun _ => True) (.slice (some ⟨go52, 0, none⟩) Jn.length Eb) Fl := (by rw [hw, Ny160.out]; exact HP63.1); clear HP63; have n0_ := aA (hp_); have n1_ := aA (Kd.V_afterv (v := (.slice (some ⟨go52, 0, none⟩) Jn.length Eb)) (v1 := (.slice (some ⟨go52, 0, none⟩) Jn.length Eb)) (ok := (fun k_ => k_ ≠ Jb ∧ k_ ≠ Jc)) (vlu (Kd.V_mono Jf.out (fun _ hk => ⟨⟨hk.2.1, hk.2.2⟩, hk.1⟩))) hg (.inl rfl)); have n2_ := aA (Kd.V_afterv (v := (.slice (some ⟨go52, 0, none⟩) Jn.length Eb)) (v1 := (.slice (some ⟨go52, 0, none⟩) Jn.length Eb)) (ok := (fun k_ => k_ ≠ Jb ∧ k_ ≠ Jc)) (vlu (Kd.V_mono Jg.out (fun _ hk => ⟨⟨hk.2.1, hk.2.2⟩, hk.1⟩))) hg (.inl rfl)); have n3_ := aA (blk_grown (g := Jb) (o := .cells #[.int .u64 Qn, .slice Q9 Qk.length Ya, .slice Yl Qm.length Ym] 26 (0, 0)) (bku Jd.out) hg (Kd.R_ne Jk.out Jd.out (by decide))); have n4_ := aA (blk_grown (g := Jc) (o := .cells #[.int .i64 ((rd_T42 l0 Ja).f0), .int .i64 ((rd_T42 l0 Ja).f1), .int .u64 ((rd_T42 l0 Ja).f2), .slice A141_3 ((rd_T42 l0 Ja).f3.f0).length c141_3, .slice A141_4 ((rd_T42 l0 Ja).f3.f1).length c141_4] 42 (0, 0)) (bku Je.out) hg (Kd.R_ne Jk.out Je.out (by decide))); have n5_ := aA ((by rw [hw]; exact below_set (HB.out) GB52.out : Below w.heap.size w w64)); clear Jk Jf Jg Jd Je HB; have Jk := n0_; have Jf := n1_; have Jg := n2_; have Jd := n3_; have Je := n4_; have HB := n5_; clear n0_ n1_ n2_ n3_ n4_ n5_ hg hw hp_))
               go_roundg k3
               case measure => have := HJ1.out; have := HK2.out; have := HK3.out; omega
               case rel => exact ⟨(Fl), (wrap64 (Jj + 1)), (by first | rfl | (simp; done) | (simp [*]; done) | (simp; exact wrapin_ (by assumption) (by assumption))), H', ⟨by have := HJ1.out; have := HK2.out; have := HK3.out; omega⟩, ⟨by (with_reducible repeat (first | apply Kd.R_alloc | apply Kd.R_drewN | apply Kd.R_drew)); exact Jk.out⟩, ⟨by (with_reducible repeat (first | apply Kd.V_alloc | apply Kd.V_drewN | apply Kd.V_drew)); exact Kd.V_mono Jf.out (fun _ hk => ⟨hk.2, ⟨hk.1.1, hk.1.2⟩⟩)⟩, ⟨by (with_reducible repeat (first | apply Kd.V_alloc | apply Kd.V_drewN | apply Kd.V_drew)); exact Kd.V_mono Jg.out (fun _ hk => ⟨hk.2, ⟨hk.1.1, hk.1.2⟩⟩)⟩, ⟨by (with_reducible repeat (first | refine blk_drewN ?_ _ | refine blk_drew ?_ | refine blk_alloc ?_ _)); exact Jd.out⟩, ⟨by (with_reducible repeat (first | refine blk_drewN ?_ _ | refine blk_drew ?_ | refine blk_alloc ?_ _)); exact Je.out⟩, ⟨by repeat (first | (with_reducible first | exact HB.out | apply below_alloc | apply pw_below_drewN | apply below_drew1 | refine below_set ?_ Qc.out | refine below_set ?_ J8.out) | exact HB.out)⟩⟩
              ·rw [if_neg c60] at H; have c60b0 : ((Go.bits .and .i64 ((rd_T42 l0 Ja).f1) 3) == 1) = false := beq_eq_false_iff_ne.mpr c60; have c60b1 : ((Go.bits .and .i64 ((rd_T42 l0 Ja).f1) 3) != 1) = true := bne_iff_ne.mpr c60; by_cases c65 : (Go.bits .and .i64 ((rd_T42 l0 Ja).f1) 3) = 2
               ·rw [if_pos c65] at H; have c65b0 : ((Go.bits .and .i64 ((rd_T42 l0 Ja).f1) 3) == 2) = true := beq_iff_eq.mpr c65; have c65b1 : ((Go.bits .and .i64 ((rd_T42 l0 Ja).f1) 3) != 2) = false := bne_eq_false_iff_eq.mpr c65; clear c65; obtain ⟨Fm, hy161⟩ : ∃ y_ : List (S60), y_ = (Jn.set (Jj : Int).toNat (⟨(rd_T60 Jn Jj).f0, (rd_T60 Jn Jj).f1, false, (rd_T60 Jn Jj).f3⟩ : S60)) := ⟨_, rfl⟩; replace H : (treillagelaw14_EpochHolds.l1 k3 l0 Fm Ja (Go.bits .and .i64 ((rd_T42 l0 Ja).f1) 3) (wrap64 (Jj + 1)) Qn Qk Qm) = some r := by first | (rw [hy161]; with_reducible exact H) | (have H2_ := (Option.bind_some _ _).symm.trans H; rw [hy161]; with_reducible exact H2_) | (have H2_ := (Option.bind_some _ _).symm.trans H; with_reducible exact H2_) | with_reducible exact H | (rw [hy161]; exact H) | exact H
                have Ny161 := aA hy161; clear hy161; have H' := aA H; clear H; obtain ⟨Ao67, Ec, eo67⟩ := Kd.R_slice Jk.out; subst eo67; have p52 : 0 ≤ (Jj : Int) := of_decide_eq_true (by first | (with_reducible assumption) | assumption); have q52 : (Jj : Int) < ((Jn.length : Int) : Int) := of_decide_eq_true (by first | (with_reducible assumption) | assumption); obtain ⟨go52, Fk, eo52, Yb, gl52, cl52, HG52⟩ := Kd.R_form Jk.out (by omega); (first | cases eo52 | (injection eo52 with ea_ en_ ec_; (first | subst ea_ | (injection ea_ with ea_; subst ea_)); subst ec_; clear en_))
                have GB52 := aA Yb; have GG52 := aA HG52; clear Yb gl52 HG52; obtain ⟨ce52, hcl52, hM52, hcc52, hfr52⟩ := Kd.R_elem Jk.out z60 (Jj : Int) p52 q52; obtain rfl := k60_openM hM52; have hx52_0 : wr.cell? ⟨go52, (Jj : Int).toNat * 4, none⟩ = some (.bool ((rd_T60 Jn Jj).f0)) := hcc52 0 _ rfl; have hx52_1 : wr.cell? ⟨go52, (Jj : Int).toNat * 4 + 1, none⟩ = some (.bool ((rd_T60 Jn Jj).f1)) := hcc52 1 _ rfl; have hx52_2 : wr.cell? ⟨go52, (Jj : Int).toNat * 4 + 2, none⟩ = some (.bool ((rd_T60 Jn Jj).f2)) := hcc52 2 _ rfl; have hx52_3 : wr.cell? ⟨go52, (Jj : Int).toNat * 4 + 3, none⟩ = some (.bool ((rd_T60 Jn Jj).f3)) := hcc52 3 _ rfl; have hf52_0 : wr.frozen? ⟨go52, (Jj : Int).toNat * 4, none⟩ = false := hfr52 0; have hf52_1 : wr.frozen? ⟨go52, (Jj : Int).toNat * 4 + 1, none⟩ = false := hfr52 1; have hf52_2 : wr.frozen? ⟨go52, (Jj : Int).toNat * 4 + 2, none⟩ = false := hfr52 2; have hf52_3 : wr.frozen? ⟨go52, (Jj : Int).toNat * 4 + 3, none⟩ = false := hfr52 3; clear hcl52 hcc52 hfr52 hM52; replace p52 := eq_true p52; replace q52 := eq_true q52; have p66 := eq_true (of_decide_eq_true (by first | (with_reducible assumption) | assumption) : 0 ≤ ((Go.bits .and .i64 ((rd_T42 l0 Ja).f1) 3) : Int)); have q66 := eq_true (of_decide_eq_true (by first | (with_reducible assumption) | assumption) : ((Go.bits .and .i64 ((rd_T42 l0 Ja).f1) 3) : Int) < 4); have t66 : ((Go.bits .and .i64 ((rd_T42 l0 Ja).f1) 3) : Int).toNat = 2 := ix2_ (by first | (with_reducible assumption) | assumption); have HX68 := aA (show Kd.R k60 60 wr w.heap.size (fun _ => True) (.slice (some ⟨go52, 0, none⟩) Jn.length Ec) Jn from (rlu Jk.out)); obtain ⟨ce68, hcl68, hM68, hcc68, hfr68⟩ := Kd.R_elem HX68.out z60 (Jj : Int) (of_decide_eq_true (by first | (with_reducible assumption) | assumption)) (by have h_ : (Jj : Int) < ((Jn.length : Int) : Int) := of_decide_eq_true (by first | (with_reducible assumption) | assumption); first | exact h_ | (have e_ := (Kd.R_reads' Jk.out).1; omega) | simpa using h_); obtain rfl := k60_openM hM68; have HP68 := Kd.R_seg HX68.out (Jj : Int) (of_decide_eq_true (by first | (with_reducible assumption) | assumption)) (by have h_ : (Jj : Int) < ((Jn.length : Int) : Int) := of_decide_eq_true (by first | (with_reducible assumption) | assumption); first | exact h_ | (have e_ := (Kd.R_reads' Jk.out).1; omega) | simpa using h_) (seg := [.bool false]) (j := 2) hcl68 hcc68 (show 3 ≤ 4 from by decide) (x' := (⟨(rd_T60 Jn Jj).f0, (rd_T60 Jn Jj).f1, false, (rd_T60 Jn Jj).f3⟩ : S60)) (k60_mkM _ _ _ (⟨(rd_T60 Jn Jj).f0, (rd_T60 Jn Jj).f1, false, (rd_T60 Jn Jj).f3⟩ : S60) ) (fun _ hk => hk); have hx68_2 := hcc68 2 _ rfl; (try simp only [show (k60).sz = 4 from rfl, Nat.mul_one, Nat.add_zero] at hx68_2); have hf68_2 := hfr68 2; (try simp only [show (k60).sz = 4 from rfl, Nat.mul_one, Nat.add_zero] at hf68_2); clear hcl68 hcc68 hfr68 hM68; go_wp2_with (first | ((with_reducible refine gate_store (t := 4) (p := 114) rfl ?_); refine store_event (t := 4) (p := 114) (v := ?vo_w69) (w1 := (wr.setCell ⟨go52, (Jj : Int).toNat * 4 + 2, none⟩ (.bool false))) ?hg ?ho ?hn ?hr ?_; (case ho => rfl); (case hg => rfl); (case hn => rfl); (case hr => first | (go_simp; done) | (go_simp; rfl)); intro w69 hw; have hg : wr.grownBy w69 (some go52) := (by rw [hw]; exact HP68.2); have hp_ : Kd.R k60 60 w69 w.heap.size (fun _ => True) (.slice (some ⟨go52, 0, none⟩) Jn.length Ec) Fm := (by rw [hw, Ny161.out]; exact HP68.1); clear HP68; have n0_ := aA (hp_); have n1_ := aA (Kd.V_afterv (v := (.slice (some ⟨go52, 0, none⟩) Jn.length Ec)) (v1 := (.slice (some ⟨go52, 0, none⟩) Jn.length Ec)) (ok := (fun k_ => k_ ≠ Jb ∧ k_ ≠ Jc)) (vlu (Kd.V_mono Jf.out (fun _ hk => ⟨⟨hk.2.1, hk.2.2⟩, hk.1⟩))) hg (.inl rfl)); have n2_ := aA (Kd.V_afterv (v := (.slice (some ⟨go52, 0, none⟩) Jn.length Ec)) (v1 := (.slice (some ⟨go52, 0, none⟩) Jn.length Ec)) (ok := (fun k_ => k_ ≠ Jb ∧ k_ ≠ Jc)) (vlu (Kd.V_mono Jg.out (fun _ hk => ⟨⟨hk.2.1, hk.2.2⟩, hk.1⟩))) hg (.inl rfl)); have n3_ := aA (blk_grown (g := Jb) (o := .cells #[.int .u64 Qn, .slice Q9 Qk.length Ya, .slice Yl Qm.length Ym] 26 (0, 0)) (bku Jd.out) hg (Kd.R_ne Jk.out Jd.out (by decide))); have n4_ := aA (blk_grown (g := Jc) (o := .cells #[.int .i64 ((rd_T42 l0 Ja).f0), .int .i64 ((rd_T42 l0 Ja).f1), .int .u64 ((rd_T42 l0 Ja).f2), .slice A141_3 ((rd_T42 l0 Ja).f3.f0).length c141_3, .slice A141_4 ((rd_T42 l0 Ja).f3.f1).length c141_4] 42 (0, 0)) (bku Je.out) hg (Kd.R_ne Jk.out Je.out (by decide))); have n5_ := aA ((by rw [hw]; exact below_set (HB.out) GB52.out : Below w.heap.size w w69)); clear Jk Jf Jg Jd Je HB; have Jk := n0_; have Jf := n1_; have Jg := n2_; have Jd := n3_; have Je := n4_; have HB := n5_; clear n0_ n1_ n2_ n3_ n4_ n5_ hg hw hp_))
                go_roundg k3
                case measure => have := HJ1.out; have := HK2.out; have := HK3.out; omega
                case rel => exact ⟨(Fm), (wrap64 (Jj + 1)), (by first | rfl | (simp; done) | (simp [*]; done) | (simp; exact wrapin_ (by assumption) (by assumption))), H', ⟨by have := HJ1.out; have := HK2.out; have := HK3.out; omega⟩, ⟨by (with_reducible repeat (first | apply Kd.R_alloc | apply Kd.R_drewN | apply Kd.R_drew)); exact Jk.out⟩, ⟨by (with_reducible repeat (first | apply Kd.V_alloc | apply Kd.V_drewN | apply Kd.V_drew)); exact Kd.V_mono Jf.out (fun _ hk => ⟨hk.2, ⟨hk.1.1, hk.1.2⟩⟩)⟩, ⟨by (with_reducible repeat (first | apply Kd.V_alloc | apply Kd.V_drewN | apply Kd.V_drew)); exact Kd.V_mono Jg.out (fun _ hk => ⟨hk.2, ⟨hk.1.1, hk.1.2⟩⟩)⟩, ⟨by (with_reducible repeat (first | refine blk_drewN ?_ _ | refine blk_drew ?_ | refine blk_alloc ?_ _)); exact Jd.out⟩, ⟨by (with_reducible repeat (first | refine blk_drewN ?_ _ | refine blk_drew ?_ | refine blk_alloc ?_ _)); exact Je.out⟩, ⟨by repeat (first | (with_reducible first | exact HB.out | apply below_alloc | apply pw_below_drewN | apply below_drew1 | refine below_set ?_ Qc.out | refine below_set ?_ J8.out) | exact HB.out)⟩⟩
               ·rw [if_neg c65] at H; have c65b0 : ((Go.bits .and .i64 ((rd_T42 l0 Ja).f1) 3) == 2) = false := beq_eq_false_iff_ne.mpr c65; have c65b1 : ((Go.bits .and .i64 ((rd_T42 l0 Ja).f1) 3) != 2) = true := bne_iff_ne.mpr c65; obtain ⟨Fn, hy162⟩ : ∃ y_ : List (S60), y_ = (Jn.set (Jj : Int).toNat (⟨(rd_T60 Jn Jj).f0, (rd_T60 Jn Jj).f1, (rd_T60 Jn Jj).f2, false⟩ : S60)) := ⟨_, rfl⟩; replace H : (treillagelaw14_EpochHolds.l1 k3 l0 Fn Ja (Go.bits .and .i64 ((rd_T42 l0 Ja).f1) 3) (wrap64 (Jj + 1)) Qn Qk Qm) = some r := by first | (rw [hy162]; with_reducible exact H) | (have H2_ := (Option.bind_some _ _).symm.trans H; rw [hy162]; with_reducible exact H2_) | (have H2_ := (Option.bind_some _ _).symm.trans H; with_reducible exact H2_) | with_reducible exact H | (rw [hy162]; exact H) | exact H
                have Ny162 := aA hy162; clear hy162; have H' := aA H; clear H; obtain ⟨Ao71, Ed, eo71⟩ := Kd.R_slice Jk.out; subst eo71; have p52 : 0 ≤ (Jj : Int) := of_decide_eq_true (by first | (with_reducible assumption) | assumption); have q52 : (Jj : Int) < ((Jn.length : Int) : Int) := of_decide_eq_true (by first | (with_reducible assumption) | assumption); obtain ⟨go52, Fk, eo52, Yb, gl52, cl52, HG52⟩ := Kd.R_form Jk.out (by omega); (first | cases eo52 | (injection eo52 with ea_ en_ ec_; (first | subst ea_ | (injection ea_ with ea_; subst ea_)); subst ec_; clear en_))
                have GB52 := aA Yb; have GG52 := aA HG52; clear Yb gl52 HG52; obtain ⟨ce52, hcl52, hM52, hcc52, hfr52⟩ := Kd.R_elem Jk.out z60 (Jj : Int) p52 q52; obtain rfl := k60_openM hM52; have hx52_0 : wr.cell? ⟨go52, (Jj : Int).toNat * 4, none⟩ = some (.bool ((rd_T60 Jn Jj).f0)) := hcc52 0 _ rfl; have hx52_1 : wr.cell? ⟨go52, (Jj : Int).toNat * 4 + 1, none⟩ = some (.bool ((rd_T60 Jn Jj).f1)) := hcc52 1 _ rfl; have hx52_2 : wr.cell? ⟨go52, (Jj : Int).toNat * 4 + 2, none⟩ = some (.bool ((rd_T60 Jn Jj).f2)) := hcc52 2 _ rfl; have hx52_3 : wr.cell? ⟨go52, (Jj : Int).toNat * 4 + 3, none⟩ = some (.bool ((rd_T60 Jn Jj).f3)) := hcc52 3 _ rfl; have hf52_0 : wr.frozen? ⟨go52, (Jj : Int).toNat * 4, none⟩ = false := hfr52 0; have hf52_1 : wr.frozen? ⟨go52, (Jj : Int).toNat * 4 + 1, none⟩ = false := hfr52 1; have hf52_2 : wr.frozen? ⟨go52, (Jj : Int).toNat * 4 + 2, none⟩ = false := hfr52 2; have hf52_3 : wr.frozen? ⟨go52, (Jj : Int).toNat * 4 + 3, none⟩ = false := hfr52 3; clear hcl52 hcc52 hfr52 hM52; replace p52 := eq_true p52; replace q52 := eq_true q52; have p70 := eq_true (of_decide_eq_true (by first | (with_reducible assumption) | assumption) : 0 ≤ ((Go.bits .and .i64 ((rd_T42 l0 Ja).f1) 3) : Int)); have q70 := eq_true (of_decide_eq_true (by first | (with_reducible assumption) | assumption) : ((Go.bits .and .i64 ((rd_T42 l0 Ja).f1) 3) : Int) < 4); have t70 : ((Go.bits .and .i64 ((rd_T42 l0 Ja).f1) 3) : Int).toNat = 3 := ixl4_ (by first | (with_reducible assumption) | assumption) (by first | (with_reducible assumption) | assumption) (by first | (with_reducible assumption) | assumption) (by first | (with_reducible assumption) | assumption) (by first | (with_reducible assumption) | assumption); have HX72 := aA (show Kd.R k60 60 wr w.heap.size (fun _ => True) (.slice (some ⟨go52, 0, none⟩) Jn.length Ed) Jn from (rlu Jk.out)); obtain ⟨ce72, hcl72, hM72, hcc72, hfr72⟩ := Kd.R_elem HX72.out z60 (Jj : Int) (of_decide_eq_true (by first | (with_reducible assumption) | assumption)) (by have h_ : (Jj : Int) < ((Jn.length : Int) : Int) := of_decide_eq_true (by first | (with_reducible assumption) | assumption); first | exact h_ | (have e_ := (Kd.R_reads' Jk.out).1; omega) | simpa using h_); obtain rfl := k60_openM hM72; have HP72 := Kd.R_seg HX72.out (Jj : Int) (of_decide_eq_true (by first | (with_reducible assumption) | assumption)) (by have h_ : (Jj : Int) < ((Jn.length : Int) : Int) := of_decide_eq_true (by first | (with_reducible assumption) | assumption); first | exact h_ | (have e_ := (Kd.R_reads' Jk.out).1; omega) | simpa using h_) (seg := [.bool false]) (j := 3) hcl72 hcc72 (show 4 ≤ 4 from by decide) (x' := (⟨(rd_T60 Jn Jj).f0, (rd_T60 Jn Jj).f1, (rd_T60 Jn Jj).f2, false⟩ : S60)) (k60_mkM _ _ _ (⟨(rd_T60 Jn Jj).f0, (rd_T60 Jn Jj).f1, (rd_T60 Jn Jj).f2, false⟩ : S60) ) (fun _ hk => hk); have hx72_3 := hcc72 3 _ rfl; (try simp only [show (k60).sz = 4 from rfl, Nat.mul_one, Nat.add_zero] at hx72_3); have hf72_3 := hfr72 3; (try simp only [show (k60).sz = 4 from rfl, Nat.mul_one, Nat.add_zero] at hf72_3); clear hcl72 hcc72 hfr72 hM72; go_wp2_with (first | ((with_reducible refine gate_store (t := 4) (p := 114) rfl ?_); refine store_event (t := 4) (p := 114) (v := ?vo_w73) (w1 := (wr.setCell ⟨go52, (Jj : Int).toNat * 4 + 3, none⟩ (.bool false))) ?hg ?ho ?hn ?hr ?_; (case ho => rfl); (case hg => rfl); (case hn => rfl); (case hr => first | (go_simp; done) | (go_simp; rfl)); intro w73 hw; have hg : wr.grownBy w73 (some go52) := (by rw [hw]; exact HP72.2); have hp_ : Kd.R k60 60 w73 w.heap.size (fun _ => True) (.slice (some ⟨go52, 0, none⟩) Jn.length Ed) Fn := (by rw [hw, Ny162.out]; exact HP72.1); clear HP72; have n0_ := aA (hp_); have n1_ := aA (Kd.V_afterv (v := (.slice (some ⟨go52, 0, none⟩) Jn.length Ed)) (v1 := (.slice (some ⟨go52, 0, none⟩) Jn.length Ed)) (ok := (fun k_ => k_ ≠ Jb ∧ k_ ≠ Jc)) (vlu (Kd.V_mono Jf.out (fun _ hk => ⟨⟨hk.2.1, hk.2.2⟩, hk.1⟩))) hg (.inl rfl)); have n2_ := aA (Kd.V_afterv (v := (.slice (some ⟨go52, 0, none⟩) Jn.length Ed)) (v1 := (.slice (some ⟨go52, 0, none⟩) Jn.length Ed)) (ok := (fun k_ => k_ ≠ Jb ∧ k_ ≠ Jc)) (vlu (Kd.V_mono Jg.out (fun _ hk => ⟨⟨hk.2.1, hk.2.2⟩, hk.1⟩))) hg (.inl rfl)); have n3_ := aA (blk_grown (g := Jb) (o := .cells #[.int .u64 Qn, .slice Q9 Qk.length Ya, .slice Yl Qm.length Ym] 26 (0, 0)) (bku Jd.out) hg (Kd.R_ne Jk.out Jd.out (by decide))); have n4_ := aA (blk_grown (g := Jc) (o := .cells #[.int .i64 ((rd_T42 l0 Ja).f0), .int .i64 ((rd_T42 l0 Ja).f1), .int .u64 ((rd_T42 l0 Ja).f2), .slice A141_3 ((rd_T42 l0 Ja).f3.f0).length c141_3, .slice A141_4 ((rd_T42 l0 Ja).f3.f1).length c141_4] 42 (0, 0)) (bku Je.out) hg (Kd.R_ne Jk.out Je.out (by decide))); have n5_ := aA ((by rw [hw]; exact below_set (HB.out) GB52.out : Below w.heap.size w w73)); clear Jk Jf Jg Jd Je HB; have Jk := n0_; have Jf := n1_; have Jg := n2_; have Jd := n3_; have Je := n4_; have HB := n5_; clear n0_ n1_ n2_ n3_ n4_ n5_ hg hw hp_))
                go_roundg k3
                case measure => have := HJ1.out; have := HK2.out; have := HK3.out; omega
                case rel => exact ⟨(Fn), (wrap64 (Jj + 1)), (by first | rfl | (simp; done) | (simp [*]; done) | (simp; exact wrapin_ (by assumption) (by assumption))), H', ⟨by have := HJ1.out; have := HK2.out; have := HK3.out; omega⟩, ⟨by (with_reducible repeat (first | apply Kd.R_alloc | apply Kd.R_drewN | apply Kd.R_drew)); exact Jk.out⟩, ⟨by (with_reducible repeat (first | apply Kd.V_alloc | apply Kd.V_drewN | apply Kd.V_drew)); exact Kd.V_mono Jf.out (fun _ hk => ⟨hk.2, ⟨hk.1.1, hk.1.2⟩⟩)⟩, ⟨by (with_reducible repeat (first | apply Kd.V_alloc | apply Kd.V_drewN | apply Kd.V_drew)); exact Kd.V_mono Jg.out (fun _ hk => ⟨hk.2, ⟨hk.1.1, hk.1.2⟩⟩)⟩, ⟨by (with_reducible repeat (first | refine blk_drewN ?_ _ | refine blk_drew ?_ | refine blk_alloc ?_ _)); exact Jd.out⟩, ⟨by (with_reducible repeat (first | refine blk_drewN ?_ _ | refine blk_drew ?_ | refine blk_alloc ?_ _)); exact Je.out⟩, ⟨by repeat (first | (with_reducible first | exact HB.out | apply below_alloc | apply pw_below_drewN | apply below_drew1 | refine below_set ?_ Qc.out | refine below_set ?_ J8.out) | exact HB.out)⟩⟩
            ·rw [if_neg c50] at H; have c50b0 : decide (Jj < (Jn.length : Int)) = false := decide_eq_false c50; clear c50; have H' := aA H; clear H; obtain ⟨Ao74, co74, eo74⟩ := Kd.R_slice Jk.out; subst eo74; go_wp2; go_roundg k3
             case measure => have := HJ1.out; have := HK2.out; have := HK3.out; omega
             case rel => exact ⟨(Jn), (wrap64 (Ja + 1)), (Qn), (Qk), (Qm), (.slice Q9 Qk.length Ya), (.slice Yl Qm.length Ym), (by first | rfl | (simp; done) | (simp [*]; done) | (simp; exact wrapin_ (by assumption) (by assumption))), H', ⟨by have := HJ1.out; have := HK2.out; have := HK3.out; omega⟩, ⟨by (with_reducible repeat (first | apply Kd.R_alloc | apply Kd.R_drewN | apply Kd.R_drew)); exact Jk.out⟩, ⟨by (with_reducible repeat (first | apply Kd.V_alloc | apply Kd.V_drewN | apply Kd.V_drew)); exact Kd.V_mono Jf.out (fun _ hk => ⟨hk.1, hk.2.1⟩)⟩, ⟨by (with_reducible repeat (first | apply Kd.V_alloc | apply Kd.V_drewN | apply Kd.V_drew)); exact Kd.V_mono Jg.out (fun _ hk => ⟨hk.1, hk.2.1⟩)⟩, ⟨by (with_reducible repeat (first | refine blk_drewN ?_ _ | refine blk_drew ?_ | refine blk_alloc ?_ _)); exact Jd.out⟩, ⟨by repeat (first | (with_reducible first | exact HB.out | apply below_alloc | apply pw_below_drewN | apply below_drew1 | refine below_set ?_ Qc.out | refine below_set ?_ J8.out) | exact HB.out)⟩⟩
         ·rw [if_neg c36] at H; have c36b0 : (((rd_T42 l0 Ja).f0) == 1) = false := beq_eq_false_iff_ne.mpr c36; have c36b1 : (((rd_T42 l0 Ja).f0) != 1) = true := bne_iff_ne.mpr c36; by_cases c75 : ((rd_T42 l0 Ja).f0) = 2
          ·rw [if_pos c75] at H; have c75b0 : (((rd_T42 l0 Ja).f0) == 2) = true := beq_iff_eq.mpr c75; have c75b1 : (((rd_T42 l0 Ja).f0) != 2) = false := bne_eq_false_iff_eq.mpr c75; clear c75; have H' := aA H; clear H; have p141 : 0 ≤ (Ja : Int) := of_decide_eq_true (by first | (with_reducible assumption) | assumption); have q141 : Ja < (l0.length : Int) := of_decide_eq_true (by first | (with_reducible assumption) | assumption); obtain ⟨ad141, A141_3, c141_3, A141_4, c141_4, e141, hx141_0, hx141_1, hx141_2, hx141_3, hx141_4, hl141_3, hi141_3, hl141_4, hi141_4⟩ := at_T42 HR0.out Ja p141 q141; cases e141
           replace hx141_0 := (HB.out.cell (World.block_lt_of_cell? w _ hx141_0)).trans hx141_0; replace hx141_1 := (HB.out.cell (World.block_lt_of_cell? w _ hx141_1)).trans hx141_1; replace hx141_2 := (HB.out.cell (World.block_lt_of_cell? w _ hx141_2)).trans hx141_2; replace hx141_3 := (HB.out.cell (World.block_lt_of_cell? w _ hx141_3)).trans hx141_3; replace hx141_4 := (HB.out.cell (World.block_lt_of_cell? w _ hx141_4)).trans hx141_4; have HR141_3 := aA hi141_3; have HC141_3 := aA hl141_3; clear hi141_3 hl141_3; have HR141_4 := aA hi141_4; have HC141_4 := aA hl141_4; clear hi141_4 hl141_4; replace p141 := eq_true p141; replace q141 := eq_true q141; go_wp2_with (first | ((with_reducible refine gate_dst (N := 6) rfl ?_); refine box_event ?hg (N := 6) ?hd (cs := #[.int .i64 0, .int .i64 0, .int .u64 0, .slice none 0 0, .slice none 0 0]) (t := 42) ?hr ?_; (case hd => rfl); (case hg => rfl); (case hr => first | (go_simp; done) | (go_simp; rfl)); intro Jc hg w76 hbox hb; have n0_ := aA (Kd.R_below (rlu Jk.out) hb); have n1_ := aA (Kd.V_below (Kd.V_elderB (vlu Jf.out) Jc (Nat.le_of_eq hg.symm)) hb); have n2_ := aA (Kd.V_below (Kd.V_elderB (vlu Jg.out) Jc (Nat.le_of_eq hg.symm)) hb); have n3_ := aA (blk_below (g := Jb) (o := .cells #[.int .u64 Ji, u138001, u138002] 26 (0, 0)) (bku Jd.out) hb); have n4_ := aA (below_step (bls HB.out) hb); have n5_ := aA (hbox); have n6_ := aA ((by rw [hg]; exact (below_size (bls HB.out)) : w.heap.size ≤ Jc)); have n7_ := aA ((by rw [hg]; exact (below_size (bls HB.out)) : w.heap.size ≤ Jc)); have n8_ := aA ((by rw [hg]; exact Nat.ne_of_lt (blk_lt (g := Jb) (o := .cells #[.int .u64 Ji, u138001, u138002] 26 (0, 0)) (bku Jd.out)) : Jb ≠ Jc)); have n9_ := aA ((by rw [hg]; exact Nat.ne_of_gt (blk_lt (g := Jb) (o := .cells #[.int .u64 Ji, u138001, u138002] 26 (0, 0)) (bku Jd.out)) : Jc ≠ Jb)); clear Jk Jf Jg Jd HB; have Jk := n0_; have Jf := n1_; have Jg := n2_; have Jd := n3_; have HB := n4_; have Je := n5_; have Fd := n6_; have J8 := n7_; have Jo := n8_; have Jy := n9_; clear n0_ n1_ n2_ n3_ n4_ n5_ n6_ n7_ n8_ n9_ hb hbox hg; have hnb77 := Jy.out; have hnc77 := Jo.out; have Ej : w76.cell? ⟨Jc, 0, none⟩ = some (.int .i64 0) := (blk_cell Je.out 0).trans rfl; have Ek : w76.cell? ⟨Jc, 1, none⟩ = some (.int .i64 0) := (blk_cell Je.out 1).trans rfl; have El : w76.cell? ⟨Jc, 2, none⟩ = some (.int .u64 0) := (blk_cell Je.out 2).trans rfl; have Em : w76.cell? ⟨Jc, 3, none⟩ = some (.slice none 0 0) := (blk_cell Je.out 3).trans rfl; have En : w76.cell? ⟨Jc, 4, none⟩ = some (.slice none 0 0) := (blk_cell Je.out 4).trans rfl; have Eo := blk_frozen Je.out 0; have Ep := blk_frozen Je.out 1; have Eq := blk_frozen Je.out 2; have Er := blk_frozen Je.out 3; have Es := blk_frozen Je.out 4; have Et : w76.cell? ⟨Jb, 0, none⟩ = some (.int .u64 Ji) := (blk_cell Jd.out 0).trans rfl; have Eu : w76.cell? ⟨Jb, 1, none⟩ = some (u138001) := (blk_cell Jd.out 1).trans rfl; have Ev : w76.cell? ⟨Jb, 2, none⟩ = some (u138002) := (blk_cell Jd.out 2).trans rfl; have Ew := blk_frozen Jd.out 0; have Ex := blk_frozen Jd.out 1; have Ey := blk_frozen Jd.out 2; obtain ⟨Qo, Qp, eo80⟩ := Kd.V_slice Jf.out; subst eo80) | ((with_reducible refine gate_dst (N := 9) rfl ?_); refine box_event ?hg (N := 9) ?hd (cs := #[.bool false, .bool false, .bool false, .bool false]) (t := 60) ?hr ?_; (case hd => rfl); (case hg => rfl); (case hr => first | (go_simp; done) | (go_simp; rfl)); intro Jm hg w81 hbox hb; have n0_ := aA (Kd.R_below (Kd.R_elderB (rlu ((Kd.R_mono (Kd.R_far (p := ⟨Jc, 4, none⟩) (Kd.R_far (p := ⟨Jc, 3, none⟩) (Kd.R_far (p := ⟨Jc, 2, none⟩) (Kd.R_far (p := ⟨Jc, 1, none⟩) (Kd.R_far (p := ⟨Jc, 0, none⟩) (Kd.R_types Jk.out Je.out (by decide)) (fun _ hk => hk.2) (.int .i64 ((rd_T42 l0 Ja).f0))) (fun _ hk => hk.2) (.int .i64 ((rd_T42 l0 Ja).f1))) (fun _ hk => hk.2) (.int .u64 ((rd_T42 l0 Ja).f2))) (fun _ hk => hk.2) (.slice A141_3 ((rd_T42 l0 Ja).f3.f0).length c141_3)) (fun _ hk => hk.2) (.slice A141_4 ((rd_T42 l0 Ja).f3.f1).length c141_4)) (fun _ h_ => h_.1)))) Jm (Nat.le_of_eq hg.symm)) hb); have n1_ := aA (Kd.V_below (Kd.V_elderB (vlu ((Kd.V_mono (Kd.V_far (p := ⟨Jc, 4, none⟩) (Kd.V_far (p := ⟨Jc, 3, none⟩) (Kd.V_far (p := ⟨Jc, 2, none⟩) (Kd.V_far (p := ⟨Jc, 1, none⟩) (Kd.V_far (p := ⟨Jc, 0, none⟩) (Kd.V_mono Jf.out (fun k_ hk => (⟨hk, hk.2⟩ : _ ∧ k_ ≠ Jc))) (fun _ hk => hk.2) (.int .i64 ((rd_T42 l0 Ja).f0))) (fun _ hk => hk.2) (.int .i64 ((rd_T42 l0 Ja).f1))) (fun _ hk => hk.2) (.int .u64 ((rd_T42 l0 Ja).f2))) (fun _ hk => hk.2) (.slice A141_3 ((rd_T42 l0 Ja).f3.f0).length c141_3)) (fun _ hk => hk.2) (.slice A141_4 ((rd_T42 l0 Ja).f3.f1).length c141_4)) (fun _ h_ => h_.1)))) Jm (Nat.le_of_eq hg.symm)) hb); have n2_ := aA (Kd.V_below (Kd.V_elderB (vlu ((Kd.V_mono (Kd.V_far (p := ⟨Jc, 4, none⟩) (Kd.V_far (p := ⟨Jc, 3, none⟩) (Kd.V_far (p := ⟨Jc, 2, none⟩) (Kd.V_far (p := ⟨Jc, 1, none⟩) (Kd.V_far (p := ⟨Jc, 0, none⟩) (Kd.V_mono Jg.out (fun k_ hk => (⟨hk, hk.2⟩ : _ ∧ k_ ≠ Jc))) (fun _ hk => hk.2) (.int .i64 ((rd_T42 l0 Ja).f0))) (fun _ hk => hk.2) (.int .i64 ((rd_T42 l0 Ja).f1))) (fun _ hk => hk.2) (.int .u64 ((rd_T42 l0 Ja).f2))) (fun _ hk => hk.2) (.slice A141_3 ((rd_T42 l0 Ja).f3.f0).length c141_3)) (fun _ hk => hk.2) (.slice A141_4 ((rd_T42 l0 Ja).f3.f1).length c141_4)) (fun _ h_ => h_.1)))) Jm (Nat.le_of_eq hg.symm)) hb); have n3_ := aA (blk_below (g := Jb) (o := .cells #[.int .u64 Ji, .slice Qo Jh.length Qp, u138002] 26 (0, 0)) (by (with_reducible repeat (first | refine blk_drewN ?_ _ | refine blk_drew ?_ | refine blk_alloc ?_ _)); refine blk_far ?_ Jo.out _; (with_reducible repeat (first | refine blk_drewN ?_ _ | refine blk_drew ?_ | refine blk_alloc ?_ _)); refine blk_far ?_ Jo.out _; (with_reducible repeat (first | refine blk_drewN ?_ _ | refine blk_drew ?_ | refine blk_alloc ?_ _)); refine blk_far ?_ Jo.out _; (with_reducible repeat (first | refine blk_drewN ?_ _ | refine blk_drew ?_ | refine blk_alloc ?_ _)); refine blk_far ?_ Jo.out _; (with_reducible repeat (first | refine blk_drewN ?_ _ | refine blk_drew ?_ | refine blk_alloc ?_ _)); refine blk_far ?_ Jo.out _; (with_reducible repeat (first | refine blk_drewN ?_ _ | refine blk_drew ?_ | refine blk_alloc ?_ _)); exact Jd.out) hb); have n4_ := aA (blk_below (g := Jc) (o := .cells #[.int .i64 ((rd_T42 l0 Ja).f0), .int .i64 ((rd_T42 l0 Ja).f1), .int .u64 ((rd_T42 l0 Ja).f2), .slice A141_3 ((rd_T42 l0 Ja).f3.f0).length c141_3, .slice A141_4 ((rd_T42 l0 Ja).f3.f1).length c141_4] 42 (0, 0)) (by (with_reducible repeat (first | refine blk_drewN ?_ _ | refine blk_drew ?_ | refine blk_alloc ?_ _)); refine blk_put (cs := #[.int .i64 ((rd_T42 l0 Ja).f0), .int .i64 ((rd_T42 l0 Ja).f1), .int .u64 ((rd_T42 l0 Ja).f2), .slice A141_3 ((rd_T42 l0 Ja).f3.f0).length c141_3, .slice none 0 0]) ?_ 4 _ rfl; (with_reducible repeat (first | refine blk_drewN ?_ _ | refine blk_drew ?_ | refine blk_alloc ?_ _)); refine blk_put (cs := #[.int .i64 ((rd_T42 l0 Ja).f0), .int .i64 ((rd_T42 l0 Ja).f1), .int .u64 ((rd_T42 l0 Ja).f2), .slice none 0 0, .slice none 0 0]) ?_ 3 _ rfl; (with_reducible repeat (first | refine blk_drewN ?_ _ | refine blk_drew ?_ | refine blk_alloc ?_ _)); refine blk_put (cs := #[.int .i64 ((rd_T42 l0 Ja).f0), .int .i64 ((rd_T42 l0 Ja).f1), .int .u64 0, .slice none 0 0, .slice none 0 0]) ?_ 2 _ rfl; (with_reducible repeat (first | refine blk_drewN ?_ _ | refine blk_drew ?_ | refine blk_alloc ?_ _)); refine blk_put (cs := #[.int .i64 ((rd_T42 l0 Ja).f0), .int .i64 0, .int .u64 0, .slice none 0 0, .slice none 0 0]) ?_ 1 _ rfl; (with_reducible repeat (first | refine blk_drewN ?_ _ | refine blk_drew ?_ | refine blk_alloc ?_ _)); refine blk_put (cs := #[.int .i64 0, .int .i64 0, .int .u64 0, .slice none 0 0, .slice none 0 0]) ?_ 0 _ rfl; (with_reducible repeat (first | refine blk_drewN ?_ _ | refine blk_drew ?_ | refine blk_alloc ?_ _)); exact Je.out) hb); have n5_ := aA (below_step (bls HB.out) hb); have n6_ := aA (hbox); have n7_ := aA ((by rw [hg]; exact (below_size (bls HB.out)) : w.heap.size ≤ Jm)); have n8_ := aA ((by rw [hg]; exact (below_size (bls HB.out)) : w.heap.size ≤ Jm)); have n9_ := aA ((by rw [hg]; exact Nat.ne_of_lt (blk_lt (g := Jb) (o := .cells #[.int .u64 Ji, .slice Qo Jh.length Qp, u138002] 26 (0, 0)) (by (with_reducible repeat (first | refine blk_drewN ?_ _ | refine blk_drew ?_ | refine blk_alloc ?_ _)); refine blk_far ?_ Jo.out _; (with_reducible repeat (first | refine blk_drewN ?_ _ | refine blk_drew ?_ | refine blk_alloc ?_ _)); refine blk_far ?_ Jo.out _; (with_reducible repeat (first | refine blk_drewN ?_ _ | refine blk_drew ?_ | refine blk_alloc ?_ _)); refine blk_far ?_ Jo.out _; (with_reducible repeat (first | refine blk_drewN ?_ _ | refine blk_drew ?_ | refine blk_alloc ?_ _)); refine blk_far ?_ Jo.out _; (with_reducible repeat (first | refine blk_drewN ?_ _ | refine blk_drew ?_ | refine blk_alloc ?_ _)); refine blk_far ?_ Jo.out _; (with_reducible repeat (first | refine blk_drewN ?_ _ | refine blk_drew ?_ | refine blk_alloc ?_ _)); exact Jd.out)) : Jb ≠ Jm)); have n10_ := aA ((by rw [hg]; exact Nat.ne_of_gt (blk_lt (g := Jb) (o := .cells #[.int .u64 Ji, .slice Qo Jh.length Qp, u138002] 26 (0, 0)) (by (with_reducible repeat (first | refine blk_drewN ?_ _ | refine blk_drew ?_ | refine blk_alloc ?_ _)); refine blk_far ?_ Jo.out _; (with_reducible repeat (first | refine blk_drewN ?_ _ | refine blk_drew ?_ | refine blk_alloc ?_ _)); refine blk_far ?_ Jo.out _; (with_reducible repeat (first | refine blk_drewN ?_ _ | refine blk_drew ?_ | refine blk_alloc ?_ _)); refine blk_far ?_ Jo.out _; (with_reducible repeat (first | refine blk_drewN ?_ _ | refine blk_drew ?_ | refine blk_alloc ?_ _)); refine blk_far ?_ Jo.out _; (with_reducible repeat (first | refine blk_drewN ?_ _ | refine blk_drew ?_ | refine blk_alloc ?_ _)); refine blk_far ?_ Jo.out _; (with_reducible repeat (first | refine blk_drewN ?_ _ | refine blk_drew ?_ | refine blk_alloc ?_ _)); exact Jd.out)) : Jm ≠ Jb)); have n11_ := aA ((by rw [hg]; exact Nat.ne_of_lt (blk_lt (g := Jc) (o := .cells #[.int .i64 ((rd_T42 l0 Ja).f0), .int .i64 ((rd_T42 l0 Ja).f1), .int .u64 ((rd_T42 l0 Ja).f2), .slice A141_3 ((rd_T42 l0 Ja).f3.f0).length c141_3, .slice A141_4 ((rd_T42 l0 Ja).f3.f1).length c141_4] 42 (0, 0)) (by (with_reducible repeat (first | refine blk_drewN ?_ _ | refine blk_drew ?_ | refine blk_alloc ?_ _)); refine blk_put (cs := #[.int .i64 ((rd_T42 l0 Ja).f0), .int .i64 ((rd_T42 l0 Ja).f1), .int .u64 ((rd_T42 l0 Ja).f2), .slice A141_3 ((rd_T42 l0 Ja).f3.f0).length c141_3, .slice none 0 0]) ?_ 4 _ rfl; (with_reducible repeat (first | refine blk_drewN ?_ _ | refine blk_drew ?_ | refine blk_alloc ?_ _)); refine blk_put (cs := #[.int .i64 ((rd_T42 l0 Ja).f0), .int .i64 ((rd_T42 l0 Ja).f1), .int .u64 ((rd_T42 l0 Ja).f2), .slice none 0 0, .slice none 0 0]) ?_ 3 _ rfl; (with_reducible repeat (first | refine blk_drewN ?_ _ | refine blk_drew ?_ | refine blk_alloc ?_ _)); refine blk_put (cs := #[.int .i64 ((rd_T42 l0 Ja).f0), .int .i64 ((rd_T42 l0 Ja).f1), .int .u64 0, .slice none 0 0, .slice none 0 0]) ?_ 2 _ rfl; (with_reducible repeat (first | refine blk_drewN ?_ _ | refine blk_drew ?_ | refine blk_alloc ?_ _)); refine blk_put (cs := #[.int .i64 ((rd_T42 l0 Ja).f0), .int .i64 0, .int .u64 0, .slice none 0 0, .slice none 0 0]) ?_ 1 _ rfl; (with_reducible repeat (first | refine blk_drewN ?_ _ | refine blk_drew ?_ | refine blk_alloc ?_ _)); refine blk_put (cs := #[.int .i64 0, .int .i64 0, .int .u64 0, .slice none 0 0, .slice none 0 0]) ?_ 0 _ rfl; (with_reducible repeat (first | refine blk_drewN ?_ _ | refine blk_drew ?_ | refine blk_alloc ?_ _)); exact Je.out)) : Jc ≠ Jm)); have n12_ := aA ((by rw [hg]; exact Nat.ne_of_gt (blk_lt (g := Jc) (o := .cells #[.int .i64 ((rd_T42 l0 Ja).f0), .int .i64 ((rd_T42 l0 Ja).f1), .int .u64 ((rd_T42 l0 Ja).f2), .slice A141_3 ((rd_T42 l0 Ja).f3.f0).length c141_3, .slice A141_4 ((rd_T42 l0 Ja).f3.f1).length c141_4] 42 (0, 0)) (by (with_reducible repeat (first | refine blk_drewN ?_ _ | refine blk_drew ?_ | refine blk_alloc ?_ _)); refine blk_put (cs := #[.int .i64 ((rd_T42 l0 Ja).f0), .int .i64 ((rd_T42 l0 Ja).f1), .int .u64 ((rd_T42 l0 Ja).f2), .slice A141_3 ((rd_T42 l0 Ja).f3.f0).length c141_3, .slice none 0 0]) ?_ 4 _ rfl; (with_reducible repeat (first | refine blk_drewN ?_ _ | refine blk_drew ?_ | refine blk_alloc ?_ _)); refine blk_put (cs := #[.int .i64 ((rd_T42 l0 Ja).f0), .int .i64 ((rd_T42 l0 Ja).f1), .int .u64 ((rd_T42 l0 Ja).f2), .slice none 0 0, .slice none 0 0]) ?_ 3 _ rfl; (with_reducible repeat (first | refine blk_drewN ?_ _ | refine blk_drew ?_ | refine blk_alloc ?_ _)); refine blk_put (cs := #[.int .i64 ((rd_T42 l0 Ja).f0), .int .i64 ((rd_T42 l0 Ja).f1), .int .u64 0, .slice none 0 0, .slice none 0 0]) ?_ 2 _ rfl; (with_reducible repeat (first | refine blk_drewN ?_ _ | refine blk_drew ?_ | refine blk_alloc ?_ _)); refine blk_put (cs := #[.int .i64 ((rd_T42 l0 Ja).f0), .int .i64 0, .int .u64 0, .slice none 0 0, .slice none 0 0]) ?_ 1 _ rfl; (with_reducible repeat (first | refine blk_drewN ?_ _ | refine blk_drew ?_ | refine blk_alloc ?_ _)); refine blk_put (cs := #[.int .i64 0, .int .i64 0, .int .u64 0, .slice none 0 0, .slice none 0 0]) ?_ 0 _ rfl; (with_reducible repeat (first | refine blk_drewN ?_ _ | refine blk_drew ?_ | refine blk_alloc ?_ _)); exact Je.out)) : Jm ≠ Jc)); clear Jk Jf Jg Jd Je HB; have Jk := n0_; have Jf := n1_; have Jg := n2_; have Jd := n3_; have Je := n4_; have HB := n5_; have Jp := n6_; have GW163 := n7_; have Y6 := n8_; have J1 := n9_; have J3 := n10_; have J2 := n11_; have Qu := n12_; clear n0_ n1_ n2_ n3_ n4_ n5_ n6_ n7_ n8_ n9_ n10_ n11_ n12_ hb hbox hg; have hnb82 := J3.out; have hnc82 := J1.out; have hnb83 := Qu.out; have hnc83 := J2.out; have Ez : w81.cell? ⟨Jm, 0, none⟩ = some (.bool false) := (blk_cell Jp.out 0).trans rfl; have E0 : w81.cell? ⟨Jm, 1, none⟩ = some (.bool false) := (blk_cell Jp.out 1).trans rfl; have E1 : w81.cell? ⟨Jm, 2, none⟩ = some (.bool false) := (blk_cell Jp.out 2).trans rfl; have E2 : w81.cell? ⟨Jm, 3, none⟩ = some (.bool false) := (blk_cell Jp.out 3).trans rfl; have E3 := blk_frozen Jp.out 0; have E4 := blk_frozen Jp.out 1; have E5 := blk_frozen Jp.out 2; have E6 := blk_frozen Jp.out 3))
           go_loopg [10] k2 (fun kq v10 w' => ∃ (Jq : Int) (Jr : Bool) (Js : Bool) (Jt : Bool) (Ju : Bool), v10 = .int .i64 Jq ∧ Aside0 (treillagelaw14_EpochHolds.l2 kq l0 Jw Ja Jq Ji Jh Jl Jr Js Jt Ju = some r) ∧ Aside0 (kq ≤ k2) ∧ Aside0 (Kd.R k60 60 w' w.heap.size (fun k_ => k_ ≠ Jm) u4 Jw) ∧ Aside0 (Kd.V (Kd.int .u64) 22 w' w.heap.size (fun k_ => some k_ ≠ (u4 : Value).ownBlock ∧ k_ ≠ Jb ∧ k_ ≠ Jc ∧ k_ ≠ Jm) (.slice Qo Jh.length Qp) Jh) ∧ Aside0 (Kd.V k64 64 w' w.heap.size (fun k_ => some k_ ≠ (u4 : Value).ownBlock ∧ k_ ≠ Jb ∧ k_ ≠ Jc ∧ k_ ≠ Jm) u138002 Jl) ∧ Aside0 (w'.heap[Jb]? = some (.cells #[.int .u64 Ji, (.slice Qo Jh.length Qp), u138002] 26 (0, 0))) ∧ Aside0 (w'.heap[Jc]? = some (.cells #[.int .i64 ((rd_T42 l0 Ja).f0), .int .i64 ((rd_T42 l0 Ja).f1), .int .u64 ((rd_T42 l0 Ja).f2), (.slice A141_3 ((rd_T42 l0 Ja).f3.f0).length c141_3), (.slice A141_4 ((rd_T42 l0 Ja).f3.f1).length c141_4)] 42 (0, 0))) ∧ Aside0 (w'.heap[Jm]? = some (.cells #[.bool Jr, .bool Js, .bool Jt, .bool Ju] 60 (0, 0))) ∧ Aside0 (Below w.heap.size w w'))
           case atStart => exact ⟨(0), (false), (false), (false), (false), (by first | rfl | (simp; done) | (simp [*]; done) | (simp; exact wrapin_ (by assumption) (by assumption))), H', ⟨Nat.le_refl _⟩, ⟨by (with_reducible repeat (first | apply Kd.R_alloc | apply Kd.R_drewN | apply Kd.R_drew)); exact Kd.R_mono (Kd.R_far (p := ⟨Jm, 3, none⟩) (Kd.R_far (p := ⟨Jm, 2, none⟩) (Kd.R_far (p := ⟨Jm, 1, none⟩) (Kd.R_far (p := ⟨Jm, 0, none⟩) (Kd.R_mono Jk.out (fun k_ hk => (⟨hk, hk.2⟩ : _ ∧ k_ ≠ Jm))) (fun _ hk => hk.2) (.bool false)) (fun _ hk => hk.2) (.bool false)) (fun _ hk => hk.2) (.bool false)) (fun _ hk => hk.2) (.bool false)) (fun _ hk => hk.1.2)⟩, ⟨by (with_reducible repeat (first | apply Kd.V_alloc | apply Kd.V_drewN | apply Kd.V_drew)); exact Kd.V_mono (Kd.V_far (p := ⟨Jm, 3, none⟩) (Kd.V_far (p := ⟨Jm, 2, none⟩) (Kd.V_far (p := ⟨Jm, 1, none⟩) (Kd.V_far (p := ⟨Jm, 0, none⟩) (Kd.V_mono Jf.out (fun k_ hk => (⟨hk, hk.2⟩ : _ ∧ k_ ≠ Jm))) (fun _ hk => hk.2) (.bool false)) (fun _ hk => hk.2) (.bool false)) (fun _ hk => hk.2) (.bool false)) (fun _ hk => hk.2) (.bool false)) (fun _ hk => ⟨hk.1.1.1.1, ⟨hk.1.1.1.2, ⟨hk.1.1.2, hk.1.2⟩⟩⟩)⟩, ⟨by (with_reducible repeat (first | apply Kd.V_alloc | apply Kd.V_drewN | apply Kd.V_drew)); exact Kd.V_mono (Kd.V_far (p := ⟨Jm, 3, none⟩) (Kd.V_far (p := ⟨Jm, 2, none⟩) (Kd.V_far (p := ⟨Jm, 1, none⟩) (Kd.V_far (p := ⟨Jm, 0, none⟩) (Kd.V_mono Jg.out (fun k_ hk => (⟨hk, hk.2⟩ : _ ∧ k_ ≠ Jm))) (fun _ hk => hk.2) (.bool false)) (fun _ hk => hk.2) (.bool false)) (fun _ hk => hk.2) (.bool false)) (fun _ hk => hk.2) (.bool false)) (fun _ hk => ⟨hk.1.1.1.1, ⟨hk.1.1.1.2, ⟨hk.1.1.2, hk.1.2⟩⟩⟩)⟩, ⟨by (with_reducible repeat (first | refine blk_drewN ?_ _ | refine blk_drew ?_ | refine blk_alloc ?_ _)); refine blk_far ?_ J1.out _; (with_reducible repeat (first | refine blk_drewN ?_ _ | refine blk_drew ?_ | refine blk_alloc ?_ _)); refine blk_far ?_ J1.out _; (with_reducible repeat (first | refine blk_drewN ?_ _ | refine blk_drew ?_ | refine blk_alloc ?_ _)); refine blk_far ?_ J1.out _; (with_reducible repeat (first | refine blk_drewN ?_ _ | refine blk_drew ?_ | refine blk_alloc ?_ _)); refine blk_far ?_ J1.out _; (with_reducible repeat (first | refine blk_drewN ?_ _ | refine blk_drew ?_ | refine blk_alloc ?_ _)); exact Jd.out⟩, ⟨by (with_reducible repeat (first | refine blk_drewN ?_ _ | refine blk_drew ?_ | refine blk_alloc ?_ _)); refine blk_far ?_ J2.out _; (with_reducible repeat (first | refine blk_drewN ?_ _ | refine blk_drew ?_ | refine blk_alloc ?_ _)); refine blk_far ?_ J2.out _; (with_reducible repeat (first | refine blk_drewN ?_ _ | refine blk_drew ?_ | refine blk_alloc ?_ _)); refine blk_far ?_ J2.out _; (with_reducible repeat (first | refine blk_drewN ?_ _ | refine blk_drew ?_ | refine blk_alloc ?_ _)); refine blk_far ?_ J2.out _; (with_reducible repeat (first | refine blk_drewN ?_ _ | refine blk_drew ?_ | refine blk_alloc ?_ _)); exact Je.out⟩, ⟨by (with_reducible repeat (first | refine blk_drewN ?_ _ | refine blk_drew ?_ | refine blk_alloc ?_ _)); refine blk_put (cs := #[.bool false, .bool false, .bool false, .bool false]) ?_ 3 _ rfl; (with_reducible repeat (first | refine blk_drewN ?_ _ | refine blk_drew ?_ | refine blk_alloc ?_ _)); refine blk_put (cs := #[.bool false, .bool false, .bool false, .bool false]) ?_ 2 _ rfl; (with_reducible repeat (first | refine blk_drewN ?_ _ | refine blk_drew ?_ | refine blk_alloc ?_ _)); refine blk_put (cs := #[.bool false, .bool false, .bool false, .bool false]) ?_ 1 _ rfl; (with_reducible repeat (first | refine blk_drewN ?_ _ | refine blk_drew ?_ | refine blk_alloc ?_ _)); refine blk_put (cs := #[.bool false, .bool false, .bool false, .bool false]) ?_ 0 _ rfl; (with_reducible repeat (first | refine blk_drewN ?_ _ | refine blk_drew ?_ | refine blk_alloc ?_ _)); exact Jp.out⟩, ⟨by repeat (first | (with_reducible first | exact HB.out | apply below_alloc | apply pw_below_drewN | apply below_drew1 | refine below_set ?_ Qc.out | refine below_set ?_ J8.out | refine below_set ?_ Y6.out) | exact HB.out)⟩⟩
           case round =>
            clear H'; try clear c1
            try clear p1
            try clear q1
            try clear hx1
            try clear c2
            try clear p2
            try clear c3
            try clear c4
            try clear c5
            try clear p5
            try clear q5
            try clear hx5
            try clear hf5
            try clear c6
            try clear p6
            try clear q6
            try clear hx6
            try clear hf6
            try clear c7
            try clear p7
            try clear q7
            try clear hx7
            try clear hf7
            try clear c8
            try clear c9
            try clear c11
            try clear c12
            try clear c14
            try clear p14
            try clear q14
            try clear hx14
            try clear c16
            try clear c18
            try clear c18b0
            try clear c19
            try clear c19b0
            try clear c20
            try clear c20b0
            try clear c20b1
            try clear c21
            try clear c21b0
            try clear c21b1
            try clear c25
            try clear c36
            try clear c36b0
            try clear c36b1
            try clear c39
            try clear c50
            try clear c50b0
            try clear c51
            try clear c51b0
            try clear c52
            try clear p52
            try clear q52
            try clear hx52
            try clear hf52
            try clear c53
            try clear c53b0
            try clear c54
            try clear c54b0
            try clear c55
            try clear c55b0
            try clear c55b1
            try clear p56
            try clear q56
            try clear c58
            try clear hx58
            try clear hf58
            try clear c60
            try clear c60b0
            try clear c60b1
            try clear p61
            try clear q61
            try clear c63
            try clear hx63
            try clear hf63
            try clear p64
            try clear c65
            try clear c65b0
            try clear c65b1
            try clear p66
            try clear q66
            try clear c68
            try clear hx68
            try clear hf68
            try clear p70
            try clear q70
            try clear c72
            try clear hx72
            try clear hf72
            try clear c75
            try clear c75b0
            try clear c75b1
            try clear c77
            try clear c82
            try clear c83
            try clear Y0
            try clear Y1
            try clear Y2
            try clear Zi
            try clear Zj
            try clear Zk
            try clear Zl
            try clear Zm
            try clear Zs
            try clear Zt
            try clear Zu
            try clear Zv
            try clear Zw
            try clear Z2
            try clear Z3
            try clear Z4
            try clear Z8
            try clear Z9
            try clear Da
            try clear De
            try clear Df
            try clear Dg
            try clear Dh
            try clear Di
            try clear Do
            try clear Dp
            try clear Dq
            try clear Dr
            try clear Ds
            try clear Dy
            try clear Dz
            try clear D0
            try clear D4
            try clear D5
            try clear D6
            try clear Ej
            try clear Ek
            try clear El
            try clear Em
            try clear En
            try clear Et
            try clear Eu
            try clear Ev
            try clear Ez
            try clear E0
            try clear E1
            try clear E2
            try clear Y3
            try clear Y4
            try clear Y5
            try clear Zn
            try clear Zo
            try clear Zp
            try clear Zq
            try clear Zr
            try clear Zx
            try clear Zy
            try clear Zz
            try clear Z0
            try clear Z1
            try clear Z5
            try clear Z6
            try clear Z7
            try clear Db
            try clear Dc
            try clear Dd
            try clear Dj
            try clear Dk
            try clear Dl
            try clear Dm
            try clear Dn
            try clear Dt
            try clear Du
            try clear Dv
            try clear Dw
            try clear Dx
            try clear D1
            try clear D2
            try clear D3
            try clear D7
            try clear D8
            try clear D9
            try clear Eo
            try clear Ep
            try clear Eq
            try clear Er
            try clear Es
            try clear Ew
            try clear Ex
            try clear Ey
            try clear E3
            try clear E4
            try clear E5
            try clear E6
            try clear hx141_0
            try clear hx141_1
            try clear hx141_2
            try clear hx141_3
            try clear hx141_4
            try clear hx52_0
            try clear hx52_1
            try clear hx52_2
            try clear hx52_3
            try clear hx58_0
            try clear hx63_1
            try clear hx68_2
            try clear hx72_3
            try clear p1
            try clear p14
            try clear p141
            try clear p2
            try clear p52
            try clear p56
            try clear p6
            try clear p61
            try clear p66
            try clear p70
            try clear q1
            try clear q14
            try clear q141
            try clear q52
            try clear q56
            try clear q61
            try clear q66
            try clear q70
            obtain ⟨Jq, Jr, Js, Jt, Ju, rfl, HA, HK3, Jk, Jf, Jg, Jd, Je, Jp, HB⟩ := hrel; cases gk with
            | zero => exact absurd HA.out (by simp [treillagelaw14_EpochHolds.l2])
            | succ k3 =>
             have H := HA.out; clear HA; simp only [treillagelaw14_EpochHolds.l2] at H; by_cases c85 : Jq < 4
             ·rw [if_pos c85] at H; have c85b0 : decide (Jq < 4) = true := decide_eq_true c85; clear c85; by_cases c86 : 0 ≤ Jq
              rotate_left
              ·rw [if_neg c86] at H; exact absurd H (by simp)
              rw [if_pos c86] at H; have c86b0 : decide (0 ≤ Jq) = true := decide_eq_true c86; clear c86; by_cases c87 : Jq < (Jh.length : Int)
              rotate_left
              ·rw [if_neg c87] at H; exact absurd H (by simp)
              rw [if_pos c87] at H; have c87b0 : decide (Jq < (Jh.length : Int)) = true := decide_eq_true c87; clear c87; by_cases c88 : Jq = 0
              ·rw [if_pos c88] at H; have c88b0 : (Jq == 0) = true := beq_iff_eq.mpr c88; have c88b1 : (Jq != 0) = false := bne_eq_false_iff_eq.mpr c88; clear c88; have H' := aA H; clear H; have hnb90 := Jo.out; have hnc90 := Jy.out; have hnb91 := J1.out; have hnc91 := J3.out; have hcz92_0 : wr.cell? ⟨Jb, 0, none⟩ = some (.int .u64 Ji) := (blk_cell Jd.out 0).trans rfl; have hcz92_1 : wr.cell? ⟨Jb, 1, none⟩ = some (.slice Qo Jh.length Qp) := (blk_cell Jd.out 1).trans rfl; have hcz92_2 : wr.cell? ⟨Jb, 2, none⟩ = some (u138002) := (blk_cell Jd.out 2).trans rfl; have hfz92_0 := blk_frozen Jd.out 0; have hfz92_1 := blk_frozen Jd.out 1; have hfz92_2 := blk_frozen Jd.out 2; have p164 : 0 ≤ (Jq : Int) := of_decide_eq_true (by first | (with_reducible assumption) | assumption); have q164 : Jq < (Jh.length : Int) := of_decide_eq_true (by first | (with_reducible assumption) | assumption); obtain ⟨ad164, e164, hx164_0⟩ := Kd.at_int (Kd.V_reads' Jf.out).2.2 Jq p164 q164; cases e164
               replace p164 := eq_true p164; replace q164 := eq_true q164; have p89 := eq_true (of_decide_eq_true (by first | (with_reducible assumption) | assumption) : 0 ≤ (Jq : Int)); have q89 := eq_true (of_decide_eq_true (by first | (with_reducible assumption) | assumption) : (Jq : Int) < 4); have t89 : (Jq : Int).toNat = 0 := ix0_ (by first | (with_reducible assumption) | assumption); (try replace hx164_0 := cellat0_ hx164_0 t89); have hnb93 := Qu.out; have hnc93 := J2.out; have hcz94_0 : wr.cell? ⟨Jm, 0, none⟩ = some (.bool Jr) := (blk_cell Jp.out 0).trans rfl; have hcz94_1 : wr.cell? ⟨Jm, 1, none⟩ = some (.bool Js) := (blk_cell Jp.out 1).trans rfl; have hcz94_2 : wr.cell? ⟨Jm, 2, none⟩ = some (.bool Jt) := (blk_cell Jp.out 2).trans rfl; have hcz94_3 : wr.cell? ⟨Jm, 3, none⟩ = some (.bool Ju) := (blk_cell Jp.out 3).trans rfl; have hfz94_0 := blk_frozen Jp.out 0; have hfz94_1 := blk_frozen Jp.out 1; have hfz94_2 := blk_frozen Jp.out 2; have hfz94_3 := blk_frozen Jp.out 3; go_wp2; go_roundg k3
               case measure => have := HJ1.out; have := HK2.out; have := HK3.out; omega
               case rel => exact ⟨(wrap64 (Jq + 1)), (((rd Jh Jq) != 0)), (Js), (Jt), (Ju), (by first | rfl | (simp; done) | (simp [*]; done) | (simp; exact wrapin_ (by assumption) (by assumption))), H', ⟨by have := HJ1.out; have := HK2.out; have := HK3.out; omega⟩, ⟨by (with_reducible repeat (first | apply Kd.R_alloc | apply Kd.R_drewN | apply Kd.R_drew)); exact Kd.R_mono (Kd.R_far (p := ⟨Jm, 0, none⟩) (Kd.R_mono Jk.out (fun k_ hk => (⟨hk, hk⟩ : _ ∧ k_ ≠ Jm))) (fun _ hk => hk.2) (.bool ((rd Jh Jq) != 0))) (fun _ hk => hk.1)⟩, ⟨by (with_reducible repeat (first | apply Kd.V_alloc | apply Kd.V_drewN | apply Kd.V_drew)); exact Kd.V_mono (Kd.V_far (p := ⟨Jm, 0, none⟩) (Kd.V_mono Jf.out (fun k_ hk => (⟨hk, hk.2.2.2⟩ : _ ∧ k_ ≠ Jm))) (fun _ hk => hk.2) (.bool ((rd Jh Jq) != 0))) (fun _ hk => ⟨hk.1.1, ⟨hk.1.2.1, ⟨hk.1.2.2.1, hk.1.2.2.2⟩⟩⟩)⟩, ⟨by (with_reducible repeat (first | apply Kd.V_alloc | apply Kd.V_drewN | apply Kd.V_drew)); exact Kd.V_mono (Kd.V_far (p := ⟨Jm, 0, none⟩) (Kd.V_mono Jg.out (fun k_ hk => (⟨hk, hk.2.2.2⟩ : _ ∧ k_ ≠ Jm))) (fun _ hk => hk.2) (.bool ((rd Jh Jq) != 0))) (fun _ hk => ⟨hk.1.1, ⟨hk.1.2.1, ⟨hk.1.2.2.1, hk.1.2.2.2⟩⟩⟩)⟩, ⟨by (with_reducible repeat (first | refine blk_drewN ?_ _ | refine blk_drew ?_ | refine blk_alloc ?_ _)); refine blk_far ?_ J1.out _; (with_reducible repeat (first | refine blk_drewN ?_ _ | refine blk_drew ?_ | refine blk_alloc ?_ _)); exact Jd.out⟩, ⟨by (with_reducible repeat (first | refine blk_drewN ?_ _ | refine blk_drew ?_ | refine blk_alloc ?_ _)); refine blk_far ?_ J2.out _; (with_reducible repeat (first | refine blk_drewN ?_ _ | refine blk_drew ?_ | refine blk_alloc ?_ _)); exact Je.out⟩, ⟨by (with_reducible repeat (first | refine blk_drewN ?_ _ | refine blk_drew ?_ | refine blk_alloc ?_ _)); refine blk_put (cs := #[.bool Jr, .bool Js, .bool Jt, .bool Ju]) ?_ 0 _ rfl; (with_reducible repeat (first | refine blk_drewN ?_ _ | refine blk_drew ?_ | refine blk_alloc ?_ _)); exact Jp.out⟩, ⟨by repeat (first | (with_reducible first | exact HB.out | apply below_alloc | apply pw_below_drewN | apply below_drew1 | refine below_set ?_ Qc.out | refine below_set ?_ J8.out | refine below_set ?_ Y6.out) | exact HB.out)⟩⟩
              ·rw [if_neg c88] at H; have c88b0 : (Jq == 0) = false := beq_eq_false_iff_ne.mpr c88; have c88b1 : (Jq != 0) = true := bne_iff_ne.mpr c88; by_cases c95 : Jq = 1
               ·rw [if_pos c95] at H; have c95b0 : (Jq == 1) = true := beq_iff_eq.mpr c95; have c95b1 : (Jq != 1) = false := bne_eq_false_iff_eq.mpr c95; clear c95; have H' := aA H; clear H; have hnb97 := Jo.out; have hnc97 := Jy.out; have hnb98 := J1.out; have hnc98 := J3.out; have hcz99_0 : wr.cell? ⟨Jb, 0, none⟩ = some (.int .u64 Ji) := (blk_cell Jd.out 0).trans rfl; have hcz99_1 : wr.cell? ⟨Jb, 1, none⟩ = some (.slice Qo Jh.length Qp) := (blk_cell Jd.out 1).trans rfl; have hcz99_2 : wr.cell? ⟨Jb, 2, none⟩ = some (u138002) := (blk_cell Jd.out 2).trans rfl; have hfz99_0 := blk_frozen Jd.out 0; have hfz99_1 := blk_frozen Jd.out 1; have hfz99_2 := blk_frozen Jd.out 2; have p164 : 0 ≤ (Jq : Int) := of_decide_eq_true (by first | (with_reducible assumption) | assumption); have q164 : Jq < (Jh.length : Int) := of_decide_eq_true (by first | (with_reducible assumption) | assumption); obtain ⟨ad164, e164, hx164_0⟩ := Kd.at_int (Kd.V_reads' Jf.out).2.2 Jq p164 q164; cases e164
                replace p164 := eq_true p164; replace q164 := eq_true q164; have p96 := eq_true (of_decide_eq_true (by first | (with_reducible assumption) | assumption) : 0 ≤ (Jq : Int)); have q96 := eq_true (of_decide_eq_true (by first | (with_reducible assumption) | assumption) : (Jq : Int) < 4); have t96 : (Jq : Int).toNat = 1 := ix1_ (by first | (with_reducible assumption) | assumption); (try replace hx164_0 := cellat1_ hx164_0 t96); have hnb100 := Qu.out; have hnc100 := J2.out; have hcz101_0 : wr.cell? ⟨Jm, 0, none⟩ = some (.bool Jr) := (blk_cell Jp.out 0).trans rfl; have hcz101_1 : wr.cell? ⟨Jm, 1, none⟩ = some (.bool Js) := (blk_cell Jp.out 1).trans rfl; have hcz101_2 : wr.cell? ⟨Jm, 2, none⟩ = some (.bool Jt) := (blk_cell Jp.out 2).trans rfl; have hcz101_3 : wr.cell? ⟨Jm, 3, none⟩ = some (.bool Ju) := (blk_cell Jp.out 3).trans rfl; have hfz101_0 := blk_frozen Jp.out 0; have hfz101_1 := blk_frozen Jp.out 1; have hfz101_2 := blk_frozen Jp.out 2; have hfz101_3 := blk_frozen Jp.out 3; go_wp2; go_roundg k3
                case measure => have := HJ1.out; have := HK2.out; have := HK3.out; omega
                case rel => exact ⟨(wrap64 (Jq + 1)), (Jr), (((rd Jh Jq) != 0)), (Jt), (Ju), (by first | rfl | (simp; done) | (simp [*]; done) | (simp; exact wrapin_ (by assumption) (by assumption))), H', ⟨by have := HJ1.out; have := HK2.out; have := HK3.out; omega⟩, ⟨by (with_reducible repeat (first | apply Kd.R_alloc | apply Kd.R_drewN | apply Kd.R_drew)); exact Kd.R_mono (Kd.R_far (p := ⟨Jm, 1, none⟩) (Kd.R_mono Jk.out (fun k_ hk => (⟨hk, hk⟩ : _ ∧ k_ ≠ Jm))) (fun _ hk => hk.2) (.bool ((rd Jh Jq) != 0))) (fun _ hk => hk.1)⟩, ⟨by (with_reducible repeat (first | apply Kd.V_alloc | apply Kd.V_drewN | apply Kd.V_drew)); exact Kd.V_mono (Kd.V_far (p := ⟨Jm, 1, none⟩) (Kd.V_mono Jf.out (fun k_ hk => (⟨hk, hk.2.2.2⟩ : _ ∧ k_ ≠ Jm))) (fun _ hk => hk.2) (.bool ((rd Jh Jq) != 0))) (fun _ hk => ⟨hk.1.1, ⟨hk.1.2.1, ⟨hk.1.2.2.1, hk.1.2.2.2⟩⟩⟩)⟩, ⟨by (with_reducible repeat (first | apply Kd.V_alloc | apply Kd.V_drewN | apply Kd.V_drew)); exact Kd.V_mono (Kd.V_far (p := ⟨Jm, 1, none⟩) (Kd.V_mono Jg.out (fun k_ hk => (⟨hk, hk.2.2.2⟩ : _ ∧ k_ ≠ Jm))) (fun _ hk => hk.2) (.bool ((rd Jh Jq) != 0))) (fun _ hk => ⟨hk.1.1, ⟨hk.1.2.1, ⟨hk.1.2.2.1, hk.1.2.2.2⟩⟩⟩)⟩, ⟨by (with_reducible repeat (first | refine blk_drewN ?_ _ | refine blk_drew ?_ | refine blk_alloc ?_ _)); refine blk_far ?_ J1.out _; (with_reducible repeat (first | refine blk_drewN ?_ _ | refine blk_drew ?_ | refine blk_alloc ?_ _)); exact Jd.out⟩, ⟨by (with_reducible repeat (first | refine blk_drewN ?_ _ | refine blk_drew ?_ | refine blk_alloc ?_ _)); refine blk_far ?_ J2.out _; (with_reducible repeat (first | refine blk_drewN ?_ _ | refine blk_drew ?_ | refine blk_alloc ?_ _)); exact Je.out⟩, ⟨by (with_reducible repeat (first | refine blk_drewN ?_ _ | refine blk_drew ?_ | refine blk_alloc ?_ _)); refine blk_put (cs := #[.bool Jr, .bool Js, .bool Jt, .bool Ju]) ?_ 1 _ rfl; (with_reducible repeat (first | refine blk_drewN ?_ _ | refine blk_drew ?_ | refine blk_alloc ?_ _)); exact Jp.out⟩, ⟨by repeat (first | (with_reducible first | exact HB.out | apply below_alloc | apply pw_below_drewN | apply below_drew1 | refine below_set ?_ Qc.out | refine below_set ?_ J8.out | refine below_set ?_ Y6.out) | exact HB.out)⟩⟩
               ·rw [if_neg c95] at H; have c95b0 : (Jq == 1) = false := beq_eq_false_iff_ne.mpr c95; have c95b1 : (Jq != 1) = true := bne_iff_ne.mpr c95; by_cases c102 : Jq = 2
                ·rw [if_pos c102] at H; have c102b0 : (Jq == 2) = true := beq_iff_eq.mpr c102; have c102b1 : (Jq != 2) = false := bne_eq_false_iff_eq.mpr c102; clear c102; have H' := aA H; clear H; have hnb104 := Jo.out; have hnc104 := Jy.out; have hnb105 := J1.out; have hnc105 := J3.out; have hcz106_0 : wr.cell? ⟨Jb, 0, none⟩ = some (.int .u64 Ji) := (blk_cell Jd.out 0).trans rfl; have hcz106_1 : wr.cell? ⟨Jb, 1, none⟩ = some (.slice Qo Jh.length Qp) := (blk_cell Jd.out 1).trans rfl; have hcz106_2 : wr.cell? ⟨Jb, 2, none⟩ = some (u138002) := (blk_cell Jd.out 2).trans rfl; have hfz106_0 := blk_frozen Jd.out 0; have hfz106_1 := blk_frozen Jd.out 1; have hfz106_2 := blk_frozen Jd.out 2; have p164 : 0 ≤ (Jq : Int) := of_decide_eq_true (by first | (with_reducible assumption) | assumption); have q164 : Jq < (Jh.length : Int) := of_decide_eq_true (by first | (with_reducible assumption) | assumption); obtain ⟨ad164, e164, hx164_0⟩ := Kd.at_int (Kd.V_reads' Jf.out).2.2 Jq p164 q164; cases e164
                 replace p164 := eq_true p164; replace q164 := eq_true q164; have p103 := eq_true (of_decide_eq_true (by first | (with_reducible assumption) | assumption) : 0 ≤ (Jq : Int)); have q103 := eq_true (of_decide_eq_true (by first | (with_reducible assumption) | assumption) : (Jq : Int) < 4); have t103 : (Jq : Int).toNat = 2 := ix2_ (by first | (with_reducible assumption) | assumption); (try replace hx164_0 := cellat2_ hx164_0 t103); have hnb107 := Qu.out; have hnc107 := J2.out; have hcz108_0 : wr.cell? ⟨Jm, 0, none⟩ = some (.bool Jr) := (blk_cell Jp.out 0).trans rfl; have hcz108_1 : wr.cell? ⟨Jm, 1, none⟩ = some (.bool Js) := (blk_cell Jp.out 1).trans rfl; have hcz108_2 : wr.cell? ⟨Jm, 2, none⟩ = some (.bool Jt) := (blk_cell Jp.out 2).trans rfl; have hcz108_3 : wr.cell? ⟨Jm, 3, none⟩ = some (.bool Ju) := (blk_cell Jp.out 3).trans rfl; have hfz108_0 := blk_frozen Jp.out 0; have hfz108_1 := blk_frozen Jp.out 1; have hfz108_2 := blk_frozen Jp.out 2; have hfz108_3 := blk_frozen Jp.out 3; go_wp2; go_roundg k3
                 case measure => have := HJ1.out; have := HK2.out; have := HK3.out; omega
                 case rel => exact ⟨(wrap64 (Jq + 1)), (Jr), (Js), (((rd Jh Jq) != 0)), (Ju), (by first | rfl | (simp; done) | (simp [*]; done) | (simp; exact wrapin_ (by assumption) (by assumption))), H', ⟨by have := HJ1.out; have := HK2.out; have := HK3.out; omega⟩, ⟨by (with_reducible repeat (first | apply Kd.R_alloc | apply Kd.R_drewN | apply Kd.R_drew)); exact Kd.R_mono (Kd.R_far (p := ⟨Jm, 2, none⟩) (Kd.R_mono Jk.out (fun k_ hk => (⟨hk, hk⟩ : _ ∧ k_ ≠ Jm))) (fun _ hk => hk.2) (.bool ((rd Jh Jq) != 0))) (fun _ hk => hk.1)⟩, ⟨by (with_reducible repeat (first | apply Kd.V_alloc | apply Kd.V_drewN | apply Kd.V_drew)); exact Kd.V_mono (Kd.V_far (p := ⟨Jm, 2, none⟩) (Kd.V_mono Jf.out (fun k_ hk => (⟨hk, hk.2.2.2⟩ : _ ∧ k_ ≠ Jm))) (fun _ hk => hk.2) (.bool ((rd Jh Jq) != 0))) (fun _ hk => ⟨hk.1.1, ⟨hk.1.2.1, ⟨hk.1.2.2.1, hk.1.2.2.2⟩⟩⟩)⟩, ⟨by (with_reducible repeat (first | apply Kd.V_alloc | apply Kd.V_drewN | apply Kd.V_drew)); exact Kd.V_mono (Kd.V_far (p := ⟨Jm, 2, none⟩) (Kd.V_mono Jg.out (fun k_ hk => (⟨hk, hk.2.2.2⟩ : _ ∧ k_ ≠ Jm))) (fun _ hk => hk.2) (.bool ((rd Jh Jq) != 0))) (fun _ hk => ⟨hk.1.1, ⟨hk.1.2.1, ⟨hk.1.2.2.1, hk.1.2.2.2⟩⟩⟩)⟩, ⟨by (with_reducible repeat (first | refine blk_drewN ?_ _ | refine blk_drew ?_ | refine blk_alloc ?_ _)); refine blk_far ?_ J1.out _; (with_reducible repeat (first | refine blk_drewN ?_ _ | refine blk_drew ?_ | refine blk_alloc ?_ _)); exact Jd.out⟩, ⟨by (with_reducible repeat (first | refine blk_drewN ?_ _ | refine blk_drew ?_ | refine blk_alloc ?_ _)); refine blk_far ?_ J2.out _; (with_reducible repeat (first | refine blk_drewN ?_ _ | refine blk_drew ?_ | refine blk_alloc ?_ _)); exact Je.out⟩, ⟨by (with_reducible repeat (first | refine blk_drewN ?_ _ | refine blk_drew ?_ | refine blk_alloc ?_ _)); refine blk_put (cs := #[.bool Jr, .bool Js, .bool Jt, .bool Ju]) ?_ 2 _ rfl; (with_reducible repeat (first | refine blk_drewN ?_ _ | refine blk_drew ?_ | refine blk_alloc ?_ _)); exact Jp.out⟩, ⟨by repeat (first | (with_reducible first | exact HB.out | apply below_alloc | apply pw_below_drewN | apply below_drew1 | refine below_set ?_ Qc.out | refine below_set ?_ J8.out | refine below_set ?_ Y6.out) | exact HB.out)⟩⟩
                ·rw [if_neg c102] at H; have c102b0 : (Jq == 2) = false := beq_eq_false_iff_ne.mpr c102; have c102b1 : (Jq != 2) = true := bne_iff_ne.mpr c102; have H' := aA H; clear H; have hnb110 := Jo.out; have hnc110 := Jy.out; have hnb111 := J1.out; have hnc111 := J3.out; have hcz112_0 : wr.cell? ⟨Jb, 0, none⟩ = some (.int .u64 Ji) := (blk_cell Jd.out 0).trans rfl; have hcz112_1 : wr.cell? ⟨Jb, 1, none⟩ = some (.slice Qo Jh.length Qp) := (blk_cell Jd.out 1).trans rfl; have hcz112_2 : wr.cell? ⟨Jb, 2, none⟩ = some (u138002) := (blk_cell Jd.out 2).trans rfl; have hfz112_0 := blk_frozen Jd.out 0; have hfz112_1 := blk_frozen Jd.out 1; have hfz112_2 := blk_frozen Jd.out 2; have p164 : 0 ≤ (Jq : Int) := of_decide_eq_true (by first | (with_reducible assumption) | assumption); have q164 : Jq < (Jh.length : Int) := of_decide_eq_true (by first | (with_reducible assumption) | assumption); obtain ⟨ad164, e164, hx164_0⟩ := Kd.at_int (Kd.V_reads' Jf.out).2.2 Jq p164 q164; cases e164
                 replace p164 := eq_true p164; replace q164 := eq_true q164; have p109 := eq_true (of_decide_eq_true (by first | (with_reducible assumption) | assumption) : 0 ≤ (Jq : Int)); have q109 := eq_true (of_decide_eq_true (by first | (with_reducible assumption) | assumption) : (Jq : Int) < 4); have t109 : (Jq : Int).toNat = 3 := ixl4_ (by first | (with_reducible assumption) | assumption) (by first | (with_reducible assumption) | assumption) (by first | (with_reducible assumption) | assumption) (by first | (with_reducible assumption) | assumption) (by first | (with_reducible assumption) | assumption); (try replace hx164_0 := cellat3_ hx164_0 t109); have hnb113 := Qu.out; have hnc113 := J2.out; have hcz114_0 : wr.cell? ⟨Jm, 0, none⟩ = some (.bool Jr) := (blk_cell Jp.out 0).trans rfl; have hcz114_1 : wr.cell? ⟨Jm, 1, none⟩ = some (.bool Js) := (blk_cell Jp.out 1).trans rfl; have hcz114_2 : wr.cell? ⟨Jm, 2, none⟩ = some (.bool Jt) := (blk_cell Jp.out 2).trans rfl; have hcz114_3 : wr.cell? ⟨Jm, 3, none⟩ = some (.bool Ju) := (blk_cell Jp.out 3).trans rfl; have hfz114_0 := blk_frozen Jp.out 0; have hfz114_1 := blk_frozen Jp.out 1; have hfz114_2 := blk_frozen Jp.out 2; have hfz114_3 := blk_frozen Jp.out 3; go_wp2; go_roundg k3
                 case measure => have := HJ1.out; have := HK2.out; have := HK3.out; omega
                 case rel => exact ⟨(wrap64 (Jq + 1)), (Jr), (Js), (Jt), (((rd Jh Jq) != 0)), (by first | rfl | (simp; done) | (simp [*]; done) | (simp; exact wrapin_ (by assumption) (by assumption))), H', ⟨by have := HJ1.out; have := HK2.out; have := HK3.out; omega⟩, ⟨by (with_reducible repeat (first | apply Kd.R_alloc | apply Kd.R_drewN | apply Kd.R_drew)); exact Kd.R_mono (Kd.R_far (p := ⟨Jm, 3, none⟩) (Kd.R_mono Jk.out (fun k_ hk => (⟨hk, hk⟩ : _ ∧ k_ ≠ Jm))) (fun _ hk => hk.2) (.bool ((rd Jh Jq) != 0))) (fun _ hk => hk.1)⟩, ⟨by (with_reducible repeat (first | apply Kd.V_alloc | apply Kd.V_drewN | apply Kd.V_drew)); exact Kd.V_mono (Kd.V_far (p := ⟨Jm, 3, none⟩) (Kd.V_mono Jf.out (fun k_ hk => (⟨hk, hk.2.2.2⟩ : _ ∧ k_ ≠ Jm))) (fun _ hk => hk.2) (.bool ((rd Jh Jq) != 0))) (fun _ hk => ⟨hk.1.1, ⟨hk.1.2.1, ⟨hk.1.2.2.1, hk.1.2.2.2⟩⟩⟩)⟩, ⟨by (with_reducible repeat (first | apply Kd.V_alloc | apply Kd.V_drewN | apply Kd.V_drew)); exact Kd.V_mono (Kd.V_far (p := ⟨Jm, 3, none⟩) (Kd.V_mono Jg.out (fun k_ hk => (⟨hk, hk.2.2.2⟩ : _ ∧ k_ ≠ Jm))) (fun _ hk => hk.2) (.bool ((rd Jh Jq) != 0))) (fun _ hk => ⟨hk.1.1, ⟨hk.1.2.1, ⟨hk.1.2.2.1, hk.1.2.2.2⟩⟩⟩)⟩, ⟨by (with_reducible repeat (first | refine blk_drewN ?_ _ | refine blk_drew ?_ | refine blk_alloc ?_ _)); refine blk_far ?_ J1.out _; (with_reducible repeat (first | refine blk_drewN ?_ _ | refine blk_drew ?_ | refine blk_alloc ?_ _)); exact Jd.out⟩, ⟨by (with_reducible repeat (first | refine blk_drewN ?_ _ | refine blk_drew ?_ | refine blk_alloc ?_ _)); refine blk_far ?_ J2.out _; (with_reducible repeat (first | refine blk_drewN ?_ _ | refine blk_drew ?_ | refine blk_alloc ?_ _)); exact Je.out⟩, ⟨by (with_reducible repeat (first | refine blk_drewN ?_ _ | refine blk_drew ?_ | refine blk_alloc ?_ _)); refine blk_put (cs := #[.bool Jr, .bool Js, .bool Jt, .bool Ju]) ?_ 3 _ rfl; (with_reducible repeat (first | refine blk_drewN ?_ _ | refine blk_drew ?_ | refine blk_alloc ?_ _)); exact Jp.out⟩, ⟨by repeat (first | (with_reducible first | exact HB.out | apply below_alloc | apply pw_below_drewN | apply below_drew1 | refine below_set ?_ Qc.out | refine below_set ?_ J8.out | refine below_set ?_ Y6.out) | exact HB.out)⟩⟩
             ·rw [if_neg c85] at H; have c85b0 : decide (Jq < 4) = false := decide_eq_false c85; clear c85; obtain ⟨Yx, hy165⟩ : ∃ y_ : List Int, y_ = (([IntKind.u64.wrap ((Jw.length : Int))] : List Int)) := ⟨_, rfl⟩; replace H : ((epoch_Retire.f Ji Jh Jl Yx ([] : List Int)).bind fun Fg => (if Jw.length < 35184372088832 then (treillagelaw14_EpochHolds.l0 k3 l0 (Jw ++ [(⟨Jr, Js, Jt, Ju⟩ : S60)]) (wrap64 (Ja + 1)) Fg.1 Fg.2.1 Fg.2.2) else (none))) = some r := by first | (rw [hy165]; with_reducible exact H) | (have H2_ := (Option.bind_some _ _).symm.trans H; rw [hy165]; with_reducible exact H2_) | (have H2_ := (Option.bind_some _ _).symm.trans H; with_reducible exact H2_) | with_reducible exact H | (rw [hy165]; exact H) | exact H
              have Ny165 := aA hy165; clear hy165; replace H := Option.bind_eq_some_iff.mp H; obtain ⟨⟨Qx, Qy, Qz⟩, A1150, H⟩ := H; replace H : (if Jw.length < 35184372088832 then (treillagelaw14_EpochHolds.l0 k3 l0 (Jw ++ [(⟨Jr, Js, Jt, Ju⟩ : S60)]) (wrap64 (Ja + 1)) Qx Qy Qz) else (none)) = some r := H; have A115 := aA A1150; clear A1150; by_cases c116 : Jw.length < 35184372088832
              rotate_left
              ·rw [if_neg c116] at H; exact absurd H (by simp)
              rw [if_pos c116] at H; have LMc116 := aA c116; clear c116; obtain ⟨Ft, hy175⟩ : ∃ y_ : List (S60), y_ = (Jw ++ [(⟨Jr, Js, Jt, Ju⟩ : S60)]) := ⟨_, rfl⟩; replace H : (treillagelaw14_EpochHolds.l0 k3 l0 Ft (wrap64 (Ja + 1)) Qx Qy Qz) = some r := by first | (rw [hy175]; with_reducible exact H) | (have H2_ := (Option.bind_some _ _).symm.trans H; rw [hy175]; with_reducible exact H2_) | (have H2_ := (Option.bind_some _ _).symm.trans H; with_reducible exact H2_) | with_reducible exact H | (rw [hy175]; exact H) | exact H
              have Ny175 := aA hy175; clear hy175; have H' := aA H; clear H; have hnb117 := Jo.out; have hnc117 := Jy.out; have hnb118 := J1.out; have hnc118 := J3.out; have hcz119_0 : wr.cell? ⟨Jb, 0, none⟩ = some (.int .u64 Ji) := (blk_cell Jd.out 0).trans rfl; have hcz119_1 : wr.cell? ⟨Jb, 1, none⟩ = some (.slice Qo Jh.length Qp) := (blk_cell Jd.out 1).trans rfl; have hcz119_2 : wr.cell? ⟨Jb, 2, none⟩ = some (u138002) := (blk_cell Jd.out 2).trans rfl; have hfz119_0 := blk_frozen Jd.out 0; have hfz119_1 := blk_frozen Jd.out 1; have hfz119_2 := blk_frozen Jd.out 2; obtain ⟨Ze, Zf, eo120⟩ := Kd.R_slice Jk.out; subst eo120; go_wp2_with (first | ((with_reducible refine gate_dst (N := 134) rfl ?_); refine Kd.R_lit (Kd.int .u64) _ 22 ?hg (N := 134) ?hd (xs := ([IntKind.u64.wrap ((Jw.length : Int))] : List Int)) (inner := [.int .u64 (IntKind.u64.wrap ((Jw.length : Int)))]) (ok := fun _ => True) (okp := fun _ => True) ?hr ?hp (fun _ hk => hk) trivial (Below.refl _ _) (Nat.le_refl _) (by simp) ?_; (case hd => rfl); (case hg => rfl); (case hr => first | (go_simp; done) | (go_simp; rfl)); (case hp => exact (Reps.one (show Kd.M (Kd.int .u64) _ _ _ (IntKind.u64.wrap ((Jw.length : Int))) [.int .u64 (IntKind.u64.wrap ((Jw.length : Int)))] from rfl) (Reps.none _ _))); intro v166 w121 ho122 hb hg_ hnew_; clear hg_ hnew_; (first | rw [← Ny165.out] at ho122 | (simp only [Int.reduceToNat] at ho122; rw [← Ny165.out] at ho122)); have n0_ := aA (Kd.R_below (rlu Jk.out) hb); have n1_ := aA (Kd.V_elder' (vlu Jf.out) (Kd.R_base ho122) hb); have n2_ := aA (Kd.V_elder' (vlu Jg.out) (Kd.R_base ho122) hb); have n3_ := aA (Kd.R_lower ho122 (below_size (bls HB.out))); have n4_ := aA (blk_below (g := Jb) (o := .cells #[.int .u64 Ji, .slice Qo Jh.length Qp, u138002] 26 (0, 0)) (bku Jd.out) hb); have n5_ := aA (blk_below (g := Jc) (o := .cells #[.int .i64 ((rd_T42 l0 Ja).f0), .int .i64 ((rd_T42 l0 Ja).f1), .int .u64 ((rd_T42 l0 Ja).f2), .slice A141_3 ((rd_T42 l0 Ja).f3.f0).length c141_3, .slice A141_4 ((rd_T42 l0 Ja).f3.f1).length c141_4] 42 (0, 0)) (bku Je.out) hb); have n6_ := aA (blk_below (g := Jm) (o := .cells #[.bool Jr, .bool Js, .bool Jt, .bool Ju] 60 (0, 0)) (bku Jp.out) hb); have n7_ := aA (below_step (bls HB.out) hb); clear Jk Jf Jg Jd Je Jp HB; have Jk := n0_; have Jf := n1_; have Jg := n2_; have Qh := n3_; have Jd := n4_; have Je := n5_; have Jp := n6_; have HB := n7_; clear n0_ n1_ n2_ n3_ n4_ n5_ n6_ n7_ hb ho122; obtain ⟨Y7, Y8, eo123⟩ := Kd.R_slice Qh.out; subst eo123; obtain ⟨Ye, Yf, eo124⟩ := Kd.V_slice Jg.out; subst eo124) | ((with_reducible refine gate_callee (f := 8) rfl ?_); refine goesL_ (some 136) rfl rfl Try.func8 (by kernel_rfl) rfl #[.agg #[.int .u64 Ji, .slice Qo Jh.length Qp, .slice Ye Jl.length Yf], .agg #[.slice Y7 Yx.length Y8, .slice none 0 0]] rfl (by (try simp only [List.map_toArray, List.map_cons, List.map_nil]); first | done | rfl | (simp only [List.length_drop, List.length_take]; rfl)) ?_; (refine (epoch_Retire.calls Ji (fun k_ => ((some k_ ≠ (.slice Ze Jw.length Zf : Value).ownBlock ∧ (k_ ≠ Jb ∧ (k_ ≠ Jc ∧ k_ ≠ Jm))) ∧ some k_ ≠ (.slice Y7 Yx.length Y8 : Value).ownBlock)) _ _ Jh (fun k_ => ((some k_ ≠ (.slice Ze Jw.length Zf : Value).ownBlock ∧ (k_ ≠ Jb ∧ (k_ ≠ Jc ∧ k_ ≠ Jm))) ∧ some k_ ≠ (.slice Y7 Yx.length Y8 : Value).ownBlock)) _ _ Jl (fun k_ => some k_ = (.slice Y7 Yx.length Y8 : Value).ownBlock) _ _ Yx (fun k_ => False) _ _ ([] : List Int) Qx Qy Qz _ ?side1 ?side2 ?side3 ?side4 A115.out).mono ?_); (case side1 => first | exact Jf.out | exact V_below Jf.out (blw (Below.refl _ _)) (fun k_ hk_ => by first | exact hk_ | exact ⟨⟨hk_.1, hk_.2.1⟩, hk_.2.2⟩)); (case side2 => first | exact Jg.out | exact V_below Jg.out (blw (Below.refl _ _)) (fun k_ hk_ => by first | exact hk_ | exact ⟨⟨hk_.1, hk_.2.1⟩, hk_.2.2⟩)); (case side3 => exact Kd.R_V (Kd.R_tight rfl (Kd.R_types (Kd.R_types (Kd.R_types (Kd.R_apart' (Qh.out) (Kd.R_typed Jk.out) (by decide)) Jd.out (by decide)) Je.out (by decide)) Jp.out (by decide)))); (case side4 => exact Kd.V_nil _ _ _ _ _); rintro e w125 ⟨v170, v173, rfl, ho0, ho1, hb⟩; refine ⟨_, rfl, ?_⟩; have n0_ := aA (Kd.R_below (rlu Jk.out) hb); have n1_ := aA (Kd.V_below (vlu Jf.out) hb); have n2_ := aA (Kd.V_below (vlu Jg.out) hb); have n3_ := aA (Kd.R_below (rlu Qh.out) hb); have n4_ := aA (Kd.V_lower (Kd.V_mono (ok' := fun k_ => some k_ ≠ (.slice Ze Jw.length Zf : Value).ownBlock ∧ k_ ≠ Jb ∧ k_ ≠ Jc ∧ k_ ≠ Jm) ho0 (fun k_ hk_ => ⟨Or.elim hk_ (fun hs_ => Or.elim hs_ (fun hs_ => hs_.1.1) (fun hs_ => Or.elim hs_ (fun hs_ => hs_.1.1) (fun hs_ => Or.elim hs_ (fun hs_ => ((Kd.R_types (Kd.R_types (Kd.R_types (Kd.R_apart' (Qh.out) (Kd.R_typed Jk.out) (by decide)) Jd.out (by decide)) Je.out (by decide)) Jp.out (by decide)).1 k_ hs_.symm).1.1.1.2) (fun hs_ => (hs_).elim)))) (fun hn_ => (Kd.fresh' (Kd.R_lt (rlu Jk.out)) k_ hn_)), Or.elim hk_ (fun hs_ => Or.elim hs_ (fun hs_ => hs_.1.2.1) (fun hs_ => Or.elim hs_ (fun hs_ => hs_.1.2.1) (fun hs_ => Or.elim hs_ (fun hs_ => ((Kd.R_types (Kd.R_types (Kd.R_types (Kd.R_apart' (Qh.out) (Kd.R_typed Jk.out) (by decide)) Jd.out (by decide)) Je.out (by decide)) Jp.out (by decide)).1 k_ hs_.symm).1.1.2) (fun hs_ => (hs_).elim)))) (fun hn_ => (Kd.freshB (g := Jb) (o := .cells #[.int .u64 Ji, .slice Qo Jh.length Qp, .slice Ye Jl.length Yf] 26 (0, 0)) (bku Jd.out) k_ hn_)), Or.elim hk_ (fun hs_ => Or.elim hs_ (fun hs_ => hs_.1.2.2.1) (fun hs_ => Or.elim hs_ (fun hs_ => hs_.1.2.2.1) (fun hs_ => Or.elim hs_ (fun hs_ => ((Kd.R_types (Kd.R_types (Kd.R_types (Kd.R_apart' (Qh.out) (Kd.R_typed Jk.out) (by decide)) Jd.out (by decide)) Je.out (by decide)) Jp.out (by decide)).1 k_ hs_.symm).1.2) (fun hs_ => (hs_).elim)))) (fun hn_ => (Kd.freshB (g := Jc) (o := .cells #[.int .i64 ((rd_T42 l0 Ja).f0), .int .i64 ((rd_T42 l0 Ja).f1), .int .u64 ((rd_T42 l0 Ja).f2), .slice A141_3 ((rd_T42 l0 Ja).f3.f0).length c141_3, .slice A141_4 ((rd_T42 l0 Ja).f3.f1).length c141_4] 42 (0, 0)) (bku Je.out) k_ hn_)), Or.elim hk_ (fun hs_ => Or.elim hs_ (fun hs_ => hs_.1.2.2.2) (fun hs_ => Or.elim hs_ (fun hs_ => hs_.1.2.2.2) (fun hs_ => Or.elim hs_ (fun hs_ => ((Kd.R_types (Kd.R_types (Kd.R_types (Kd.R_apart' (Qh.out) (Kd.R_typed Jk.out) (by decide)) Jd.out (by decide)) Je.out (by decide)) Jp.out (by decide)).1 k_ hs_.symm).2) (fun hs_ => (hs_).elim)))) (fun hn_ => (Kd.freshB (g := Jm) (o := .cells #[.bool Jr, .bool Js, .bool Jt, .bool Ju] 60 (0, 0)) (bku Jp.out) k_ hn_))⟩)) (below_size (bls HB.out))); have n5_ := aA (Kd.V_lower (Kd.V_mono (ok' := fun k_ => some k_ ≠ (.slice Ze Jw.length Zf : Value).ownBlock ∧ k_ ≠ Jb ∧ k_ ≠ Jc ∧ k_ ≠ Jm) ho1 (fun k_ hk_ => ⟨Or.elim hk_ (fun hs_ => Or.elim hs_ (fun hs_ => hs_.1.1) (fun hs_ => Or.elim hs_ (fun hs_ => hs_.1.1) (fun hs_ => Or.elim hs_ (fun hs_ => ((Kd.R_types (Kd.R_types (Kd.R_types (Kd.R_apart' (Qh.out) (Kd.R_typed Jk.out) (by decide)) Jd.out (by decide)) Je.out (by decide)) Jp.out (by decide)).1 k_ hs_.symm).1.1.1.2) (fun hs_ => (hs_).elim)))) (fun hn_ => (Kd.fresh' (Kd.R_lt (rlu Jk.out)) k_ hn_)), Or.elim hk_ (fun hs_ => Or.elim hs_ (fun hs_ => hs_.1.2.1) (fun hs_ => Or.elim hs_ (fun hs_ => hs_.1.2.1) (fun hs_ => Or.elim hs_ (fun hs_ => ((Kd.R_types (Kd.R_types (Kd.R_types (Kd.R_apart' (Qh.out) (Kd.R_typed Jk.out) (by decide)) Jd.out (by decide)) Je.out (by decide)) Jp.out (by decide)).1 k_ hs_.symm).1.1.2) (fun hs_ => (hs_).elim)))) (fun hn_ => (Kd.freshB (g := Jb) (o := .cells #[.int .u64 Ji, .slice Qo Jh.length Qp, .slice Ye Jl.length Yf] 26 (0, 0)) (bku Jd.out) k_ hn_)), Or.elim hk_ (fun hs_ => Or.elim hs_ (fun hs_ => hs_.1.2.2.1) (fun hs_ => Or.elim hs_ (fun hs_ => hs_.1.2.2.1) (fun hs_ => Or.elim hs_ (fun hs_ => ((Kd.R_types (Kd.R_types (Kd.R_types (Kd.R_apart' (Qh.out) (Kd.R_typed Jk.out) (by decide)) Jd.out (by decide)) Je.out (by decide)) Jp.out (by decide)).1 k_ hs_.symm).1.2) (fun hs_ => (hs_).elim)))) (fun hn_ => (Kd.freshB (g := Jc) (o := .cells #[.int .i64 ((rd_T42 l0 Ja).f0), .int .i64 ((rd_T42 l0 Ja).f1), .int .u64 ((rd_T42 l0 Ja).f2), .slice A141_3 ((rd_T42 l0 Ja).f3.f0).length c141_3, .slice A141_4 ((rd_T42 l0 Ja).f3.f1).length c141_4] 42 (0, 0)) (bku Je.out) k_ hn_)), Or.elim hk_ (fun hs_ => Or.elim hs_ (fun hs_ => hs_.1.2.2.2) (fun hs_ => Or.elim hs_ (fun hs_ => hs_.1.2.2.2) (fun hs_ => Or.elim hs_ (fun hs_ => ((Kd.R_types (Kd.R_types (Kd.R_types (Kd.R_apart' (Qh.out) (Kd.R_typed Jk.out) (by decide)) Jd.out (by decide)) Je.out (by decide)) Jp.out (by decide)).1 k_ hs_.symm).2) (fun hs_ => (hs_).elim)))) (fun hn_ => (Kd.freshB (g := Jm) (o := .cells #[.bool Jr, .bool Js, .bool Jt, .bool Ju] 60 (0, 0)) (bku Jp.out) k_ hn_))⟩)) (below_size (bls HB.out))); have n6_ := aA (blk_below (g := Jb) (o := .cells #[.int .u64 Ji, .slice Qo Jh.length Qp, .slice Ye Jl.length Yf] 26 (0, 0)) (bku Jd.out) hb); have n7_ := aA (blk_below (g := Jc) (o := .cells #[.int .i64 ((rd_T42 l0 Ja).f0), .int .i64 ((rd_T42 l0 Ja).f1), .int .u64 ((rd_T42 l0 Ja).f2), .slice A141_3 ((rd_T42 l0 Ja).f3.f0).length c141_3, .slice A141_4 ((rd_T42 l0 Ja).f3.f1).length c141_4] 42 (0, 0)) (bku Je.out) hb); have n8_ := aA (blk_below (g := Jm) (o := .cells #[.bool Jr, .bool Js, .bool Jt, .bool Ju] 60 (0, 0)) (bku Jp.out) hb); have n9_ := aA (below_step (bls HB.out) hb); clear Jk Jf Jg Qh Jd Je Jp HB; have Jk := n0_; have Jf := n1_; have Jg := n2_; have Qh := n3_; have Zg := n4_; have Zh := n5_; have Jd := n6_; have Je := n7_; have Jp := n8_; have HB := n9_; clear n0_ n1_ n2_ n3_ n4_ n5_ n6_ n7_ n8_ n9_; (try clear hb); (try clear hb2); (try clear hk); (try clear hi); (try clear ho0); (try clear ho1); have hcz126_0 : w125.cell? ⟨Jb, 0, none⟩ = some (.int .u64 Ji) := (blk_cell Jd.out 0).trans rfl; have hcz126_1 : w125.cell? ⟨Jb, 1, none⟩ = some (.slice Qo Jh.length Qp) := (blk_cell Jd.out 1).trans rfl; have hcz126_2 : w125.cell? ⟨Jb, 2, none⟩ = some (.slice Ye Jl.length Yf) := (blk_cell Jd.out 2).trans rfl; have hfz126_0 := blk_frozen Jd.out 0; have hfz126_1 := blk_frozen Jd.out 1; have hfz126_2 := blk_frozen Jd.out 2; obtain ⟨Q0, Q1, eo127⟩ := Kd.V_slice Zg.out; subst eo127; obtain ⟨Q5, Q6, eo128⟩ := Kd.V_slice Zh.out; subst eo128; have hnb129 := Qu.out; have hnc129 := J2.out; have hcz130_0 : w125.cell? ⟨Jm, 0, none⟩ = some (.bool Jr) := (blk_cell Jp.out 0).trans rfl; have hcz130_1 : w125.cell? ⟨Jm, 1, none⟩ = some (.bool Js) := (blk_cell Jp.out 1).trans rfl; have hcz130_2 : w125.cell? ⟨Jm, 2, none⟩ = some (.bool Jt) := (blk_cell Jp.out 2).trans rfl; have hcz130_3 : w125.cell? ⟨Jm, 3, none⟩ = some (.bool Ju) := (blk_cell Jp.out 3).trans rfl; have hfz130_0 := blk_frozen Jp.out 0; have hfz130_1 := blk_frozen Jp.out 1; have hfz130_2 := blk_frozen Jp.out 2; have hfz130_3 := blk_frozen Jp.out 3) | ((with_reducible refine gate_builtin (b := .append) (xs := #[.tmp 137, .tmp 139]) rfl ?_); at_builtin; refine Kd.R_append k60 (w0 := w) w.heap.size rfl (.tmp 137) (.tmp 139) 59 60 (.agg #[(.bool false), (.bool false), (.bool false), (.bool false)]) 4 rfl Try.underlying59 info60 rfl (by decide) (by omega) (.slice Ze Jw.length Zf) Jw (⟨Jr, Js, Jt, Ju⟩ : S60) [.bool Jr, .bool Js, .bool Jt, .bool Ju] (fun k_ => k_ ≠ Jm) (fun _ => False) rfl (by first | (go_simp; done) | (go_simp; rfl)) ?aP (fun _ hk => hk.elim) ?aF ?aO ?aB ?aS ?aL ?_; (case aP => exact k60_mkM _ _ _ (⟨Jr, Js, Jt, Ju⟩ : S60)); (case aB => exact (bls HB.out)); (case aF => exact (fun k_ hk => Kd.freshB (g := Jm) (o := .cells #[.bool Jr, .bool Js, .bool Jt, .bool Ju] 60 (0, 0)) (by (with_reducible repeat (first | refine blk_drewN ?_ _ | refine blk_drew ?_ | refine blk_alloc ?_ _)); refine blk_far ?_ J3.out _; (with_reducible repeat (first | refine blk_drewN ?_ _ | refine blk_drew ?_ | refine blk_alloc ?_ _)); refine blk_far ?_ J3.out _; (with_reducible repeat (first | refine blk_drewN ?_ _ | refine blk_drew ?_ | refine blk_alloc ?_ _)); refine blk_far ?_ J3.out _; (with_reducible repeat (first | refine blk_drewN ?_ _ | refine blk_drew ?_ | refine blk_alloc ?_ _)); exact Jp.out) k_ hk)); (case aO => exact (rlu (Kd.R_mono (Kd.R_far (p := ⟨Jb, 2, none⟩) (Kd.R_far (p := ⟨Jb, 1, none⟩) (Kd.R_far (p := ⟨Jb, 0, none⟩) (Kd.R_types Jk.out Jd.out (by decide)) (fun _ hk => hk.2) (.int .u64 Qx)) (fun _ hk => hk.2) (.slice Q0 Qy.length Q1)) (fun _ hk => hk.2) (.slice Q5 Qz.length Q6)) (fun _ hk => hk.1)))); (case aS => exact (below_size (bls HB.out))); (case aL => have := LMc116.out; omega); intro v176 w131 ho hb hg hat; rw [← Ny175.out] at ho; have n0_ := aA (Kd.V_afterv (ok := (fun k_ => some k_ ≠ (.slice Y7 Yx.length Y8 : Value).ownBlock ∧ k_ ≠ Jb ∧ k_ ≠ Jc ∧ k_ ≠ Jm)) (vlu (Kd.V_mono (Kd.V_far (p := ⟨Jb, 2, none⟩) (Kd.V_far (p := ⟨Jb, 1, none⟩) (Kd.V_far (p := ⟨Jb, 0, none⟩) (Kd.V_mono Jf.out (fun k_ hk => (⟨hk, hk.1.2.1⟩ : _ ∧ k_ ≠ Jb))) (fun _ hk => hk.2) (.int .u64 Qx)) (fun _ hk => hk.2) (.slice Q0 Qy.length Q1)) (fun _ hk => hk.2) (.slice Q5 Qz.length Q6)) (fun _ hk => ⟨⟨hk.1.2, ⟨hk.1.1.2.1, ⟨hk.1.1.2.2.1, hk.1.1.2.2.2⟩⟩⟩, hk.1.1.1⟩))) hg hat); have n1_ := aA (Kd.V_afterv (ok := (fun k_ => some k_ ≠ (.slice Y7 Yx.length Y8 : Value).ownBlock ∧ k_ ≠ Jb ∧ k_ ≠ Jc ∧ k_ ≠ Jm)) (vlu (Kd.V_mono (Kd.V_far (p := ⟨Jb, 2, none⟩) (Kd.V_far (p := ⟨Jb, 1, none⟩) (Kd.V_far (p := ⟨Jb, 0, none⟩) (Kd.V_mono Jg.out (fun k_ hk => (⟨hk, hk.1.2.1⟩ : _ ∧ k_ ≠ Jb))) (fun _ hk => hk.2) (.int .u64 Qx)) (fun _ hk => hk.2) (.slice Q0 Qy.length Q1)) (fun _ hk => hk.2) (.slice Q5 Qz.length Q6)) (fun _ hk => ⟨⟨hk.1.2, ⟨hk.1.1.2.1, ⟨hk.1.1.2.2.1, hk.1.1.2.2.2⟩⟩⟩, hk.1.1.1⟩))) hg hat); have n2_ := aA (blk_grown (g := Jb) (o := .cells #[.int .u64 Qx, .slice Q0 Qy.length Q1, .slice Q5 Qz.length Q6] 26 (0, 0)) (by (with_reducible repeat (first | refine blk_drewN ?_ _ | refine blk_drew ?_ | refine blk_alloc ?_ _)); refine blk_put (cs := #[.int .u64 Qx, .slice Q0 Qy.length Q1, .slice Ye Jl.length Yf]) ?_ 2 _ rfl; (with_reducible repeat (first | refine blk_drewN ?_ _ | refine blk_drew ?_ | refine blk_alloc ?_ _)); refine blk_put (cs := #[.int .u64 Qx, .slice Qo Jh.length Qp, .slice Ye Jl.length Yf]) ?_ 1 _ rfl; (with_reducible repeat (first | refine blk_drewN ?_ _ | refine blk_drew ?_ | refine blk_alloc ?_ _)); refine blk_put (cs := #[.int .u64 Ji, .slice Qo Jh.length Qp, .slice Ye Jl.length Yf]) ?_ 0 _ rfl; (with_reducible repeat (first | refine blk_drewN ?_ _ | refine blk_drew ?_ | refine blk_alloc ?_ _)); exact Jd.out) hg (Kd.R_ne Jk.out Jd.out (by decide))); have n3_ := aA (blk_grown (g := Jc) (o := .cells #[.int .i64 ((rd_T42 l0 Ja).f0), .int .i64 ((rd_T42 l0 Ja).f1), .int .u64 ((rd_T42 l0 Ja).f2), .slice A141_3 ((rd_T42 l0 Ja).f3.f0).length c141_3, .slice A141_4 ((rd_T42 l0 Ja).f3.f1).length c141_4] 42 (0, 0)) (by (with_reducible repeat (first | refine blk_drewN ?_ _ | refine blk_drew ?_ | refine blk_alloc ?_ _)); refine blk_far ?_ Jy.out _; (with_reducible repeat (first | refine blk_drewN ?_ _ | refine blk_drew ?_ | refine blk_alloc ?_ _)); refine blk_far ?_ Jy.out _; (with_reducible repeat (first | refine blk_drewN ?_ _ | refine blk_drew ?_ | refine blk_alloc ?_ _)); refine blk_far ?_ Jy.out _; (with_reducible repeat (first | refine blk_drewN ?_ _ | refine blk_drew ?_ | refine blk_alloc ?_ _)); exact Je.out) hg (Kd.R_ne Jk.out Je.out (by decide))); have n4_ := aA (blk_grown (g := Jm) (o := .cells #[.bool Jr, .bool Js, .bool Jt, .bool Ju] 60 (0, 0)) (by (with_reducible repeat (first | refine blk_drewN ?_ _ | refine blk_drew ?_ | refine blk_alloc ?_ _)); refine blk_far ?_ J3.out _; (with_reducible repeat (first | refine blk_drewN ?_ _ | refine blk_drew ?_ | refine blk_alloc ?_ _)); refine blk_far ?_ J3.out _; (with_reducible repeat (first | refine blk_drewN ?_ _ | refine blk_drew ?_ | refine blk_alloc ?_ _)); refine blk_far ?_ J3.out _; (with_reducible repeat (first | refine blk_drewN ?_ _ | refine blk_drew ?_ | refine blk_alloc ?_ _)); exact Jp.out) hg (Kd.R_away Jk.out (fun _ hk => hk))); have n5_ := aA (Kd.R_over' (rlu ((Kd.R_mono (Kd.R_far (p := ⟨Jb, 2, none⟩) (Kd.R_far (p := ⟨Jb, 1, none⟩) (Kd.R_far (p := ⟨Jb, 0, none⟩) (Kd.R_types Qh.out Jd.out (by decide)) (fun _ hk => hk.2) (.int .u64 Qx)) (fun _ hk => hk.2) (.slice Q0 Qy.length Q1)) (fun _ hk => hk.2) (.slice Q5 Qz.length Q6)) (fun _ h_ => h_.1)))) (Kd.R_typed (rlu ((Kd.R_mono (Kd.R_far (p := ⟨Jb, 2, none⟩) (Kd.R_far (p := ⟨Jb, 1, none⟩) (Kd.R_far (p := ⟨Jb, 0, none⟩) (Kd.R_types Jk.out Jd.out (by decide)) (fun _ hk => hk.2) (.int .u64 Qx)) (fun _ hk => hk.2) (.slice Q0 Qy.length Q1)) (fun _ hk => hk.2) (.slice Q5 Qz.length Q6)) (fun _ h_ => h_.1))))) (by decide) hg); have n6_ := aA (Kd.V_afterv (ok := (fun k_ => k_ ≠ Jb ∧ k_ ≠ Jc ∧ k_ ≠ Jm)) (vlu (Kd.V_mono (Kd.V_far (p := ⟨Jb, 2, none⟩) (Kd.V_far (p := ⟨Jb, 1, none⟩) (Kd.V_far (p := ⟨Jb, 0, none⟩) (Kd.V_mono Zg.out (fun k_ hk => (⟨hk, hk.2.1⟩ : _ ∧ k_ ≠ Jb))) (fun _ hk => hk.2) (.int .u64 Qx)) (fun _ hk => hk.2) (.slice Q0 Qy.length Q1)) (fun _ hk => hk.2) (.slice Q5 Qz.length Q6)) (fun _ hk => ⟨⟨hk.1.2.1, ⟨hk.1.2.2.1, hk.1.2.2.2⟩⟩, hk.1.1⟩))) hg hat); have n7_ := aA (Kd.V_afterv (ok := (fun k_ => k_ ≠ Jb ∧ k_ ≠ Jc ∧ k_ ≠ Jm)) (vlu (Kd.V_mono (Kd.V_far (p := ⟨Jb, 2, none⟩) (Kd.V_far (p := ⟨Jb, 1, none⟩) (Kd.V_far (p := ⟨Jb, 0, none⟩) (Kd.V_mono Zh.out (fun k_ hk => (⟨hk, hk.2.1⟩ : _ ∧ k_ ≠ Jb))) (fun _ hk => hk.2) (.int .u64 Qx)) (fun _ hk => hk.2) (.slice Q0 Qy.length Q1)) (fun _ hk => hk.2) (.slice Q5 Qz.length Q6)) (fun _ hk => ⟨⟨hk.1.2.1, ⟨hk.1.2.2.1, hk.1.2.2.2⟩⟩, hk.1.1⟩))) hg hat); have n8_ := aA (hb); have n9_ := aA (ho); clear Jf Jg Jd Je Jp Qh Zg Zh HB Jk; have Jf := n0_; have Jg := n1_; have Jd := n2_; have Je := n3_; have Jp := n4_; have Qh := n5_; have Zg := n6_; have Zh := n7_; have HB := n8_; have HO177 := n9_; clear n0_ n1_ n2_ n3_ n4_ n5_ n6_ n7_ n8_ n9_ ho hb hg hat))
              go_roundg k3
              case measure => have := HJ1.out; have := HK2.out; have := HK3.out; omega
              case rel => exact ⟨(Ft), (wrap64 (Ja + 1)), (Qx), (Qy), (Qz), (.slice Q0 Qy.length Q1), (.slice Q5 Qz.length Q6), (by first | rfl | (simp; done) | (simp [*]; done) | (simp; exact wrapin_ (by assumption) (by assumption))), H', ⟨by have := HJ1.out; have := HK2.out; have := HK3.out; omega⟩, ⟨by (with_reducible repeat (first | apply Kd.R_alloc | apply Kd.R_drewN | apply Kd.R_drew)); exact Kd.R_mono HO177.out (fun _ hk => trivial)⟩, ⟨by (with_reducible repeat (first | apply Kd.V_alloc | apply Kd.V_drewN | apply Kd.V_drew)); exact Kd.V_mono Zg.out (fun _ hk => ⟨hk.2, hk.1.1⟩)⟩, ⟨by (with_reducible repeat (first | apply Kd.V_alloc | apply Kd.V_drewN | apply Kd.V_drew)); exact Kd.V_mono Zh.out (fun _ hk => ⟨hk.2, hk.1.1⟩)⟩, ⟨by (with_reducible repeat (first | refine blk_drewN ?_ _ | refine blk_drew ?_ | refine blk_alloc ?_ _)); exact Jd.out⟩, ⟨by repeat (first | (with_reducible first | exact HB.out | apply below_alloc | apply pw_below_drewN | apply below_drew1 | refine below_set ?_ Qc.out | refine below_set ?_ J8.out | refine below_set ?_ Y6.out) | exact HB.out)⟩⟩
          ·rw [if_neg c75] at H; have c75b0 : (((rd_T42 l0 Ja).f0) == 2) = false := beq_eq_false_iff_ne.mpr c75; have c75b1 : (((rd_T42 l0 Ja).f0) != 2) = true := bne_iff_ne.mpr c75; replace H := Option.bind_eq_some_iff.mp H; obtain ⟨⟨J9, J4, J7, Jz, Ql, t191⟩, A1320, H⟩ := H; replace H : (treillagelaw14_EpochHolds.l3 k2 l0 Jw Ja 0 J9 J4 J7 Jz Ql) = some r := H; have A132 := aA A1320; clear A1320; have H' := aA H; clear H; have p141 : 0 ≤ (Ja : Int) := of_decide_eq_true (by first | (with_reducible assumption) | assumption); have q141 : Ja < (l0.length : Int) := of_decide_eq_true (by first | (with_reducible assumption) | assumption); obtain ⟨ad141, A141_3, c141_3, A141_4, c141_4, e141, hx141_0, hx141_1, hx141_2, hx141_3, hx141_4, hl141_3, hi141_3, hl141_4, hi141_4⟩ := at_T42 HR0.out Ja p141 q141; cases e141
           replace hx141_0 := (HB.out.cell (World.block_lt_of_cell? w _ hx141_0)).trans hx141_0; replace hx141_1 := (HB.out.cell (World.block_lt_of_cell? w _ hx141_1)).trans hx141_1; replace hx141_2 := (HB.out.cell (World.block_lt_of_cell? w _ hx141_2)).trans hx141_2; replace hx141_3 := (HB.out.cell (World.block_lt_of_cell? w _ hx141_3)).trans hx141_3; replace hx141_4 := (HB.out.cell (World.block_lt_of_cell? w _ hx141_4)).trans hx141_4; have HR141_3 := aA hi141_3; have HC141_3 := aA hl141_3; clear hi141_3 hl141_3; have HR141_4 := aA hi141_4; have HC141_4 := aA hl141_4; clear hi141_4 hl141_4; replace p141 := eq_true p141; replace q141 := eq_true q141; go_wp2_with (first | ((with_reducible refine gate_dst (N := 6) rfl ?_); refine box_event ?hg (N := 6) ?hd (cs := #[.int .i64 0, .int .i64 0, .int .u64 0, .slice none 0 0, .slice none 0 0]) (t := 42) ?hr ?_; (case hd => rfl); (case hg => rfl); (case hr => first | (go_simp; done) | (go_simp; rfl)); intro Jc hg w133 hbox hb; have n0_ := aA (Kd.R_below (rlu Jk.out) hb); have n1_ := aA (Kd.V_below (Kd.V_elderB (vlu Jf.out) Jc (Nat.le_of_eq hg.symm)) hb); have n2_ := aA (Kd.V_below (Kd.V_elderB (vlu Jg.out) Jc (Nat.le_of_eq hg.symm)) hb); have n3_ := aA (blk_below (g := Jb) (o := .cells #[.int .u64 Ji, u138001, u138002] 26 (0, 0)) (bku Jd.out) hb); have n4_ := aA (below_step (bls HB.out) hb); have n5_ := aA (hbox); have n6_ := aA ((by rw [hg]; exact (below_size (bls HB.out)) : w.heap.size ≤ Jc)); have n7_ := aA ((by rw [hg]; exact (below_size (bls HB.out)) : w.heap.size ≤ Jc)); have n8_ := aA ((by rw [hg]; exact Nat.ne_of_lt (blk_lt (g := Jb) (o := .cells #[.int .u64 Ji, u138001, u138002] 26 (0, 0)) (bku Jd.out)) : Jb ≠ Jc)); have n9_ := aA ((by rw [hg]; exact Nat.ne_of_gt (blk_lt (g := Jb) (o := .cells #[.int .u64 Ji, u138001, u138002] 26 (0, 0)) (bku Jd.out)) : Jc ≠ Jb)); clear Jk Jf Jg Jd HB; have Jk := n0_; have Jf := n1_; have Jg := n2_; have Jd := n3_; have HB := n4_; have Je := n5_; have Fd := n6_; have J8 := n7_; have Jo := n8_; have Jy := n9_; clear n0_ n1_ n2_ n3_ n4_ n5_ n6_ n7_ n8_ n9_ hb hbox hg; have hnb134 := Jy.out; have hnc134 := Jo.out; have hcz135_0 : w133.cell? ⟨Jc, 0, none⟩ = some (.int .i64 0) := (blk_cell Je.out 0).trans rfl; have hcz135_1 : w133.cell? ⟨Jc, 1, none⟩ = some (.int .i64 0) := (blk_cell Je.out 1).trans rfl; have hcz135_2 : w133.cell? ⟨Jc, 2, none⟩ = some (.int .u64 0) := (blk_cell Je.out 2).trans rfl; have hcz135_3 : w133.cell? ⟨Jc, 3, none⟩ = some (.slice none 0 0) := (blk_cell Je.out 3).trans rfl; have hcz135_4 : w133.cell? ⟨Jc, 4, none⟩ = some (.slice none 0 0) := (blk_cell Je.out 4).trans rfl; have hfz135_0 := blk_frozen Je.out 0; have hfz135_1 := blk_frozen Je.out 1; have hfz135_2 := blk_frozen Je.out 2; have hfz135_3 := blk_frozen Je.out 3; have hfz135_4 := blk_frozen Je.out 4) | ((with_reducible refine gate_store (t := 42) (p := 6) rfl ?_); refine store_event (t := 42) (p := 6) (v := ?vo_w136) (w1 := (((((w133.setCell ⟨Jc, 0, none⟩ (.int .i64 ((rd_T42 l0 Ja).f0))).setCell ⟨Jc, 1, none⟩ (.int .i64 ((rd_T42 l0 Ja).f1))).setCell ⟨Jc, 2, none⟩ (.int .u64 ((rd_T42 l0 Ja).f2))).setCell ⟨Jc, 3, none⟩ (.slice A141_3 ((rd_T42 l0 Ja).f3.f0).length c141_3)).setCell ⟨Jc, 4, none⟩ (.slice A141_4 ((rd_T42 l0 Ja).f3.f1).length c141_4))) ?hg ?ho ?hn ?hr ?_; (case ho => rfl); (case hg => rfl); (case hn => rfl); (case hr => first | (go_simp; done) | (go_simp; rfl)); intro w136 hw; have n0_ : Aside0 (Kd.R k60 60 w136 w.heap.size (fun _ => True) u4 Jw) := ⟨(by rw [hw]; exact (rlu (Kd.R_mono (Kd.R_far (p := ⟨Jc, 4, none⟩) (Kd.R_far (p := ⟨Jc, 3, none⟩) (Kd.R_far (p := ⟨Jc, 2, none⟩) (Kd.R_far (p := ⟨Jc, 1, none⟩) (Kd.R_far (p := ⟨Jc, 0, none⟩) (Kd.R_types Jk.out Je.out (by decide)) (fun _ hk => hk.2) (.int .i64 ((rd_T42 l0 Ja).f0))) (fun _ hk => hk.2) (.int .i64 ((rd_T42 l0 Ja).f1))) (fun _ hk => hk.2) (.int .u64 ((rd_T42 l0 Ja).f2))) (fun _ hk => hk.2) (.slice A141_3 ((rd_T42 l0 Ja).f3.f0).length c141_3)) (fun _ hk => hk.2) (.slice A141_4 ((rd_T42 l0 Ja).f3.f1).length c141_4)) (fun _ hk => trivial))))⟩; have n1_ : Aside0 (Kd.V (Kd.int .u64) 22 w136 w.heap.size (fun k_ => some k_ ≠ (u4 : Value).ownBlock ∧ k_ ≠ Jb ∧ k_ ≠ Jc) u138001 Jh) := ⟨(by rw [hw]; exact (vlu (Kd.V_mono (Kd.V_far (p := ⟨Jc, 4, none⟩) (Kd.V_far (p := ⟨Jc, 3, none⟩) (Kd.V_far (p := ⟨Jc, 2, none⟩) (Kd.V_far (p := ⟨Jc, 1, none⟩) (Kd.V_far (p := ⟨Jc, 0, none⟩) (Kd.V_mono Jf.out (fun k_ hk => (⟨hk, hk.2⟩ : _ ∧ k_ ≠ Jc))) (fun _ hk => hk.2) (.int .i64 ((rd_T42 l0 Ja).f0))) (fun _ hk => hk.2) (.int .i64 ((rd_T42 l0 Ja).f1))) (fun _ hk => hk.2) (.int .u64 ((rd_T42 l0 Ja).f2))) (fun _ hk => hk.2) (.slice A141_3 ((rd_T42 l0 Ja).f3.f0).length c141_3)) (fun _ hk => hk.2) (.slice A141_4 ((rd_T42 l0 Ja).f3.f1).length c141_4)) (fun _ hk => ⟨hk.1.1.1, ⟨hk.1.1.2, hk.1.2⟩⟩))))⟩; have n2_ : Aside0 (Kd.V k64 64 w136 w.heap.size (fun k_ => some k_ ≠ (u4 : Value).ownBlock ∧ k_ ≠ Jb ∧ k_ ≠ Jc) u138002 Jl) := ⟨(by rw [hw]; exact (vlu (Kd.V_mono (Kd.V_far (p := ⟨Jc, 4, none⟩) (Kd.V_far (p := ⟨Jc, 3, none⟩) (Kd.V_far (p := ⟨Jc, 2, none⟩) (Kd.V_far (p := ⟨Jc, 1, none⟩) (Kd.V_far (p := ⟨Jc, 0, none⟩) (Kd.V_mono Jg.out (fun k_ hk => (⟨hk, hk.2⟩ : _ ∧ k_ ≠ Jc))) (fun _ hk => hk.2) (.int .i64 ((rd_T42 l0 Ja).f0))) (fun _ hk => hk.2) (.int .i64 ((rd_T42 l0 Ja).f1))) (fun _ hk => hk.2) (.int .u64 ((rd_T42 l0 Ja).f2))) (fun _ hk => hk.2) (.slice A141_3 ((rd_T42 l0 Ja).f3.f0).length c141_3)) (fun _ hk => hk.2) (.slice A141_4 ((rd_T42 l0 Ja).f3.f1).length c141_4)) (fun _ hk => ⟨hk.1.1.1, ⟨hk.1.1.2, hk.1.2⟩⟩))))⟩; have n3_ : Aside0 (w136.heap[Jb]? = some (.cells #[.int .u64 Ji, u138001, u138002] 26 (0, 0))) := ⟨(by rw [hw]; exact (by (with_reducible repeat (first | refine blk_drewN ?_ _ | refine blk_drew ?_ | refine blk_alloc ?_ _)); refine blk_far ?_ Jo.out _; (with_reducible repeat (first | refine blk_drewN ?_ _ | refine blk_drew ?_ | refine blk_alloc ?_ _)); refine blk_far ?_ Jo.out _; (with_reducible repeat (first | refine blk_drewN ?_ _ | refine blk_drew ?_ | refine blk_alloc ?_ _)); refine blk_far ?_ Jo.out _; (with_reducible repeat (first | refine blk_drewN ?_ _ | refine blk_drew ?_ | refine blk_alloc ?_ _)); refine blk_far ?_ Jo.out _; (with_reducible repeat (first | refine blk_drewN ?_ _ | refine blk_drew ?_ | refine blk_alloc ?_ _)); refine blk_far ?_ Jo.out _; (with_reducible repeat (first | refine blk_drewN ?_ _ | refine blk_drew ?_ | refine blk_alloc ?_ _)); exact Jd.out))⟩; have n4_ : Aside0 (w136.heap[Jc]? = some (.cells #[.int .i64 ((rd_T42 l0 Ja).f0), .int .i64 ((rd_T42 l0 Ja).f1), .int .u64 ((rd_T42 l0 Ja).f2), .slice A141_3 ((rd_T42 l0 Ja).f3.f0).length c141_3, .slice A141_4 ((rd_T42 l0 Ja).f3.f1).length c141_4] 42 (0, 0))) := ⟨(by rw [hw]; exact (by (with_reducible repeat (first | refine blk_drewN ?_ _ | refine blk_drew ?_ | refine blk_alloc ?_ _)); refine blk_put (cs := #[.int .i64 ((rd_T42 l0 Ja).f0), .int .i64 ((rd_T42 l0 Ja).f1), .int .u64 ((rd_T42 l0 Ja).f2), .slice A141_3 ((rd_T42 l0 Ja).f3.f0).length c141_3, .slice none 0 0]) ?_ 4 _ rfl; (with_reducible repeat (first | refine blk_drewN ?_ _ | refine blk_drew ?_ | refine blk_alloc ?_ _)); refine blk_put (cs := #[.int .i64 ((rd_T42 l0 Ja).f0), .int .i64 ((rd_T42 l0 Ja).f1), .int .u64 ((rd_T42 l0 Ja).f2), .slice none 0 0, .slice none 0 0]) ?_ 3 _ rfl; (with_reducible repeat (first | refine blk_drewN ?_ _ | refine blk_drew ?_ | refine blk_alloc ?_ _)); refine blk_put (cs := #[.int .i64 ((rd_T42 l0 Ja).f0), .int .i64 ((rd_T42 l0 Ja).f1), .int .u64 0, .slice none 0 0, .slice none 0 0]) ?_ 2 _ rfl; (with_reducible repeat (first | refine blk_drewN ?_ _ | refine blk_drew ?_ | refine blk_alloc ?_ _)); refine blk_put (cs := #[.int .i64 ((rd_T42 l0 Ja).f0), .int .i64 0, .int .u64 0, .slice none 0 0, .slice none 0 0]) ?_ 1 _ rfl; (with_reducible repeat (first | refine blk_drewN ?_ _ | refine blk_drew ?_ | refine blk_alloc ?_ _)); refine blk_put (cs := #[.int .i64 0, .int .i64 0, .int .u64 0, .slice none 0 0, .slice none 0 0]) ?_ 0 _ rfl; (with_reducible repeat (first | refine blk_drewN ?_ _ | refine blk_drew ?_ | refine blk_alloc ?_ _)); exact Je.out))⟩; have n5_ : Aside0 (Below w.heap.size w w136) := ⟨(by rw [hw]; exact (bls HB.out))⟩; clear hw Jk Jf Jg Jd Je HB; have Jk := n0_; have Jf := n1_; have Jg := n2_; have Jd := n3_; have Je := n4_; have HB := n5_; clear n0_ n1_ n2_ n3_ n4_ n5_; have hcz137_0 : w136.cell? ⟨Jc, 0, none⟩ = some (.int .i64 ((rd_T42 l0 Ja).f0)) := (blk_cell Je.out 0).trans rfl; have hcz137_1 : w136.cell? ⟨Jc, 1, none⟩ = some (.int .i64 ((rd_T42 l0 Ja).f1)) := (blk_cell Je.out 1).trans rfl; have hcz137_2 : w136.cell? ⟨Jc, 2, none⟩ = some (.int .u64 ((rd_T42 l0 Ja).f2)) := (blk_cell Je.out 2).trans rfl; have hcz137_3 : w136.cell? ⟨Jc, 3, none⟩ = some (.slice A141_3 ((rd_T42 l0 Ja).f3.f0).length c141_3) := (blk_cell Je.out 3).trans rfl; have hcz137_4 : w136.cell? ⟨Jc, 4, none⟩ = some (.slice A141_4 ((rd_T42 l0 Ja).f3.f1).length c141_4) := (blk_cell Je.out 4).trans rfl; have hfz137_0 := blk_frozen Je.out 0; have hfz137_1 := blk_frozen Je.out 1; have hfz137_2 := blk_frozen Je.out 2; have hfz137_3 := blk_frozen Je.out 3; have hfz137_4 := blk_frozen Je.out 4; have hcz138_0 : w136.cell? ⟨Jb, 0, none⟩ = some (.int .u64 Ji) := (blk_cell Jd.out 0).trans rfl; have hcz138_1 : w136.cell? ⟨Jb, 1, none⟩ = some (u138001) := (blk_cell Jd.out 1).trans rfl; have hcz138_2 : w136.cell? ⟨Jb, 2, none⟩ = some (u138002) := (blk_cell Jd.out 2).trans rfl; have hfz138_0 := blk_frozen Jd.out 0; have hfz138_1 := blk_frozen Jd.out 1; have hfz138_2 := blk_frozen Jd.out 2; obtain ⟨Qs, Qt, eo139⟩ := Kd.V_slice Jf.out; subst eo139; obtain ⟨Qq, Qr, eo140⟩ := Kd.V_slice Jg.out; subst eo140) | ((with_reducible refine gate_callee (f := 10) rfl ?_); refine goesL_ (some 46) rfl rfl Try.func10 (by kernel_rfl) rfl #[.agg #[.int .u64 Ji, .slice Qs Jh.length Qt, .slice Qq Jl.length Qr]] rfl (by (try simp only [List.map_toArray, List.map_cons, List.map_nil]); first | done | rfl | (simp only [List.length_drop, List.length_take]; rfl)) ?_; (with_reducible refine (epoch_Advance.calls k2 Ji (fun k_ => (some k_ ≠ (u4 : Value).ownBlock ∧ (k_ ≠ Jb ∧ k_ ≠ Jc))) _ _ Jh (fun k_ => (some k_ ≠ (u4 : Value).ownBlock ∧ (k_ ≠ Jb ∧ k_ ≠ Jc))) _ _ Jl J9 J4 J7 Jz Ql t191 _ ?side1 ?side2 A132.out).mono ?_); (case side1 => first | exact Jf.out | exact V_below Jf.out (blw (Below.refl _ _)) (fun k_ hk_ => by first | exact hk_ | exact ⟨⟨hk_.1, hk_.2.1⟩, hk_.2.2⟩)); (case side2 => first | exact Jg.out | exact V_below Jg.out (blw (Below.refl _ _)) (fun k_ hk_ => by first | exact hk_ | exact ⟨⟨hk_.1, hk_.2.1⟩, hk_.2.2⟩)); rintro e w141 ⟨v180, v183, v186, v189, rfl, ho0, ho1, ho2, ho3, hb⟩; refine ⟨_, rfl, ?_⟩; have n0_ := aA (Kd.R_below (rlu Jk.out) hb); have n1_ := aA (Kd.V_mono (Kd.V_told (Kd.V_told (Kd.V_old (vlu Jf.out) hb) (Kd.R_base ho2)) (Kd.R_base ho3)) (fun _ h_ => h_.1)); have n2_ := aA (Kd.V_mono (Kd.V_told (Kd.V_told (Kd.V_old (vlu Jg.out) hb) (Kd.R_base ho2)) (Kd.R_base ho3)) (fun _ h_ => h_.1)); have n3_ := aA (Kd.V_lower (Kd.V_mono (ok' := fun k_ => some k_ ≠ (v186 : Value).ownBlock ∧ some k_ ≠ (v189 : Value).ownBlock ∧ some k_ ≠ (u4 : Value).ownBlock ∧ k_ ≠ Jb ∧ k_ ≠ Jc) ho0 (fun k_ hk_ => ⟨hk_.2.1, hk_.2.2, Or.elim hk_.1 (fun hs_ => Or.elim hs_ (fun hs_ => hs_.1) (fun hs_ => hs_.1)) (fun hn_ => (Kd.fresh' (Kd.R_lt (rlu Jk.out)) k_ hn_)), Or.elim hk_.1 (fun hs_ => Or.elim hs_ (fun hs_ => hs_.2.1) (fun hs_ => hs_.2.1)) (fun hn_ => (Kd.freshB (g := Jb) (o := .cells #[.int .u64 Ji, .slice Qs Jh.length Qt, .slice Qq Jl.length Qr] 26 (0, 0)) (bku Jd.out) k_ hn_)), Or.elim hk_.1 (fun hs_ => Or.elim hs_ (fun hs_ => hs_.2.2) (fun hs_ => hs_.2.2)) (fun hn_ => (Kd.freshB (g := Jc) (o := .cells #[.int .i64 ((rd_T42 l0 Ja).f0), .int .i64 ((rd_T42 l0 Ja).f1), .int .u64 ((rd_T42 l0 Ja).f2), .slice A141_3 ((rd_T42 l0 Ja).f3.f0).length c141_3, .slice A141_4 ((rd_T42 l0 Ja).f3.f1).length c141_4] 42 (0, 0)) (bku Je.out) k_ hn_))⟩)) (below_size (bls HB.out))); have n4_ := aA (Kd.V_lower (Kd.V_mono (ok' := fun k_ => some k_ ≠ (v186 : Value).ownBlock ∧ some k_ ≠ (v189 : Value).ownBlock ∧ some k_ ≠ (u4 : Value).ownBlock ∧ k_ ≠ Jb ∧ k_ ≠ Jc) ho1 (fun k_ hk_ => ⟨hk_.2.1, hk_.2.2, Or.elim hk_.1 (fun hs_ => Or.elim hs_ (fun hs_ => hs_.1) (fun hs_ => hs_.1)) (fun hn_ => (Kd.fresh' (Kd.R_lt (rlu Jk.out)) k_ hn_)), Or.elim hk_.1 (fun hs_ => Or.elim hs_ (fun hs_ => hs_.2.1) (fun hs_ => hs_.2.1)) (fun hn_ => (Kd.freshB (g := Jb) (o := .cells #[.int .u64 Ji, .slice Qs Jh.length Qt, .slice Qq Jl.length Qr] 26 (0, 0)) (bku Jd.out) k_ hn_)), Or.elim hk_.1 (fun hs_ => Or.elim hs_ (fun hs_ => hs_.2.2) (fun hs_ => hs_.2.2)) (fun hn_ => (Kd.freshB (g := Jc) (o := .cells #[.int .i64 ((rd_T42 l0 Ja).f0), .int .i64 ((rd_T42 l0 Ja).f1), .int .u64 ((rd_T42 l0 Ja).f2), .slice A141_3 ((rd_T42 l0 Ja).f3.f0).length c141_3, .slice A141_4 ((rd_T42 l0 Ja).f3.f1).length c141_4] 42 (0, 0)) (bku Je.out) k_ hn_))⟩)) (below_size (bls HB.out))); have n5_ := aA (Kd.R_lower (Kd.R_mono (ok' := fun k_ => some k_ ≠ (v189 : Value).ownBlock) ho2 (fun _ hk_ => hk_.2)) (below_size (bls HB.out))); have n6_ := aA (Kd.R_lower (Kd.R_mono (ok' := fun k_ => some k_ ≠ (v186 : Value).ownBlock) ho3 (fun _ hk_ => hk_.2)) (below_size (bls HB.out))); have n7_ := aA (blk_below (g := Jb) (o := .cells #[.int .u64 Ji, .slice Qs Jh.length Qt, .slice Qq Jl.length Qr] 26 (0, 0)) (bku Jd.out) hb); have n8_ := aA (blk_below (g := Jc) (o := .cells #[.int .i64 ((rd_T42 l0 Ja).f0), .int .i64 ((rd_T42 l0 Ja).f1), .int .u64 ((rd_T42 l0 Ja).f2), .slice A141_3 ((rd_T42 l0 Ja).f3.f0).length c141_3, .slice A141_4 ((rd_T42 l0 Ja).f3.f1).length c141_4] 42 (0, 0)) (bku Je.out) hb); have n9_ := aA (below_step (bls HB.out) hb); clear Jk Jf Jg Jd Je HB; have Jk := n0_; have Jf := n1_; have Jg := n2_; have Q7 := n3_; have Q8 := n4_; have Yg := n5_; have Yh := n6_; have Jd := n7_; have Je := n8_; have HB := n9_; clear n0_ n1_ n2_ n3_ n4_ n5_ n6_ n7_ n8_ n9_; (try clear hb); (try clear hb2); (try clear hk); (try clear hi); (try clear ho0); (try clear ho1); (try clear ho2); (try clear ho3)) | ((with_reducible refine gate_dst (N := 11) rfl ?_); refine box_event ?hg (N := 11) ?hd (cs := #[.int .u64 0, .slice none 0 0, .slice none 0 0]) (t := 26) ?hr ?_; (case hd => rfl); (case hg => rfl); (case hr => first | (go_simp; done) | (go_simp; rfl)); intro Jv hg w142 hbox hb; have n0_ := aA (Kd.R_below (rlu Jk.out) hb); have n1_ := aA (Kd.V_below (Kd.V_elderB (vlu Jf.out) Jv (Nat.le_of_eq hg.symm)) hb); have n2_ := aA (Kd.V_below (Kd.V_elderB (vlu Jg.out) Jv (Nat.le_of_eq hg.symm)) hb); have n3_ := aA (Kd.V_below (Kd.V_elderB (vlu Q7.out) Jv (Nat.le_of_eq hg.symm)) hb); have n4_ := aA (Kd.V_below (Kd.V_elderB (vlu Q8.out) Jv (Nat.le_of_eq hg.symm)) hb); have n5_ := aA (Kd.R_below (rlu Yg.out) hb); have n6_ := aA (Kd.R_below (rlu Yh.out) hb); have n7_ := aA (blk_below (g := Jb) (o := .cells #[.int .u64 Ji, .slice Qs Jh.length Qt, .slice Qq Jl.length Qr] 26 (0, 0)) (bku Jd.out) hb); have n8_ := aA (blk_below (g := Jc) (o := .cells #[.int .i64 ((rd_T42 l0 Ja).f0), .int .i64 ((rd_T42 l0 Ja).f1), .int .u64 ((rd_T42 l0 Ja).f2), .slice A141_3 ((rd_T42 l0 Ja).f3.f0).length c141_3, .slice A141_4 ((rd_T42 l0 Ja).f3.f1).length c141_4] 42 (0, 0)) (bku Je.out) hb); have n9_ := aA (below_step (bls HB.out) hb); have n10_ := aA (hbox); have n11_ := aA ((by rw [hg]; exact (below_size (bls HB.out)) : w.heap.size ≤ Jv)); have n12_ := aA ((by rw [hg]; exact (below_size (bls HB.out)) : w.heap.size ≤ Jv)); have n13_ := aA ((by rw [hg]; exact Nat.ne_of_lt (blk_lt (g := Jb) (o := .cells #[.int .u64 Ji, .slice Qs Jh.length Qt, .slice Qq Jl.length Qr] 26 (0, 0)) (bku Jd.out)) : Jb ≠ Jv)); have n14_ := aA ((by rw [hg]; exact Nat.ne_of_gt (blk_lt (g := Jb) (o := .cells #[.int .u64 Ji, .slice Qs Jh.length Qt, .slice Qq Jl.length Qr] 26 (0, 0)) (bku Jd.out)) : Jv ≠ Jb)); have n15_ := aA ((by rw [hg]; exact Nat.ne_of_lt (blk_lt (g := Jc) (o := .cells #[.int .i64 ((rd_T42 l0 Ja).f0), .int .i64 ((rd_T42 l0 Ja).f1), .int .u64 ((rd_T42 l0 Ja).f2), .slice A141_3 ((rd_T42 l0 Ja).f3.f0).length c141_3, .slice A141_4 ((rd_T42 l0 Ja).f3.f1).length c141_4] 42 (0, 0)) (bku Je.out)) : Jc ≠ Jv)); have n16_ := aA ((by rw [hg]; exact Nat.ne_of_gt (blk_lt (g := Jc) (o := .cells #[.int .i64 ((rd_T42 l0 Ja).f0), .int .i64 ((rd_T42 l0 Ja).f1), .int .u64 ((rd_T42 l0 Ja).f2), .slice A141_3 ((rd_T42 l0 Ja).f3.f0).length c141_3, .slice A141_4 ((rd_T42 l0 Ja).f3.f1).length c141_4] 42 (0, 0)) (bku Je.out)) : Jv ≠ Jc)); clear Jk Jf Jg Q7 Q8 Yg Yh Jd Je HB; have Jk := n0_; have Jf := n1_; have Jg := n2_; have Q7 := n3_; have Q8 := n4_; have Yg := n5_; have Yh := n6_; have Jd := n7_; have Je := n8_; have HB := n9_; have Qe := n10_; have GW192 := n11_; have Fh := n12_; have Yi := n13_; have Yj := n14_; have Yk := n15_; have NB192_142 := n16_; clear n0_ n1_ n2_ n3_ n4_ n5_ n6_ n7_ n8_ n9_ n10_ n11_ n12_ n13_ n14_ n15_ n16_ hb hbox hg) | ((with_reducible refine gate_dst (N := 12) rfl ?_); refine box_event ?hg (N := 12) ?hd (cs := #[.slice none 0 0, .slice none 0 0]) (t := 30) ?hr ?_; (case hd => rfl); (case hg => rfl); (case hr => first | (go_simp; done) | (go_simp; rfl)); intro Jx hg w143 hbox hb; have n0_ := aA (Kd.R_below (rlu Jk.out) hb); have n1_ := aA (Kd.V_below (Kd.V_elderB (vlu Jf.out) Jx (Nat.le_of_eq hg.symm)) hb); have n2_ := aA (Kd.V_below (Kd.V_elderB (vlu Jg.out) Jx (Nat.le_of_eq hg.symm)) hb); have n3_ := aA (Kd.V_below (Kd.V_elderB (vlu Q7.out) Jx (Nat.le_of_eq hg.symm)) hb); have n4_ := aA (Kd.V_below (Kd.V_elderB (vlu Q8.out) Jx (Nat.le_of_eq hg.symm)) hb); have n5_ := aA (Kd.R_below (rlu Yg.out) hb); have n6_ := aA (Kd.R_below (rlu Yh.out) hb); have n7_ := aA (blk_below (g := Jb) (o := .cells #[.int .u64 Ji, .slice Qs Jh.length Qt, .slice Qq Jl.length Qr] 26 (0, 0)) (bku Jd.out) hb); have n8_ := aA (blk_below (g := Jc) (o := .cells #[.int .i64 ((rd_T42 l0 Ja).f0), .int .i64 ((rd_T42 l0 Ja).f1), .int .u64 ((rd_T42 l0 Ja).f2), .slice A141_3 ((rd_T42 l0 Ja).f3.f0).length c141_3, .slice A141_4 ((rd_T42 l0 Ja).f3.f1).length c141_4] 42 (0, 0)) (bku Je.out) hb); have n9_ := aA (blk_below (g := Jv) (o := .cells #[.int .u64 0, .slice none 0 0, .slice none 0 0] 26 (0, 0)) (bku Qe.out) hb); have n10_ := aA (below_step (bls HB.out) hb); have n11_ := aA (hbox); have n12_ := aA ((by rw [hg]; exact (below_size (bls HB.out)) : w.heap.size ≤ Jx)); have n13_ := aA ((by rw [hg]; exact (below_size (bls HB.out)) : w.heap.size ≤ Jx)); have n14_ := aA ((by rw [hg]; exact Nat.ne_of_lt (blk_lt (g := Jb) (o := .cells #[.int .u64 Ji, .slice Qs Jh.length Qt, .slice Qq Jl.length Qr] 26 (0, 0)) (bku Jd.out)) : Jb ≠ Jx)); have n15_ := aA ((by rw [hg]; exact Nat.ne_of_gt (blk_lt (g := Jb) (o := .cells #[.int .u64 Ji, .slice Qs Jh.length Qt, .slice Qq Jl.length Qr] 26 (0, 0)) (bku Jd.out)) : Jx ≠ Jb)); have n16_ := aA ((by rw [hg]; exact Nat.ne_of_lt (blk_lt (g := Jc) (o := .cells #[.int .i64 ((rd_T42 l0 Ja).f0), .int .i64 ((rd_T42 l0 Ja).f1), .int .u64 ((rd_T42 l0 Ja).f2), .slice A141_3 ((rd_T42 l0 Ja).f3.f0).length c141_3, .slice A141_4 ((rd_T42 l0 Ja).f3.f1).length c141_4] 42 (0, 0)) (bku Je.out)) : Jc ≠ Jx)); have n17_ := aA ((by rw [hg]; exact Nat.ne_of_gt (blk_lt (g := Jc) (o := .cells #[.int .i64 ((rd_T42 l0 Ja).f0), .int .i64 ((rd_T42 l0 Ja).f1), .int .u64 ((rd_T42 l0 Ja).f2), .slice A141_3 ((rd_T42 l0 Ja).f3.f0).length c141_3, .slice A141_4 ((rd_T42 l0 Ja).f3.f1).length c141_4] 42 (0, 0)) (bku Je.out)) : Jx ≠ Jc)); have n18_ := aA ((by rw [hg]; exact Nat.ne_of_lt (blk_lt (g := Jv) (o := .cells #[.int .u64 0, .slice none 0 0, .slice none 0 0] 26 (0, 0)) (bku Qe.out)) : Jv ≠ Jx)); have n19_ := aA ((by rw [hg]; exact Nat.ne_of_gt (blk_lt (g := Jv) (o := .cells #[.int .u64 0, .slice none 0 0, .slice none 0 0] 26 (0, 0)) (bku Qe.out)) : Jx ≠ Jv)); clear Jk Jf Jg Q7 Q8 Yg Yh Jd Je Qe HB; have Jk := n0_; have Jf := n1_; have Jg := n2_; have Q7 := n3_; have Q8 := n4_; have Yg := n5_; have Yh := n6_; have Jd := n7_; have Je := n8_; have Qe := n9_; have HB := n10_; have Qd := n11_; have GW193 := n12_; have Fi := n13_; have Q2 := n14_; have Qv := n15_; have Q3 := n16_; have Yy := n17_; have Q4 := n18_; have Qw := n19_; clear n0_ n1_ n2_ n3_ n4_ n5_ n6_ n7_ n8_ n9_ n10_ n11_ n12_ n13_ n14_ n15_ n16_ n17_ n18_ n19_ hb hbox hg; have hnb144 := Yj.out; have hnc144 := Yi.out; have hnb145 := NB192_142.out; have hnc145 := Yk.out; have hnb146 := Q4.out; have hnc146 := Qw.out; have hcz147_0 : w143.cell? ⟨Jv, 0, none⟩ = some (.int .u64 0) := (blk_cell Qe.out 0).trans rfl; have hcz147_1 : w143.cell? ⟨Jv, 1, none⟩ = some (.slice none 0 0) := (blk_cell Qe.out 1).trans rfl; have hcz147_2 : w143.cell? ⟨Jv, 2, none⟩ = some (.slice none 0 0) := (blk_cell Qe.out 2).trans rfl; have hfz147_0 := blk_frozen Qe.out 0; have hfz147_1 := blk_frozen Qe.out 1; have hfz147_2 := blk_frozen Qe.out 2; obtain ⟨J5, J6, eo148⟩ := Kd.V_slice Q7.out; subst eo148; obtain ⟨Qa, Qb, eo149⟩ := Kd.V_slice Q8.out; subst eo149; obtain ⟨Qf, Qg, eo150⟩ := Kd.R_slice Yg.out; subst eo150; have hnb151 := Qv.out; have hnc151 := Q2.out; have hnb152 := Yy.out; have hnc152 := Q3.out; have hcz153_0 : w143.cell? ⟨Jx, 0, none⟩ = some (.slice none 0 0) := (blk_cell Qd.out 0).trans rfl; have hcz153_1 : w143.cell? ⟨Jx, 1, none⟩ = some (.slice none 0 0) := (blk_cell Qd.out 1).trans rfl; have hfz153_0 := blk_frozen Qd.out 0; have hfz153_1 := blk_frozen Qd.out 1; obtain ⟨Qi, Qj, eo154⟩ := Kd.R_slice Yh.out; subst eo154; have hcz155_0 : w143.cell? ⟨Jb, 0, none⟩ = some (.int .u64 Ji) := (blk_cell Jd.out 0).trans rfl; have hcz155_1 : w143.cell? ⟨Jb, 1, none⟩ = some (.slice Qs Jh.length Qt) := (blk_cell Jd.out 1).trans rfl; have hcz155_2 : w143.cell? ⟨Jb, 2, none⟩ = some (.slice Qq Jl.length Qr) := (blk_cell Jd.out 2).trans rfl; have hfz155_0 := blk_frozen Jd.out 0; have hfz155_1 := blk_frozen Jd.out 1; have hfz155_2 := blk_frozen Jd.out 2))
           go_loopg [14] k2 (fun kq v14 w' => ∃ (J0 : Int), v14 = .int .i64 J0 ∧ Aside0 (treillagelaw14_EpochHolds.l3 kq l0 Jw Ja J0 J9 J4 J7 Jz Ql = some r) ∧ Aside0 (kq ≤ k2) ∧ Aside0 (Kd.R k60 60 w' w.heap.size (fun _ => True) u4 Jw) ∧ Aside0 (Kd.V (Kd.int .u64) 22 w' w.heap.size (fun k_ => some k_ ≠ (u4 : Value).ownBlock ∧ some k_ ≠ ((.slice Qf Jz.length Qg) : Value).ownBlock ∧ some k_ ≠ ((.slice Qi Ql.length Qj) : Value).ownBlock ∧ k_ ≠ Jb ∧ k_ ≠ Jc ∧ k_ ≠ Jv ∧ k_ ≠ Jx) (.slice J5 J4.length J6) J4) ∧ Aside0 (Kd.V k64 64 w' w.heap.size (fun k_ => some k_ ≠ (u4 : Value).ownBlock ∧ some k_ ≠ ((.slice Qf Jz.length Qg) : Value).ownBlock ∧ some k_ ≠ ((.slice Qi Ql.length Qj) : Value).ownBlock ∧ k_ ≠ Jb ∧ k_ ≠ Jc ∧ k_ ≠ Jv ∧ k_ ≠ Jx) (.slice Qa J7.length Qb) J7) ∧ Aside0 (Kd.V (Kd.int .u64) 22 w' w.heap.size (fun k_ => some k_ ≠ (u4 : Value).ownBlock ∧ some k_ ≠ ((.slice Qf Jz.length Qg) : Value).ownBlock ∧ some k_ ≠ ((.slice Qi Ql.length Qj) : Value).ownBlock ∧ k_ ≠ Jb ∧ k_ ≠ Jc ∧ k_ ≠ Jv ∧ k_ ≠ Jx) (.slice J5 J4.length J6) J4) ∧ Aside0 (Kd.V k64 64 w' w.heap.size (fun k_ => some k_ ≠ (u4 : Value).ownBlock ∧ some k_ ≠ ((.slice Qf Jz.length Qg) : Value).ownBlock ∧ some k_ ≠ ((.slice Qi Ql.length Qj) : Value).ownBlock ∧ k_ ≠ Jb ∧ k_ ≠ Jc ∧ k_ ≠ Jv ∧ k_ ≠ Jx) (.slice Qa J7.length Qb) J7) ∧ Aside0 (Kd.R (Kd.int .u64) 22 w' w.heap.size (fun k_ => some k_ ≠ ((.slice Qi Ql.length Qj) : Value).ownBlock) (.slice Qf Jz.length Qg) Jz) ∧ Aside0 (Kd.R (Kd.int .u64) 22 w' w.heap.size (fun k_ => some k_ ≠ ((.slice Qf Jz.length Qg) : Value).ownBlock) (.slice Qi Ql.length Qj) Ql) ∧ Aside0 (w'.heap[Jb]? = some (.cells #[.int .u64 J9, (.slice J5 J4.length J6), (.slice Qa J7.length Qb)] 26 (0, 0))) ∧ Aside0 (w'.heap[Jc]? = some (.cells #[.int .i64 ((rd_T42 l0 Ja).f0), .int .i64 ((rd_T42 l0 Ja).f1), .int .u64 ((rd_T42 l0 Ja).f2), (.slice A141_3 ((rd_T42 l0 Ja).f3.f0).length c141_3), (.slice A141_4 ((rd_T42 l0 Ja).f3.f1).length c141_4)] 42 (0, 0))) ∧ Aside0 (w'.heap[Jv]? = some (.cells #[.int .u64 J9, (.slice J5 J4.length J6), (.slice Qa J7.length Qb)] 26 (0, 0))) ∧ Aside0 (w'.heap[Jx]? = some (.cells #[(.slice Qf Jz.length Qg), (.slice Qi Ql.length Qj)] 30 (0, 0))) ∧ Aside0 (Below w.heap.size w w'))
           case atStart => exact ⟨(0), (by first | rfl | (simp; done) | (simp [*]; done) | (simp; exact wrapin_ (by assumption) (by assumption))), H', ⟨Nat.le_refl _⟩, ⟨by (with_reducible repeat (first | apply Kd.R_alloc | apply Kd.R_drewN | apply Kd.R_drew)); exact Kd.R_mono (Kd.R_far (p := ⟨Jb, 2, none⟩) (Kd.R_far (p := ⟨Jb, 1, none⟩) (Kd.R_far (p := ⟨Jb, 0, none⟩) (Kd.R_far (p := ⟨Jx, 1, none⟩) (Kd.R_far (p := ⟨Jx, 0, none⟩) (Kd.R_far (p := ⟨Jv, 2, none⟩) (Kd.R_far (p := ⟨Jv, 1, none⟩) (Kd.R_far (p := ⟨Jv, 0, none⟩) (Kd.R_types (Kd.R_types (Kd.R_types Jk.out Qe.out (by decide)) Qd.out (by decide)) Jd.out (by decide)) (fun _ hk => hk.1.1.2) (.int .u64 J9)) (fun _ hk => hk.1.1.2) (.slice J5 J4.length J6)) (fun _ hk => hk.1.1.2) (.slice Qa J7.length Qb)) (fun _ hk => hk.1.2) (.slice Qf Jz.length Qg)) (fun _ hk => hk.1.2) (.slice Qi Ql.length Qj)) (fun _ hk => hk.2) (.int .u64 J9)) (fun _ hk => hk.2) (.slice J5 J4.length J6)) (fun _ hk => hk.2) (.slice Qa J7.length Qb)) (fun _ hk => trivial)⟩, ⟨by (with_reducible repeat (first | apply Kd.V_alloc | apply Kd.V_drewN | apply Kd.V_drew)); exact Kd.V_mono (Kd.V_far (p := ⟨Jb, 2, none⟩) (Kd.V_far (p := ⟨Jb, 1, none⟩) (Kd.V_far (p := ⟨Jb, 0, none⟩) (Kd.V_far (p := ⟨Jx, 1, none⟩) (Kd.V_far (p := ⟨Jx, 0, none⟩) (Kd.V_far (p := ⟨Jv, 2, none⟩) (Kd.V_far (p := ⟨Jv, 1, none⟩) (Kd.V_far (p := ⟨Jv, 0, none⟩) (Kd.V_mono (Kd.V_mono (Kd.V_mono Q7.out (fun k_ hk => (⟨hk, hk.1.2⟩ : _ ∧ k_ ≠ Jv))) (fun k_ hk => (⟨hk, hk.1.2⟩ : _ ∧ k_ ≠ Jx))) (fun k_ hk => (⟨hk, hk.1.1.1.1.2.2.2.1⟩ : _ ∧ k_ ≠ Jb))) (fun _ hk => hk.1.1.2) (.int .u64 J9)) (fun _ hk => hk.1.1.2) (.slice J5 J4.length J6)) (fun _ hk => hk.1.1.2) (.slice Qa J7.length Qb)) (fun _ hk => hk.1.2) (.slice Qf Jz.length Qg)) (fun _ hk => hk.1.2) (.slice Qi Ql.length Qj)) (fun _ hk => hk.2) (.int .u64 J9)) (fun _ hk => hk.2) (.slice J5 J4.length J6)) (fun _ hk => hk.2) (.slice Qa J7.length Qb)) (fun _ hk => ⟨hk.1.1.1.1.1.2.2.1, ⟨hk.1.1.1.1.1.1, ⟨hk.1.1.1.1.1.2.1, ⟨hk.1.1.1.1.1.2.2.2.1, ⟨hk.1.1.1.1.1.2.2.2.2, ⟨hk.1.1.1.1.2, hk.1.1.1.2⟩⟩⟩⟩⟩⟩)⟩, ⟨by (with_reducible repeat (first | apply Kd.V_alloc | apply Kd.V_drewN | apply Kd.V_drew)); exact Kd.V_mono (Kd.V_far (p := ⟨Jb, 2, none⟩) (Kd.V_far (p := ⟨Jb, 1, none⟩) (Kd.V_far (p := ⟨Jb, 0, none⟩) (Kd.V_far (p := ⟨Jx, 1, none⟩) (Kd.V_far (p := ⟨Jx, 0, none⟩) (Kd.V_far (p := ⟨Jv, 2, none⟩) (Kd.V_far (p := ⟨Jv, 1, none⟩) (Kd.V_far (p := ⟨Jv, 0, none⟩) (Kd.V_mono (Kd.V_mono (Kd.V_mono Q8.out (fun k_ hk => (⟨hk, hk.1.2⟩ : _ ∧ k_ ≠ Jv))) (fun k_ hk => (⟨hk, hk.1.2⟩ : _ ∧ k_ ≠ Jx))) (fun k_ hk => (⟨hk, hk.1.1.1.1.2.2.2.1⟩ : _ ∧ k_ ≠ Jb))) (fun _ hk => hk.1.1.2) (.int .u64 J9)) (fun _ hk => hk.1.1.2) (.slice J5 J4.length J6)) (fun _ hk => hk.1.1.2) (.slice Qa J7.length Qb)) (fun _ hk => hk.1.2) (.slice Qf Jz.length Qg)) (fun _ hk => hk.1.2) (.slice Qi Ql.length Qj)) (fun _ hk => hk.2) (.int .u64 J9)) (fun _ hk => hk.2) (.slice J5 J4.length J6)) (fun _ hk => hk.2) (.slice Qa J7.length Qb)) (fun _ hk => ⟨hk.1.1.1.1.1.2.2.1, ⟨hk.1.1.1.1.1.1, ⟨hk.1.1.1.1.1.2.1, ⟨hk.1.1.1.1.1.2.2.2.1, ⟨hk.1.1.1.1.1.2.2.2.2, ⟨hk.1.1.1.1.2, hk.1.1.1.2⟩⟩⟩⟩⟩⟩)⟩, ⟨by (with_reducible repeat (first | apply Kd.V_alloc | apply Kd.V_drewN | apply Kd.V_drew)); exact Kd.V_mono (Kd.V_far (p := ⟨Jb, 2, none⟩) (Kd.V_far (p := ⟨Jb, 1, none⟩) (Kd.V_far (p := ⟨Jb, 0, none⟩) (Kd.V_far (p := ⟨Jx, 1, none⟩) (Kd.V_far (p := ⟨Jx, 0, none⟩) (Kd.V_far (p := ⟨Jv, 2, none⟩) (Kd.V_far (p := ⟨Jv, 1, none⟩) (Kd.V_far (p := ⟨Jv, 0, none⟩) (Kd.V_mono (Kd.V_mono (Kd.V_mono Q7.out (fun k_ hk => (⟨hk, hk.1.2⟩ : _ ∧ k_ ≠ Jv))) (fun k_ hk => (⟨hk, hk.1.2⟩ : _ ∧ k_ ≠ Jx))) (fun k_ hk => (⟨hk, hk.1.1.1.1.2.2.2.1⟩ : _ ∧ k_ ≠ Jb))) (fun _ hk => hk.1.1.2) (.int .u64 J9)) (fun _ hk => hk.1.1.2) (.slice J5 J4.length J6)) (fun _ hk => hk.1.1.2) (.slice Qa J7.length Qb)) (fun _ hk => hk.1.2) (.slice Qf Jz.length Qg)) (fun _ hk => hk.1.2) (.slice Qi Ql.length Qj)) (fun _ hk => hk.2) (.int .u64 J9)) (fun _ hk => hk.2) (.slice J5 J4.length J6)) (fun _ hk => hk.2) (.slice Qa J7.length Qb)) (fun _ hk => ⟨hk.1.1.1.1.1.2.2.1, ⟨hk.1.1.1.1.1.1, ⟨hk.1.1.1.1.1.2.1, ⟨hk.1.1.1.1.1.2.2.2.1, ⟨hk.1.1.1.1.1.2.2.2.2, ⟨hk.1.1.1.1.2, hk.1.1.1.2⟩⟩⟩⟩⟩⟩)⟩, ⟨by (with_reducible repeat (first | apply Kd.V_alloc | apply Kd.V_drewN | apply Kd.V_drew)); exact Kd.V_mono (Kd.V_far (p := ⟨Jb, 2, none⟩) (Kd.V_far (p := ⟨Jb, 1, none⟩) (Kd.V_far (p := ⟨Jb, 0, none⟩) (Kd.V_far (p := ⟨Jx, 1, none⟩) (Kd.V_far (p := ⟨Jx, 0, none⟩) (Kd.V_far (p := ⟨Jv, 2, none⟩) (Kd.V_far (p := ⟨Jv, 1, none⟩) (Kd.V_far (p := ⟨Jv, 0, none⟩) (Kd.V_mono (Kd.V_mono (Kd.V_mono Q8.out (fun k_ hk => (⟨hk, hk.1.2⟩ : _ ∧ k_ ≠ Jv))) (fun k_ hk => (⟨hk, hk.1.2⟩ : _ ∧ k_ ≠ Jx))) (fun k_ hk => (⟨hk, hk.1.1.1.1.2.2.2.1⟩ : _ ∧ k_ ≠ Jb))) (fun _ hk => hk.1.1.2) (.int .u64 J9)) (fun _ hk => hk.1.1.2) (.slice J5 J4.length J6)) (fun _ hk => hk.1.1.2) (.slice Qa J7.length Qb)) (fun _ hk => hk.1.2) (.slice Qf Jz.length Qg)) (fun _ hk => hk.1.2) (.slice Qi Ql.length Qj)) (fun _ hk => hk.2) (.int .u64 J9)) (fun _ hk => hk.2) (.slice J5 J4.length J6)) (fun _ hk => hk.2) (.slice Qa J7.length Qb)) (fun _ hk => ⟨hk.1.1.1.1.1.2.2.1, ⟨hk.1.1.1.1.1.1, ⟨hk.1.1.1.1.1.2.1, ⟨hk.1.1.1.1.1.2.2.2.1, ⟨hk.1.1.1.1.1.2.2.2.2, ⟨hk.1.1.1.1.2, hk.1.1.1.2⟩⟩⟩⟩⟩⟩)⟩, ⟨by (with_reducible repeat (first | apply Kd.R_alloc | apply Kd.R_drewN | apply Kd.R_drew)); exact Kd.R_mono (Kd.R_far (p := ⟨Jb, 2, none⟩) (Kd.R_far (p := ⟨Jb, 1, none⟩) (Kd.R_far (p := ⟨Jb, 0, none⟩) (Kd.R_far (p := ⟨Jx, 1, none⟩) (Kd.R_far (p := ⟨Jx, 0, none⟩) (Kd.R_far (p := ⟨Jv, 2, none⟩) (Kd.R_far (p := ⟨Jv, 1, none⟩) (Kd.R_far (p := ⟨Jv, 0, none⟩) (Kd.R_types (Kd.R_types (Kd.R_types Yg.out Qe.out (by decide)) Qd.out (by decide)) Jd.out (by decide)) (fun _ hk => hk.1.1.2) (.int .u64 J9)) (fun _ hk => hk.1.1.2) (.slice J5 J4.length J6)) (fun _ hk => hk.1.1.2) (.slice Qa J7.length Qb)) (fun _ hk => hk.1.2) (.slice Qf Jz.length Qg)) (fun _ hk => hk.1.2) (.slice Qi Ql.length Qj)) (fun _ hk => hk.2) (.int .u64 J9)) (fun _ hk => hk.2) (.slice J5 J4.length J6)) (fun _ hk => hk.2) (.slice Qa J7.length Qb)) (fun _ hk => hk.1.1.1)⟩, ⟨by (with_reducible repeat (first | apply Kd.R_alloc | apply Kd.R_drewN | apply Kd.R_drew)); exact Kd.R_mono (Kd.R_far (p := ⟨Jb, 2, none⟩) (Kd.R_far (p := ⟨Jb, 1, none⟩) (Kd.R_far (p := ⟨Jb, 0, none⟩) (Kd.R_far (p := ⟨Jx, 1, none⟩) (Kd.R_far (p := ⟨Jx, 0, none⟩) (Kd.R_far (p := ⟨Jv, 2, none⟩) (Kd.R_far (p := ⟨Jv, 1, none⟩) (Kd.R_far (p := ⟨Jv, 0, none⟩) (Kd.R_types (Kd.R_types (Kd.R_types Yh.out Qe.out (by decide)) Qd.out (by decide)) Jd.out (by decide)) (fun _ hk => hk.1.1.2) (.int .u64 J9)) (fun _ hk => hk.1.1.2) (.slice J5 J4.length J6)) (fun _ hk => hk.1.1.2) (.slice Qa J7.length Qb)) (fun _ hk => hk.1.2) (.slice Qf Jz.length Qg)) (fun _ hk => hk.1.2) (.slice Qi Ql.length Qj)) (fun _ hk => hk.2) (.int .u64 J9)) (fun _ hk => hk.2) (.slice J5 J4.length J6)) (fun _ hk => hk.2) (.slice Qa J7.length Qb)) (fun _ hk => hk.1.1.1)⟩, ⟨by (with_reducible repeat (first | refine blk_drewN ?_ _ | refine blk_drew ?_ | refine blk_alloc ?_ _)); refine blk_put (cs := #[.int .u64 J9, .slice J5 J4.length J6, .slice Qq Jl.length Qr]) ?_ 2 _ rfl; (with_reducible repeat (first | refine blk_drewN ?_ _ | refine blk_drew ?_ | refine blk_alloc ?_ _)); refine blk_put (cs := #[.int .u64 J9, .slice Qs Jh.length Qt, .slice Qq Jl.length Qr]) ?_ 1 _ rfl; (with_reducible repeat (first | refine blk_drewN ?_ _ | refine blk_drew ?_ | refine blk_alloc ?_ _)); refine blk_put (cs := #[.int .u64 Ji, .slice Qs Jh.length Qt, .slice Qq Jl.length Qr]) ?_ 0 _ rfl; (with_reducible repeat (first | refine blk_drewN ?_ _ | refine blk_drew ?_ | refine blk_alloc ?_ _)); refine blk_far ?_ Q2.out _; (with_reducible repeat (first | refine blk_drewN ?_ _ | refine blk_drew ?_ | refine blk_alloc ?_ _)); refine blk_far ?_ Q2.out _; (with_reducible repeat (first | refine blk_drewN ?_ _ | refine blk_drew ?_ | refine blk_alloc ?_ _)); refine blk_far ?_ Yi.out _; (with_reducible repeat (first | refine blk_drewN ?_ _ | refine blk_drew ?_ | refine blk_alloc ?_ _)); refine blk_far ?_ Yi.out _; (with_reducible repeat (first | refine blk_drewN ?_ _ | refine blk_drew ?_ | refine blk_alloc ?_ _)); refine blk_far ?_ Yi.out _; (with_reducible repeat (first | refine blk_drewN ?_ _ | refine blk_drew ?_ | refine blk_alloc ?_ _)); exact Jd.out⟩, ⟨by (with_reducible repeat (first | refine blk_drewN ?_ _ | refine blk_drew ?_ | refine blk_alloc ?_ _)); refine blk_far ?_ Jy.out _; (with_reducible repeat (first | refine blk_drewN ?_ _ | refine blk_drew ?_ | refine blk_alloc ?_ _)); refine blk_far ?_ Jy.out _; (with_reducible repeat (first | refine blk_drewN ?_ _ | refine blk_drew ?_ | refine blk_alloc ?_ _)); refine blk_far ?_ Jy.out _; (with_reducible repeat (first | refine blk_drewN ?_ _ | refine blk_drew ?_ | refine blk_alloc ?_ _)); refine blk_far ?_ Q3.out _; (with_reducible repeat (first | refine blk_drewN ?_ _ | refine blk_drew ?_ | refine blk_alloc ?_ _)); refine blk_far ?_ Q3.out _; (with_reducible repeat (first | refine blk_drewN ?_ _ | refine blk_drew ?_ | refine blk_alloc ?_ _)); refine blk_far ?_ Yk.out _; (with_reducible repeat (first | refine blk_drewN ?_ _ | refine blk_drew ?_ | refine blk_alloc ?_ _)); refine blk_far ?_ Yk.out _; (with_reducible repeat (first | refine blk_drewN ?_ _ | refine blk_drew ?_ | refine blk_alloc ?_ _)); refine blk_far ?_ Yk.out _; (with_reducible repeat (first | refine blk_drewN ?_ _ | refine blk_drew ?_ | refine blk_alloc ?_ _)); exact Je.out⟩, ⟨by (with_reducible repeat (first | refine blk_drewN ?_ _ | refine blk_drew ?_ | refine blk_alloc ?_ _)); refine blk_far ?_ Yj.out _; (with_reducible repeat (first | refine blk_drewN ?_ _ | refine blk_drew ?_ | refine blk_alloc ?_ _)); refine blk_far ?_ Yj.out _; (with_reducible repeat (first | refine blk_drewN ?_ _ | refine blk_drew ?_ | refine blk_alloc ?_ _)); refine blk_far ?_ Yj.out _; (with_reducible repeat (first | refine blk_drewN ?_ _ | refine blk_drew ?_ | refine blk_alloc ?_ _)); refine blk_far ?_ Q4.out _; (with_reducible repeat (first | refine blk_drewN ?_ _ | refine blk_drew ?_ | refine blk_alloc ?_ _)); refine blk_far ?_ Q4.out _; (with_reducible repeat (first | refine blk_drewN ?_ _ | refine blk_drew ?_ | refine blk_alloc ?_ _)); refine blk_put (cs := #[.int .u64 J9, .slice J5 J4.length J6, .slice none 0 0]) ?_ 2 _ rfl; (with_reducible repeat (first | refine blk_drewN ?_ _ | refine blk_drew ?_ | refine blk_alloc ?_ _)); refine blk_put (cs := #[.int .u64 J9, .slice none 0 0, .slice none 0 0]) ?_ 1 _ rfl; (with_reducible repeat (first | refine blk_drewN ?_ _ | refine blk_drew ?_ | refine blk_alloc ?_ _)); refine blk_put (cs := #[.int .u64 0, .slice none 0 0, .slice none 0 0]) ?_ 0 _ rfl; (with_reducible repeat (first | refine blk_drewN ?_ _ | refine blk_drew ?_ | refine blk_alloc ?_ _)); exact Qe.out⟩, ⟨by (with_reducible repeat (first | refine blk_drewN ?_ _ | refine blk_drew ?_ | refine blk_alloc ?_ _)); refine blk_far ?_ Qv.out _; (with_reducible repeat (first | refine blk_drewN ?_ _ | refine blk_drew ?_ | refine blk_alloc ?_ _)); refine blk_far ?_ Qv.out _; (with_reducible repeat (first | refine blk_drewN ?_ _ | refine blk_drew ?_ | refine blk_alloc ?_ _)); refine blk_far ?_ Qv.out _; (with_reducible repeat (first | refine blk_drewN ?_ _ | refine blk_drew ?_ | refine blk_alloc ?_ _)); refine blk_put (cs := #[.slice Qf Jz.length Qg, .slice none 0 0]) ?_ 1 _ rfl; (with_reducible repeat (first | refine blk_drewN ?_ _ | refine blk_drew ?_ | refine blk_alloc ?_ _)); refine blk_put (cs := #[.slice none 0 0, .slice none 0 0]) ?_ 0 _ rfl; (with_reducible repeat (first | refine blk_drewN ?_ _ | refine blk_drew ?_ | refine blk_alloc ?_ _)); refine blk_far ?_ Qw.out _; (with_reducible repeat (first | refine blk_drewN ?_ _ | refine blk_drew ?_ | refine blk_alloc ?_ _)); refine blk_far ?_ Qw.out _; (with_reducible repeat (first | refine blk_drewN ?_ _ | refine blk_drew ?_ | refine blk_alloc ?_ _)); refine blk_far ?_ Qw.out _; (with_reducible repeat (first | refine blk_drewN ?_ _ | refine blk_drew ?_ | refine blk_alloc ?_ _)); exact Qd.out⟩, ⟨by repeat (first | (with_reducible first | exact HB.out | apply below_alloc | apply pw_below_drewN | apply below_drew1 | refine below_set ?_ Qc.out | refine below_set ?_ J8.out | refine below_set ?_ Fh.out | refine below_set ?_ Fi.out) | exact HB.out)⟩⟩
           case round =>
            clear H'; try clear c1
            try clear p1
            try clear q1
            try clear hx1
            try clear c2
            try clear p2
            try clear c3
            try clear c4
            try clear c5
            try clear p5
            try clear q5
            try clear hx5
            try clear hf5
            try clear c6
            try clear p6
            try clear q6
            try clear hx6
            try clear hf6
            try clear c7
            try clear p7
            try clear q7
            try clear hx7
            try clear hf7
            try clear c8
            try clear p8
            try clear q8
            try clear c9
            try clear p9
            try clear q9
            try clear c10
            try clear p10
            try clear q10
            try clear c11
            try clear c12
            try clear c13
            try clear c14
            try clear p14
            try clear q14
            try clear hx14
            try clear c15
            try clear c16
            try clear p16
            try clear q16
            try clear hx16
            try clear c18
            try clear c18b0
            try clear c19
            try clear c19b0
            try clear c20
            try clear c20b0
            try clear c20b1
            try clear c21
            try clear c21b0
            try clear c21b1
            try clear c25
            try clear c36
            try clear c36b0
            try clear c36b1
            try clear c39
            try clear c50
            try clear c50b0
            try clear c51
            try clear c51b0
            try clear c52
            try clear p52
            try clear q52
            try clear hx52
            try clear hf52
            try clear c53
            try clear c53b0
            try clear c54
            try clear c54b0
            try clear c55
            try clear c55b0
            try clear c55b1
            try clear p56
            try clear q56
            try clear c58
            try clear hx58
            try clear hf58
            try clear c60
            try clear c60b0
            try clear c60b1
            try clear p61
            try clear q61
            try clear c63
            try clear hx63
            try clear hf63
            try clear p64
            try clear c65
            try clear c65b0
            try clear c65b1
            try clear p66
            try clear q66
            try clear c68
            try clear hx68
            try clear hf68
            try clear p70
            try clear q70
            try clear c72
            try clear hx72
            try clear hf72
            try clear c75
            try clear c75b0
            try clear c75b1
            try clear c77
            try clear c82
            try clear c83
            try clear c85
            try clear c85b0
            try clear c86
            try clear c86b0
            try clear c87
            try clear c87b0
            try clear c88
            try clear c88b0
            try clear c88b1
            try clear p89
            try clear q89
            try clear c90
            try clear c91
            try clear c93
            try clear c95
            try clear c95b0
            try clear c95b1
            try clear p96
            try clear q96
            try clear c97
            try clear c98
            try clear c100
            try clear c102
            try clear c102b0
            try clear c102b1
            try clear p103
            try clear q103
            try clear c104
            try clear c105
            try clear c107
            try clear p109
            try clear q109
            try clear c110
            try clear c111
            try clear c113
            try clear c116
            try clear c117
            try clear c118
            try clear c129
            try clear c134
            try clear c141
            try clear p141
            try clear q141
            try clear hx141
            try clear c144
            try clear c145
            try clear c146
            try clear c151
            try clear c152
            try clear hcz101_0
            try clear hcz101_1
            try clear hcz101_2
            try clear hcz101_3
            try clear hcz106_0
            try clear hcz106_1
            try clear hcz106_2
            try clear hcz108_0
            try clear hcz108_1
            try clear hcz108_2
            try clear hcz108_3
            try clear hcz112_0
            try clear hcz112_1
            try clear hcz112_2
            try clear hcz114_0
            try clear hcz114_1
            try clear hcz114_2
            try clear hcz114_3
            try clear hcz119_0
            try clear hcz119_1
            try clear hcz119_2
            try clear hcz126_0
            try clear hcz126_1
            try clear hcz126_2
            try clear hcz130_0
            try clear hcz130_1
            try clear hcz130_2
            try clear hcz130_3
            try clear hcz135_0
            try clear hcz135_1
            try clear hcz135_2
            try clear hcz135_3
            try clear hcz135_4
            try clear hcz137_0
            try clear hcz137_1
            try clear hcz137_2
            try clear hcz137_3
            try clear hcz137_4
            try clear hcz138_0
            try clear hcz138_1
            try clear hcz138_2
            try clear Y0
            try clear Y1
            try clear Y2
            try clear hcz147_0
            try clear hcz147_1
            try clear hcz147_2
            try clear hcz153_0
            try clear hcz153_1
            try clear hcz155_0
            try clear hcz155_1
            try clear hcz155_2
            try clear Zi
            try clear Zj
            try clear Zk
            try clear Zl
            try clear Zm
            try clear Zs
            try clear Zt
            try clear Zu
            try clear Zv
            try clear Zw
            try clear Z2
            try clear Z3
            try clear Z4
            try clear Z8
            try clear Z9
            try clear Da
            try clear De
            try clear Df
            try clear Dg
            try clear Dh
            try clear Di
            try clear Do
            try clear Dp
            try clear Dq
            try clear Dr
            try clear Ds
            try clear Dy
            try clear Dz
            try clear D0
            try clear D4
            try clear D5
            try clear D6
            try clear Ej
            try clear Ek
            try clear El
            try clear Em
            try clear En
            try clear Et
            try clear Eu
            try clear Ev
            try clear Ez
            try clear E0
            try clear E1
            try clear E2
            try clear hcz92_0
            try clear hcz92_1
            try clear hcz92_2
            try clear hcz94_0
            try clear hcz94_1
            try clear hcz94_2
            try clear hcz94_3
            try clear hcz99_0
            try clear hcz99_1
            try clear hcz99_2
            try clear hfz101_0
            try clear hfz101_1
            try clear hfz101_2
            try clear hfz101_3
            try clear hfz106_0
            try clear hfz106_1
            try clear hfz106_2
            try clear hfz108_0
            try clear hfz108_1
            try clear hfz108_2
            try clear hfz108_3
            try clear hfz112_0
            try clear hfz112_1
            try clear hfz112_2
            try clear hfz114_0
            try clear hfz114_1
            try clear hfz114_2
            try clear hfz114_3
            try clear hfz119_0
            try clear hfz119_1
            try clear hfz119_2
            try clear hfz126_0
            try clear hfz126_1
            try clear hfz126_2
            try clear hfz130_0
            try clear hfz130_1
            try clear hfz130_2
            try clear hfz130_3
            try clear hfz135_0
            try clear hfz135_1
            try clear hfz135_2
            try clear hfz135_3
            try clear hfz135_4
            try clear hfz137_0
            try clear hfz137_1
            try clear hfz137_2
            try clear hfz137_3
            try clear hfz137_4
            try clear hfz138_0
            try clear hfz138_1
            try clear hfz138_2
            try clear Y3
            try clear Y4
            try clear Y5
            try clear hfz147_0
            try clear hfz147_1
            try clear hfz147_2
            try clear hfz153_0
            try clear hfz153_1
            try clear hfz155_0
            try clear hfz155_1
            try clear hfz155_2
            try clear Zn
            try clear Zo
            try clear Zp
            try clear Zq
            try clear Zr
            try clear Zx
            try clear Zy
            try clear Zz
            try clear Z0
            try clear Z1
            try clear Z5
            try clear Z6
            try clear Z7
            try clear Db
            try clear Dc
            try clear Dd
            try clear Dj
            try clear Dk
            try clear Dl
            try clear Dm
            try clear Dn
            try clear Dt
            try clear Du
            try clear Dv
            try clear Dw
            try clear Dx
            try clear D1
            try clear D2
            try clear D3
            try clear D7
            try clear D8
            try clear D9
            try clear Eo
            try clear Ep
            try clear Eq
            try clear Er
            try clear Es
            try clear Ew
            try clear Ex
            try clear Ey
            try clear E3
            try clear E4
            try clear E5
            try clear E6
            try clear hfz92_0
            try clear hfz92_1
            try clear hfz92_2
            try clear hfz94_0
            try clear hfz94_1
            try clear hfz94_2
            try clear hfz94_3
            try clear hfz99_0
            try clear hfz99_1
            try clear hfz99_2
            try clear hx141_0
            try clear hx141_1
            try clear hx141_2
            try clear hx141_3
            try clear hx141_4
            try clear hx164_0
            try clear hx52_0
            try clear hx52_1
            try clear hx52_2
            try clear hx52_3
            try clear hx58_0
            try clear hx63_1
            try clear hx68_2
            try clear hx72_3
            try clear p1
            try clear p103
            try clear p109
            try clear p14
            try clear p141
            try clear p164
            try clear p2
            try clear p5
            try clear p52
            try clear p56
            try clear p6
            try clear p61
            try clear p64
            try clear p66
            try clear p7
            try clear p70
            try clear p89
            try clear p96
            try clear q1
            try clear q103
            try clear q109
            try clear q14
            try clear q141
            try clear q164
            try clear q5
            try clear q52
            try clear q56
            try clear q6
            try clear q61
            try clear q66
            try clear q7
            try clear q70
            try clear q89
            try clear q96
            obtain ⟨J0, rfl, HA, HK3, Jk, Jf, Jg, HO_193001, HO_193002, Yz, HO_194001, Jd, Je, Qe, Qd, HB⟩ := hrel; cases gk with
            | zero => exact absurd HA.out (by simp [treillagelaw14_EpochHolds.l3])
            | succ k3 =>
             have H := HA.out; clear HA; simp only [treillagelaw14_EpochHolds.l3] at H; by_cases c156 : J0 < (Jz.length : Int)
             ·rw [if_pos c156] at H; have c156b0 : decide (J0 < (Jz.length : Int)) = true := decide_eq_true c156; clear c156; by_cases c157 : 0 ≤ J0
              rotate_left
              ·rw [if_neg c157] at H; exact absurd H (by simp)
              rw [if_pos c157] at H; have c157b0 : decide (0 ≤ J0) = true := decide_eq_true c157; clear c157; by_cases c158 : (rd Jz J0) ≥ (IntKind.u64.wrap ((Jw.length : Int)))
              ·rw [if_pos c158] at H; have c158b0 : decide ((IntKind.u64.wrap ((Jw.length : Int))) ≤ (rd Jz J0)) = true := decide_eq_true c158; clear c158; exact absurd ((Option.some.inj H).trans hr_) (by decide)
              ·rw [if_neg c158] at H; have c158b0 : decide ((IntKind.u64.wrap ((Jw.length : Int))) ≤ (rd Jz J0)) = false := decide_eq_false c158; clear c158; by_cases c159 : 0 ≤ (rd Jz J0)
               rotate_left
               ·rw [if_neg c159] at H; exact absurd H (by simp)
               rw [if_pos c159] at H; have c159b0 : decide (0 ≤ (rd Jz J0)) = true := decide_eq_true c159; clear c159; by_cases c160 : (rd Jz J0) < (Jw.length : Int)
               rotate_left
               ·rw [if_neg c160] at H; exact absurd H (by simp)
               rw [if_pos c160] at H; have c160b0 : decide ((rd Jz J0) < (Jw.length : Int)) = true := decide_eq_true c160; clear c160; by_cases c161 : (((rd_T60 Jw (rd Jz J0)).f0) || (((rd_T60 Jw (rd Jz J0)).f1) || (((rd_T60 Jw (rd Jz J0)).f2) || (((rd_T60 Jw (rd Jz J0)).f3))))) = true
               ·rw [if_pos c161] at H; have c161b0 : (((rd_T60 Jw (rd Jz J0)).f0) || (((rd_T60 Jw (rd Jz J0)).f1) || (((rd_T60 Jw (rd Jz J0)).f2) || (((rd_T60 Jw (rd Jz J0)).f3))))) = true := c161; clear c161; exact absurd ((Option.some.inj H).trans hr_) (by decide)
               ·rw [if_neg c161] at H; have c161b0 : (((rd_T60 Jw (rd Jz J0)).f0) || (((rd_T60 Jw (rd Jz J0)).f1) || (((rd_T60 Jw (rd Jz J0)).f2) || (((rd_T60 Jw (rd Jz J0)).f3))))) = false := by simpa using c161
                clear c161; have H' := aA H; clear H; have hnb162 := Qv.out; have hnc162 := Q2.out; have hnb163 := Yy.out; have hnc163 := Q3.out; have hnb164 := Qw.out; have hnc164 := Q4.out; have hcz165_0 : wr.cell? ⟨Jx, 0, none⟩ = some (.slice Qf Jz.length Qg) := (blk_cell Qd.out 0).trans rfl; have hcz165_1 : wr.cell? ⟨Jx, 1, none⟩ = some (.slice Qi Ql.length Qj) := (blk_cell Qd.out 1).trans rfl; have hfz165_0 := blk_frozen Qd.out 0; have hfz165_1 := blk_frozen Qd.out 1; have p194 : 0 ≤ (J0 : Int) := of_decide_eq_true (by first | (with_reducible assumption) | assumption); have q194 : J0 < (Jz.length : Int) := of_decide_eq_true (by first | (with_reducible assumption) | assumption); obtain ⟨ad194, e194, hx194_0⟩ := Kd.at_int (Kd.R_reads' Yz.out).2.2 J0 p194 q194; cases e194
                replace p194 := eq_true p194; replace q194 := eq_true q194; obtain ⟨Ao166, co166, eo166⟩ := Kd.R_slice Jk.out; subst eo166; have p195 : 0 ≤ (J0 : Int) := of_decide_eq_true (by first | (with_reducible assumption) | assumption); have q195 : J0 < (Jz.length : Int) := of_decide_eq_true (by first | (with_reducible assumption) | assumption); obtain ⟨ad195, e195, hx195_0⟩ := Kd.at_int (Kd.R_reads' Yz.out).2.2 J0 p195 q195; obtain rfl : ad194 = ad195 := (by injection e195); replace p195 := eq_true p195; replace q195 := eq_true q195; have p196 : 0 ≤ ((rd Jz J0) : Int) := of_decide_eq_true (by first | (with_reducible assumption) | assumption); have q196 : (rd Jz J0) < (Jw.length : Int) := of_decide_eq_true (by first | (with_reducible assumption) | assumption); obtain ⟨ad196, e196, hx196_0, hx196_1, hx196_2, hx196_3⟩ := at_T60 (Kd.R_reads' Jk.out).2.2 (rd Jz J0) p196 q196; cases e196
                replace p196 := eq_true p196; replace q196 := eq_true q196; go_wp2; go_roundg k3
                case measure => have := HJ1.out; have := HK2.out; have := HK3.out; omega
                case rel => exact ⟨(wrap64 (J0 + 1)), (by first | rfl | (simp; done) | (simp [*]; done) | (simp; exact wrapin_ (by assumption) (by assumption))), H', ⟨by have := HJ1.out; have := HK2.out; have := HK3.out; omega⟩, ⟨by (with_reducible repeat (first | apply Kd.R_alloc | apply Kd.R_drewN | apply Kd.R_drew)); exact Jk.out⟩, ⟨by (with_reducible repeat (first | apply Kd.V_alloc | apply Kd.V_drewN | apply Kd.V_drew)); exact Jf.out⟩, ⟨by (with_reducible repeat (first | apply Kd.V_alloc | apply Kd.V_drewN | apply Kd.V_drew)); exact Jg.out⟩, ⟨by (with_reducible repeat (first | apply Kd.V_alloc | apply Kd.V_drewN | apply Kd.V_drew)); exact HO_193001.out⟩, ⟨by (with_reducible repeat (first | apply Kd.V_alloc | apply Kd.V_drewN | apply Kd.V_drew)); exact HO_193002.out⟩, ⟨by (with_reducible repeat (first | apply Kd.R_alloc | apply Kd.R_drewN | apply Kd.R_drew)); exact Yz.out⟩, ⟨by (with_reducible repeat (first | apply Kd.R_alloc | apply Kd.R_drewN | apply Kd.R_drew)); exact HO_194001.out⟩, ⟨by (with_reducible repeat (first | refine blk_drewN ?_ _ | refine blk_drew ?_ | refine blk_alloc ?_ _)); exact Jd.out⟩, ⟨by (with_reducible repeat (first | refine blk_drewN ?_ _ | refine blk_drew ?_ | refine blk_alloc ?_ _)); exact Je.out⟩, ⟨by (with_reducible repeat (first | refine blk_drewN ?_ _ | refine blk_drew ?_ | refine blk_alloc ?_ _)); exact Qe.out⟩, ⟨by (with_reducible repeat (first | refine blk_drewN ?_ _ | refine blk_drew ?_ | refine blk_alloc ?_ _)); exact Qd.out⟩, ⟨by repeat (first | (with_reducible first | exact HB.out | apply below_alloc | apply pw_below_drewN | apply below_drew1 | refine below_set ?_ Qc.out | refine below_set ?_ J8.out | refine below_set ?_ Fh.out | refine below_set ?_ Fi.out) | exact HB.out)⟩⟩
             ·rw [if_neg c156] at H; have c156b0 : decide (J0 < (Jz.length : Int)) = false := decide_eq_false c156; clear c156; have H' := aA H; clear H; have hnb167 := Qv.out; have hnc167 := Q2.out; have hnb168 := Yy.out; have hnc168 := Q3.out; have hnb169 := Qw.out; have hnc169 := Q4.out; have hcz170_0 : wr.cell? ⟨Jx, 0, none⟩ = some (.slice Qf Jz.length Qg) := (blk_cell Qd.out 0).trans rfl; have hcz170_1 : wr.cell? ⟨Jx, 1, none⟩ = some (.slice Qi Ql.length Qj) := (blk_cell Qd.out 1).trans rfl; have hfz170_0 := blk_frozen Qd.out 0; have hfz170_1 := blk_frozen Qd.out 1; go_wp2; go_roundg k3
              case measure => have := HJ1.out; have := HK2.out; have := HK3.out; omega
              case rel => exact ⟨(Jw), (wrap64 (Ja + 1)), (J9), (J4), (J7), (.slice J5 J4.length J6), (.slice Qa J7.length Qb), (by first | rfl | (simp; done) | (simp [*]; done) | (simp; exact wrapin_ (by assumption) (by assumption))), H', ⟨by have := HJ1.out; have := HK2.out; have := HK3.out; omega⟩, ⟨by (with_reducible repeat (first | apply Kd.R_alloc | apply Kd.R_drewN | apply Kd.R_drew)); exact Jk.out⟩, ⟨by (with_reducible repeat (first | apply Kd.V_alloc | apply Kd.V_drewN | apply Kd.V_drew)); exact Kd.V_mono Jf.out (fun _ hk => ⟨hk.1, hk.2.2.2.1⟩)⟩, ⟨by (with_reducible repeat (first | apply Kd.V_alloc | apply Kd.V_drewN | apply Kd.V_drew)); exact Kd.V_mono Jg.out (fun _ hk => ⟨hk.1, hk.2.2.2.1⟩)⟩, ⟨by (with_reducible repeat (first | refine blk_drewN ?_ _ | refine blk_drew ?_ | refine blk_alloc ?_ _)); exact Jd.out⟩, ⟨by repeat (first | (with_reducible first | exact HB.out | apply below_alloc | apply pw_below_drewN | apply below_drew1 | refine below_set ?_ Qc.out | refine below_set ?_ J8.out | refine below_set ?_ Fh.out | refine below_set ?_ Fi.out) | exact HB.out)⟩⟩
       ·rw [if_neg c20] at H; have c20b0 : ((Jh.length : Int) == 4) = false := beq_eq_false_iff_ne.mpr c20; have c20b1 : ((Jh.length : Int) != 4) = true := bne_iff_ne.mpr c20; exact absurd ((Option.some.inj H).trans hr_) (by decide)
      ·rw [if_neg c18] at H; have c18b0 : decide (Ja < (l0.length : Int)) = false := decide_eq_false c18; clear c18; obtain rfl := Option.some.inj H; go_wp2; go_ret
       exact ⟨by first | rfl | (simp [errW_none, errW_some] <;> rfl) | (simp [*, errW_none, errW_some] <;> rfl), by repeat (first | (with_reducible first | exact HB.out | apply below_alloc | apply pw_below_drewN | apply below_drew1 | refine below_set ?_ Qc.out) | exact HB.out)⟩

theorem treillagelaw14_EpochHolds.calls (k : Nat) (A0 : Option Addr) (c0 : Nat) (l0 : List (S42)) (r : Bool) (w : World) (hr0 : Kd.C k42 w A0 l0.length l0) (hc0 : l0.length ≤ c0) (h : treillagelaw14_EpochHolds.f k l0 = some true) :
  Calls Try.prog 5 #[.slice A0 l0.length c0] w fun e w' => e = .returned (.bool true) ∧ Below w.heap.size w w' := treillagelaw14_EpochHolds.calls1 k A0 c0 l0 true w hr0 hc0 h rfl
end Go.Proofs.Ytjnfllaonkeefaa.PH
