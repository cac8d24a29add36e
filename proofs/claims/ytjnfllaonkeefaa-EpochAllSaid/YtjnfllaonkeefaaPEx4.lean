-- Written by wip/hprint/hprint.py (a program of this session, over the print): not typed by hand
import Derived.Test.YtjnfllaonkeefaaPEx0
import Derived.Test.YtjnfllaonkeefaaPEx1
import Derived.Test.YtjnfllaonkeefaaPEx2
import Derived.Test.YtjnfllaonkeefaaPEx3
namespace Go.Proofs.Ytjnfllaonkeefaa.PE
open Go.RowKit Go.Proofs.YtjnfllaonkeefaaW.PrintWords Go.Proofs.YtjnfllaonkeefaaW.PrintLast Go.Proofs.YtjnfllaonkeefaaW.PrintMore
attribute [local go_sem] max2_int min2_int max_two min_two max_three min_three max_four min_four   -- for this text's walks alone
open Go.Proofs.YtjnfllaonkeefaaH
set_option linter.unusedVariables false
set_option linter.unusedSimpArgs false

/-! ### treillagelaw14_EpochAll: function 6 -/
mutual
def treillagelaw14_EpochAll.j0 : Nat → List (S42) → Bool → Option (Bool)
 | 0, _, _ => none
 | k + 1, x0, x22 => if x22 = true then ((treillagelaw14_shown.f).bind fun t129 => (some t129)) else ((epoch_New.f 4).bind fun bt130 => (treillagelaw14_EpochAll.l0 k x0 (([] : List Int)) 1 0 bt130.1 bt130.2.1 bt130.2.2))
def treillagelaw14_EpochAll.l0 : Nat → List (S42) → List Int → Int → Int → Int → List Int → List (S64) → Option (Bool)
 | 0, _, _, _, _, _, _, _ => none
 | k + 1, x0, x4, x5, x6, x138000, x138001, x138002 => if x6 < (x0.length : Int) then (if 0 ≤ x6 then (if ((rd_T42 x0 x6).f0) = 0 then ((epoch_Pin.f x138000 x138001 x138002 (Go.bits .and .i64 ((rd_T42 x0 x6).f1) 3) x138000).bind fun bt143 => (treillagelaw14_EpochAll.l0 k x0 x4 x5 (wrap64 (x6 + 1)) bt143.1 bt143.2.1 bt143.2.2.1)) else (if ((rd_T42 x0 x6).f0) = 1 then ((epoch_Unpin.f x138000 x138001 x138002 (Go.bits .and .i64 ((rd_T42 x0 x6).f1) 3)).bind fun bt152 => (treillagelaw14_EpochAll.l0 k x0 x4 x5 (wrap64 (x6 + 1)) bt152.1 bt152.2.1 bt152.2.2.1)) else (if ((rd_T42 x0 x6).f0) = 2 then ((epoch_Retire.f x138000 x138001 x138002 ([] : List Int) (([x5] : List Int))).bind fun bt163 => (treillagelaw14_EpochAll.l0 k x0 x4 (IntKind.u64.wrap (x5 + 1)) (wrap64 (x6 + 1)) bt163.1 bt163.2.1 bt163.2.2)) else ((epoch_Advance.f k x138000 x138001 x138002).bind fun bt170 => (if x4.length + bt170.2.2.2.2.1.length < 17592186044416 then (treillagelaw14_EpochAll.l0 k x0 (x4 ++ bt170.2.2.2.2.1) x5 (wrap64 (x6 + 1)) bt170.1 bt170.2.1 bt170.2.2.1) else (none)))))) else (none)) else (treillagelaw14_EpochAll.l1 k x4 x5 0 x138000 x138001 x138002)
def treillagelaw14_EpochAll.l1 : Nat → List Int → Int → Int → Int → List Int → List (S64) → Option (Bool)
 | 0, _, _, _, _, _, _ => none
 | k + 1, x4, x5, x10, x138000, x138001, x138002 => if x10 < 4 then ((epoch_Unpin.f x138000 x138001 x138002 x10).bind fun bt189 => (treillagelaw14_EpochAll.l1 k x4 x5 (wrap64 (x10 + 1)) bt189.1 bt189.2.1 bt189.2.2.1)) else (treillagelaw14_EpochAll.l2 k x4 x5 0 x138000 x138001 x138002)
def treillagelaw14_EpochAll.l2 : Nat → List Int → Int → Int → Int → List Int → List (S64) → Option (Bool)
 | 0, _, _, _, _, _, _ => none
 | k + 1, x4, x5, x11, x138000, x138001, x138002 => if x11 < 2 then ((epoch_Advance.f k x138000 x138001 x138002).bind fun bt197 => (if bt197.2.2.2.2.2 = true then (if x4.length + bt197.2.2.2.2.1.length < 17592186044416 then (treillagelaw14_EpochAll.l2 k (x4 ++ bt197.2.2.2.2.1) x5 (wrap64 (x11 + 1)) bt197.1 bt197.2.1 bt197.2.2.1) else (none)) else (some false))) else (treillagelaw14_EpochAll.l3 k x4 x5 0 x138000 x138001 x138002)
def treillagelaw14_EpochAll.l3 : Nat → List Int → Int → Int → Int → List Int → List (S64) → Option (Bool)
 | 0, _, _, _, _, _, _ => none
 | k + 1, x4, x5, x15, x138000, x138001, x138002 => if x15 < (x4.length : Int) then (if 0 ≤ x15 then (if (rd x4 x15) = (IntKind.u64.wrap (wrap64 (x15 + 1))) then (treillagelaw14_EpochAll.l3 k x4 x5 (wrap64 (x15 + 1)) x138000 x138001 x138002) else (some false)) else (none)) else (if (x138002.length : Int) = 0 then (some ((IntKind.u64.wrap ((x4.length : Int))) == (IntKind.u64.wrap (x5 - 1)))) else (some false))
end
def treillagelaw14_EpochAll.f (k : Nat) (l0 : List (S42)) : Option (Bool) := (treillagelaw14_bounded.f k l0).bind fun t127 => (if t127 = true then ((treillagelaw14_shown.f).bind fun t128 => (treillagelaw14_EpochAll.j0 k l0 (!t128))) else (treillagelaw14_EpochAll.j0 k l0 true))
theorem treillagelaw14_EpochAll.mono_l : ∀ k, (∀ y0 y1, LeO (treillagelaw14_EpochAll.j0 k y0 y1) (treillagelaw14_EpochAll.j0 (k + 1) y0 y1)) ∧ (∀ y0 y1 y2 y3 y4 y5 y6, LeO (treillagelaw14_EpochAll.l0 k y0 y1 y2 y3 y4 y5 y6) (treillagelaw14_EpochAll.l0 (k + 1) y0 y1 y2 y3 y4 y5 y6)) ∧ (∀ y0 y1 y2 y3 y4 y5, LeO (treillagelaw14_EpochAll.l1 k y0 y1 y2 y3 y4 y5) (treillagelaw14_EpochAll.l1 (k + 1) y0 y1 y2 y3 y4 y5)) ∧ (∀ y0 y1 y2 y3 y4 y5, LeO (treillagelaw14_EpochAll.l2 k y0 y1 y2 y3 y4 y5) (treillagelaw14_EpochAll.l2 (k + 1) y0 y1 y2 y3 y4 y5)) ∧ (∀ y0 y1 y2 y3 y4 y5, LeO (treillagelaw14_EpochAll.l3 k y0 y1 y2 y3 y4 y5) (treillagelaw14_EpochAll.l3 (k + 1) y0 y1 y2 y3 y4 y5))
 | 0 => ⟨fun _ _ r h => by simp [treillagelaw14_EpochAll.j0] at h, fun _ _ _ _ _ _ _ r h => by simp [treillagelaw14_EpochAll.l0] at h, fun _ _ _ _ _ _ r h => by simp [treillagelaw14_EpochAll.l1] at h, fun _ _ _ _ _ _ r h => by simp [treillagelaw14_EpochAll.l2] at h, fun _ _ _ _ _ _ r h => by simp [treillagelaw14_EpochAll.l3] at h⟩
 | k + 1 => by
  obtain ⟨ih0, ih1, ih2, ih3, ih4⟩ := treillagelaw14_EpochAll.mono_l k
  refine ⟨?_, ?_, ?_, ?_, ?_⟩
  ·intro y0 y1
   unfold treillagelaw14_EpochAll.j0
   repeat' first
   | (with_reducible exact ih0 _ _)
   | (with_reducible exact ih1 _ _ _ _ _ _ _)
   | (with_reducible exact ih2 _ _ _ _ _ _)
   | (with_reducible exact ih3 _ _ _ _ _ _)
   | (with_reducible exact ih4 _ _ _ _ _ _)
   | (with_reducible exact epoch_Advance.mono _ _ _ _)
   | (with_reducible exact treillagelaw14_bounded.mono _ _)
   | (with_reducible exact LeO.refl _)
   | (with_reducible exact LeO.none _)
   | (with_reducible refine LeO.ite ?_ ?_)
   | (with_reducible refine LeO.bind ?_ (fun _ => ?_))
   | exact ih0 _ _
   | exact ih1 _ _ _ _ _ _ _
   | exact ih2 _ _ _ _ _ _
   | exact ih3 _ _ _ _ _ _
   | exact ih4 _ _ _ _ _ _
   | exact epoch_Advance.mono _ _ _ _
   | exact treillagelaw14_bounded.mono _ _
   | exact LeO.none _
   | refine LeO.ite ?_ ?_
   | refine LeO.bind ?_ (fun _ => ?_)
  ·intro y0 y1 y2 y3 y4 y5 y6
   unfold treillagelaw14_EpochAll.l0
   repeat' first
   | (with_reducible exact ih0 _ _)
   | (with_reducible exact ih1 _ _ _ _ _ _ _)
   | (with_reducible exact ih2 _ _ _ _ _ _)
   | (with_reducible exact ih3 _ _ _ _ _ _)
   | (with_reducible exact ih4 _ _ _ _ _ _)
   | (with_reducible exact epoch_Advance.mono _ _ _ _)
   | (with_reducible exact treillagelaw14_bounded.mono _ _)
   | (with_reducible exact LeO.refl _)
   | (with_reducible exact LeO.none _)
   | (with_reducible refine LeO.ite ?_ ?_)
   | (with_reducible refine LeO.bind ?_ (fun _ => ?_))
   | exact ih0 _ _
   | exact ih1 _ _ _ _ _ _ _
   | exact ih2 _ _ _ _ _ _
   | exact ih3 _ _ _ _ _ _
   | exact ih4 _ _ _ _ _ _
   | exact epoch_Advance.mono _ _ _ _
   | exact treillagelaw14_bounded.mono _ _
   | exact LeO.none _
   | refine LeO.ite ?_ ?_
   | refine LeO.bind ?_ (fun _ => ?_)
  ·intro y0 y1 y2 y3 y4 y5
   unfold treillagelaw14_EpochAll.l1
   repeat' first
   | (with_reducible exact ih0 _ _)
   | (with_reducible exact ih1 _ _ _ _ _ _ _)
   | (with_reducible exact ih2 _ _ _ _ _ _)
   | (with_reducible exact ih3 _ _ _ _ _ _)
   | (with_reducible exact ih4 _ _ _ _ _ _)
   | (with_reducible exact epoch_Advance.mono _ _ _ _)
   | (with_reducible exact treillagelaw14_bounded.mono _ _)
   | (with_reducible exact LeO.refl _)
   | (with_reducible exact LeO.none _)
   | (with_reducible refine LeO.ite ?_ ?_)
   | (with_reducible refine LeO.bind ?_ (fun _ => ?_))
   | exact ih0 _ _
   | exact ih1 _ _ _ _ _ _ _
   | exact ih2 _ _ _ _ _ _
   | exact ih3 _ _ _ _ _ _
   | exact ih4 _ _ _ _ _ _
   | exact epoch_Advance.mono _ _ _ _
   | exact treillagelaw14_bounded.mono _ _
   | exact LeO.none _
   | refine LeO.ite ?_ ?_
   | refine LeO.bind ?_ (fun _ => ?_)
  ·intro y0 y1 y2 y3 y4 y5
   unfold treillagelaw14_EpochAll.l2
   repeat' first
   | (with_reducible exact ih0 _ _)
   | (with_reducible exact ih1 _ _ _ _ _ _ _)
   | (with_reducible exact ih2 _ _ _ _ _ _)
   | (with_reducible exact ih3 _ _ _ _ _ _)
   | (with_reducible exact ih4 _ _ _ _ _ _)
   | (with_reducible exact epoch_Advance.mono _ _ _ _)
   | (with_reducible exact treillagelaw14_bounded.mono _ _)
   | (with_reducible exact LeO.refl _)
   | (with_reducible exact LeO.none _)
   | (with_reducible refine LeO.ite ?_ ?_)
   | (with_reducible refine LeO.bind ?_ (fun _ => ?_))
   | exact ih0 _ _
   | exact ih1 _ _ _ _ _ _ _
   | exact ih2 _ _ _ _ _ _
   | exact ih3 _ _ _ _ _ _
   | exact ih4 _ _ _ _ _ _
   | exact epoch_Advance.mono _ _ _ _
   | exact treillagelaw14_bounded.mono _ _
   | exact LeO.none _
   | refine LeO.ite ?_ ?_
   | refine LeO.bind ?_ (fun _ => ?_)
  ·intro y0 y1 y2 y3 y4 y5
   unfold treillagelaw14_EpochAll.l3
   repeat' first
   | (with_reducible exact ih0 _ _)
   | (with_reducible exact ih1 _ _ _ _ _ _ _)
   | (with_reducible exact ih2 _ _ _ _ _ _)
   | (with_reducible exact ih3 _ _ _ _ _ _)
   | (with_reducible exact ih4 _ _ _ _ _ _)
   | (with_reducible exact epoch_Advance.mono _ _ _ _)
   | (with_reducible exact treillagelaw14_bounded.mono _ _)
   | (with_reducible exact LeO.refl _)
   | (with_reducible exact LeO.none _)
   | (with_reducible refine LeO.ite ?_ ?_)
   | (with_reducible refine LeO.bind ?_ (fun _ => ?_))
   | exact ih0 _ _
   | exact ih1 _ _ _ _ _ _ _
   | exact ih2 _ _ _ _ _ _
   | exact ih3 _ _ _ _ _ _
   | exact ih4 _ _ _ _ _ _
   | exact epoch_Advance.mono _ _ _ _
   | exact treillagelaw14_bounded.mono _ _
   | exact LeO.none _
   | refine LeO.ite ?_ ?_
   | refine LeO.bind ?_ (fun _ => ?_)
theorem treillagelaw14_EpochAll.mono : ∀ a0 k, LeO (treillagelaw14_EpochAll.f k a0) (treillagelaw14_EpochAll.f (k + 1) a0) := by
 intro a0 k
 obtain ⟨ih0, ih1, ih2, ih3, ih4⟩ := treillagelaw14_EpochAll.mono_l k
 unfold treillagelaw14_EpochAll.f
 repeat' first
   | (with_reducible exact ih0 _ _)
   | (with_reducible exact ih1 _ _ _ _ _ _ _)
   | (with_reducible exact ih2 _ _ _ _ _ _)
   | (with_reducible exact ih3 _ _ _ _ _ _)
   | (with_reducible exact ih4 _ _ _ _ _ _)
   | (with_reducible exact epoch_Advance.mono _ _ _ _)
   | (with_reducible exact treillagelaw14_bounded.mono _ _)
   | (with_reducible exact LeO.refl _)
   | (with_reducible exact LeO.none _)
   | (with_reducible refine LeO.ite ?_ ?_)
   | (with_reducible refine LeO.bind ?_ (fun _ => ?_))
   | exact ih0 _ _
   | exact ih1 _ _ _ _ _ _ _
   | exact ih2 _ _ _ _ _ _
   | exact ih3 _ _ _ _ _ _
   | exact ih4 _ _ _ _ _ _
   | exact epoch_Advance.mono _ _ _ _
   | exact treillagelaw14_bounded.mono _ _
   | exact LeO.none _
   | refine LeO.ite ?_ ?_
   | refine LeO.bind ?_ (fun _ => ?_)
def treillagelaw14_EpochAll.T14 : Bool × List (List Nat × List Nat) := (true, [([], []), ([], []), ([], []), ([1, 2], [1, 2]), ([3], [3]), ([4], [4]), ([5], [5]), ([], []), ([7], [7]), ([0, 6, 8], [0, 6, 8]), ([9], [9]), ([10], [10]), ([10], [10]), ([11, 9, 0, 1, 2, 3, 4, 5, 6, 7, 8, 9, 10, 11], [11])])
def treillagelaw14_EpochAll.B14 : List Nat := [0, 0, 0, 6, 14, 30, 62, 0, 128, 511, 1023, 2047, 2047, 4095]
theorem treillagelaw14_EpochAll.tab14 : rtab .any (opsOf Try.f6 14) = treillagelaw14_EpochAll.T14 := by kernel_rfl
theorem treillagelaw14_EpochAll.bits14 : waitsOk treillagelaw14_EpochAll.T14.2 treillagelaw14_EpochAll.B14 = true := by kernel_rfl
def treillagelaw14_EpochAll.T16 : Bool × List (List Nat × List Nat) := (true, [([], []), ([], []), ([], []), ([1, 2], [1, 2]), ([3], [3]), ([4], [4]), ([5], [5]), ([0, 6], [0, 6]), ([7], [7]), ([8], [8]), ([8], [8]), ([9, 7, 0, 1, 2, 3, 4, 5, 6, 7, 8, 9], [9])])
def treillagelaw14_EpochAll.B16 : List Nat := [0, 0, 0, 6, 14, 30, 62, 127, 255, 511, 511, 1023]
theorem treillagelaw14_EpochAll.tab16 : rtab .any (opsOf Try.f6 16) = treillagelaw14_EpochAll.T16 := by kernel_rfl
theorem treillagelaw14_EpochAll.bits16 : waitsOk treillagelaw14_EpochAll.T16.2 treillagelaw14_EpochAll.B16 = true := by kernel_rfl
set_option maxHeartbeats 8000000 in
set_option maxRecDepth 100000 in
theorem treillagelaw14_EpochAll.calls1 (k : Nat) (A0 : Option Addr) (c0 : Nat) (l0 : List (S42)) (r : Bool) (w : World) (hr0 : Kd.C k42 w A0 l0.length l0) (hc0 : l0.length ≤ c0) (h : treillagelaw14_EpochAll.f k l0 = some r) (hr_ : r = true) :
  Calls Try.prog 6 #[.slice A0 l0.length c0] w fun e w' => e = .returned (.bool r) ∧ Below w.heap.size w w' := by
 have hu26 := Try.underlying26
 have hu30 := Try.underlying30
 have HR0 := aA hr0
 have HC0 := aA hc0
 clear hr0 hc0
 have HB := aA (Below.refl w.heap.size w)
 have H : ((treillagelaw14_bounded.f k l0).bind fun t127 => (if t127 = true then ((treillagelaw14_shown.f).bind fun t128 => (treillagelaw14_EpochAll.j0 k l0 (!t128))) else (treillagelaw14_EpochAll.j0 k l0 true))) = some r := h
 clear h
 have HC2 := aA H
 clear H
 go_enter Try.func6, Try.ntmps6
 go_upto_region 1 with (fail)
 go_cut [22] (fun v22 wc => ∃ (kq : Nat) (x22_1 : Bool), v22 = .bool x22_1 ∧ Aside0 (treillagelaw14_EpochAll.j0 kq l0 x22_1 = some r) ∧ Aside0 (kq ≤ k) ∧ Aside0 (Below w.heap.size w wc))
 case first =>
  have H := HC2.out
  clear HC2
  replace H := Option.bind_eq_some_iff.mp H
  obtain ⟨t127, A30, H⟩ := H
  replace H : (if t127 = true then ((treillagelaw14_shown.f).bind fun t128 => (treillagelaw14_EpochAll.j0 k l0 (!t128))) else (treillagelaw14_EpochAll.j0 k l0 true)) = some r := H
  have A3 := aA A30
  clear A30
  by_cases c4 : t127 = true
  ·subst c4
   have H1 : ((treillagelaw14_shown.f).bind fun t128 => (treillagelaw14_EpochAll.j0 k l0 (!t128))) = some r := by rw [if_pos rfl] at H; exact H
   clear H
   have H := H1
   clear H1
   replace H := Option.bind_eq_some_iff.mp H
   obtain ⟨t128, A50, H⟩ := H
   replace H : (treillagelaw14_EpochAll.j0 k l0 (!t128)) = some r := H
   have A5 := aA A50
   clear A50
   have H' := aA H
   clear H
   go_wp2_with (first | ((with_reducible refine gate_callee (f := 12) rfl ?_); refine goesL_ (some 17) rfl rfl Try.func12 (by kernel_rfl) rfl #[.slice A0 l0.length c0] rfl (by (try simp only [List.map_toArray, List.map_cons, List.map_nil]); first | done | rfl | (simp only [List.length_drop, List.length_take]; rfl)) ?_; (with_reducible refine (treillagelaw14_bounded.calls k _ _ l0 true _ ?side1 ?side2 A3.out).mono ?_); (case side1 => repeat (first | exact (Kd.C_below HR0.out HB.out) | (with_reducible refine Kd.C_alloc ?_ _) | (with_reducible refine Kd.C_drewN ?_ _) | (with_reducible refine Kd.C_drew ?_))); (case side2 => exact HC0.out); rintro e w' ⟨rfl, ⟨nd, rfl⟩⟩; refine ⟨_, rfl, ?_⟩) | (go_at_call 11; (with_reducible refine (treillagelaw14_shown.calls  t128 _ A5.out).mono ?_); rintro e w6 ⟨rfl, hb⟩; have n0_ := aA (below_step (blw HB.out) hb); clear HB; have HB := n0_; clear n0_; (try clear hb); (try clear hb2); (try clear hk); (try clear hi)))
   go_meet
   case rel => exact ⟨_, (!t128), (by first | rfl | (simp; done) | (simp [*]; done)), H', ⟨by first | omega | exact Nat.le_refl _⟩, ⟨by repeat (first | (with_reducible first | exact HB.out | apply below_alloc | apply pw_below_drewN | apply below_drew1) | exact HB.out)⟩⟩
  ·replace c4 := Bool.eq_false_iff.mpr c4
   subst c4
   have H1 : (treillagelaw14_EpochAll.j0 k l0 true) = some r := by rw [if_neg (show ¬ (false = true) by decide)] at H; exact H
   clear H
   have H := H1
   clear H1
   have H' := aA H
   clear H
   go_wp2_with (first | ((with_reducible refine gate_callee (f := 12) rfl ?_); refine goesL_ (some 17) rfl rfl Try.func12 (by kernel_rfl) rfl #[.slice A0 l0.length c0] rfl (by (try simp only [List.map_toArray, List.map_cons, List.map_nil]); first | done | rfl | (simp only [List.length_drop, List.length_take]; rfl)) ?_; (with_reducible refine (treillagelaw14_bounded.calls k _ _ l0 false _ ?side1 ?side2 A3.out).mono ?_); (case side1 => repeat (first | exact (Kd.C_below HR0.out HB.out) | (with_reducible refine Kd.C_alloc ?_ _) | (with_reducible refine Kd.C_drewN ?_ _) | (with_reducible refine Kd.C_drew ?_))); (case side2 => exact HC0.out); rintro e w' ⟨rfl, ⟨nd, rfl⟩⟩; refine ⟨_, rfl, ?_⟩))
   go_meet
   case rel => exact ⟨_, (true), (by first | rfl | (simp; done) | (simp [*]; done)), H', ⟨by first | omega | exact Nat.le_refl _⟩, ⟨by repeat (first | (with_reducible first | exact HB.out | apply below_alloc | apply pw_below_drewN | apply below_drew1) | exact HB.out)⟩⟩
 case rest =>
  clear HC2
  try clear c1
  try clear p2
  try clear c4
  try clear c6
  obtain ⟨kq, x22_1, rfl, HA, HJ1, HB⟩ := hcut
  cases kq with
  | zero => exact absurd HA.out (by simp [treillagelaw14_EpochAll.j0])
  | succ kj1 =>
   have H := HA.out
   clear HA
   simp only [treillagelaw14_EpochAll.j0] at H
   by_cases c7 : x22_1 = true
   ·subst c7
    have H1 : ((treillagelaw14_shown.f).bind fun t129 => (some t129)) = some r := by rw [if_pos rfl] at H; exact H
    clear H
    have H := H1
    clear H1
    replace H := Option.bind_eq_some_iff.mp H
    obtain ⟨t129, A80, H⟩ := H
    replace H : (some t129) = some r := H
    have A8 := aA A80
    clear A80
    obtain rfl := Option.some.inj H
    go_wp2_with (first | ((with_reducible refine gate_callee (f := 11) rfl ?_); refine goesL_ (some 23) rfl rfl Try.func11 (by kernel_rfl) rfl #[] rfl (by (try simp only [List.map_toArray, List.map_cons, List.map_nil]); first | done | rfl | (simp only [List.length_drop, List.length_take]; rfl)) ?_; (with_reducible refine (treillagelaw14_shown.calls  t129 _ A8.out).mono ?_); rintro e w9 ⟨rfl, hb⟩; refine ⟨_, rfl, ?_⟩; have n0_ := aA (below_step (blw HB.out) hb); clear HB; have HB := n0_; clear n0_; (try clear hb); (try clear hb2); (try clear hk); (try clear hi)))
    go_ret
    exact ⟨by first | rfl | (simp [errW_none, errW_some] <;> rfl) | (simp [*, errW_none, errW_some] <;> rfl), by repeat (first | (with_reducible first | exact HB.out | apply below_alloc | apply pw_below_drewN | apply below_drew1) | exact HB.out)⟩
   ·replace c7 := Bool.eq_false_iff.mpr c7
    subst c7
    have H1 : ((epoch_New.f 4).bind fun bt130 => (treillagelaw14_EpochAll.l0 kj1 l0 (([] : List Int)) 1 0 bt130.1 bt130.2.1 bt130.2.2)) = some r := by rw [if_neg (show ¬ (false = true) by decide)] at H; exact H
    clear H
    have H := H1
    clear H1
    replace H := Option.bind_eq_some_iff.mp H
    obtain ⟨⟨t130, t131, t134⟩, A100, H⟩ := H
    replace H : (treillagelaw14_EpochAll.l0 kj1 l0 (([] : List Int)) 1 0 t130 t131 t134) = some r := H
    have A10 := aA A100
    clear A100
    obtain ⟨y138, hy138⟩ : ∃ y_ : List Int, y_ = (([] : List Int)) := ⟨_, rfl⟩
    replace H : (treillagelaw14_EpochAll.l0 kj1 l0 y138 1 0 t130 t131 t134) = some r := by first | (rw [hy138]; with_reducible exact H) | (have H2_ := (Option.bind_some _ _).symm.trans H; rw [hy138]; with_reducible exact H2_) | (have H2_ := (Option.bind_some _ _).symm.trans H; with_reducible exact H2_) | with_reducible exact H | (rw [hy138]; exact H) | exact H
    have Ny138 := aA hy138
    clear hy138
    have H' := aA H
    clear H
    go_wp2_with (first | ((with_reducible refine gate_callee (f := 9) rfl ?_); refine goesL_ (some 24) rfl rfl Try.func9 (by kernel_rfl) rfl #[.int .i64 4] rfl (by (try simp only [List.map_toArray, List.map_cons, List.map_nil]); first | done | rfl | (simp only [List.length_drop, List.length_take]; rfl)) ?_; (with_reducible refine (epoch_New.calls 4 t130 t131 t134 _ A10.out).mono ?_); rintro e w11 ⟨v132, v135, rfl, ho0, ho1, hb⟩; refine ⟨_, rfl, ?_⟩; have n0_ := aA (Kd.V_lower (Kd.V_mono (ok' := fun k_ => True) ho0 (fun k_ hk_ => trivial)) (below_size (blw HB.out))); have n1_ := aA (Kd.V_lower (Kd.V_mono (ok' := fun k_ => True) ho1 (fun k_ hk_ => trivial)) (below_size (blw HB.out))); have n2_ := aA (below_step (blw HB.out) hb); clear HB; have HO133 := n0_; have HO136 := n1_; have HB := n2_; clear n0_ n1_ n2_; (try clear hb); (try clear hb2); (try clear hk); (try clear hi); (try clear ho0); (try clear ho1)) | ((with_reducible refine gate_dst (N := 3) rfl ?_); (try (refine gate_guard (by rfl) ?_; dsimp only)); refine box_event ?hg (N := 3) ?hd (cs := #[.int .u64 0, .slice none 0 0, .slice none 0 0]) (t := 26) ?hr ?_; (case hd => rfl); (case hg => rfl); (case hr => first | (go_simp; done) | (go_simp; rfl)); intro gb137 hg w12 hbox hb; have n0_ := aA (Kd.V_below (Kd.V_elderB (vlu HO133.out) gb137 (Nat.le_of_eq hg.symm)) hb); have n1_ := aA (Kd.V_below (Kd.V_elderB (vlu HO136.out) gb137 (Nat.le_of_eq hg.symm)) hb); have n2_ := aA (below_step (blw HB.out) hb); have n3_ := aA (hbox); have n4_ := aA ((by rw [hg]; exact (below_size (blw HB.out)) : w.heap.size ≤ gb137)); have n5_ := aA ((by rw [hg]; exact (below_size (blw HB.out)) : w.heap.size ≤ gb137)); clear HO133 HO136 HB; have HO133 := n0_; have HO136 := n1_; have HB := n2_; have BK137 := n3_; have GW137 := n4_; have GE137 := n5_; clear n0_ n1_ n2_ n3_ n4_ n5_ hb hbox hg; have hcz13_0 : w12.cell? ⟨gb137, 0, none⟩ = some (.int .u64 0) := (blk_cell BK137.out 0).trans rfl; have hcz13_1 : w12.cell? ⟨gb137, 1, none⟩ = some (.slice none 0 0) := (blk_cell BK137.out 1).trans rfl; have hcz13_2 : w12.cell? ⟨gb137, 2, none⟩ = some (.slice none 0 0) := (blk_cell BK137.out 2).trans rfl; have hfz13_0 := blk_frozen BK137.out 0; have hfz13_1 := blk_frozen BK137.out 1; have hfz13_2 := blk_frozen BK137.out 2; obtain ⟨Ao14, co14, eo14⟩ := Kd.V_slice HO133.out; subst eo14; obtain ⟨Ao15, co15, eo15⟩ := Kd.V_slice HO136.out; subst eo15) | ((with_reducible refine gate_dst (N := 25) rfl ?_); (try (refine gate_guard (by rfl) ?_; dsimp only)); refine Kd.R_lit (Kd.int .u64) _ 22 ?hg (N := 25) ?hd (xs := ([] : List Int)) (inner := []) (ok := fun _ => True) (okp := fun _ => True) ?hr ?hp (fun _ hk => hk) trivial (Below.refl _ _) (Nat.le_refl _) (by simp) ?_; (case hd => rfl); (case hg => rfl); (case hr => first | (go_simp; done) | (go_simp; rfl)); (case hp => exact (Reps.none _ _)); intro v139 w16 ho17 hb hg_ hnew_; clear hg_ hnew_; (first | rw [← Ny138.out] at ho17 | (simp only [Int.reduceToNat] at ho17; rw [← Ny138.out] at ho17)); have n0_ := aA (Kd.V_elder' (vlu ((Kd.V_mono (Kd.V_far (p := ⟨gb137, 2, none⟩) (Kd.V_far (p := ⟨gb137, 1, none⟩) (Kd.V_far (p := ⟨gb137, 0, none⟩) (Kd.V_mono HO133.out (fun k_ hk => (⟨hk, hk.2⟩ : _ ∧ k_ ≠ gb137))) (fun _ hk => hk.2) (.int .u64 t130)) (fun _ hk => hk.2) (.slice Ao14 t131.length co14)) (fun _ hk => hk.2) (.slice Ao15 t134.length co15)) (fun _ h_ => h_.1)))) (Kd.R_base ho17) hb); have n1_ := aA (Kd.V_elder' (vlu ((Kd.V_mono (Kd.V_far (p := ⟨gb137, 2, none⟩) (Kd.V_far (p := ⟨gb137, 1, none⟩) (Kd.V_far (p := ⟨gb137, 0, none⟩) (Kd.V_mono HO136.out (fun k_ hk => (⟨hk, hk.2⟩ : _ ∧ k_ ≠ gb137))) (fun _ hk => hk.2) (.int .u64 t130)) (fun _ hk => hk.2) (.slice Ao14 t131.length co14)) (fun _ hk => hk.2) (.slice Ao15 t134.length co15)) (fun _ h_ => h_.1)))) (Kd.R_base ho17) hb); have n2_ := aA (Kd.R_lower ho17 (below_size (bls HB.out))); have n3_ := aA (blk_below (g := gb137) (o := .cells #[.int .u64 t130, .slice Ao14 t131.length co14, .slice Ao15 t134.length co15] 26 (0, 0)) (by refine bku ?_; refine blk_put (cs := #[.int .u64 t130, .slice Ao14 t131.length co14, .slice none 0 0]) ?_ 2 _ rfl; refine bku ?_; refine blk_put (cs := #[.int .u64 t130, .slice none 0 0, .slice none 0 0]) ?_ 1 _ rfl; refine bku ?_; refine blk_put (cs := #[.int .u64 0, .slice none 0 0, .slice none 0 0]) ?_ 0 _ rfl; refine bku ?_; exact BK137.out) hb); have n4_ := aA (below_step (bls HB.out) hb); clear HO133 HO136 BK137 HB; have HO133 := n0_; have HO136 := n1_; have HO140 := n2_; have BK137 := n3_; have HB := n4_; clear n0_ n1_ n2_ n3_ n4_ hb ho17))
    go_loopg [4, 5, 6] kj1 (fun kq v4 v5 v6 w' => ∃ (x4_2 : List Int) (x5_2 : Int) (x6_2 : Int) (x138000_2 : Int) (x138001_2 : List Int) (x138002_2 : List (S64)) (u138001 : Value) (u138002 : Value), v5 = .int .u64 x5_2 ∧ v6 = .int .i64 x6_2 ∧ Aside0 (treillagelaw14_EpochAll.l0 kq l0 x4_2 x5_2 x6_2 x138000_2 x138001_2 x138002_2 = some r) ∧ Aside0 (kq ≤ kj1) ∧ Aside0 (Kd.R (Kd.int .u64) 22 w' w.heap.size (fun _ => True) v4 x4_2) ∧ Aside0 (Kd.V (Kd.int .u64) 22 w' w.heap.size (fun k_ => some k_ ≠ (v4 : Value).ownBlock ∧ k_ ≠ gb137) u138001 x138001_2) ∧ Aside0 (Kd.V k64 64 w' w.heap.size (fun k_ => some k_ ≠ (v4 : Value).ownBlock ∧ k_ ≠ gb137) u138002 x138002_2) ∧ Aside0 (w'.heap[gb137]? = some (.cells #[.int .u64 x138000_2, u138001, u138002] 26 (0, 0))) ∧ Aside0 (Below w.heap.size w w'))
    case atStart => exact ⟨(y138), (1), (0), (t130), (t131), (t134), (.slice Ao14 t131.length co14), (.slice Ao15 t134.length co15), (by first | rfl | (simp; done) | (simp [*]; done)), (by first | rfl | (simp; done) | (simp [*]; done)), H', ⟨Nat.le_refl _⟩, ⟨by (with_reducible repeat (first | apply Kd.R_alloc | apply Kd.R_drewN | apply Kd.R_drew)); exact HO140.out⟩, ⟨by (with_reducible repeat (first | apply Kd.V_alloc | apply Kd.V_drewN | apply Kd.V_drew)); exact Kd.V_mono HO133.out (fun _ hk => ⟨hk.2, hk.1.2⟩)⟩, ⟨by (with_reducible repeat (first | apply Kd.V_alloc | apply Kd.V_drewN | apply Kd.V_drew)); exact Kd.V_mono HO136.out (fun _ hk => ⟨hk.2, hk.1.2⟩)⟩, ⟨by refine bku ?_; exact BK137.out⟩, ⟨by repeat (first | (with_reducible first | exact HB.out | apply below_alloc | apply pw_below_drewN | apply below_drew1 | refine below_set ?_ GE137.out) | exact HB.out)⟩⟩
    case round =>
     clear H'
     try clear c1
     try clear p2
     try clear c4
     try clear c6
     try clear c7
     try clear c9
     try clear c11
     try clear c12
     try clear hcz13_0
     try clear hcz13_1
     try clear hcz13_2
     try clear hfz13_0
     try clear hfz13_1
     try clear hfz13_2
     try clear p2
     obtain ⟨x4_2, x5_2, x6_2, x138000_2, x138001_2, x138002_2, u138001, u138002, rfl, rfl, HA, HK2, HO_4, HO_138001, HO_138002, BK137, HB⟩ := hrel
     cases gk with
     | zero => exact absurd HA.out (by simp [treillagelaw14_EpochAll.l0])
     | succ k2 =>
      have H := HA.out
      clear HA
      simp only [treillagelaw14_EpochAll.l0] at H
      by_cases c18 : x6_2 < (l0.length : Int)
      ·rw [if_pos c18] at H
       have c18b0 : decide (x6_2 < (l0.length : Int)) = true := decide_eq_true c18
       clear c18
       by_cases c19 : 0 ≤ x6_2
       ·rw [if_pos c19] at H
        have c19b0 : decide (0 ≤ x6_2) = true := decide_eq_true c19
        clear c19
        by_cases c20 : ((rd_T42 l0 x6_2).f0) = 0
        ·rw [if_pos c20] at H
         have c20b0 : (((rd_T42 l0 x6_2).f0) == 0) = true := beq_iff_eq.mpr c20
         have c20b1 : (((rd_T42 l0 x6_2).f0) != 0) = false := bne_eq_false_iff_eq.mpr c20
         clear c20
         replace H := Option.bind_eq_some_iff.mp H
         obtain ⟨⟨t143, t144, t147, t150⟩, A210, H⟩ := H
         replace H : (treillagelaw14_EpochAll.l0 k2 l0 x4_2 x5_2 (wrap64 (x6_2 + 1)) t143 t144 t147) = some r := H
         have A21 := aA A210
         clear A210
         have H' := aA H
         clear H
         have p141 : 0 ≤ (x6_2 : Int) := of_decide_eq_true (by first | (with_reducible assumption) | assumption)
         have q141 : x6_2 < (l0.length : Int) := of_decide_eq_true (by first | (with_reducible assumption) | assumption)
         obtain ⟨ad141, A141_3, c141_3, A141_4, c141_4, e141, hx141_0, hx141_1, hx141_2, hx141_3, hx141_4, hl141_3, hi141_3, hl141_4, hi141_4⟩ := at_T42 HR0.out x6_2 p141 q141
         cases e141
         replace hx141_0 := (HB.out.cell (World.block_lt_of_cell? w _ hx141_0)).trans hx141_0
         replace hx141_1 := (HB.out.cell (World.block_lt_of_cell? w _ hx141_1)).trans hx141_1
         replace hx141_2 := (HB.out.cell (World.block_lt_of_cell? w _ hx141_2)).trans hx141_2
         replace hx141_3 := (HB.out.cell (World.block_lt_of_cell? w _ hx141_3)).trans hx141_3
         replace hx141_4 := (HB.out.cell (World.block_lt_of_cell? w _ hx141_4)).trans hx141_4
         have HR141_3 := aA hi141_3
         have HC141_3 := aA hl141_3
         clear hi141_3 hl141_3
         have HR141_4 := aA hi141_4
         have HC141_4 := aA hl141_4
         clear hi141_4 hl141_4
         replace p141 := eq_true p141
         replace q141 := eq_true q141
         try go_wp2
         have n0_ := aA (Kd.R_drew HO_4.out)
         have n1_ := aA (Kd.V_drew HO_138001.out)
         have n2_ := aA (Kd.V_drew HO_138002.out)
         have n3_ := aA (blk_drew BK137.out)
         have n4_ := aA (below_drew1 HB.out)
         clear HO_4
         clear HO_138001
         clear HO_138002
         clear BK137
         clear HB
         have HO_4 := n0_
         have HO_138001 := n1_
         have HO_138002 := n2_
         have BK137 := n3_
         have HB := n4_
         clear n0_ n1_ n2_ n3_ n4_
         have p142 : 0 ≤ (x6_2 : Int) := of_decide_eq_true (by first | (with_reducible assumption) | assumption)
         have q142 : x6_2 < (l0.length : Int) := of_decide_eq_true (by first | (with_reducible assumption) | assumption)
         obtain ⟨ad142, A142_3, c142_3, A142_4, c142_4, e142, hx142_0, hx142_1, hx142_2, hx142_3, hx142_4, hl142_3, hi142_3, hl142_4, hi142_4⟩ := at_T42 HR0.out x6_2 p142 q142
         have hw142_4 := hx142_4
         have hw142_3 := hx142_3
         have hw142_2 := hx142_2
         have hw142_1 := hx142_1
         have hw142_0 := hx142_0
         obtain rfl : ad141 = ad142 := (by injection e142)
         replace hx142_0 := (HB.out.cell (World.block_lt_of_cell? w _ hx142_0)).trans hx142_0
         replace hx142_1 := (HB.out.cell (World.block_lt_of_cell? w _ hx142_1)).trans hx142_1
         replace hx142_2 := (HB.out.cell (World.block_lt_of_cell? w _ hx142_2)).trans hx142_2
         replace hx142_3 := (HB.out.cell (World.block_lt_of_cell? w _ hx142_3)).trans hx142_3
         replace hx142_4 := (HB.out.cell (World.block_lt_of_cell? w _ hx142_4)).trans hx142_4
         have HR142_3 := aA hi142_3
         have HC142_3 := aA hl142_3
         clear hi142_3 hl142_3
         have HR142_4 := aA hi142_4
         have HC142_4 := aA hl142_4
         clear hi142_4 hl142_4
         replace p142 := eq_true p142
         replace q142 := eq_true q142
         obtain ⟨Ao23, co23, eo23⟩ := Kd.V_slice HO_138001.out
         (first | subst eo23 | (injection eo23 with f1_ f2_ f3_; have f4_ := f1_.symm; have f5_ := f3_.symm; clear f1_ f2_ f3_; subst f4_; subst f5_))
         obtain ⟨Ao24, co24, eo24⟩ := Kd.V_slice HO_138002.out
         (first | subst eo24 | (injection eo24 with f1_ f2_ f3_; have f4_ := f1_.symm; have f5_ := f3_.symm; clear f1_ f2_ f3_; subst f4_; subst f5_))
         refine start_ (n := 14) (S := fun w' => w'.cell? ⟨gb137, 0, none⟩ = some (.int .u64 x138000_2) ∧ w'.cell? ⟨gb137, 1, none⟩ = some (.slice Ao23 x138001_2.length co23) ∧ w'.cell? ⟨gb137, 2, none⟩ = some (.slice Ao24 x138002_2.length co24) ∧ w'.cell? (ad141.add ((x6_2).toNat * 5)) = some (.int .i64 ((rd_T42 l0 x6_2).f0)) ∧ w'.cell? ⟨(ad141.add ((x6_2).toNat * 5)).block, (ad141.add ((x6_2).toNat * 5)).off + 1, none⟩ = some (.int .i64 ((rd_T42 l0 x6_2).f1)) ∧ w'.cell? ⟨(ad141.add ((x6_2).toNat * 5)).block, (ad141.add ((x6_2).toNat * 5)).off + 2, none⟩ = some (.int .u64 ((rd_T42 l0 x6_2).f2)) ∧ w'.cell? ⟨(ad141.add ((x6_2).toNat * 5)).block, (ad141.add ((x6_2).toNat * 5)).off + 3, none⟩ = some (.slice A142_3 ((rd_T42 l0 x6_2).f3.f0).length c142_3) ∧ w'.cell? ⟨(ad141.add ((x6_2).toNat * 5)).block, (ad141.add ((x6_2).toNat * 5)).off + 4, none⟩ = some (.slice A142_4 ((rd_T42 l0 x6_2).f3.f1).length c142_4)) (ds := [13]) #[false, false, false, false, false, false, false, false, false, false, false, false, false, false] (by kernel_rfl) rfl rfl ⟨(blk_cell BK137.out 0).trans rfl, (blk_cell BK137.out 1).trans rfl, (blk_cell BK137.out 2).trans rfl, ((HB.out.cell (World.block_lt_of_cell? w _ hw142_0)).trans hw142_0), ((HB.out.cell (World.block_lt_of_cell? w _ hw142_1)).trans hw142_1), ((HB.out.cell (World.block_lt_of_cell? w _ hw142_2)).trans hw142_2), ((HB.out.cell (World.block_lt_of_cell? w _ hw142_3)).trans hw142_3), ((HB.out.cell (World.block_lt_of_cell? w _ hw142_4)).trans hw142_4)⟩ (fun hHeld => ?_); refine with_tabW treillagelaw14_EpochAll.tab14 treillagelaw14_EpochAll.bits14 (fun HT_ HW_ => ?_)
         generalize wr.drew = w22 at HO_4 HO_138001 HO_138002 BK137 HB HR142_3 HR142_4 hx142_0 hx142_1 hx142_2 hx142_3 hx142_4 hHeld ⊢
         refine pure_ (i := 1) (N := some 52) (v := ?_) (a' := ?_) #[false, true, false, false, false, false, false, false, false, false, false, false, false, false] rfl rfl (any_of HT_.out (by kernel_rfl)) (fun _ _ _ h => h) (Or.inl ⟨by rfl, ?_⟩) ?_ ?_
         rotate_left
         ·intro w'
          go_simp
          with_reducible rfl
         rotate_left
         ·simp only [Act.put, List.setIfInBounds_toArray, List.set_cons_zero, List.set_cons_succ, i64_w, i32_w]
          rfl
         refine pure_ (i := 2) (N := some 53) (v := ?_) (a' := ?_) #[false, true, true, false, false, false, false, false, false, false, false, false, false, false] rfl rfl (any_of HT_.out (by kernel_rfl)) (fun _ _ _ h => h) (Or.inl ⟨by rfl, ?_⟩) ?_ ?_
         rotate_left
         ·intro w'
          go_simp
          with_reducible rfl
         rotate_left
         ·simp only [Act.put, List.setIfInBounds_toArray, List.set_cons_zero, List.set_cons_succ, i64_w, i32_w]
          rfl
         refine pure_ (i := 3) (N := some 54) (v := ?_) (a' := ?_) #[false, true, true, true, false, false, false, false, false, false, false, false, false, false] rfl rfl (any_of HT_.out (by kernel_rfl)) (fun _ _ _ h => h) (Or.inl ⟨by rfl, ?_⟩) ?_ ?_
         rotate_left
         ·intro w'
          go_simp
          with_reducible rfl
         rotate_left
         ·simp only [Act.put, List.setIfInBounds_toArray, List.set_cons_zero, List.set_cons_succ, i64_w, i32_w]
          rfl
         refine pure_ (i := 4) (N := some 55) (v := ?_) (a' := ?_) #[false, true, true, true, true, false, false, false, false, false, false, false, false, false] rfl rfl (any_of HT_.out (by kernel_rfl)) (fun _ _ _ h => h) (Or.inl ⟨by rfl, ?_⟩) ?_ ?_
         rotate_left
         ·intro w'
          go_simp
          with_reducible rfl
         rotate_left
         ·simp only [Act.put, List.setIfInBounds_toArray, List.set_cons_zero, List.set_cons_succ, i64_w, i32_w]
          rfl
         refine pure_ (i := 7) (N := some 58) (v := ?_) (a' := ?_) #[false, true, true, true, true, false, false, true, false, false, false, false, false, false] rfl rfl (any_of HT_.out (by kernel_rfl)) (fun _ _ _ h => h) (Or.inl ⟨by rfl, ?_⟩) ?_ ?_
         rotate_left
         ·intro w'
          go_simp
          with_reducible rfl
         rotate_left
         ·simp only [Act.put, List.setIfInBounds_toArray, List.set_cons_zero, List.set_cons_succ, i64_w, i32_w]
          rfl
         refine take_ (i := 0) (N := some 51) (v := ?_) (a' := ?_) #[true, true, true, true, true, false, false, true, false, false, false, false, false, false] rfl rfl (take_ofW HT_.out HW_.out (by kernel_rfl)) (fun _ _ _ h => h) (Or.inl ⟨by rfl, ?_⟩) hHeld ?_ ?_
         rotate_left
         ·rintro w' ⟨s0, s1, s2, s3, s4, s5, s6, s7⟩
          go_simp
          with_reducible rfl
         rotate_left
         ·simp only [Act.put, List.setIfInBounds_toArray, List.set_cons_zero, List.set_cons_succ, i64_w, i32_w]
          rfl
         refine take_ (i := 5) (N := some 56) (v := ?_) (a' := ?_) #[true, true, true, true, true, true, false, true, false, false, false, false, false, false] rfl rfl (take_ofW HT_.out HW_.out (by kernel_rfl)) (fun _ _ _ h => h) (Or.inl ⟨by rfl, ?_⟩) hHeld ?_ ?_
         rotate_left
         ·rintro w' ⟨s0, s1, s2, s3, s4, s5, s6, s7⟩
          go_simp
          with_reducible rfl
         rotate_left
         ·simp only [Act.put, List.setIfInBounds_toArray, List.set_cons_zero, List.set_cons_succ, i64_w, i32_w]
          rfl
         refine pure_ (i := 6) (N := some 57) (v := ?_) (a' := ?_) #[true, true, true, true, true, true, true, true, false, false, false, false, false, false] rfl rfl (any_of HT_.out (by kernel_rfl)) (fun _ _ _ h => h) (Or.inl ⟨by rfl, ?_⟩) ?_ ?_
         rotate_left
         ·intro w'
          go_simp
          with_reducible rfl
         rotate_left
         ·simp only [Act.put, List.setIfInBounds_toArray, List.set_cons_zero, List.set_cons_succ, i64_w, i32_w]
          rfl
         refine take_ (i := 8) (N := some 59) (v := ?_) (a' := ?_) #[true, true, true, true, true, true, true, true, true, false, false, false, false, false] rfl rfl (take_ofW HT_.out HW_.out (by kernel_rfl)) (fun _ _ _ h => h) (Or.inl ⟨by rfl, ?_⟩) hHeld ?_ ?_
         rotate_left
         ·rintro w' ⟨s0, s1, s2, s3, s4, s5, s6, s7⟩
          go_simp
          with_reducible rfl
         rotate_left
         ·simp only [Act.put, List.setIfInBounds_toArray, List.set_cons_zero, List.set_cons_succ, i64_w, i32_w]
          rfl
         refine one_ (i := 9) (N := some 60) #[true, true, true, true, true, true, true, true, true, true, false, false, false, false] rfl rfl (one_of HT_.out (by kernel_rfl)) (by decide) (fun K hK => ?_)
         refine goes_ Try.func14 (by kernel_rfl) rfl #[.agg #[.int .u64 x138000_2, .slice Ao23 x138001_2.length co23, .slice Ao24 x138002_2.length co24], .int .i64 (Go.bits .and .i64 ((rd_T42 l0 x6_2).f1) 3), .int .u64 x138000_2] (by rfl) rfl rfl (by (try simp only [List.map_toArray, List.map_cons, List.map_nil]); first | done | rfl | (simp only [List.length_drop, List.length_take]; rfl)) ?_
         with_reducible refine (epoch_Pin.calls x138000_2 (fun k_ => (some k_ ≠ (u4 : Value).ownBlock ∧ k_ ≠ gb137)) _ _ x138001_2 (fun k_ => (some k_ ≠ (u4 : Value).ownBlock ∧ k_ ≠ gb137)) _ _ x138002_2 (Go.bits .and .i64 ((rd_T42 l0 x6_2).f1) 3) x138000_2 t143 t144 t147 t150 _ ?side1 ?side2 A21.out).mono ?_
         (case side1 => exact HO_138001.out)
         (case side2 => exact HO_138002.out)
         rintro e w25 ⟨v145, v148, rfl, ho0, ho1, hb⟩
         refine ⟨_, rfl, ?_⟩
         have n0_ := aA (Kd.R_below (rlu HO_4.out) hb)
         have n1_ := aA (Kd.V_below (vlu HO_138001.out) hb)
         have n2_ := aA (Kd.V_below (vlu HO_138002.out) hb)
         have n3_ := aA (Kd.V_lower (Kd.V_mono (ok' := fun k_ => some k_ ≠ (u4 : Value).ownBlock ∧ k_ ≠ gb137) ho0 (fun k_ hk_ => ⟨Or.elim hk_ (fun hs_ => Or.elim hs_ (fun hs_ => hs_.1) (fun hs_ => hs_.1)) (fun hn_ => (Kd.fresh' (Kd.R_lt (rlu HO_4.out)) k_ hn_)), Or.elim hk_ (fun hs_ => Or.elim hs_ (fun hs_ => hs_.2) (fun hs_ => hs_.2)) (fun hn_ => (Kd.freshB (g := gb137) (o := .cells #[.int .u64 x138000_2, .slice Ao23 x138001_2.length co23, .slice Ao24 x138002_2.length co24] 26 (0, 0)) (bku BK137.out) k_ hn_))⟩)) (below_size (bls HB.out)))
         have n4_ := aA (Kd.V_lower (Kd.V_mono (ok' := fun k_ => some k_ ≠ (u4 : Value).ownBlock ∧ k_ ≠ gb137) ho1 (fun k_ hk_ => ⟨Or.elim hk_ (fun hs_ => Or.elim hs_ (fun hs_ => hs_.1) (fun hs_ => hs_.1)) (fun hn_ => (Kd.fresh' (Kd.R_lt (rlu HO_4.out)) k_ hn_)), Or.elim hk_ (fun hs_ => Or.elim hs_ (fun hs_ => hs_.2) (fun hs_ => hs_.2)) (fun hn_ => (Kd.freshB (g := gb137) (o := .cells #[.int .u64 x138000_2, .slice Ao23 x138001_2.length co23, .slice Ao24 x138002_2.length co24] 26 (0, 0)) (bku BK137.out) k_ hn_))⟩)) (below_size (bls HB.out)))
         have n5_ := aA (blk_below (g := gb137) (o := .cells #[.int .u64 x138000_2, .slice Ao23 x138001_2.length co23, .slice Ao24 x138002_2.length co24] 26 (0, 0)) (bku BK137.out) hb)
         have n6_ := aA (below_step (bls HB.out) hb)
         clear HO_4
         clear HO_138001
         clear HO_138002
         clear BK137
         clear HB
         have HO_4 := n0_
         have HO_138001 := n1_
         have HO_138002 := n2_
         have HO146 := n3_
         have HO149 := n4_
         have BK137 := n5_
         have HB := n6_
         clear n0_ n1_ n2_ n3_ n4_ n5_ n6_
         (try clear hb)
         (try clear hb2)
         (try clear hk)
         (try clear hi)
         (try clear ho0)
         (try clear ho1)
         obtain ⟨Ao27, co27, eo27⟩ := Kd.V_slice HO146.out
         (first | subst eo27 | (injection eo27 with f1_ f2_ f3_; have f4_ := f1_.symm; have f5_ := f3_.symm; clear f1_ f2_ f3_; subst f4_; subst f5_))
         obtain ⟨Ao29, co29, eo29⟩ := Kd.V_slice HO149.out
         (first | subst eo29 | (injection eo29 with f1_ f2_ f3_; have f4_ := f1_.symm; have f5_ := f3_.symm; clear f1_ f2_ f3_; subst f4_; subst f5_))
         refine hK.out _ _ ⟨(blk_cell BK137.out 0).trans rfl, (blk_cell BK137.out 1).trans rfl, (blk_cell BK137.out 2).trans rfl, ((HB.out.cell (World.block_lt_of_cell? w _ hw142_0)).trans hw142_0), ((HB.out.cell (World.block_lt_of_cell? w _ hw142_1)).trans hw142_1), ((HB.out.cell (World.block_lt_of_cell? w _ hw142_2)).trans hw142_2), ((HB.out.cell (World.block_lt_of_cell? w _ hw142_3)).trans hw142_3), ((HB.out.cell (World.block_lt_of_cell? w _ hw142_4)).trans hw142_4)⟩ (fun hHeld => ?_)
         clear hK K
         refine norm_ (a' := ?_) ?_ ?_
         rotate_left
         ·show Act.put _ (some 60) _ = _
          simp only [Act.put, List.setIfInBounds_toArray, List.set_cons_zero, List.set_cons_succ, i64_w, i32_w]
          rfl
         refine pure_ (i := 10) (N := some 50) (v := ?_) (a' := ?_) #[true, true, true, true, true, true, true, true, true, true, true, false, false, false] rfl rfl (any_of HT_.out (by kernel_rfl)) (fun _ _ _ h => h) (Or.inl ⟨by rfl, ?_⟩) ?_ ?_
         rotate_left
         ·intro w'
          go_simp
          with_reducible rfl
         rotate_left
         ·simp only [Act.put, List.setIfInBounds_toArray, List.set_cons_zero, List.set_cons_succ, i64_w, i32_w]
          rfl
         refine pure_ (i := 11) (N := some 61) (v := ?_) (a' := ?_) #[true, true, true, true, true, true, true, true, true, true, true, true, false, false] rfl rfl (any_of HT_.out (by kernel_rfl)) (fun _ _ _ h => h) (Or.inl ⟨by rfl, ?_⟩) ?_ ?_
         rotate_left
         ·intro w'
          go_simp
          with_reducible rfl
         rotate_left
         ·simp only [Act.put, List.setIfInBounds_toArray, List.set_cons_zero, List.set_cons_succ, i64_w, i32_w]
          rfl
         refine pure_ (i := 12) (N := some 62) (v := ?_) (a' := ?_) #[true, true, true, true, true, true, true, true, true, true, true, true, true, false] rfl rfl (any_of HT_.out (by kernel_rfl)) (fun _ _ _ h => h) (Or.inl ⟨by rfl, ?_⟩) ?_ ?_
         rotate_left
         ·intro w'
          go_simp
          with_reducible rfl
         rotate_left
         ·simp only [Act.put, List.setIfInBounds_toArray, List.set_cons_zero, List.set_cons_succ, i64_w, i32_w]
          rfl
         refine last_ (i := 13) (N := none) #[true, true, true, true, true, true, true, true, true, true, true, true, true, true] rfl rfl (one_of HT_.out (by kernel_rfl)) (by decide) (fun K hK => ?_)
         have hs26 : w25.cell? ⟨gb137, 0, none⟩ = some (.int .u64 x138000_2) := (blk_cell BK137.out 0).trans rfl
         have hfs26 := blk_frozen BK137.out 0
         have hs28 : w25.cell? ⟨gb137, 1, none⟩ = some (.slice Ao23 x138001_2.length co23) := (blk_cell BK137.out 1).trans rfl
         have hfs28 := blk_frozen BK137.out 1
         have hs30 : w25.cell? ⟨gb137, 2, none⟩ = some (.slice Ao24 x138002_2.length co24) := (blk_cell BK137.out 2).trans rfl
         have hfs30 := blk_frozen BK137.out 2
         refine skip_ (w1 := ?_) (by rfl) rfl ?_ ?_
         rotate_left
         ·go_simp
          rfl
         refine hK.out _ _ ?_
         clear hK K
         refine done_ (done_of HT_.out (by kernel_rfl)) ?_
         try go_wp2
         go_roundg k2
         case measure => have := HJ1.out; have := HK2.out; omega
         case rel => exact ⟨(x4_2), (x5_2), (wrap64 (x6_2 + 1)), (t143), (t144), (t147), (.slice Ao27 t144.length co27), (.slice Ao29 t147.length co29), (by first | rfl | (simp; done) | (simp [*]; done)), (by first | rfl | (simp; done) | (simp [*]; done)), H', ⟨by have := HJ1.out; have := HK2.out; omega⟩, ⟨by (with_reducible repeat (first | apply Kd.R_alloc | apply Kd.R_drewN | apply Kd.R_drew)); exact Kd.R_mono (Kd.R_far (p := ⟨gb137, 2, none⟩) (Kd.R_far (p := ⟨gb137, 1, none⟩) (Kd.R_far (p := ⟨gb137, 0, none⟩) (Kd.R_types HO_4.out BK137.out (by decide)) (fun _ hk => hk.2) (.int .u64 t143)) (fun _ hk => hk.2) (.slice Ao27 t144.length co27)) (fun _ hk => hk.2) (.slice Ao29 t147.length co29)) (fun _ hk => trivial)⟩, ⟨by (with_reducible repeat (first | apply Kd.V_alloc | apply Kd.V_drewN | apply Kd.V_drew)); exact Kd.V_mono (Kd.V_far (p := ⟨gb137, 2, none⟩) (Kd.V_far (p := ⟨gb137, 1, none⟩) (Kd.V_far (p := ⟨gb137, 0, none⟩) (Kd.V_mono HO146.out (fun k_ hk => (⟨hk, hk.2⟩ : _ ∧ k_ ≠ gb137))) (fun _ hk => hk.2) (.int .u64 t143)) (fun _ hk => hk.2) (.slice Ao27 t144.length co27)) (fun _ hk => hk.2) (.slice Ao29 t147.length co29)) (fun _ hk => ⟨hk.1.1, hk.1.2⟩)⟩, ⟨by (with_reducible repeat (first | apply Kd.V_alloc | apply Kd.V_drewN | apply Kd.V_drew)); exact Kd.V_mono (Kd.V_far (p := ⟨gb137, 2, none⟩) (Kd.V_far (p := ⟨gb137, 1, none⟩) (Kd.V_far (p := ⟨gb137, 0, none⟩) (Kd.V_mono HO149.out (fun k_ hk => (⟨hk, hk.2⟩ : _ ∧ k_ ≠ gb137))) (fun _ hk => hk.2) (.int .u64 t143)) (fun _ hk => hk.2) (.slice Ao27 t144.length co27)) (fun _ hk => hk.2) (.slice Ao29 t147.length co29)) (fun _ hk => ⟨hk.1.1, hk.1.2⟩)⟩, ⟨by refine bku ?_; refine blk_put (cs := #[.int .u64 t143, .slice Ao27 t144.length co27, .slice Ao24 x138002_2.length co24]) ?_ 2 _ rfl; refine bku ?_; refine blk_put (cs := #[.int .u64 t143, .slice Ao23 x138001_2.length co23, .slice Ao24 x138002_2.length co24]) ?_ 1 _ rfl; refine bku ?_; refine blk_put (cs := #[.int .u64 x138000_2, .slice Ao23 x138001_2.length co23, .slice Ao24 x138002_2.length co24]) ?_ 0 _ rfl; refine bku ?_; exact BK137.out⟩, ⟨by repeat (first | (with_reducible first | exact HB.out | apply below_alloc | apply pw_below_drewN | apply below_drew1 | refine below_set ?_ GE137.out) | exact HB.out)⟩⟩
        ·rw [if_neg c20] at H
         have c20b0 : (((rd_T42 l0 x6_2).f0) == 0) = false := beq_eq_false_iff_ne.mpr c20
         have c20b1 : (((rd_T42 l0 x6_2).f0) != 0) = true := bne_iff_ne.mpr c20
         by_cases c31 : ((rd_T42 l0 x6_2).f0) = 1
         ·rw [if_pos c31] at H
          have c31b0 : (((rd_T42 l0 x6_2).f0) == 1) = true := beq_iff_eq.mpr c31
          have c31b1 : (((rd_T42 l0 x6_2).f0) != 1) = false := bne_eq_false_iff_eq.mpr c31
          clear c31
          replace H := Option.bind_eq_some_iff.mp H
          obtain ⟨⟨t152, t153, t156, t159⟩, A320, H⟩ := H
          replace H : (treillagelaw14_EpochAll.l0 k2 l0 x4_2 x5_2 (wrap64 (x6_2 + 1)) t152 t153 t156) = some r := H
          have A32 := aA A320
          clear A320
          have H' := aA H
          clear H
          have p141 : 0 ≤ (x6_2 : Int) := of_decide_eq_true (by first | (with_reducible assumption) | assumption)
          have q141 : x6_2 < (l0.length : Int) := of_decide_eq_true (by first | (with_reducible assumption) | assumption)
          obtain ⟨ad141, A141_3, c141_3, A141_4, c141_4, e141, hx141_0, hx141_1, hx141_2, hx141_3, hx141_4, hl141_3, hi141_3, hl141_4, hi141_4⟩ := at_T42 HR0.out x6_2 p141 q141
          cases e141
          replace hx141_0 := (HB.out.cell (World.block_lt_of_cell? w _ hx141_0)).trans hx141_0
          replace hx141_1 := (HB.out.cell (World.block_lt_of_cell? w _ hx141_1)).trans hx141_1
          replace hx141_2 := (HB.out.cell (World.block_lt_of_cell? w _ hx141_2)).trans hx141_2
          replace hx141_3 := (HB.out.cell (World.block_lt_of_cell? w _ hx141_3)).trans hx141_3
          replace hx141_4 := (HB.out.cell (World.block_lt_of_cell? w _ hx141_4)).trans hx141_4
          have HR141_3 := aA hi141_3
          have HC141_3 := aA hl141_3
          clear hi141_3 hl141_3
          have HR141_4 := aA hi141_4
          have HC141_4 := aA hl141_4
          clear hi141_4 hl141_4
          replace p141 := eq_true p141
          replace q141 := eq_true q141
          try go_wp2
          have n0_ := aA (Kd.R_drew HO_4.out)
          have n1_ := aA (Kd.V_drew HO_138001.out)
          have n2_ := aA (Kd.V_drew HO_138002.out)
          have n3_ := aA (blk_drew BK137.out)
          have n4_ := aA (below_drew1 HB.out)
          clear HO_4
          clear HO_138001
          clear HO_138002
          clear BK137
          clear HB
          have HO_4 := n0_
          have HO_138001 := n1_
          have HO_138002 := n2_
          have BK137 := n3_
          have HB := n4_
          clear n0_ n1_ n2_ n3_ n4_
          have p151 : 0 ≤ (x6_2 : Int) := of_decide_eq_true (by first | (with_reducible assumption) | assumption)
          have q151 : x6_2 < (l0.length : Int) := of_decide_eq_true (by first | (with_reducible assumption) | assumption)
          obtain ⟨ad151, A151_3, c151_3, A151_4, c151_4, e151, hx151_0, hx151_1, hx151_2, hx151_3, hx151_4, hl151_3, hi151_3, hl151_4, hi151_4⟩ := at_T42 HR0.out x6_2 p151 q151
          have hw151_4 := hx151_4
          have hw151_3 := hx151_3
          have hw151_2 := hx151_2
          have hw151_1 := hx151_1
          have hw151_0 := hx151_0
          obtain rfl : ad141 = ad151 := (by injection e151)
          replace hx151_0 := (HB.out.cell (World.block_lt_of_cell? w _ hx151_0)).trans hx151_0
          replace hx151_1 := (HB.out.cell (World.block_lt_of_cell? w _ hx151_1)).trans hx151_1
          replace hx151_2 := (HB.out.cell (World.block_lt_of_cell? w _ hx151_2)).trans hx151_2
          replace hx151_3 := (HB.out.cell (World.block_lt_of_cell? w _ hx151_3)).trans hx151_3
          replace hx151_4 := (HB.out.cell (World.block_lt_of_cell? w _ hx151_4)).trans hx151_4
          have HR151_3 := aA hi151_3
          have HC151_3 := aA hl151_3
          clear hi151_3 hl151_3
          have HR151_4 := aA hi151_4
          have HC151_4 := aA hl151_4
          clear hi151_4 hl151_4
          replace p151 := eq_true p151
          replace q151 := eq_true q151
          obtain ⟨Ao34, co34, eo34⟩ := Kd.V_slice HO_138001.out
          (first | subst eo34 | (injection eo34 with f1_ f2_ f3_; have f4_ := f1_.symm; have f5_ := f3_.symm; clear f1_ f2_ f3_; subst f4_; subst f5_))
          obtain ⟨Ao35, co35, eo35⟩ := Kd.V_slice HO_138002.out
          (first | subst eo35 | (injection eo35 with f1_ f2_ f3_; have f4_ := f1_.symm; have f5_ := f3_.symm; clear f1_ f2_ f3_; subst f4_; subst f5_))
          refine start_ (n := 12) (S := fun w' => w'.cell? ⟨gb137, 0, none⟩ = some (.int .u64 x138000_2) ∧ w'.cell? ⟨gb137, 1, none⟩ = some (.slice Ao34 x138001_2.length co34) ∧ w'.cell? ⟨gb137, 2, none⟩ = some (.slice Ao35 x138002_2.length co35) ∧ w'.cell? (ad141.add ((x6_2).toNat * 5)) = some (.int .i64 ((rd_T42 l0 x6_2).f0)) ∧ w'.cell? ⟨(ad141.add ((x6_2).toNat * 5)).block, (ad141.add ((x6_2).toNat * 5)).off + 1, none⟩ = some (.int .i64 ((rd_T42 l0 x6_2).f1)) ∧ w'.cell? ⟨(ad141.add ((x6_2).toNat * 5)).block, (ad141.add ((x6_2).toNat * 5)).off + 2, none⟩ = some (.int .u64 ((rd_T42 l0 x6_2).f2)) ∧ w'.cell? ⟨(ad141.add ((x6_2).toNat * 5)).block, (ad141.add ((x6_2).toNat * 5)).off + 3, none⟩ = some (.slice A151_3 ((rd_T42 l0 x6_2).f3.f0).length c151_3) ∧ w'.cell? ⟨(ad141.add ((x6_2).toNat * 5)).block, (ad141.add ((x6_2).toNat * 5)).off + 4, none⟩ = some (.slice A151_4 ((rd_T42 l0 x6_2).f3.f1).length c151_4)) (ds := [11]) #[false, false, false, false, false, false, false, false, false, false, false, false] (by kernel_rfl) rfl rfl ⟨(blk_cell BK137.out 0).trans rfl, (blk_cell BK137.out 1).trans rfl, (blk_cell BK137.out 2).trans rfl, ((HB.out.cell (World.block_lt_of_cell? w _ hw151_0)).trans hw151_0), ((HB.out.cell (World.block_lt_of_cell? w _ hw151_1)).trans hw151_1), ((HB.out.cell (World.block_lt_of_cell? w _ hw151_2)).trans hw151_2), ((HB.out.cell (World.block_lt_of_cell? w _ hw151_3)).trans hw151_3), ((HB.out.cell (World.block_lt_of_cell? w _ hw151_4)).trans hw151_4)⟩ (fun hHeld => ?_); refine with_tabW treillagelaw14_EpochAll.tab16 treillagelaw14_EpochAll.bits16 (fun HT_ HW_ => ?_)
          generalize wr.drew = w33 at HO_4 HO_138001 HO_138002 BK137 HB HR151_3 HR151_4 hx151_0 hx151_1 hx151_2 hx151_3 hx151_4 hHeld ⊢
          refine pure_ (i := 1) (N := some 67) (v := ?_) (a' := ?_) #[false, true, false, false, false, false, false, false, false, false, false, false] rfl rfl (any_of HT_.out (by kernel_rfl)) (fun _ _ _ h => h) (Or.inl ⟨by rfl, ?_⟩) ?_ ?_
          rotate_left
          ·intro w'
           go_simp
           with_reducible rfl
          rotate_left
          ·simp only [Act.put, List.setIfInBounds_toArray, List.set_cons_zero, List.set_cons_succ, i64_w, i32_w]
           rfl
          refine pure_ (i := 2) (N := some 68) (v := ?_) (a' := ?_) #[false, true, true, false, false, false, false, false, false, false, false, false] rfl rfl (any_of HT_.out (by kernel_rfl)) (fun _ _ _ h => h) (Or.inl ⟨by rfl, ?_⟩) ?_ ?_
          rotate_left
          ·intro w'
           go_simp
           with_reducible rfl
          rotate_left
          ·simp only [Act.put, List.setIfInBounds_toArray, List.set_cons_zero, List.set_cons_succ, i64_w, i32_w]
           rfl
          refine pure_ (i := 3) (N := some 69) (v := ?_) (a' := ?_) #[false, true, true, true, false, false, false, false, false, false, false, false] rfl rfl (any_of HT_.out (by kernel_rfl)) (fun _ _ _ h => h) (Or.inl ⟨by rfl, ?_⟩) ?_ ?_
          rotate_left
          ·intro w'
           go_simp
           with_reducible rfl
          rotate_left
          ·simp only [Act.put, List.setIfInBounds_toArray, List.set_cons_zero, List.set_cons_succ, i64_w, i32_w]
           rfl
          refine pure_ (i := 4) (N := some 70) (v := ?_) (a' := ?_) #[false, true, true, true, true, false, false, false, false, false, false, false] rfl rfl (any_of HT_.out (by kernel_rfl)) (fun _ _ _ h => h) (Or.inl ⟨by rfl, ?_⟩) ?_ ?_
          rotate_left
          ·intro w'
           go_simp
           with_reducible rfl
          rotate_left
          ·simp only [Act.put, List.setIfInBounds_toArray, List.set_cons_zero, List.set_cons_succ, i64_w, i32_w]
           rfl
          refine take_ (i := 0) (N := some 66) (v := ?_) (a' := ?_) #[true, true, true, true, true, false, false, false, false, false, false, false] rfl rfl (take_ofW HT_.out HW_.out (by kernel_rfl)) (fun _ _ _ h => h) (Or.inl ⟨by rfl, ?_⟩) hHeld ?_ ?_
          rotate_left
          ·rintro w' ⟨s0, s1, s2, s3, s4, s5, s6, s7⟩
           go_simp
           with_reducible rfl
          rotate_left
          ·simp only [Act.put, List.setIfInBounds_toArray, List.set_cons_zero, List.set_cons_succ, i64_w, i32_w]
           rfl
          refine take_ (i := 5) (N := some 71) (v := ?_) (a' := ?_) #[true, true, true, true, true, true, false, false, false, false, false, false] rfl rfl (take_ofW HT_.out HW_.out (by kernel_rfl)) (fun _ _ _ h => h) (Or.inl ⟨by rfl, ?_⟩) hHeld ?_ ?_
          rotate_left
          ·rintro w' ⟨s0, s1, s2, s3, s4, s5, s6, s7⟩
           go_simp
           with_reducible rfl
          rotate_left
          ·simp only [Act.put, List.setIfInBounds_toArray, List.set_cons_zero, List.set_cons_succ, i64_w, i32_w]
           rfl
          refine pure_ (i := 6) (N := some 72) (v := ?_) (a' := ?_) #[true, true, true, true, true, true, true, false, false, false, false, false] rfl rfl (any_of HT_.out (by kernel_rfl)) (fun _ _ _ h => h) (Or.inl ⟨by rfl, ?_⟩) ?_ ?_
          rotate_left
          ·intro w'
           go_simp
           with_reducible rfl
          rotate_left
          ·simp only [Act.put, List.setIfInBounds_toArray, List.set_cons_zero, List.set_cons_succ, i64_w, i32_w]
           rfl
          refine one_ (i := 7) (N := some 73) #[true, true, true, true, true, true, true, true, false, false, false, false] rfl rfl (one_of HT_.out (by kernel_rfl)) (by decide) (fun K hK => ?_)
          refine goes_ Try.func16 (by kernel_rfl) rfl #[.agg #[.int .u64 x138000_2, .slice Ao34 x138001_2.length co34, .slice Ao35 x138002_2.length co35], .int .i64 (Go.bits .and .i64 ((rd_T42 l0 x6_2).f1) 3)] (by rfl) rfl rfl (by (try simp only [List.map_toArray, List.map_cons, List.map_nil]); first | done | rfl | (simp only [List.length_drop, List.length_take]; rfl)) ?_
          with_reducible refine (epoch_Unpin.calls x138000_2 (fun k_ => (some k_ ≠ (u4 : Value).ownBlock ∧ k_ ≠ gb137)) _ _ x138001_2 (fun k_ => (some k_ ≠ (u4 : Value).ownBlock ∧ k_ ≠ gb137)) _ _ x138002_2 (Go.bits .and .i64 ((rd_T42 l0 x6_2).f1) 3) t152 t153 t156 t159 _ ?side1 ?side2 A32.out).mono ?_
          (case side1 => exact HO_138001.out)
          (case side2 => exact HO_138002.out)
          rintro e w36 ⟨v154, v157, rfl, ho0, ho1, hb⟩
          refine ⟨_, rfl, ?_⟩
          have n0_ := aA (Kd.R_below (rlu HO_4.out) hb)
          have n1_ := aA (Kd.V_below (vlu HO_138001.out) hb)
          have n2_ := aA (Kd.V_below (vlu HO_138002.out) hb)
          have n3_ := aA (Kd.V_lower (Kd.V_mono (ok' := fun k_ => some k_ ≠ (u4 : Value).ownBlock ∧ k_ ≠ gb137) ho0 (fun k_ hk_ => ⟨Or.elim hk_ (fun hs_ => Or.elim hs_ (fun hs_ => hs_.1) (fun hs_ => hs_.1)) (fun hn_ => (Kd.fresh' (Kd.R_lt (rlu HO_4.out)) k_ hn_)), Or.elim hk_ (fun hs_ => Or.elim hs_ (fun hs_ => hs_.2) (fun hs_ => hs_.2)) (fun hn_ => (Kd.freshB (g := gb137) (o := .cells #[.int .u64 x138000_2, .slice Ao34 x138001_2.length co34, .slice Ao35 x138002_2.length co35] 26 (0, 0)) (bku BK137.out) k_ hn_))⟩)) (below_size (bls HB.out)))
          have n4_ := aA (Kd.V_lower (Kd.V_mono (ok' := fun k_ => some k_ ≠ (u4 : Value).ownBlock ∧ k_ ≠ gb137) ho1 (fun k_ hk_ => ⟨Or.elim hk_ (fun hs_ => Or.elim hs_ (fun hs_ => hs_.1) (fun hs_ => hs_.1)) (fun hn_ => (Kd.fresh' (Kd.R_lt (rlu HO_4.out)) k_ hn_)), Or.elim hk_ (fun hs_ => Or.elim hs_ (fun hs_ => hs_.2) (fun hs_ => hs_.2)) (fun hn_ => (Kd.freshB (g := gb137) (o := .cells #[.int .u64 x138000_2, .slice Ao34 x138001_2.length co34, .slice Ao35 x138002_2.length co35] 26 (0, 0)) (bku BK137.out) k_ hn_))⟩)) (below_size (bls HB.out)))
          have n5_ := aA (blk_below (g := gb137) (o := .cells #[.int .u64 x138000_2, .slice Ao34 x138001_2.length co34, .slice Ao35 x138002_2.length co35] 26 (0, 0)) (bku BK137.out) hb)
          have n6_ := aA (below_step (bls HB.out) hb)
          clear HO_4
          clear HO_138001
          clear HO_138002
          clear BK137
          clear HB
          have HO_4 := n0_
          have HO_138001 := n1_
          have HO_138002 := n2_
          have HO155 := n3_
          have HO158 := n4_
          have BK137 := n5_
          have HB := n6_
          clear n0_ n1_ n2_ n3_ n4_ n5_ n6_
          (try clear hb)
          (try clear hb2)
          (try clear hk)
          (try clear hi)
          (try clear ho0)
          (try clear ho1)
          obtain ⟨Ao38, co38, eo38⟩ := Kd.V_slice HO155.out
          (first | subst eo38 | (injection eo38 with f1_ f2_ f3_; have f4_ := f1_.symm; have f5_ := f3_.symm; clear f1_ f2_ f3_; subst f4_; subst f5_))
          obtain ⟨Ao40, co40, eo40⟩ := Kd.V_slice HO158.out
          (first | subst eo40 | (injection eo40 with f1_ f2_ f3_; have f4_ := f1_.symm; have f5_ := f3_.symm; clear f1_ f2_ f3_; subst f4_; subst f5_))
          refine hK.out _ _ ⟨(blk_cell BK137.out 0).trans rfl, (blk_cell BK137.out 1).trans rfl, (blk_cell BK137.out 2).trans rfl, ((HB.out.cell (World.block_lt_of_cell? w _ hw151_0)).trans hw151_0), ((HB.out.cell (World.block_lt_of_cell? w _ hw151_1)).trans hw151_1), ((HB.out.cell (World.block_lt_of_cell? w _ hw151_2)).trans hw151_2), ((HB.out.cell (World.block_lt_of_cell? w _ hw151_3)).trans hw151_3), ((HB.out.cell (World.block_lt_of_cell? w _ hw151_4)).trans hw151_4)⟩ (fun hHeld => ?_)
          clear hK K
          refine norm_ (a' := ?_) ?_ ?_
          rotate_left
          ·show Act.put _ (some 73) _ = _
           simp only [Act.put, List.setIfInBounds_toArray, List.set_cons_zero, List.set_cons_succ, i64_w, i32_w]
           rfl
          refine pure_ (i := 8) (N := some 65) (v := ?_) (a' := ?_) #[true, true, true, true, true, true, true, true, true, false, false, false] rfl rfl (any_of HT_.out (by kernel_rfl)) (fun _ _ _ h => h) (Or.inl ⟨by rfl, ?_⟩) ?_ ?_
          rotate_left
          ·intro w'
           go_simp
           with_reducible rfl
          rotate_left
          ·simp only [Act.put, List.setIfInBounds_toArray, List.set_cons_zero, List.set_cons_succ, i64_w, i32_w]
           rfl
          refine pure_ (i := 9) (N := some 74) (v := ?_) (a' := ?_) #[true, true, true, true, true, true, true, true, true, true, false, false] rfl rfl (any_of HT_.out (by kernel_rfl)) (fun _ _ _ h => h) (Or.inl ⟨by rfl, ?_⟩) ?_ ?_
          rotate_left
          ·intro w'
           go_simp
           with_reducible rfl
          rotate_left
          ·simp only [Act.put, List.setIfInBounds_toArray, List.set_cons_zero, List.set_cons_succ, i64_w, i32_w]
           rfl
          refine pure_ (i := 10) (N := some 75) (v := ?_) (a' := ?_) #[true, true, true, true, true, true, true, true, true, true, true, false] rfl rfl (any_of HT_.out (by kernel_rfl)) (fun _ _ _ h => h) (Or.inl ⟨by rfl, ?_⟩) ?_ ?_
          rotate_left
          ·intro w'
           go_simp
           with_reducible rfl
          rotate_left
          ·simp only [Act.put, List.setIfInBounds_toArray, List.set_cons_zero, List.set_cons_succ, i64_w, i32_w]
           rfl
          refine last_ (i := 11) (N := none) #[true, true, true, true, true, true, true, true, true, true, true, true] rfl rfl (one_of HT_.out (by kernel_rfl)) (by decide) (fun K hK => ?_)
          have hs37 : w36.cell? ⟨gb137, 0, none⟩ = some (.int .u64 x138000_2) := (blk_cell BK137.out 0).trans rfl
          have hfs37 := blk_frozen BK137.out 0
          have hs39 : w36.cell? ⟨gb137, 1, none⟩ = some (.slice Ao34 x138001_2.length co34) := (blk_cell BK137.out 1).trans rfl
          have hfs39 := blk_frozen BK137.out 1
          have hs41 : w36.cell? ⟨gb137, 2, none⟩ = some (.slice Ao35 x138002_2.length co35) := (blk_cell BK137.out 2).trans rfl
          have hfs41 := blk_frozen BK137.out 2
          refine skip_ (w1 := ?_) (by rfl) rfl ?_ ?_
          rotate_left
          ·go_simp
           rfl
          refine hK.out _ _ ?_
          clear hK K
          refine done_ (done_of HT_.out (by kernel_rfl)) ?_
          try go_wp2
          go_roundg k2
          case measure => have := HJ1.out; have := HK2.out; omega
          case rel => exact ⟨(x4_2), (x5_2), (wrap64 (x6_2 + 1)), (t152), (t153), (t156), (.slice Ao38 t153.length co38), (.slice Ao40 t156.length co40), (by first | rfl | (simp; done) | (simp [*]; done)), (by first | rfl | (simp; done) | (simp [*]; done)), H', ⟨by have := HJ1.out; have := HK2.out; omega⟩, ⟨by (with_reducible repeat (first | apply Kd.R_alloc | apply Kd.R_drewN | apply Kd.R_drew)); exact Kd.R_mono (Kd.R_far (p := ⟨gb137, 2, none⟩) (Kd.R_far (p := ⟨gb137, 1, none⟩) (Kd.R_far (p := ⟨gb137, 0, none⟩) (Kd.R_types HO_4.out BK137.out (by decide)) (fun _ hk => hk.2) (.int .u64 t152)) (fun _ hk => hk.2) (.slice Ao38 t153.length co38)) (fun _ hk => hk.2) (.slice Ao40 t156.length co40)) (fun _ hk => trivial)⟩, ⟨by (with_reducible repeat (first | apply Kd.V_alloc | apply Kd.V_drewN | apply Kd.V_drew)); exact Kd.V_mono (Kd.V_far (p := ⟨gb137, 2, none⟩) (Kd.V_far (p := ⟨gb137, 1, none⟩) (Kd.V_far (p := ⟨gb137, 0, none⟩) (Kd.V_mono HO155.out (fun k_ hk => (⟨hk, hk.2⟩ : _ ∧ k_ ≠ gb137))) (fun _ hk => hk.2) (.int .u64 t152)) (fun _ hk => hk.2) (.slice Ao38 t153.length co38)) (fun _ hk => hk.2) (.slice Ao40 t156.length co40)) (fun _ hk => ⟨hk.1.1, hk.1.2⟩)⟩, ⟨by (with_reducible repeat (first | apply Kd.V_alloc | apply Kd.V_drewN | apply Kd.V_drew)); exact Kd.V_mono (Kd.V_far (p := ⟨gb137, 2, none⟩) (Kd.V_far (p := ⟨gb137, 1, none⟩) (Kd.V_far (p := ⟨gb137, 0, none⟩) (Kd.V_mono HO158.out (fun k_ hk => (⟨hk, hk.2⟩ : _ ∧ k_ ≠ gb137))) (fun _ hk => hk.2) (.int .u64 t152)) (fun _ hk => hk.2) (.slice Ao38 t153.length co38)) (fun _ hk => hk.2) (.slice Ao40 t156.length co40)) (fun _ hk => ⟨hk.1.1, hk.1.2⟩)⟩, ⟨by refine bku ?_; refine blk_put (cs := #[.int .u64 t152, .slice Ao38 t153.length co38, .slice Ao35 x138002_2.length co35]) ?_ 2 _ rfl; refine bku ?_; refine blk_put (cs := #[.int .u64 t152, .slice Ao34 x138001_2.length co34, .slice Ao35 x138002_2.length co35]) ?_ 1 _ rfl; refine bku ?_; refine blk_put (cs := #[.int .u64 x138000_2, .slice Ao34 x138001_2.length co34, .slice Ao35 x138002_2.length co35]) ?_ 0 _ rfl; refine bku ?_; exact BK137.out⟩, ⟨by repeat (first | (with_reducible first | exact HB.out | apply below_alloc | apply pw_below_drewN | apply below_drew1 | refine below_set ?_ GE137.out) | exact HB.out)⟩⟩
         ·rw [if_neg c31] at H
          have c31b0 : (((rd_T42 l0 x6_2).f0) == 1) = false := beq_eq_false_iff_ne.mpr c31
          have c31b1 : (((rd_T42 l0 x6_2).f0) != 1) = true := bne_iff_ne.mpr c31
          by_cases c42 : ((rd_T42 l0 x6_2).f0) = 2
          ·rw [if_pos c42] at H
           have c42b0 : (((rd_T42 l0 x6_2).f0) == 2) = true := beq_iff_eq.mpr c42
           have c42b1 : (((rd_T42 l0 x6_2).f0) != 2) = false := bne_eq_false_iff_eq.mpr c42
           clear c42
           obtain ⟨y160, hy160⟩ : ∃ y_ : List Int, y_ = (([x5_2] : List Int)) := ⟨_, rfl⟩
           replace H : ((epoch_Retire.f x138000_2 x138001_2 x138002_2 ([] : List Int) y160).bind fun bt163 => (treillagelaw14_EpochAll.l0 k2 l0 x4_2 (IntKind.u64.wrap (x5_2 + 1)) (wrap64 (x6_2 + 1)) bt163.1 bt163.2.1 bt163.2.2)) = some r := by first | (rw [hy160]; with_reducible exact H) | (have H2_ := (Option.bind_some _ _).symm.trans H; rw [hy160]; with_reducible exact H2_) | (have H2_ := (Option.bind_some _ _).symm.trans H; with_reducible exact H2_) | with_reducible exact H | (rw [hy160]; exact H) | exact H
           have Ny160 := aA hy160
           clear hy160
           replace H := Option.bind_eq_some_iff.mp H
           obtain ⟨⟨t163, t164, t167⟩, A430, H⟩ := H
           replace H : (treillagelaw14_EpochAll.l0 k2 l0 x4_2 (IntKind.u64.wrap (x5_2 + 1)) (wrap64 (x6_2 + 1)) t163 t164 t167) = some r := H
           have A43 := aA A430
           clear A430
           have H' := aA H
           clear H
           have p141 : 0 ≤ (x6_2 : Int) := of_decide_eq_true (by first | (with_reducible assumption) | assumption)
           have q141 : x6_2 < (l0.length : Int) := of_decide_eq_true (by first | (with_reducible assumption) | assumption)
           obtain ⟨ad141, A141_3, c141_3, A141_4, c141_4, e141, hx141_0, hx141_1, hx141_2, hx141_3, hx141_4, hl141_3, hi141_3, hl141_4, hi141_4⟩ := at_T42 HR0.out x6_2 p141 q141
           cases e141
           replace hx141_0 := (HB.out.cell (World.block_lt_of_cell? w _ hx141_0)).trans hx141_0
           replace hx141_1 := (HB.out.cell (World.block_lt_of_cell? w _ hx141_1)).trans hx141_1
           replace hx141_2 := (HB.out.cell (World.block_lt_of_cell? w _ hx141_2)).trans hx141_2
           replace hx141_3 := (HB.out.cell (World.block_lt_of_cell? w _ hx141_3)).trans hx141_3
           replace hx141_4 := (HB.out.cell (World.block_lt_of_cell? w _ hx141_4)).trans hx141_4
           have HR141_3 := aA hi141_3
           have HC141_3 := aA hl141_3
           clear hi141_3 hl141_3
           have HR141_4 := aA hi141_4
           have HC141_4 := aA hl141_4
           clear hi141_4 hl141_4
           replace p141 := eq_true p141
           replace q141 := eq_true q141
           have hcz44_0 : wr.cell? ⟨gb137, 0, none⟩ = some (.int .u64 x138000_2) := (blk_cell BK137.out 0).trans rfl
           have hcz44_1 : wr.cell? ⟨gb137, 1, none⟩ = some (u138001) := (blk_cell BK137.out 1).trans rfl
           have hcz44_2 : wr.cell? ⟨gb137, 2, none⟩ = some (u138002) := (blk_cell BK137.out 2).trans rfl
           have hfz44_0 := blk_frozen BK137.out 0
           have hfz44_1 := blk_frozen BK137.out 1
           have hfz44_2 := blk_frozen BK137.out 2
           go_wp2_with (first | ((with_reducible refine gate_dst (N := 80) rfl ?_); (try (refine gate_guard (by rfl) ?_; dsimp only)); refine Kd.R_lit (Kd.int .u64) _ 22 ?hg (N := 80) ?hd (xs := ([x5_2] : List Int)) (inner := [.int .u64 x5_2]) (ok := fun _ => True) (okp := fun _ => True) ?hr ?hp (fun _ hk => hk) trivial (Below.refl _ _) (Nat.le_refl _) (by simp) ?_; (case hd => rfl); (case hg => rfl); (case hr => first | (go_simp; done) | (go_simp; rfl)); (case hp => exact (Reps.one (show Kd.M (Kd.int .u64) _ _ _ x5_2 [.int .u64 x5_2] from rfl) (Reps.none _ _))); intro v161 w45 ho46 hb hg_ hnew_; clear hg_ hnew_; (first | rw [← Ny160.out] at ho46 | (simp only [Int.reduceToNat] at ho46; rw [← Ny160.out] at ho46)); have n0_ := aA (Kd.R_elder' (rlu HO_4.out) (Kd.R_base ho46) hb); have n1_ := aA (Kd.V_elder' (vlu HO_138001.out) (Kd.R_base ho46) hb); have n2_ := aA (Kd.V_elder' (vlu HO_138002.out) (Kd.R_base ho46) hb); have n3_ := aA (Kd.R_lower (Kd.R_new' ho46 (Kd.R_lt (rlu HO_4.out))) (below_size (bls HB.out))); have n4_ := aA (blk_below (g := gb137) (o := .cells #[.int .u64 x138000_2, u138001, u138002] 26 (0, 0)) (bku BK137.out) hb); have n5_ := aA (below_step (bls HB.out) hb); clear HO_4 HO_138001 HO_138002 BK137 HB; have HO_4 := n0_; have HO_138001 := n1_; have HO_138002 := n2_; have HO162 := n3_; have BK137 := n4_; have HB := n5_; clear n0_ n1_ n2_ n3_ n4_ n5_ hb ho46; obtain ⟨Ao47, co47, eo47⟩ := Kd.R_slice HO162.out; subst eo47; obtain ⟨Ao48, co48, eo48⟩ := Kd.V_slice HO_138001.out; subst eo48; obtain ⟨Ao49, co49, eo49⟩ := Kd.V_slice HO_138002.out; subst eo49) | ((with_reducible refine gate_callee (f := 8) rfl ?_); refine goesL_ (some 82) rfl rfl Try.func8 (by kernel_rfl) rfl #[.agg #[.int .u64 x138000_2, .slice Ao48 x138001_2.length co48, .slice Ao49 x138002_2.length co49], .agg #[.slice none 0 0, .slice Ao47 y160.length co47]] rfl (by (try simp only [List.map_toArray, List.map_cons, List.map_nil]); first | done | rfl | (simp only [List.length_drop, List.length_take]; rfl)) ?_; (refine (epoch_Retire.calls x138000_2 (fun k_ => ((some k_ ≠ (u4 : Value).ownBlock ∧ k_ ≠ gb137) ∧ some k_ ≠ (.slice Ao47 y160.length co47 : Value).ownBlock)) _ _ x138001_2 (fun k_ => ((some k_ ≠ (u4 : Value).ownBlock ∧ k_ ≠ gb137) ∧ some k_ ≠ (.slice Ao47 y160.length co47 : Value).ownBlock)) _ _ x138002_2 (fun k_ => False) _ _ ([] : List Int) (fun k_ => some k_ = (.slice Ao47 y160.length co47 : Value).ownBlock) _ _ y160 t163 t164 t167 _ ?side1 ?side2 ?side3 ?side4 A43.out).mono ?_); (case side1 => exact HO_138001.out); (case side2 => exact HO_138002.out); (case side3 => exact Kd.V_nil _ _ _ _ _); (case side4 => exact Kd.R_V (Kd.R_tight rfl (Kd.R_types (HO162.out) BK137.out (by decide)))); rintro e w50 ⟨v165, v168, rfl, ho0, ho1, hb⟩; refine ⟨_, rfl, ?_⟩; have n0_ := aA (Kd.R_below (rlu HO_4.out) hb); have n1_ := aA (Kd.V_below (vlu HO_138001.out) hb); have n2_ := aA (Kd.V_below (vlu HO_138002.out) hb); have n3_ := aA (Kd.R_below (rlu HO162.out) hb); have n4_ := aA (Kd.V_lower (Kd.V_mono (ok' := fun k_ => some k_ ≠ (u4 : Value).ownBlock ∧ k_ ≠ gb137) ho0 (fun k_ hk_ => ⟨Or.elim hk_ (fun hs_ => Or.elim hs_ (fun hs_ => hs_.1.1) (fun hs_ => Or.elim hs_ (fun hs_ => hs_.1.1) (fun hs_ => Or.elim hs_ (fun hs_ => (hs_).elim) (fun hs_ => ((Kd.R_types (HO162.out) BK137.out (by decide)).1 k_ hs_.symm).1.2)))) (fun hn_ => (Kd.fresh' (Kd.R_lt (rlu HO_4.out)) k_ hn_)), Or.elim hk_ (fun hs_ => Or.elim hs_ (fun hs_ => hs_.1.2) (fun hs_ => Or.elim hs_ (fun hs_ => hs_.1.2) (fun hs_ => Or.elim hs_ (fun hs_ => (hs_).elim) (fun hs_ => ((Kd.R_types (HO162.out) BK137.out (by decide)).1 k_ hs_.symm).2)))) (fun hn_ => (Kd.freshB (g := gb137) (o := .cells #[.int .u64 x138000_2, .slice Ao48 x138001_2.length co48, .slice Ao49 x138002_2.length co49] 26 (0, 0)) (bku BK137.out) k_ hn_))⟩)) (below_size (bls HB.out))); have n5_ := aA (Kd.V_lower (Kd.V_mono (ok' := fun k_ => some k_ ≠ (u4 : Value).ownBlock ∧ k_ ≠ gb137) ho1 (fun k_ hk_ => ⟨Or.elim hk_ (fun hs_ => Or.elim hs_ (fun hs_ => hs_.1.1) (fun hs_ => Or.elim hs_ (fun hs_ => hs_.1.1) (fun hs_ => Or.elim hs_ (fun hs_ => (hs_).elim) (fun hs_ => ((Kd.R_types (HO162.out) BK137.out (by decide)).1 k_ hs_.symm).1.2)))) (fun hn_ => (Kd.fresh' (Kd.R_lt (rlu HO_4.out)) k_ hn_)), Or.elim hk_ (fun hs_ => Or.elim hs_ (fun hs_ => hs_.1.2) (fun hs_ => Or.elim hs_ (fun hs_ => hs_.1.2) (fun hs_ => Or.elim hs_ (fun hs_ => (hs_).elim) (fun hs_ => ((Kd.R_types (HO162.out) BK137.out (by decide)).1 k_ hs_.symm).2)))) (fun hn_ => (Kd.freshB (g := gb137) (o := .cells #[.int .u64 x138000_2, .slice Ao48 x138001_2.length co48, .slice Ao49 x138002_2.length co49] 26 (0, 0)) (bku BK137.out) k_ hn_))⟩)) (below_size (bls HB.out))); have n6_ := aA (blk_below (g := gb137) (o := .cells #[.int .u64 x138000_2, .slice Ao48 x138001_2.length co48, .slice Ao49 x138002_2.length co49] 26 (0, 0)) (bku BK137.out) hb); have n7_ := aA (below_step (bls HB.out) hb); clear HO_4 HO_138001 HO_138002 HO162 BK137 HB; have HO_4 := n0_; have HO_138001 := n1_; have HO_138002 := n2_; have HO162 := n3_; have HO166 := n4_; have HO169 := n5_; have BK137 := n6_; have HB := n7_; clear n0_ n1_ n2_ n3_ n4_ n5_ n6_ n7_; (try clear hb); (try clear hb2); (try clear hk); (try clear hi); (try clear ho0); (try clear ho1); have hcz51_0 : w50.cell? ⟨gb137, 0, none⟩ = some (.int .u64 x138000_2) := (blk_cell BK137.out 0).trans rfl; have hcz51_1 : w50.cell? ⟨gb137, 1, none⟩ = some (.slice Ao48 x138001_2.length co48) := (blk_cell BK137.out 1).trans rfl; have hcz51_2 : w50.cell? ⟨gb137, 2, none⟩ = some (.slice Ao49 x138002_2.length co49) := (blk_cell BK137.out 2).trans rfl; have hfz51_0 := blk_frozen BK137.out 0; have hfz51_1 := blk_frozen BK137.out 1; have hfz51_2 := blk_frozen BK137.out 2; obtain ⟨Ao52, co52, eo52⟩ := Kd.V_slice HO166.out; subst eo52; obtain ⟨Ao53, co53, eo53⟩ := Kd.V_slice HO169.out; subst eo53))
           go_roundg k2
           case measure => have := HJ1.out; have := HK2.out; omega
           case rel => exact ⟨(x4_2), (IntKind.u64.wrap (x5_2 + 1)), (wrap64 (x6_2 + 1)), (t163), (t164), (t167), (.slice Ao52 t164.length co52), (.slice Ao53 t167.length co53), (by first | rfl | (simp; done) | (simp [*]; done)), (by first | rfl | (simp; done) | (simp [*]; done)), H', ⟨by have := HJ1.out; have := HK2.out; omega⟩, ⟨by (with_reducible repeat (first | apply Kd.R_alloc | apply Kd.R_drewN | apply Kd.R_drew)); exact Kd.R_mono (Kd.R_far (p := ⟨gb137, 2, none⟩) (Kd.R_far (p := ⟨gb137, 1, none⟩) (Kd.R_far (p := ⟨gb137, 0, none⟩) (Kd.R_types HO_4.out BK137.out (by decide)) (fun _ hk => hk.2) (.int .u64 t163)) (fun _ hk => hk.2) (.slice Ao52 t164.length co52)) (fun _ hk => hk.2) (.slice Ao53 t167.length co53)) (fun _ hk => trivial)⟩, ⟨by (with_reducible repeat (first | apply Kd.V_alloc | apply Kd.V_drewN | apply Kd.V_drew)); exact Kd.V_mono (Kd.V_far (p := ⟨gb137, 2, none⟩) (Kd.V_far (p := ⟨gb137, 1, none⟩) (Kd.V_far (p := ⟨gb137, 0, none⟩) (Kd.V_mono HO166.out (fun k_ hk => (⟨hk, hk.2⟩ : _ ∧ k_ ≠ gb137))) (fun _ hk => hk.2) (.int .u64 t163)) (fun _ hk => hk.2) (.slice Ao52 t164.length co52)) (fun _ hk => hk.2) (.slice Ao53 t167.length co53)) (fun _ hk => ⟨hk.1.1, hk.1.2⟩)⟩, ⟨by (with_reducible repeat (first | apply Kd.V_alloc | apply Kd.V_drewN | apply Kd.V_drew)); exact Kd.V_mono (Kd.V_far (p := ⟨gb137, 2, none⟩) (Kd.V_far (p := ⟨gb137, 1, none⟩) (Kd.V_far (p := ⟨gb137, 0, none⟩) (Kd.V_mono HO169.out (fun k_ hk => (⟨hk, hk.2⟩ : _ ∧ k_ ≠ gb137))) (fun _ hk => hk.2) (.int .u64 t163)) (fun _ hk => hk.2) (.slice Ao52 t164.length co52)) (fun _ hk => hk.2) (.slice Ao53 t167.length co53)) (fun _ hk => ⟨hk.1.1, hk.1.2⟩)⟩, ⟨by refine bku ?_; refine blk_put (cs := #[.int .u64 t163, .slice Ao52 t164.length co52, .slice Ao49 x138002_2.length co49]) ?_ 2 _ rfl; refine bku ?_; refine blk_put (cs := #[.int .u64 t163, .slice Ao48 x138001_2.length co48, .slice Ao49 x138002_2.length co49]) ?_ 1 _ rfl; refine bku ?_; refine blk_put (cs := #[.int .u64 x138000_2, .slice Ao48 x138001_2.length co48, .slice Ao49 x138002_2.length co49]) ?_ 0 _ rfl; refine bku ?_; exact BK137.out⟩, ⟨by repeat (first | (with_reducible first | exact HB.out | apply below_alloc | apply pw_below_drewN | apply below_drew1 | refine below_set ?_ GE137.out) | exact HB.out)⟩⟩
          ·rw [if_neg c42] at H
           have c42b0 : (((rd_T42 l0 x6_2).f0) == 2) = false := beq_eq_false_iff_ne.mpr c42
           have c42b1 : (((rd_T42 l0 x6_2).f0) != 2) = true := bne_iff_ne.mpr c42
           replace H := Option.bind_eq_some_iff.mp H
           obtain ⟨⟨t170, t171, t174, t177, t180, t183⟩, A540, H⟩ := H
           replace H : (if x4_2.length + t180.length < 17592186044416 then (treillagelaw14_EpochAll.l0 k2 l0 (x4_2 ++ t180) x5_2 (wrap64 (x6_2 + 1)) t170 t171 t174) else (none)) = some r := H
           have A54 := aA A540
           clear A540
           by_cases c55 : x4_2.length + t180.length < 17592186044416
           ·rw [if_pos c55] at H
            have LMc55 := aA c55
            clear c55
            obtain ⟨y186, hy186⟩ : ∃ y_ : List Int, y_ = (x4_2 ++ t180) := ⟨_, rfl⟩
            replace H : (treillagelaw14_EpochAll.l0 k2 l0 y186 x5_2 (wrap64 (x6_2 + 1)) t170 t171 t174) = some r := by first | (rw [hy186]; with_reducible exact H) | (have H2_ := (Option.bind_some _ _).symm.trans H; rw [hy186]; with_reducible exact H2_) | (have H2_ := (Option.bind_some _ _).symm.trans H; with_reducible exact H2_) | with_reducible exact H | (rw [hy186]; exact H) | exact H
            have Ny186 := aA hy186
            clear hy186
            have H' := aA H
            clear H
            have p141 : 0 ≤ (x6_2 : Int) := of_decide_eq_true (by first | (with_reducible assumption) | assumption)
            have q141 : x6_2 < (l0.length : Int) := of_decide_eq_true (by first | (with_reducible assumption) | assumption)
            obtain ⟨ad141, A141_3, c141_3, A141_4, c141_4, e141, hx141_0, hx141_1, hx141_2, hx141_3, hx141_4, hl141_3, hi141_3, hl141_4, hi141_4⟩ := at_T42 HR0.out x6_2 p141 q141
            cases e141
            replace hx141_0 := (HB.out.cell (World.block_lt_of_cell? w _ hx141_0)).trans hx141_0
            replace hx141_1 := (HB.out.cell (World.block_lt_of_cell? w _ hx141_1)).trans hx141_1
            replace hx141_2 := (HB.out.cell (World.block_lt_of_cell? w _ hx141_2)).trans hx141_2
            replace hx141_3 := (HB.out.cell (World.block_lt_of_cell? w _ hx141_3)).trans hx141_3
            replace hx141_4 := (HB.out.cell (World.block_lt_of_cell? w _ hx141_4)).trans hx141_4
            have HR141_3 := aA hi141_3
            have HC141_3 := aA hl141_3
            clear hi141_3 hl141_3
            have HR141_4 := aA hi141_4
            have HC141_4 := aA hl141_4
            clear hi141_4 hl141_4
            replace p141 := eq_true p141
            replace q141 := eq_true q141
            have hcz56_0 : wr.cell? ⟨gb137, 0, none⟩ = some (.int .u64 x138000_2) := (blk_cell BK137.out 0).trans rfl
            have hcz56_1 : wr.cell? ⟨gb137, 1, none⟩ = some (u138001) := (blk_cell BK137.out 1).trans rfl
            have hcz56_2 : wr.cell? ⟨gb137, 2, none⟩ = some (u138002) := (blk_cell BK137.out 2).trans rfl
            have hfz56_0 := blk_frozen BK137.out 0
            have hfz56_1 := blk_frozen BK137.out 1
            have hfz56_2 := blk_frozen BK137.out 2
            obtain ⟨Ao57, co57, eo57⟩ := Kd.V_slice HO_138001.out
            subst eo57
            obtain ⟨Ao58, co58, eo58⟩ := Kd.V_slice HO_138002.out
            subst eo58
            go_wp2_with (first | ((with_reducible refine gate_callee (f := 10) rfl ?_); refine goesL_ (some 39) rfl rfl Try.func10 (by kernel_rfl) rfl #[.agg #[.int .u64 x138000_2, .slice Ao57 x138001_2.length co57, .slice Ao58 x138002_2.length co58]] rfl (by (try simp only [List.map_toArray, List.map_cons, List.map_nil]); first | done | rfl | (simp only [List.length_drop, List.length_take]; rfl)) ?_; (with_reducible refine (epoch_Advance.calls k2 x138000_2 (fun k_ => (some k_ ≠ (u4 : Value).ownBlock ∧ k_ ≠ gb137)) _ _ x138001_2 (fun k_ => (some k_ ≠ (u4 : Value).ownBlock ∧ k_ ≠ gb137)) _ _ x138002_2 t170 t171 t174 t177 t180 t183 _ ?side1 ?side2 A54.out).mono ?_); (case side1 => exact HO_138001.out); (case side2 => exact HO_138002.out); rintro e w59 ⟨v172, v175, v178, v181, rfl, ho0, ho1, ho2, ho3, hb⟩; refine ⟨_, rfl, ?_⟩; have n0_ := aA (Kd.R_mono (Kd.R_told (Kd.R_told (Kd.R_old (rlu HO_4.out) hb) (Kd.R_base ho2)) (Kd.R_base ho3)) (fun _ h_ => h_.1)); have n1_ := aA (Kd.V_mono (Kd.V_told (Kd.V_told (Kd.V_old (vlu HO_138001.out) hb) (Kd.R_base ho2)) (Kd.R_base ho3)) (fun _ h_ => h_.1)); have n2_ := aA (Kd.V_mono (Kd.V_told (Kd.V_told (Kd.V_old (vlu HO_138002.out) hb) (Kd.R_base ho2)) (Kd.R_base ho3)) (fun _ h_ => h_.1)); have n3_ := aA (Kd.V_lower (Kd.V_mono (ok' := fun k_ => some k_ ≠ (v178 : Value).ownBlock ∧ some k_ ≠ (v181 : Value).ownBlock ∧ some k_ ≠ (u4 : Value).ownBlock ∧ k_ ≠ gb137) ho0 (fun k_ hk_ => ⟨hk_.2.1, hk_.2.2, Or.elim hk_.1 (fun hs_ => Or.elim hs_ (fun hs_ => hs_.1) (fun hs_ => hs_.1)) (fun hn_ => (Kd.fresh' (Kd.R_lt (rlu HO_4.out)) k_ hn_)), Or.elim hk_.1 (fun hs_ => Or.elim hs_ (fun hs_ => hs_.2) (fun hs_ => hs_.2)) (fun hn_ => (Kd.freshB (g := gb137) (o := .cells #[.int .u64 x138000_2, .slice Ao57 x138001_2.length co57, .slice Ao58 x138002_2.length co58] 26 (0, 0)) (bku BK137.out) k_ hn_))⟩)) (below_size (bls HB.out))); have n4_ := aA (Kd.V_lower (Kd.V_mono (ok' := fun k_ => some k_ ≠ (v178 : Value).ownBlock ∧ some k_ ≠ (v181 : Value).ownBlock ∧ some k_ ≠ (u4 : Value).ownBlock ∧ k_ ≠ gb137) ho1 (fun k_ hk_ => ⟨hk_.2.1, hk_.2.2, Or.elim hk_.1 (fun hs_ => Or.elim hs_ (fun hs_ => hs_.1) (fun hs_ => hs_.1)) (fun hn_ => (Kd.fresh' (Kd.R_lt (rlu HO_4.out)) k_ hn_)), Or.elim hk_.1 (fun hs_ => Or.elim hs_ (fun hs_ => hs_.2) (fun hs_ => hs_.2)) (fun hn_ => (Kd.freshB (g := gb137) (o := .cells #[.int .u64 x138000_2, .slice Ao57 x138001_2.length co57, .slice Ao58 x138002_2.length co58] 26 (0, 0)) (bku BK137.out) k_ hn_))⟩)) (below_size (bls HB.out))); have n5_ := aA (Kd.R_lower (Kd.R_new' (Kd.R_mono (ok' := fun k_ => some k_ ≠ (v181 : Value).ownBlock) ho2 (fun _ hk_ => hk_.2)) (Kd.R_lt (rlu HO_4.out))) (below_size (bls HB.out))); have n6_ := aA (Kd.R_lower (Kd.R_new' (Kd.R_mono (ok' := fun k_ => some k_ ≠ (v178 : Value).ownBlock) ho3 (fun _ hk_ => hk_.2)) (Kd.R_lt (rlu HO_4.out))) (below_size (bls HB.out))); have n7_ := aA (blk_below (g := gb137) (o := .cells #[.int .u64 x138000_2, .slice Ao57 x138001_2.length co57, .slice Ao58 x138002_2.length co58] 26 (0, 0)) (bku BK137.out) hb); have n8_ := aA (below_step (bls HB.out) hb); clear HO_4 HO_138001 HO_138002 BK137 HB; have HO_4 := n0_; have HO_138001 := n1_; have HO_138002 := n2_; have HO173 := n3_; have HO176 := n4_; have HO179 := n5_; have HO182 := n6_; have BK137 := n7_; have HB := n8_; clear n0_ n1_ n2_ n3_ n4_ n5_ n6_ n7_ n8_; (try clear hb); (try clear hb2); (try clear hk); (try clear hi); (try clear ho0); (try clear ho1); (try clear ho2); (try clear ho3)) | ((with_reducible refine gate_dst (N := 7) rfl ?_); (try (refine gate_guard (by rfl) ?_; dsimp only)); refine box_event ?hg (N := 7) ?hd (cs := #[.int .u64 0, .slice none 0 0, .slice none 0 0]) (t := 26) ?hr ?_; (case hd => rfl); (case hg => rfl); (case hr => first | (go_simp; done) | (go_simp; rfl)); intro gb184 hg w60 hbox hb; have n0_ := aA (Kd.R_below (rlu HO_4.out) hb); have n1_ := aA (Kd.V_below (Kd.V_elderB (vlu HO_138001.out) gb184 (Nat.le_of_eq hg.symm)) hb); have n2_ := aA (Kd.V_below (Kd.V_elderB (vlu HO_138002.out) gb184 (Nat.le_of_eq hg.symm)) hb); have n3_ := aA (Kd.V_below (Kd.V_elderB (vlu HO173.out) gb184 (Nat.le_of_eq hg.symm)) hb); have n4_ := aA (Kd.V_below (Kd.V_elderB (vlu HO176.out) gb184 (Nat.le_of_eq hg.symm)) hb); have n5_ := aA (Kd.R_below (rlu HO179.out) hb); have n6_ := aA (Kd.R_below (rlu HO182.out) hb); have n7_ := aA (blk_below (g := gb137) (o := .cells #[.int .u64 x138000_2, .slice Ao57 x138001_2.length co57, .slice Ao58 x138002_2.length co58] 26 (0, 0)) (bku BK137.out) hb); have n8_ := aA (below_step (bls HB.out) hb); have n9_ := aA (hbox); have n10_ := aA ((by rw [hg]; exact (below_size (bls HB.out)) : w.heap.size ≤ gb184)); have n11_ := aA ((by rw [hg]; exact (below_size (bls HB.out)) : w.heap.size ≤ gb184)); have n12_ := aA ((by rw [hg]; exact Nat.ne_of_lt (blk_lt (g := gb137) (o := .cells #[.int .u64 x138000_2, .slice Ao57 x138001_2.length co57, .slice Ao58 x138002_2.length co58] 26 (0, 0)) (bku BK137.out)) : gb137 ≠ gb184)); have n13_ := aA ((by rw [hg]; exact Nat.ne_of_gt (blk_lt (g := gb137) (o := .cells #[.int .u64 x138000_2, .slice Ao57 x138001_2.length co57, .slice Ao58 x138002_2.length co58] 26 (0, 0)) (bku BK137.out)) : gb184 ≠ gb137)); clear HO_4 HO_138001 HO_138002 HO173 HO176 HO179 HO182 BK137 HB; have HO_4 := n0_; have HO_138001 := n1_; have HO_138002 := n2_; have HO173 := n3_; have HO176 := n4_; have HO179 := n5_; have HO182 := n6_; have BK137 := n7_; have HB := n8_; have BK184 := n9_; have GW184 := n10_; have GE184 := n11_; have NB137_184 := n12_; have NB184_137 := n13_; clear n0_ n1_ n2_ n3_ n4_ n5_ n6_ n7_ n8_ n9_ n10_ n11_ n12_ n13_ hb hbox hg) | ((with_reducible refine gate_dst (N := 8) rfl ?_); (try (refine gate_guard (by rfl) ?_; dsimp only)); refine box_event ?hg (N := 8) ?hd (cs := #[.slice none 0 0, .slice none 0 0]) (t := 30) ?hr ?_; (case hd => rfl); (case hg => rfl); (case hr => first | (go_simp; done) | (go_simp; rfl)); intro gb185 hg w61 hbox hb; have n0_ := aA (Kd.R_below (rlu HO_4.out) hb); have n1_ := aA (Kd.V_below (Kd.V_elderB (vlu HO_138001.out) gb185 (Nat.le_of_eq hg.symm)) hb); have n2_ := aA (Kd.V_below (Kd.V_elderB (vlu HO_138002.out) gb185 (Nat.le_of_eq hg.symm)) hb); have n3_ := aA (Kd.V_below (Kd.V_elderB (vlu HO173.out) gb185 (Nat.le_of_eq hg.symm)) hb); have n4_ := aA (Kd.V_below (Kd.V_elderB (vlu HO176.out) gb185 (Nat.le_of_eq hg.symm)) hb); have n5_ := aA (Kd.R_below (rlu HO179.out) hb); have n6_ := aA (Kd.R_below (rlu HO182.out) hb); have n7_ := aA (blk_below (g := gb137) (o := .cells #[.int .u64 x138000_2, .slice Ao57 x138001_2.length co57, .slice Ao58 x138002_2.length co58] 26 (0, 0)) (bku BK137.out) hb); have n8_ := aA (blk_below (g := gb184) (o := .cells #[.int .u64 0, .slice none 0 0, .slice none 0 0] 26 (0, 0)) (bku BK184.out) hb); have n9_ := aA (below_step (bls HB.out) hb); have n10_ := aA (hbox); have n11_ := aA ((by rw [hg]; exact (below_size (bls HB.out)) : w.heap.size ≤ gb185)); have n12_ := aA ((by rw [hg]; exact (below_size (bls HB.out)) : w.heap.size ≤ gb185)); have n13_ := aA ((by rw [hg]; exact Nat.ne_of_lt (blk_lt (g := gb137) (o := .cells #[.int .u64 x138000_2, .slice Ao57 x138001_2.length co57, .slice Ao58 x138002_2.length co58] 26 (0, 0)) (bku BK137.out)) : gb137 ≠ gb185)); have n14_ := aA ((by rw [hg]; exact Nat.ne_of_gt (blk_lt (g := gb137) (o := .cells #[.int .u64 x138000_2, .slice Ao57 x138001_2.length co57, .slice Ao58 x138002_2.length co58] 26 (0, 0)) (bku BK137.out)) : gb185 ≠ gb137)); have n15_ := aA ((by rw [hg]; exact Nat.ne_of_lt (blk_lt (g := gb184) (o := .cells #[.int .u64 0, .slice none 0 0, .slice none 0 0] 26 (0, 0)) (bku BK184.out)) : gb184 ≠ gb185)); have n16_ := aA ((by rw [hg]; exact Nat.ne_of_gt (blk_lt (g := gb184) (o := .cells #[.int .u64 0, .slice none 0 0, .slice none 0 0] 26 (0, 0)) (bku BK184.out)) : gb185 ≠ gb184)); clear HO_4 HO_138001 HO_138002 HO173 HO176 HO179 HO182 BK137 BK184 HB; have HO_4 := n0_; have HO_138001 := n1_; have HO_138002 := n2_; have HO173 := n3_; have HO176 := n4_; have HO179 := n5_; have HO182 := n6_; have BK137 := n7_; have BK184 := n8_; have HB := n9_; have BK185 := n10_; have GW185 := n11_; have GE185 := n12_; have NB137_185 := n13_; have NB185_137 := n14_; have NB184_185 := n15_; have NB185_184 := n16_; clear n0_ n1_ n2_ n3_ n4_ n5_ n6_ n7_ n8_ n9_ n10_ n11_ n12_ n13_ n14_ n15_ n16_ hb hbox hg; have hnb62 := NB184_137.out; have hnc62 := NB137_184.out; have hnb63 := NB184_185.out; have hnc63 := NB185_184.out; have hcz64_0 : w61.cell? ⟨gb184, 0, none⟩ = some (.int .u64 0) := (blk_cell BK184.out 0).trans rfl; have hcz64_1 : w61.cell? ⟨gb184, 1, none⟩ = some (.slice none 0 0) := (blk_cell BK184.out 1).trans rfl; have hcz64_2 : w61.cell? ⟨gb184, 2, none⟩ = some (.slice none 0 0) := (blk_cell BK184.out 2).trans rfl; have hfz64_0 := blk_frozen BK184.out 0; have hfz64_1 := blk_frozen BK184.out 1; have hfz64_2 := blk_frozen BK184.out 2; obtain ⟨Ao65, co65, eo65⟩ := Kd.V_slice HO173.out; subst eo65; obtain ⟨Ao66, co66, eo66⟩ := Kd.V_slice HO176.out; subst eo66; obtain ⟨Ao67, co67, eo67⟩ := Kd.R_slice HO179.out; subst eo67; have hnb68 := NB185_137.out; have hnc68 := NB137_185.out; have hcz69_0 : w61.cell? ⟨gb185, 0, none⟩ = some (.slice none 0 0) := (blk_cell BK185.out 0).trans rfl; have hcz69_1 : w61.cell? ⟨gb185, 1, none⟩ = some (.slice none 0 0) := (blk_cell BK185.out 1).trans rfl; have hfz69_0 := blk_frozen BK185.out 0; have hfz69_1 := blk_frozen BK185.out 1; obtain ⟨Ao70, co70, eo70⟩ := Kd.R_slice HO182.out; subst eo70; have hcz71_0 : w61.cell? ⟨gb137, 0, none⟩ = some (.int .u64 x138000_2) := (blk_cell BK137.out 0).trans rfl; have hcz71_1 : w61.cell? ⟨gb137, 1, none⟩ = some (.slice Ao57 x138001_2.length co57) := (blk_cell BK137.out 1).trans rfl; have hcz71_2 : w61.cell? ⟨gb137, 2, none⟩ = some (.slice Ao58 x138002_2.length co58) := (blk_cell BK137.out 2).trans rfl; have hfz71_0 := blk_frozen BK137.out 0; have hfz71_1 := blk_frozen BK137.out 1; have hfz71_2 := blk_frozen BK137.out 2) | ((with_reducible refine gate_builtin (b := .append) (xs := #[.tmp 44, .tmp 46]) rfl ?_); (try (refine gate_guard (by rfl) ?_; dsimp only)); at_builtin; refine Kd.R_append_rows (Kd.int .u64) (w0 := w) w.heap.size rfl (.tmp 44) (.tmp 46) 23 22 (.int .u64 0) 8 rfl Try.underlying23 info22 rfl (by decide) (by omega) u4 x4_2 t180 _ _ _ (fun k_ => some k_ ≠ (.slice Ao67 t177.length co67 : Value).ownBlock ∧ some k_ ≠ (.slice Ao70 t180.length co70 : Value).ownBlock) (fun _ => False) rfl rfl ?aO ?aR (fun _ _ h => h) (fun _ h => h.elim) ?aF ?aB ?aS ?aL ?_; (case aR => refine (Kd.R_reads' (e := 22) (base := w.heap.size) (ok := fun k_ => (some k_ ≠ (.slice Ao67 t177.length co67 : Value).ownBlock ∧ some k_ ≠ (u4 : Value).ownBlock)) (n := t180.length) (c := co70) ?_).2.2; exact (rlu ((Kd.R_mono (Kd.R_mono (Kd.R_mono (Kd.R_far (p := ⟨gb137, 2, none⟩) (Kd.R_far (p := ⟨gb137, 1, none⟩) (Kd.R_far (p := ⟨gb137, 0, none⟩) (Kd.R_far (p := ⟨gb185, 1, none⟩) (Kd.R_far (p := ⟨gb185, 0, none⟩) (Kd.R_far (p := ⟨gb184, 2, none⟩) (Kd.R_far (p := ⟨gb184, 1, none⟩) (Kd.R_far (p := ⟨gb184, 0, none⟩) (Kd.R_types (Kd.R_types (Kd.R_types HO182.out BK184.out (by decide)) BK185.out (by decide)) BK137.out (by decide)) (fun _ hk => hk.1.1.2) (.int .u64 t170)) (fun _ hk => hk.1.1.2) (.slice Ao65 t171.length co65)) (fun _ hk => hk.1.1.2) (.slice Ao66 t174.length co66)) (fun _ hk => hk.1.2) (.slice Ao67 t177.length co67)) (fun _ hk => hk.1.2) (.slice Ao70 t180.length co70)) (fun _ hk => hk.2) (.int .u64 t170)) (fun _ hk => hk.2) (.slice Ao65 t171.length co65)) (fun _ hk => hk.2) (.slice Ao66 t174.length co66)) (fun _ h_ => h_.1)) (fun _ h_ => h_.1)) (fun _ h_ => h_.1))))); (case aB => exact (bls HB.out)); (case aF => exact (fun k_ hk => ⟨Kd.fresh' (Kd.R_lt (rlu ((Kd.R_mono (Kd.R_mono (Kd.R_mono (Kd.R_far (p := ⟨gb137, 2, none⟩) (Kd.R_far (p := ⟨gb137, 1, none⟩) (Kd.R_far (p := ⟨gb137, 0, none⟩) (Kd.R_far (p := ⟨gb185, 1, none⟩) (Kd.R_far (p := ⟨gb185, 0, none⟩) (Kd.R_far (p := ⟨gb184, 2, none⟩) (Kd.R_far (p := ⟨gb184, 1, none⟩) (Kd.R_far (p := ⟨gb184, 0, none⟩) (Kd.R_types (Kd.R_types (Kd.R_types HO179.out BK184.out (by decide)) BK185.out (by decide)) BK137.out (by decide)) (fun _ hk => hk.1.1.2) (.int .u64 t170)) (fun _ hk => hk.1.1.2) (.slice Ao65 t171.length co65)) (fun _ hk => hk.1.1.2) (.slice Ao66 t174.length co66)) (fun _ hk => hk.1.2) (.slice Ao67 t177.length co67)) (fun _ hk => hk.1.2) (.slice Ao70 t180.length co70)) (fun _ hk => hk.2) (.int .u64 t170)) (fun _ hk => hk.2) (.slice Ao65 t171.length co65)) (fun _ hk => hk.2) (.slice Ao66 t174.length co66)) (fun _ h_ => h_.1)) (fun _ h_ => h_.1)) (fun _ h_ => h_.1))))) k_ hk, Kd.fresh' (Kd.R_lt (rlu ((Kd.R_mono (Kd.R_mono (Kd.R_mono (Kd.R_far (p := ⟨gb137, 2, none⟩) (Kd.R_far (p := ⟨gb137, 1, none⟩) (Kd.R_far (p := ⟨gb137, 0, none⟩) (Kd.R_far (p := ⟨gb185, 1, none⟩) (Kd.R_far (p := ⟨gb185, 0, none⟩) (Kd.R_far (p := ⟨gb184, 2, none⟩) (Kd.R_far (p := ⟨gb184, 1, none⟩) (Kd.R_far (p := ⟨gb184, 0, none⟩) (Kd.R_types (Kd.R_types (Kd.R_types HO182.out BK184.out (by decide)) BK185.out (by decide)) BK137.out (by decide)) (fun _ hk => hk.1.1.2) (.int .u64 t170)) (fun _ hk => hk.1.1.2) (.slice Ao65 t171.length co65)) (fun _ hk => hk.1.1.2) (.slice Ao66 t174.length co66)) (fun _ hk => hk.1.2) (.slice Ao67 t177.length co67)) (fun _ hk => hk.1.2) (.slice Ao70 t180.length co70)) (fun _ hk => hk.2) (.int .u64 t170)) (fun _ hk => hk.2) (.slice Ao65 t171.length co65)) (fun _ hk => hk.2) (.slice Ao66 t174.length co66)) (fun _ h_ => h_.1)) (fun _ h_ => h_.1)) (fun _ h_ => h_.1))))) k_ hk⟩)); (case aO => exact (rlu (Kd.R_mono (Kd.R_far (p := ⟨gb137, 2, none⟩) (Kd.R_far (p := ⟨gb137, 1, none⟩) (Kd.R_far (p := ⟨gb137, 0, none⟩) (Kd.R_far (p := ⟨gb185, 1, none⟩) (Kd.R_far (p := ⟨gb185, 0, none⟩) (Kd.R_far (p := ⟨gb184, 2, none⟩) (Kd.R_far (p := ⟨gb184, 1, none⟩) (Kd.R_far (p := ⟨gb184, 0, none⟩) (Kd.R_types (Kd.R_types (Kd.R_types HO_4.out BK184.out (by decide)) BK185.out (by decide)) BK137.out (by decide)) (fun _ hk => hk.1.1.2) (.int .u64 t170)) (fun _ hk => hk.1.1.2) (.slice Ao65 t171.length co65)) (fun _ hk => hk.1.1.2) (.slice Ao66 t174.length co66)) (fun _ hk => hk.1.2) (.slice Ao67 t177.length co67)) (fun _ hk => hk.1.2) (.slice Ao70 t180.length co70)) (fun _ hk => hk.2) (.int .u64 t170)) (fun _ hk => hk.2) (.slice Ao65 t171.length co65)) (fun _ hk => hk.2) (.slice Ao66 t174.length co66)) (fun _ hk => ⟨hk.1.1.1.1.2, hk.1.1.1.2⟩)))); (case aS => exact (below_size (bls HB.out))); (case aL => have := LMc55.out; omega); intro v187 w72 ho hb hg hat; rw [← Ny186.out] at ho; have n0_ := aA (Kd.V_afterv (ok := (fun k_ => some k_ ≠ (.slice Ao67 t177.length co67 : Value).ownBlock ∧ some k_ ≠ (.slice Ao70 t180.length co70 : Value).ownBlock ∧ k_ ≠ gb137 ∧ k_ ≠ gb184 ∧ k_ ≠ gb185)) (vlu (Kd.V_mono (Kd.V_far (p := ⟨gb137, 2, none⟩) (Kd.V_far (p := ⟨gb137, 1, none⟩) (Kd.V_far (p := ⟨gb137, 0, none⟩) (Kd.V_far (p := ⟨gb185, 1, none⟩) (Kd.V_far (p := ⟨gb185, 0, none⟩) (Kd.V_far (p := ⟨gb184, 2, none⟩) (Kd.V_far (p := ⟨gb184, 1, none⟩) (Kd.V_far (p := ⟨gb184, 0, none⟩) (Kd.V_mono (Kd.V_mono (Kd.V_mono HO_138001.out (fun k_ hk => (⟨hk, hk.1.2⟩ : _ ∧ k_ ≠ gb184))) (fun k_ hk => (⟨hk, hk.1.2⟩ : _ ∧ k_ ≠ gb185))) (fun k_ hk => (⟨hk, hk.1.1.1.1.1.1.2⟩ : _ ∧ k_ ≠ gb137))) (fun _ hk => hk.1.1.2) (.int .u64 t170)) (fun _ hk => hk.1.1.2) (.slice Ao65 t171.length co65)) (fun _ hk => hk.1.1.2) (.slice Ao66 t174.length co66)) (fun _ hk => hk.1.2) (.slice Ao67 t177.length co67)) (fun _ hk => hk.1.2) (.slice Ao70 t180.length co70)) (fun _ hk => hk.2) (.int .u64 t170)) (fun _ hk => hk.2) (.slice Ao65 t171.length co65)) (fun _ hk => hk.2) (.slice Ao66 t174.length co66)) (fun _ hk => ⟨⟨hk.1.1.1.1.1.1.2, ⟨hk.1.1.1.1.1.2, ⟨hk.1.1.1.1.1.1.1.2, ⟨hk.1.1.1.1.2, hk.1.1.1.2⟩⟩⟩⟩, hk.1.1.1.1.1.1.1.1⟩))) hg hat); have n1_ := aA (Kd.V_afterv (ok := (fun k_ => some k_ ≠ (.slice Ao67 t177.length co67 : Value).ownBlock ∧ some k_ ≠ (.slice Ao70 t180.length co70 : Value).ownBlock ∧ k_ ≠ gb137 ∧ k_ ≠ gb184 ∧ k_ ≠ gb185)) (vlu (Kd.V_mono (Kd.V_far (p := ⟨gb137, 2, none⟩) (Kd.V_far (p := ⟨gb137, 1, none⟩) (Kd.V_far (p := ⟨gb137, 0, none⟩) (Kd.V_far (p := ⟨gb185, 1, none⟩) (Kd.V_far (p := ⟨gb185, 0, none⟩) (Kd.V_far (p := ⟨gb184, 2, none⟩) (Kd.V_far (p := ⟨gb184, 1, none⟩) (Kd.V_far (p := ⟨gb184, 0, none⟩) (Kd.V_mono (Kd.V_mono (Kd.V_mono HO_138002.out (fun k_ hk => (⟨hk, hk.1.2⟩ : _ ∧ k_ ≠ gb184))) (fun k_ hk => (⟨hk, hk.1.2⟩ : _ ∧ k_ ≠ gb185))) (fun k_ hk => (⟨hk, hk.1.1.1.1.1.1.2⟩ : _ ∧ k_ ≠ gb137))) (fun _ hk => hk.1.1.2) (.int .u64 t170)) (fun _ hk => hk.1.1.2) (.slice Ao65 t171.length co65)) (fun _ hk => hk.1.1.2) (.slice Ao66 t174.length co66)) (fun _ hk => hk.1.2) (.slice Ao67 t177.length co67)) (fun _ hk => hk.1.2) (.slice Ao70 t180.length co70)) (fun _ hk => hk.2) (.int .u64 t170)) (fun _ hk => hk.2) (.slice Ao65 t171.length co65)) (fun _ hk => hk.2) (.slice Ao66 t174.length co66)) (fun _ hk => ⟨⟨hk.1.1.1.1.1.1.2, ⟨hk.1.1.1.1.1.2, ⟨hk.1.1.1.1.1.1.1.2, ⟨hk.1.1.1.1.2, hk.1.1.1.2⟩⟩⟩⟩, hk.1.1.1.1.1.1.1.1⟩))) hg hat); have n2_ := aA (blk_grown (g := gb137) (o := .cells #[.int .u64 t170, .slice Ao65 t171.length co65, .slice Ao66 t174.length co66] 26 (0, 0)) (by refine bku ?_; refine blk_put (cs := #[.int .u64 t170, .slice Ao65 t171.length co65, .slice Ao58 x138002_2.length co58]) ?_ 2 _ rfl; refine bku ?_; refine blk_put (cs := #[.int .u64 t170, .slice Ao57 x138001_2.length co57, .slice Ao58 x138002_2.length co58]) ?_ 1 _ rfl; refine bku ?_; refine blk_put (cs := #[.int .u64 x138000_2, .slice Ao57 x138001_2.length co57, .slice Ao58 x138002_2.length co58]) ?_ 0 _ rfl; refine bku ?_; refine blk_far ?_ NB137_185.out _; refine bku ?_; refine blk_far ?_ NB137_185.out _; refine bku ?_; refine blk_far ?_ NB137_184.out _; refine bku ?_; refine blk_far ?_ NB137_184.out _; refine bku ?_; refine blk_far ?_ NB137_184.out _; refine bku ?_; exact BK137.out) hg (Kd.R_ne HO_4.out BK137.out (by decide))); have n3_ := aA (Kd.V_afterv (ok := (fun k_ => some k_ ≠ (.slice Ao67 t177.length co67 : Value).ownBlock ∧ some k_ ≠ (.slice Ao70 t180.length co70 : Value).ownBlock ∧ k_ ≠ gb137 ∧ k_ ≠ gb184 ∧ k_ ≠ gb185)) (vlu (Kd.V_mono (Kd.V_far (p := ⟨gb137, 2, none⟩) (Kd.V_far (p := ⟨gb137, 1, none⟩) (Kd.V_far (p := ⟨gb137, 0, none⟩) (Kd.V_far (p := ⟨gb185, 1, none⟩) (Kd.V_far (p := ⟨gb185, 0, none⟩) (Kd.V_far (p := ⟨gb184, 2, none⟩) (Kd.V_far (p := ⟨gb184, 1, none⟩) (Kd.V_far (p := ⟨gb184, 0, none⟩) (Kd.V_mono (Kd.V_mono (Kd.V_mono HO173.out (fun k_ hk => (⟨hk, hk.1.2⟩ : _ ∧ k_ ≠ gb184))) (fun k_ hk => (⟨hk, hk.1.2⟩ : _ ∧ k_ ≠ gb185))) (fun k_ hk => (⟨hk, hk.1.1.1.1.2.2.2⟩ : _ ∧ k_ ≠ gb137))) (fun _ hk => hk.1.1.2) (.int .u64 t170)) (fun _ hk => hk.1.1.2) (.slice Ao65 t171.length co65)) (fun _ hk => hk.1.1.2) (.slice Ao66 t174.length co66)) (fun _ hk => hk.1.2) (.slice Ao67 t177.length co67)) (fun _ hk => hk.1.2) (.slice Ao70 t180.length co70)) (fun _ hk => hk.2) (.int .u64 t170)) (fun _ hk => hk.2) (.slice Ao65 t171.length co65)) (fun _ hk => hk.2) (.slice Ao66 t174.length co66)) (fun _ hk => ⟨⟨hk.1.1.1.1.1.1, ⟨hk.1.1.1.1.1.2.1, ⟨hk.1.1.1.1.1.2.2.2, ⟨hk.1.1.1.1.2, hk.1.1.1.2⟩⟩⟩⟩, hk.1.1.1.1.1.2.2.1⟩))) hg hat); have n4_ := aA (Kd.V_afterv (ok := (fun k_ => some k_ ≠ (.slice Ao67 t177.length co67 : Value).ownBlock ∧ some k_ ≠ (.slice Ao70 t180.length co70 : Value).ownBlock ∧ k_ ≠ gb137 ∧ k_ ≠ gb184 ∧ k_ ≠ gb185)) (vlu (Kd.V_mono (Kd.V_far (p := ⟨gb137, 2, none⟩) (Kd.V_far (p := ⟨gb137, 1, none⟩) (Kd.V_far (p := ⟨gb137, 0, none⟩) (Kd.V_far (p := ⟨gb185, 1, none⟩) (Kd.V_far (p := ⟨gb185, 0, none⟩) (Kd.V_far (p := ⟨gb184, 2, none⟩) (Kd.V_far (p := ⟨gb184, 1, none⟩) (Kd.V_far (p := ⟨gb184, 0, none⟩) (Kd.V_mono (Kd.V_mono (Kd.V_mono HO176.out (fun k_ hk => (⟨hk, hk.1.2⟩ : _ ∧ k_ ≠ gb184))) (fun k_ hk => (⟨hk, hk.1.2⟩ : _ ∧ k_ ≠ gb185))) (fun k_ hk => (⟨hk, hk.1.1.1.1.2.2.2⟩ : _ ∧ k_ ≠ gb137))) (fun _ hk => hk.1.1.2) (.int .u64 t170)) (fun _ hk => hk.1.1.2) (.slice Ao65 t171.length co65)) (fun _ hk => hk.1.1.2) (.slice Ao66 t174.length co66)) (fun _ hk => hk.1.2) (.slice Ao67 t177.length co67)) (fun _ hk => hk.1.2) (.slice Ao70 t180.length co70)) (fun _ hk => hk.2) (.int .u64 t170)) (fun _ hk => hk.2) (.slice Ao65 t171.length co65)) (fun _ hk => hk.2) (.slice Ao66 t174.length co66)) (fun _ hk => ⟨⟨hk.1.1.1.1.1.1, ⟨hk.1.1.1.1.1.2.1, ⟨hk.1.1.1.1.1.2.2.2, ⟨hk.1.1.1.1.2, hk.1.1.1.2⟩⟩⟩⟩, hk.1.1.1.1.1.2.2.1⟩))) hg hat); have n5_ := aA (Kd.R_after (ok := (fun k_ => some k_ ≠ (.slice Ao70 t180.length co70 : Value).ownBlock)) (rlu (Kd.R_mono (Kd.R_far (p := ⟨gb137, 2, none⟩) (Kd.R_far (p := ⟨gb137, 1, none⟩) (Kd.R_far (p := ⟨gb137, 0, none⟩) (Kd.R_far (p := ⟨gb185, 1, none⟩) (Kd.R_far (p := ⟨gb185, 0, none⟩) (Kd.R_far (p := ⟨gb184, 2, none⟩) (Kd.R_far (p := ⟨gb184, 1, none⟩) (Kd.R_far (p := ⟨gb184, 0, none⟩) (Kd.R_types (Kd.R_types (Kd.R_types HO179.out BK184.out (by decide)) BK185.out (by decide)) BK137.out (by decide)) (fun _ hk => hk.1.1.2) (.int .u64 t170)) (fun _ hk => hk.1.1.2) (.slice Ao65 t171.length co65)) (fun _ hk => hk.1.1.2) (.slice Ao66 t174.length co66)) (fun _ hk => hk.1.2) (.slice Ao67 t177.length co67)) (fun _ hk => hk.1.2) (.slice Ao70 t180.length co70)) (fun _ hk => hk.2) (.int .u64 t170)) (fun _ hk => hk.2) (.slice Ao65 t171.length co65)) (fun _ hk => hk.2) (.slice Ao66 t174.length co66)) (fun _ hk => ⟨hk.1.1.1.1, hk.1.1.1.2⟩))) hg hat); have n6_ := aA (Kd.R_after (ok := (fun k_ => some k_ ≠ (.slice Ao67 t177.length co67 : Value).ownBlock)) (rlu (Kd.R_mono (Kd.R_far (p := ⟨gb137, 2, none⟩) (Kd.R_far (p := ⟨gb137, 1, none⟩) (Kd.R_far (p := ⟨gb137, 0, none⟩) (Kd.R_far (p := ⟨gb185, 1, none⟩) (Kd.R_far (p := ⟨gb185, 0, none⟩) (Kd.R_far (p := ⟨gb184, 2, none⟩) (Kd.R_far (p := ⟨gb184, 1, none⟩) (Kd.R_far (p := ⟨gb184, 0, none⟩) (Kd.R_types (Kd.R_types (Kd.R_types HO182.out BK184.out (by decide)) BK185.out (by decide)) BK137.out (by decide)) (fun _ hk => hk.1.1.2) (.int .u64 t170)) (fun _ hk => hk.1.1.2) (.slice Ao65 t171.length co65)) (fun _ hk => hk.1.1.2) (.slice Ao66 t174.length co66)) (fun _ hk => hk.1.2) (.slice Ao67 t177.length co67)) (fun _ hk => hk.1.2) (.slice Ao70 t180.length co70)) (fun _ hk => hk.2) (.int .u64 t170)) (fun _ hk => hk.2) (.slice Ao65 t171.length co65)) (fun _ hk => hk.2) (.slice Ao66 t174.length co66)) (fun _ hk => ⟨hk.1.1.1.1, hk.1.1.1.2⟩))) hg hat); have n7_ := aA (blk_grown (g := gb184) (o := .cells #[.int .u64 t170, .slice Ao65 t171.length co65, .slice Ao66 t174.length co66] 26 (0, 0)) (by refine bku ?_; refine blk_far ?_ NB184_137.out _; refine bku ?_; refine blk_far ?_ NB184_137.out _; refine bku ?_; refine blk_far ?_ NB184_137.out _; refine bku ?_; refine blk_far ?_ NB184_185.out _; refine bku ?_; refine blk_far ?_ NB184_185.out _; refine bku ?_; refine blk_put (cs := #[.int .u64 t170, .slice Ao65 t171.length co65, .slice none 0 0]) ?_ 2 _ rfl; refine bku ?_; refine blk_put (cs := #[.int .u64 t170, .slice none 0 0, .slice none 0 0]) ?_ 1 _ rfl; refine bku ?_; refine blk_put (cs := #[.int .u64 0, .slice none 0 0, .slice none 0 0]) ?_ 0 _ rfl; refine bku ?_; exact BK184.out) hg (Kd.R_ne HO_4.out BK184.out (by decide))); have n8_ := aA (blk_grown (g := gb185) (o := .cells #[.slice Ao67 t177.length co67, .slice Ao70 t180.length co70] 30 (0, 0)) (by refine bku ?_; refine blk_far ?_ NB185_137.out _; refine bku ?_; refine blk_far ?_ NB185_137.out _; refine bku ?_; refine blk_far ?_ NB185_137.out _; refine bku ?_; refine blk_put (cs := #[.slice Ao67 t177.length co67, .slice none 0 0]) ?_ 1 _ rfl; refine bku ?_; refine blk_put (cs := #[.slice none 0 0, .slice none 0 0]) ?_ 0 _ rfl; refine bku ?_; refine blk_far ?_ NB185_184.out _; refine bku ?_; refine blk_far ?_ NB185_184.out _; refine bku ?_; refine blk_far ?_ NB185_184.out _; refine bku ?_; exact BK185.out) hg (Kd.R_ne HO_4.out BK185.out (by decide))); have n9_ := aA (hb); have n10_ := aA (ho); clear HO_138001 HO_138002 BK137 HO173 HO176 HO179 HO182 BK184 BK185 HB HO_4; have HO_138001 := n0_; have HO_138002 := n1_; have BK137 := n2_; have HO173 := n3_; have HO176 := n4_; have HO179 := n5_; have HO182 := n6_; have BK184 := n7_; have BK185 := n8_; have HB := n9_; have HO188 := n10_; clear n0_ n1_ n2_ n3_ n4_ n5_ n6_ n7_ n8_ n9_ n10_ ho hb hg hat))
            go_roundg k2
            case measure => have := HJ1.out; have := HK2.out; omega
            case rel => exact ⟨(y186), (x5_2), (wrap64 (x6_2 + 1)), (t170), (t171), (t174), (.slice Ao65 t171.length co65), (.slice Ao66 t174.length co66), (by first | rfl | (simp; done) | (simp [*]; done)), (by first | rfl | (simp; done) | (simp [*]; done)), H', ⟨by have := HJ1.out; have := HK2.out; omega⟩, ⟨by (with_reducible repeat (first | apply Kd.R_alloc | apply Kd.R_drewN | apply Kd.R_drew)); exact Kd.R_mono HO188.out (fun _ hk => trivial)⟩, ⟨by (with_reducible repeat (first | apply Kd.V_alloc | apply Kd.V_drewN | apply Kd.V_drew)); exact Kd.V_mono HO173.out (fun _ hk => ⟨hk.2, hk.1.2.2.1⟩)⟩, ⟨by (with_reducible repeat (first | apply Kd.V_alloc | apply Kd.V_drewN | apply Kd.V_drew)); exact Kd.V_mono HO176.out (fun _ hk => ⟨hk.2, hk.1.2.2.1⟩)⟩, ⟨by refine bku ?_; exact BK137.out⟩, ⟨by repeat (first | (with_reducible first | exact HB.out | apply below_alloc | apply pw_below_drewN | apply below_drew1 | refine below_set ?_ GE137.out | refine below_set ?_ GE184.out | refine below_set ?_ GE185.out) | exact HB.out)⟩⟩
           ·rw [if_neg c55] at H
            exact absurd H (by simp)
       ·rw [if_neg c19] at H
        exact absurd H (by simp)
      ·rw [if_neg c18] at H
       have c18b0 : decide (x6_2 < (l0.length : Int)) = false := decide_eq_false c18
       clear c18
       have H' := aA H
       clear H
       go_wp2
       go_loopg [10] k2 (fun kq v10 w' => ∃ (x10_3 : Int) (x138000_3 : Int) (x138001_3 : List Int) (x138002_3 : List (S64)) (u138001 : Value) (u138002 : Value), v10 = .int .i64 x10_3 ∧ Aside0 (treillagelaw14_EpochAll.l1 kq x4_2 x5_2 x10_3 x138000_3 x138001_3 x138002_3 = some r) ∧ Aside0 (kq ≤ k2) ∧ Aside0 (Kd.R (Kd.int .u64) 22 w' w.heap.size (fun _ => True) u4 x4_2) ∧ Aside0 (Kd.V (Kd.int .u64) 22 w' w.heap.size (fun k_ => some k_ ≠ (u4 : Value).ownBlock ∧ k_ ≠ gb137) u138001 x138001_3) ∧ Aside0 (Kd.V k64 64 w' w.heap.size (fun k_ => some k_ ≠ (u4 : Value).ownBlock ∧ k_ ≠ gb137) u138002 x138002_3) ∧ Aside0 (w'.heap[gb137]? = some (.cells #[.int .u64 x138000_3, u138001, u138002] 26 (0, 0))) ∧ Aside0 (Below w.heap.size w w'))
       case atStart => exact ⟨(0), (x138000_2), (x138001_2), (x138002_2), (u138001), (u138002), (by first | rfl | (simp; done) | (simp [*]; done)), H', ⟨Nat.le_refl _⟩, ⟨by (with_reducible repeat (first | apply Kd.R_alloc | apply Kd.R_drewN | apply Kd.R_drew)); exact HO_4.out⟩, ⟨by (with_reducible repeat (first | apply Kd.V_alloc | apply Kd.V_drewN | apply Kd.V_drew)); exact HO_138001.out⟩, ⟨by (with_reducible repeat (first | apply Kd.V_alloc | apply Kd.V_drewN | apply Kd.V_drew)); exact HO_138002.out⟩, ⟨by refine bku ?_; exact BK137.out⟩, ⟨by repeat (first | (with_reducible first | exact HB.out | apply below_alloc | apply pw_below_drewN | apply below_drew1 | refine below_set ?_ GE137.out) | exact HB.out)⟩⟩
       case round =>
        clear H'
        try clear c1
        try clear p1
        try clear q1
        try clear hx1
        try clear c2
        try clear p2
        try clear c3
        try clear c4
        try clear c5
        try clear c6
        try clear p6
        try clear c7
        try clear c8
        try clear c9
        try clear c10
        try clear c11
        try clear c12
        try clear c14
        try clear p14
        try clear q14
        try clear hx14
        try clear c15
        try clear p15
        try clear q15
        try clear hx15
        try clear c16
        try clear c18
        try clear c18b0
        try clear c19
        try clear c19b0
        try clear c20
        try clear c20b0
        try clear c20b1
        try clear c31
        try clear c31b0
        try clear c31b1
        try clear c42
        try clear c42b0
        try clear c42b1
        try clear c55
        try clear c62
        try clear c63
        try clear p64
        try clear c68
        try clear hcz13_0
        try clear hcz13_1
        try clear hcz13_2
        try clear hcz44_0
        try clear hcz44_1
        try clear hcz44_2
        try clear hcz51_0
        try clear hcz51_1
        try clear hcz51_2
        try clear hcz56_0
        try clear hcz56_1
        try clear hcz56_2
        try clear hcz64_0
        try clear hcz64_1
        try clear hcz64_2
        try clear hcz69_0
        try clear hcz69_1
        try clear hcz71_0
        try clear hcz71_1
        try clear hcz71_2
        try clear hfz13_0
        try clear hfz13_1
        try clear hfz13_2
        try clear hfz44_0
        try clear hfz44_1
        try clear hfz44_2
        try clear hfz51_0
        try clear hfz51_1
        try clear hfz51_2
        try clear hfz56_0
        try clear hfz56_1
        try clear hfz56_2
        try clear hfz64_0
        try clear hfz64_1
        try clear hfz64_2
        try clear hfz69_0
        try clear hfz69_1
        try clear hfz71_0
        try clear hfz71_1
        try clear hfz71_2
        try clear hx141_0
        try clear hx141_1
        try clear hx141_2
        try clear hx141_3
        try clear hx141_4
        try clear hx142_0
        try clear hx142_1
        try clear hx142_2
        try clear hx142_3
        try clear hx142_4
        try clear hx151_0
        try clear hx151_1
        try clear hx151_2
        try clear hx151_3
        try clear hx151_4
        try clear p141
        try clear p142
        try clear p151
        try clear p2
        try clear q141
        try clear q142
        try clear q151
        obtain ⟨x10_3, x138000_3, x138001_3, x138002_3, u138001, u138002, rfl, HA, HK3, HO_4, HO_138001, HO_138002, BK137, HB⟩ := hrel
        cases gk with
        | zero => exact absurd HA.out (by simp [treillagelaw14_EpochAll.l1])
        | succ k3 =>
         have H := HA.out
         clear HA
         simp only [treillagelaw14_EpochAll.l1] at H
         by_cases c73 : x10_3 < 4
         ·rw [if_pos c73] at H
          have c73b0 : decide (x10_3 < 4) = true := decide_eq_true c73
          clear c73
          replace H := Option.bind_eq_some_iff.mp H
          obtain ⟨⟨t189, t190, t193, t196⟩, A740, H⟩ := H
          replace H : (treillagelaw14_EpochAll.l1 k3 x4_2 x5_2 (wrap64 (x10_3 + 1)) t189 t190 t193) = some r := H
          have A74 := aA A740
          clear A740
          have H' := aA H
          clear H
          have hcz75_0 : wr.cell? ⟨gb137, 0, none⟩ = some (.int .u64 x138000_3) := (blk_cell BK137.out 0).trans rfl
          have hcz75_1 : wr.cell? ⟨gb137, 1, none⟩ = some (u138001) := (blk_cell BK137.out 1).trans rfl
          have hcz75_2 : wr.cell? ⟨gb137, 2, none⟩ = some (u138002) := (blk_cell BK137.out 2).trans rfl
          have hfz75_0 := blk_frozen BK137.out 0
          have hfz75_1 := blk_frozen BK137.out 1
          have hfz75_2 := blk_frozen BK137.out 2
          obtain ⟨Ao76, co76, eo76⟩ := Kd.V_slice HO_138001.out
          subst eo76
          obtain ⟨Ao77, co77, eo77⟩ := Kd.V_slice HO_138002.out
          subst eo77
          go_wp2_with (first | ((with_reducible refine gate_callee (f := 16) rfl ?_); refine goesL_ (some 92) rfl rfl Try.func16 (by kernel_rfl) rfl #[.agg #[.int .u64 x138000_3, .slice Ao76 x138001_3.length co76, .slice Ao77 x138002_3.length co77], .int .i64 x10_3] rfl (by (try simp only [List.map_toArray, List.map_cons, List.map_nil]); first | done | rfl | (simp only [List.length_drop, List.length_take]; rfl)) ?_; (with_reducible refine (epoch_Unpin.calls x138000_3 (fun k_ => (some k_ ≠ (u4 : Value).ownBlock ∧ k_ ≠ gb137)) _ _ x138001_3 (fun k_ => (some k_ ≠ (u4 : Value).ownBlock ∧ k_ ≠ gb137)) _ _ x138002_3 x10_3 t189 t190 t193 t196 _ ?side1 ?side2 A74.out).mono ?_); (case side1 => exact HO_138001.out); (case side2 => exact HO_138002.out); rintro e w78 ⟨v191, v194, rfl, ho0, ho1, hb⟩; refine ⟨_, rfl, ?_⟩; have n0_ := aA (Kd.R_below (rlu HO_4.out) hb); have n1_ := aA (Kd.V_below (vlu HO_138001.out) hb); have n2_ := aA (Kd.V_below (vlu HO_138002.out) hb); have n3_ := aA (Kd.V_lower (Kd.V_mono (ok' := fun k_ => some k_ ≠ (u4 : Value).ownBlock ∧ k_ ≠ gb137) ho0 (fun k_ hk_ => ⟨Or.elim hk_ (fun hs_ => Or.elim hs_ (fun hs_ => hs_.1) (fun hs_ => hs_.1)) (fun hn_ => (Kd.fresh' (Kd.R_lt (rlu HO_4.out)) k_ hn_)), Or.elim hk_ (fun hs_ => Or.elim hs_ (fun hs_ => hs_.2) (fun hs_ => hs_.2)) (fun hn_ => (Kd.freshB (g := gb137) (o := .cells #[.int .u64 x138000_3, .slice Ao76 x138001_3.length co76, .slice Ao77 x138002_3.length co77] 26 (0, 0)) (bku BK137.out) k_ hn_))⟩)) (below_size (bls HB.out))); have n4_ := aA (Kd.V_lower (Kd.V_mono (ok' := fun k_ => some k_ ≠ (u4 : Value).ownBlock ∧ k_ ≠ gb137) ho1 (fun k_ hk_ => ⟨Or.elim hk_ (fun hs_ => Or.elim hs_ (fun hs_ => hs_.1) (fun hs_ => hs_.1)) (fun hn_ => (Kd.fresh' (Kd.R_lt (rlu HO_4.out)) k_ hn_)), Or.elim hk_ (fun hs_ => Or.elim hs_ (fun hs_ => hs_.2) (fun hs_ => hs_.2)) (fun hn_ => (Kd.freshB (g := gb137) (o := .cells #[.int .u64 x138000_3, .slice Ao76 x138001_3.length co76, .slice Ao77 x138002_3.length co77] 26 (0, 0)) (bku BK137.out) k_ hn_))⟩)) (below_size (bls HB.out))); have n5_ := aA (blk_below (g := gb137) (o := .cells #[.int .u64 x138000_3, .slice Ao76 x138001_3.length co76, .slice Ao77 x138002_3.length co77] 26 (0, 0)) (bku BK137.out) hb); have n6_ := aA (below_step (bls HB.out) hb); clear HO_4 HO_138001 HO_138002 BK137 HB; have HO_4 := n0_; have HO_138001 := n1_; have HO_138002 := n2_; have HO192 := n3_; have HO195 := n4_; have BK137 := n5_; have HB := n6_; clear n0_ n1_ n2_ n3_ n4_ n5_ n6_; (try clear hb); (try clear hb2); (try clear hk); (try clear hi); (try clear ho0); (try clear ho1); have hcz79_0 : w78.cell? ⟨gb137, 0, none⟩ = some (.int .u64 x138000_3) := (blk_cell BK137.out 0).trans rfl; have hcz79_1 : w78.cell? ⟨gb137, 1, none⟩ = some (.slice Ao76 x138001_3.length co76) := (blk_cell BK137.out 1).trans rfl; have hcz79_2 : w78.cell? ⟨gb137, 2, none⟩ = some (.slice Ao77 x138002_3.length co77) := (blk_cell BK137.out 2).trans rfl; have hfz79_0 := blk_frozen BK137.out 0; have hfz79_1 := blk_frozen BK137.out 1; have hfz79_2 := blk_frozen BK137.out 2; obtain ⟨Ao80, co80, eo80⟩ := Kd.V_slice HO192.out; subst eo80; obtain ⟨Ao81, co81, eo81⟩ := Kd.V_slice HO195.out; subst eo81))
          go_roundg k3
          case measure => have := HJ1.out; have := HK2.out; have := HK3.out; omega
          case rel => exact ⟨(wrap64 (x10_3 + 1)), (t189), (t190), (t193), (.slice Ao80 t190.length co80), (.slice Ao81 t193.length co81), (by first | rfl | (simp; done) | (simp [*]; done)), H', ⟨by have := HJ1.out; have := HK2.out; have := HK3.out; omega⟩, ⟨by (with_reducible repeat (first | apply Kd.R_alloc | apply Kd.R_drewN | apply Kd.R_drew)); exact Kd.R_mono (Kd.R_far (p := ⟨gb137, 2, none⟩) (Kd.R_far (p := ⟨gb137, 1, none⟩) (Kd.R_far (p := ⟨gb137, 0, none⟩) (Kd.R_types HO_4.out BK137.out (by decide)) (fun _ hk => hk.2) (.int .u64 t189)) (fun _ hk => hk.2) (.slice Ao80 t190.length co80)) (fun _ hk => hk.2) (.slice Ao81 t193.length co81)) (fun _ hk => trivial)⟩, ⟨by (with_reducible repeat (first | apply Kd.V_alloc | apply Kd.V_drewN | apply Kd.V_drew)); exact Kd.V_mono (Kd.V_far (p := ⟨gb137, 2, none⟩) (Kd.V_far (p := ⟨gb137, 1, none⟩) (Kd.V_far (p := ⟨gb137, 0, none⟩) (Kd.V_mono HO192.out (fun k_ hk => (⟨hk, hk.2⟩ : _ ∧ k_ ≠ gb137))) (fun _ hk => hk.2) (.int .u64 t189)) (fun _ hk => hk.2) (.slice Ao80 t190.length co80)) (fun _ hk => hk.2) (.slice Ao81 t193.length co81)) (fun _ hk => ⟨hk.1.1, hk.1.2⟩)⟩, ⟨by (with_reducible repeat (first | apply Kd.V_alloc | apply Kd.V_drewN | apply Kd.V_drew)); exact Kd.V_mono (Kd.V_far (p := ⟨gb137, 2, none⟩) (Kd.V_far (p := ⟨gb137, 1, none⟩) (Kd.V_far (p := ⟨gb137, 0, none⟩) (Kd.V_mono HO195.out (fun k_ hk => (⟨hk, hk.2⟩ : _ ∧ k_ ≠ gb137))) (fun _ hk => hk.2) (.int .u64 t189)) (fun _ hk => hk.2) (.slice Ao80 t190.length co80)) (fun _ hk => hk.2) (.slice Ao81 t193.length co81)) (fun _ hk => ⟨hk.1.1, hk.1.2⟩)⟩, ⟨by refine bku ?_; refine blk_put (cs := #[.int .u64 t189, .slice Ao80 t190.length co80, .slice Ao77 x138002_3.length co77]) ?_ 2 _ rfl; refine bku ?_; refine blk_put (cs := #[.int .u64 t189, .slice Ao76 x138001_3.length co76, .slice Ao77 x138002_3.length co77]) ?_ 1 _ rfl; refine bku ?_; refine blk_put (cs := #[.int .u64 x138000_3, .slice Ao76 x138001_3.length co76, .slice Ao77 x138002_3.length co77]) ?_ 0 _ rfl; refine bku ?_; exact BK137.out⟩, ⟨by repeat (first | (with_reducible first | exact HB.out | apply below_alloc | apply pw_below_drewN | apply below_drew1 | refine below_set ?_ GE137.out) | exact HB.out)⟩⟩
         ·rw [if_neg c73] at H
          have c73b0 : decide (x10_3 < 4) = false := decide_eq_false c73
          clear c73
          have H' := aA H
          clear H
          go_wp2
          go_loopg [4, 11] k3 (fun kq v4 v11 w' => ∃ (x4_4 : List Int) (x11_4 : Int) (x138000_4 : Int) (x138001_4 : List Int) (x138002_4 : List (S64)) (u138001 : Value) (u138002 : Value), v11 = .int .i64 x11_4 ∧ Aside0 (treillagelaw14_EpochAll.l2 kq x4_4 x5_2 x11_4 x138000_4 x138001_4 x138002_4 = some r) ∧ Aside0 (kq ≤ k3) ∧ Aside0 (Kd.R (Kd.int .u64) 22 w' w.heap.size (fun _ => True) v4 x4_4) ∧ Aside0 (Kd.V (Kd.int .u64) 22 w' w.heap.size (fun k_ => some k_ ≠ (v4 : Value).ownBlock ∧ k_ ≠ gb137) u138001 x138001_4) ∧ Aside0 (Kd.V k64 64 w' w.heap.size (fun k_ => some k_ ≠ (v4 : Value).ownBlock ∧ k_ ≠ gb137) u138002 x138002_4) ∧ Aside0 (w'.heap[gb137]? = some (.cells #[.int .u64 x138000_4, u138001, u138002] 26 (0, 0))) ∧ Aside0 (Below w.heap.size w w'))
          case atStart => exact ⟨(x4_2), (0), (x138000_3), (x138001_3), (x138002_3), (u138001), (u138002), (by first | rfl | (simp; done) | (simp [*]; done)), H', ⟨Nat.le_refl _⟩, ⟨by (with_reducible repeat (first | apply Kd.R_alloc | apply Kd.R_drewN | apply Kd.R_drew)); exact HO_4.out⟩, ⟨by (with_reducible repeat (first | apply Kd.V_alloc | apply Kd.V_drewN | apply Kd.V_drew)); exact HO_138001.out⟩, ⟨by (with_reducible repeat (first | apply Kd.V_alloc | apply Kd.V_drewN | apply Kd.V_drew)); exact HO_138002.out⟩, ⟨by refine bku ?_; exact BK137.out⟩, ⟨by repeat (first | (with_reducible first | exact HB.out | apply below_alloc | apply pw_below_drewN | apply below_drew1 | refine below_set ?_ GE137.out) | exact HB.out)⟩⟩
          case round =>
           clear H'
           try clear c1
           try clear p1
           try clear q1
           try clear hx1
           try clear c2
           try clear p2
           try clear c3
           try clear c4
           try clear c5
           try clear c6
           try clear p6
           try clear c7
           try clear c8
           try clear c9
           try clear c10
           try clear c11
           try clear c12
           try clear c14
           try clear p14
           try clear q14
           try clear hx14
           try clear c15
           try clear p15
           try clear q15
           try clear hx15
           try clear c16
           try clear c18
           try clear c18b0
           try clear c19
           try clear c19b0
           try clear c20
           try clear c20b0
           try clear c20b1
           try clear c31
           try clear c31b0
           try clear c31b1
           try clear c42
           try clear c42b0
           try clear c42b1
           try clear c55
           try clear c62
           try clear c63
           try clear p64
           try clear c68
           try clear c73
           try clear c73b0
           try clear hcz13_0
           try clear hcz13_1
           try clear hcz13_2
           try clear hcz44_0
           try clear hcz44_1
           try clear hcz44_2
           try clear hcz51_0
           try clear hcz51_1
           try clear hcz51_2
           try clear hcz56_0
           try clear hcz56_1
           try clear hcz56_2
           try clear hcz64_0
           try clear hcz64_1
           try clear hcz64_2
           try clear hcz69_0
           try clear hcz69_1
           try clear hcz71_0
           try clear hcz71_1
           try clear hcz71_2
           try clear hcz75_0
           try clear hcz75_1
           try clear hcz75_2
           try clear hcz79_0
           try clear hcz79_1
           try clear hcz79_2
           try clear hfz13_0
           try clear hfz13_1
           try clear hfz13_2
           try clear hfz44_0
           try clear hfz44_1
           try clear hfz44_2
           try clear hfz51_0
           try clear hfz51_1
           try clear hfz51_2
           try clear hfz56_0
           try clear hfz56_1
           try clear hfz56_2
           try clear hfz64_0
           try clear hfz64_1
           try clear hfz64_2
           try clear hfz69_0
           try clear hfz69_1
           try clear hfz71_0
           try clear hfz71_1
           try clear hfz71_2
           try clear hfz75_0
           try clear hfz75_1
           try clear hfz75_2
           try clear hfz79_0
           try clear hfz79_1
           try clear hfz79_2
           try clear hx141_0
           try clear hx141_1
           try clear hx141_2
           try clear hx141_3
           try clear hx141_4
           try clear hx142_0
           try clear hx142_1
           try clear hx142_2
           try clear hx142_3
           try clear hx142_4
           try clear hx151_0
           try clear hx151_1
           try clear hx151_2
           try clear hx151_3
           try clear hx151_4
           try clear p1
           try clear p14
           try clear p141
           try clear p142
           try clear p15
           try clear p151
           try clear p2
           try clear p6
           try clear p64
           try clear q1
           try clear q14
           try clear q141
           try clear q142
           try clear q15
           try clear q151
           obtain ⟨x4_4, x11_4, x138000_4, x138001_4, x138002_4, u138001, u138002, rfl, HA, HK4, HO_4, HO_138001, HO_138002, BK137, HB⟩ := hrel
           cases gk with
           | zero => exact absurd HA.out (by simp [treillagelaw14_EpochAll.l2])
           | succ k4 =>
            have H := HA.out
            clear HA
            simp only [treillagelaw14_EpochAll.l2] at H
            by_cases c82 : x11_4 < 2
            ·rw [if_pos c82] at H
             have c82b0 : decide (x11_4 < 2) = true := decide_eq_true c82
             clear c82
             replace H := Option.bind_eq_some_iff.mp H
             obtain ⟨⟨t197, t198, t201, t204, t207, t210⟩, A830, H⟩ := H
             replace H : (if t210 = true then (if x4_4.length + t207.length < 17592186044416 then (treillagelaw14_EpochAll.l2 k4 (x4_4 ++ t207) x5_2 (wrap64 (x11_4 + 1)) t197 t198 t201) else (none)) else (some false)) = some r := H
             have A83 := aA A830
             clear A830
             by_cases c84 : t210 = true
             ·subst c84
              have H1 : (if x4_4.length + t207.length < 17592186044416 then (treillagelaw14_EpochAll.l2 k4 (x4_4 ++ t207) x5_2 (wrap64 (x11_4 + 1)) t197 t198 t201) else (none)) = some r := by rw [if_pos rfl] at H; exact H
              clear H
              have H := H1
              clear H1
              by_cases c85 : x4_4.length + t207.length < 17592186044416
              ·rw [if_pos c85] at H
               have LMc85 := aA c85
               clear c85
               obtain ⟨y213, hy213⟩ : ∃ y_ : List Int, y_ = (x4_4 ++ t207) := ⟨_, rfl⟩
               replace H : (treillagelaw14_EpochAll.l2 k4 y213 x5_2 (wrap64 (x11_4 + 1)) t197 t198 t201) = some r := by first | (rw [hy213]; with_reducible exact H) | (have H2_ := (Option.bind_some _ _).symm.trans H; rw [hy213]; with_reducible exact H2_) | (have H2_ := (Option.bind_some _ _).symm.trans H; with_reducible exact H2_) | with_reducible exact H | (rw [hy213]; exact H) | exact H
               have Ny213 := aA hy213
               clear hy213
               have H' := aA H
               clear H
               have hcz86_0 : wr.cell? ⟨gb137, 0, none⟩ = some (.int .u64 x138000_4) := (blk_cell BK137.out 0).trans rfl
               have hcz86_1 : wr.cell? ⟨gb137, 1, none⟩ = some (u138001) := (blk_cell BK137.out 1).trans rfl
               have hcz86_2 : wr.cell? ⟨gb137, 2, none⟩ = some (u138002) := (blk_cell BK137.out 2).trans rfl
               have hfz86_0 := blk_frozen BK137.out 0
               have hfz86_1 := blk_frozen BK137.out 1
               have hfz86_2 := blk_frozen BK137.out 2
               obtain ⟨Ao87, co87, eo87⟩ := Kd.V_slice HO_138001.out
               subst eo87
               obtain ⟨Ao88, co88, eo88⟩ := Kd.V_slice HO_138002.out
               subst eo88
               go_wp2_with (first | ((with_reducible refine gate_callee (f := 10) rfl ?_); refine goesL_ (some 101) rfl rfl Try.func10 (by kernel_rfl) rfl #[.agg #[.int .u64 x138000_4, .slice Ao87 x138001_4.length co87, .slice Ao88 x138002_4.length co88]] rfl (by (try simp only [List.map_toArray, List.map_cons, List.map_nil]); first | done | rfl | (simp only [List.length_drop, List.length_take]; rfl)) ?_; (with_reducible refine (epoch_Advance.calls k4 x138000_4 (fun k_ => (some k_ ≠ (u4 : Value).ownBlock ∧ k_ ≠ gb137)) _ _ x138001_4 (fun k_ => (some k_ ≠ (u4 : Value).ownBlock ∧ k_ ≠ gb137)) _ _ x138002_4 t197 t198 t201 t204 t207 true _ ?side1 ?side2 A83.out).mono ?_); (case side1 => exact HO_138001.out); (case side2 => exact HO_138002.out); rintro e w89 ⟨v199, v202, v205, v208, rfl, ho0, ho1, ho2, ho3, hb⟩; refine ⟨_, rfl, ?_⟩; have n0_ := aA (Kd.R_mono (Kd.R_told (Kd.R_told (Kd.R_old (rlu HO_4.out) hb) (Kd.R_base ho2)) (Kd.R_base ho3)) (fun _ h_ => h_.1)); have n1_ := aA (Kd.V_mono (Kd.V_told (Kd.V_told (Kd.V_old (vlu HO_138001.out) hb) (Kd.R_base ho2)) (Kd.R_base ho3)) (fun _ h_ => h_.1)); have n2_ := aA (Kd.V_mono (Kd.V_told (Kd.V_told (Kd.V_old (vlu HO_138002.out) hb) (Kd.R_base ho2)) (Kd.R_base ho3)) (fun _ h_ => h_.1)); have n3_ := aA (Kd.V_lower (Kd.V_mono (ok' := fun k_ => some k_ ≠ (v205 : Value).ownBlock ∧ some k_ ≠ (v208 : Value).ownBlock ∧ some k_ ≠ (u4 : Value).ownBlock ∧ k_ ≠ gb137) ho0 (fun k_ hk_ => ⟨hk_.2.1, hk_.2.2, Or.elim hk_.1 (fun hs_ => Or.elim hs_ (fun hs_ => hs_.1) (fun hs_ => hs_.1)) (fun hn_ => (Kd.fresh' (Kd.R_lt (rlu HO_4.out)) k_ hn_)), Or.elim hk_.1 (fun hs_ => Or.elim hs_ (fun hs_ => hs_.2) (fun hs_ => hs_.2)) (fun hn_ => (Kd.freshB (g := gb137) (o := .cells #[.int .u64 x138000_4, .slice Ao87 x138001_4.length co87, .slice Ao88 x138002_4.length co88] 26 (0, 0)) (bku BK137.out) k_ hn_))⟩)) (below_size (bls HB.out))); have n4_ := aA (Kd.V_lower (Kd.V_mono (ok' := fun k_ => some k_ ≠ (v205 : Value).ownBlock ∧ some k_ ≠ (v208 : Value).ownBlock ∧ some k_ ≠ (u4 : Value).ownBlock ∧ k_ ≠ gb137) ho1 (fun k_ hk_ => ⟨hk_.2.1, hk_.2.2, Or.elim hk_.1 (fun hs_ => Or.elim hs_ (fun hs_ => hs_.1) (fun hs_ => hs_.1)) (fun hn_ => (Kd.fresh' (Kd.R_lt (rlu HO_4.out)) k_ hn_)), Or.elim hk_.1 (fun hs_ => Or.elim hs_ (fun hs_ => hs_.2) (fun hs_ => hs_.2)) (fun hn_ => (Kd.freshB (g := gb137) (o := .cells #[.int .u64 x138000_4, .slice Ao87 x138001_4.length co87, .slice Ao88 x138002_4.length co88] 26 (0, 0)) (bku BK137.out) k_ hn_))⟩)) (below_size (bls HB.out))); have n5_ := aA (Kd.R_lower (Kd.R_new' (Kd.R_mono (ok' := fun k_ => some k_ ≠ (v208 : Value).ownBlock) ho2 (fun _ hk_ => hk_.2)) (Kd.R_lt (rlu HO_4.out))) (below_size (bls HB.out))); have n6_ := aA (Kd.R_lower (Kd.R_new' (Kd.R_mono (ok' := fun k_ => some k_ ≠ (v205 : Value).ownBlock) ho3 (fun _ hk_ => hk_.2)) (Kd.R_lt (rlu HO_4.out))) (below_size (bls HB.out))); have n7_ := aA (blk_below (g := gb137) (o := .cells #[.int .u64 x138000_4, .slice Ao87 x138001_4.length co87, .slice Ao88 x138002_4.length co88] 26 (0, 0)) (bku BK137.out) hb); have n8_ := aA (below_step (bls HB.out) hb); clear HO_4 HO_138001 HO_138002 BK137 HB; have HO_4 := n0_; have HO_138001 := n1_; have HO_138002 := n2_; have HO200 := n3_; have HO203 := n4_; have HO206 := n5_; have HO209 := n6_; have BK137 := n7_; have HB := n8_; clear n0_ n1_ n2_ n3_ n4_ n5_ n6_ n7_ n8_; (try clear hb); (try clear hb2); (try clear hk); (try clear hi); (try clear ho0); (try clear ho1); (try clear ho2); (try clear ho3)) | ((with_reducible refine gate_dst (N := 12) rfl ?_); (try (refine gate_guard (by rfl) ?_; dsimp only)); refine box_event ?hg (N := 12) ?hd (cs := #[.int .u64 0, .slice none 0 0, .slice none 0 0]) (t := 26) ?hr ?_; (case hd => rfl); (case hg => rfl); (case hr => first | (go_simp; done) | (go_simp; rfl)); intro gb211 hg w90 hbox hb; have n0_ := aA (Kd.R_below (rlu HO_4.out) hb); have n1_ := aA (Kd.V_below (Kd.V_elderB (vlu HO_138001.out) gb211 (Nat.le_of_eq hg.symm)) hb); have n2_ := aA (Kd.V_below (Kd.V_elderB (vlu HO_138002.out) gb211 (Nat.le_of_eq hg.symm)) hb); have n3_ := aA (Kd.V_below (Kd.V_elderB (vlu HO200.out) gb211 (Nat.le_of_eq hg.symm)) hb); have n4_ := aA (Kd.V_below (Kd.V_elderB (vlu HO203.out) gb211 (Nat.le_of_eq hg.symm)) hb); have n5_ := aA (Kd.R_below (rlu HO206.out) hb); have n6_ := aA (Kd.R_below (rlu HO209.out) hb); have n7_ := aA (blk_below (g := gb137) (o := .cells #[.int .u64 x138000_4, .slice Ao87 x138001_4.length co87, .slice Ao88 x138002_4.length co88] 26 (0, 0)) (bku BK137.out) hb); have n8_ := aA (below_step (bls HB.out) hb); have n9_ := aA (hbox); have n10_ := aA ((by rw [hg]; exact (below_size (bls HB.out)) : w.heap.size ≤ gb211)); have n11_ := aA ((by rw [hg]; exact (below_size (bls HB.out)) : w.heap.size ≤ gb211)); have n12_ := aA ((by rw [hg]; exact Nat.ne_of_lt (blk_lt (g := gb137) (o := .cells #[.int .u64 x138000_4, .slice Ao87 x138001_4.length co87, .slice Ao88 x138002_4.length co88] 26 (0, 0)) (bku BK137.out)) : gb137 ≠ gb211)); have n13_ := aA ((by rw [hg]; exact Nat.ne_of_gt (blk_lt (g := gb137) (o := .cells #[.int .u64 x138000_4, .slice Ao87 x138001_4.length co87, .slice Ao88 x138002_4.length co88] 26 (0, 0)) (bku BK137.out)) : gb211 ≠ gb137)); clear HO_4 HO_138001 HO_138002 HO200 HO203 HO206 HO209 BK137 HB; have HO_4 := n0_; have HO_138001 := n1_; have HO_138002 := n2_; have HO200 := n3_; have HO203 := n4_; have HO206 := n5_; have HO209 := n6_; have BK137 := n7_; have HB := n8_; have BK211 := n9_; have GW211 := n10_; have GE211 := n11_; have NB137_211 := n12_; have NB211_137 := n13_; clear n0_ n1_ n2_ n3_ n4_ n5_ n6_ n7_ n8_ n9_ n10_ n11_ n12_ n13_ hb hbox hg) | ((with_reducible refine gate_dst (N := 13) rfl ?_); (try (refine gate_guard (by rfl) ?_; dsimp only)); refine box_event ?hg (N := 13) ?hd (cs := #[.slice none 0 0, .slice none 0 0]) (t := 30) ?hr ?_; (case hd => rfl); (case hg => rfl); (case hr => first | (go_simp; done) | (go_simp; rfl)); intro gb212 hg w91 hbox hb; have n0_ := aA (Kd.R_below (rlu HO_4.out) hb); have n1_ := aA (Kd.V_below (Kd.V_elderB (vlu HO_138001.out) gb212 (Nat.le_of_eq hg.symm)) hb); have n2_ := aA (Kd.V_below (Kd.V_elderB (vlu HO_138002.out) gb212 (Nat.le_of_eq hg.symm)) hb); have n3_ := aA (Kd.V_below (Kd.V_elderB (vlu HO200.out) gb212 (Nat.le_of_eq hg.symm)) hb); have n4_ := aA (Kd.V_below (Kd.V_elderB (vlu HO203.out) gb212 (Nat.le_of_eq hg.symm)) hb); have n5_ := aA (Kd.R_below (rlu HO206.out) hb); have n6_ := aA (Kd.R_below (rlu HO209.out) hb); have n7_ := aA (blk_below (g := gb137) (o := .cells #[.int .u64 x138000_4, .slice Ao87 x138001_4.length co87, .slice Ao88 x138002_4.length co88] 26 (0, 0)) (bku BK137.out) hb); have n8_ := aA (blk_below (g := gb211) (o := .cells #[.int .u64 0, .slice none 0 0, .slice none 0 0] 26 (0, 0)) (bku BK211.out) hb); have n9_ := aA (below_step (bls HB.out) hb); have n10_ := aA (hbox); have n11_ := aA ((by rw [hg]; exact (below_size (bls HB.out)) : w.heap.size ≤ gb212)); have n12_ := aA ((by rw [hg]; exact (below_size (bls HB.out)) : w.heap.size ≤ gb212)); have n13_ := aA ((by rw [hg]; exact Nat.ne_of_lt (blk_lt (g := gb137) (o := .cells #[.int .u64 x138000_4, .slice Ao87 x138001_4.length co87, .slice Ao88 x138002_4.length co88] 26 (0, 0)) (bku BK137.out)) : gb137 ≠ gb212)); have n14_ := aA ((by rw [hg]; exact Nat.ne_of_gt (blk_lt (g := gb137) (o := .cells #[.int .u64 x138000_4, .slice Ao87 x138001_4.length co87, .slice Ao88 x138002_4.length co88] 26 (0, 0)) (bku BK137.out)) : gb212 ≠ gb137)); have n15_ := aA ((by rw [hg]; exact Nat.ne_of_lt (blk_lt (g := gb211) (o := .cells #[.int .u64 0, .slice none 0 0, .slice none 0 0] 26 (0, 0)) (bku BK211.out)) : gb211 ≠ gb212)); have n16_ := aA ((by rw [hg]; exact Nat.ne_of_gt (blk_lt (g := gb211) (o := .cells #[.int .u64 0, .slice none 0 0, .slice none 0 0] 26 (0, 0)) (bku BK211.out)) : gb212 ≠ gb211)); clear HO_4 HO_138001 HO_138002 HO200 HO203 HO206 HO209 BK137 BK211 HB; have HO_4 := n0_; have HO_138001 := n1_; have HO_138002 := n2_; have HO200 := n3_; have HO203 := n4_; have HO206 := n5_; have HO209 := n6_; have BK137 := n7_; have BK211 := n8_; have HB := n9_; have BK212 := n10_; have GW212 := n11_; have GE212 := n12_; have NB137_212 := n13_; have NB212_137 := n14_; have NB211_212 := n15_; have NB212_211 := n16_; clear n0_ n1_ n2_ n3_ n4_ n5_ n6_ n7_ n8_ n9_ n10_ n11_ n12_ n13_ n14_ n15_ n16_ hb hbox hg; have hnb92 := NB211_137.out; have hnc92 := NB137_211.out; have hnb93 := NB211_212.out; have hnc93 := NB212_211.out; have hcz94_0 : w91.cell? ⟨gb211, 0, none⟩ = some (.int .u64 0) := (blk_cell BK211.out 0).trans rfl; have hcz94_1 : w91.cell? ⟨gb211, 1, none⟩ = some (.slice none 0 0) := (blk_cell BK211.out 1).trans rfl; have hcz94_2 : w91.cell? ⟨gb211, 2, none⟩ = some (.slice none 0 0) := (blk_cell BK211.out 2).trans rfl; have hfz94_0 := blk_frozen BK211.out 0; have hfz94_1 := blk_frozen BK211.out 1; have hfz94_2 := blk_frozen BK211.out 2; obtain ⟨Ao95, co95, eo95⟩ := Kd.V_slice HO200.out; subst eo95; obtain ⟨Ao96, co96, eo96⟩ := Kd.V_slice HO203.out; subst eo96; obtain ⟨Ao97, co97, eo97⟩ := Kd.R_slice HO206.out; subst eo97; have hnb98 := NB212_137.out; have hnc98 := NB137_212.out; have hcz99_0 : w91.cell? ⟨gb212, 0, none⟩ = some (.slice none 0 0) := (blk_cell BK212.out 0).trans rfl; have hcz99_1 : w91.cell? ⟨gb212, 1, none⟩ = some (.slice none 0 0) := (blk_cell BK212.out 1).trans rfl; have hfz99_0 := blk_frozen BK212.out 0; have hfz99_1 := blk_frozen BK212.out 1; obtain ⟨Ao100, co100, eo100⟩ := Kd.R_slice HO209.out; subst eo100; have hcz101_0 : w91.cell? ⟨gb137, 0, none⟩ = some (.int .u64 x138000_4) := (blk_cell BK137.out 0).trans rfl; have hcz101_1 : w91.cell? ⟨gb137, 1, none⟩ = some (.slice Ao87 x138001_4.length co87) := (blk_cell BK137.out 1).trans rfl; have hcz101_2 : w91.cell? ⟨gb137, 2, none⟩ = some (.slice Ao88 x138002_4.length co88) := (blk_cell BK137.out 2).trans rfl; have hfz101_0 := blk_frozen BK137.out 0; have hfz101_1 := blk_frozen BK137.out 1; have hfz101_2 := blk_frozen BK137.out 2) | ((with_reducible refine gate_builtin (b := .append) (xs := #[.tmp 108, .tmp 110]) rfl ?_); (try (refine gate_guard (by rfl) ?_; dsimp only)); at_builtin; refine Kd.R_append_rows (Kd.int .u64) (w0 := w) w.heap.size rfl (.tmp 108) (.tmp 110) 23 22 (.int .u64 0) 8 rfl Try.underlying23 info22 rfl (by decide) (by omega) u4 x4_4 t207 _ _ _ (fun k_ => some k_ ≠ (.slice Ao97 t204.length co97 : Value).ownBlock ∧ some k_ ≠ (.slice Ao100 t207.length co100 : Value).ownBlock) (fun _ => False) rfl rfl ?aO ?aR (fun _ _ h => h) (fun _ h => h.elim) ?aF ?aB ?aS ?aL ?_; (case aR => refine (Kd.R_reads' (e := 22) (base := w.heap.size) (ok := fun k_ => (some k_ ≠ (.slice Ao97 t204.length co97 : Value).ownBlock ∧ some k_ ≠ (u4 : Value).ownBlock)) (n := t207.length) (c := co100) ?_).2.2; exact (rlu ((Kd.R_mono (Kd.R_mono (Kd.R_mono (Kd.R_far (p := ⟨gb137, 2, none⟩) (Kd.R_far (p := ⟨gb137, 1, none⟩) (Kd.R_far (p := ⟨gb137, 0, none⟩) (Kd.R_far (p := ⟨gb212, 1, none⟩) (Kd.R_far (p := ⟨gb212, 0, none⟩) (Kd.R_far (p := ⟨gb211, 2, none⟩) (Kd.R_far (p := ⟨gb211, 1, none⟩) (Kd.R_far (p := ⟨gb211, 0, none⟩) (Kd.R_types (Kd.R_types (Kd.R_types HO209.out BK211.out (by decide)) BK212.out (by decide)) BK137.out (by decide)) (fun _ hk => hk.1.1.2) (.int .u64 t197)) (fun _ hk => hk.1.1.2) (.slice Ao95 t198.length co95)) (fun _ hk => hk.1.1.2) (.slice Ao96 t201.length co96)) (fun _ hk => hk.1.2) (.slice Ao97 t204.length co97)) (fun _ hk => hk.1.2) (.slice Ao100 t207.length co100)) (fun _ hk => hk.2) (.int .u64 t197)) (fun _ hk => hk.2) (.slice Ao95 t198.length co95)) (fun _ hk => hk.2) (.slice Ao96 t201.length co96)) (fun _ h_ => h_.1)) (fun _ h_ => h_.1)) (fun _ h_ => h_.1))))); (case aB => exact (bls HB.out)); (case aF => exact (fun k_ hk => ⟨Kd.fresh' (Kd.R_lt (rlu ((Kd.R_mono (Kd.R_mono (Kd.R_mono (Kd.R_far (p := ⟨gb137, 2, none⟩) (Kd.R_far (p := ⟨gb137, 1, none⟩) (Kd.R_far (p := ⟨gb137, 0, none⟩) (Kd.R_far (p := ⟨gb212, 1, none⟩) (Kd.R_far (p := ⟨gb212, 0, none⟩) (Kd.R_far (p := ⟨gb211, 2, none⟩) (Kd.R_far (p := ⟨gb211, 1, none⟩) (Kd.R_far (p := ⟨gb211, 0, none⟩) (Kd.R_types (Kd.R_types (Kd.R_types HO206.out BK211.out (by decide)) BK212.out (by decide)) BK137.out (by decide)) (fun _ hk => hk.1.1.2) (.int .u64 t197)) (fun _ hk => hk.1.1.2) (.slice Ao95 t198.length co95)) (fun _ hk => hk.1.1.2) (.slice Ao96 t201.length co96)) (fun _ hk => hk.1.2) (.slice Ao97 t204.length co97)) (fun _ hk => hk.1.2) (.slice Ao100 t207.length co100)) (fun _ hk => hk.2) (.int .u64 t197)) (fun _ hk => hk.2) (.slice Ao95 t198.length co95)) (fun _ hk => hk.2) (.slice Ao96 t201.length co96)) (fun _ h_ => h_.1)) (fun _ h_ => h_.1)) (fun _ h_ => h_.1))))) k_ hk, Kd.fresh' (Kd.R_lt (rlu ((Kd.R_mono (Kd.R_mono (Kd.R_mono (Kd.R_far (p := ⟨gb137, 2, none⟩) (Kd.R_far (p := ⟨gb137, 1, none⟩) (Kd.R_far (p := ⟨gb137, 0, none⟩) (Kd.R_far (p := ⟨gb212, 1, none⟩) (Kd.R_far (p := ⟨gb212, 0, none⟩) (Kd.R_far (p := ⟨gb211, 2, none⟩) (Kd.R_far (p := ⟨gb211, 1, none⟩) (Kd.R_far (p := ⟨gb211, 0, none⟩) (Kd.R_types (Kd.R_types (Kd.R_types HO209.out BK211.out (by decide)) BK212.out (by decide)) BK137.out (by decide)) (fun _ hk => hk.1.1.2) (.int .u64 t197)) (fun _ hk => hk.1.1.2) (.slice Ao95 t198.length co95)) (fun _ hk => hk.1.1.2) (.slice Ao96 t201.length co96)) (fun _ hk => hk.1.2) (.slice Ao97 t204.length co97)) (fun _ hk => hk.1.2) (.slice Ao100 t207.length co100)) (fun _ hk => hk.2) (.int .u64 t197)) (fun _ hk => hk.2) (.slice Ao95 t198.length co95)) (fun _ hk => hk.2) (.slice Ao96 t201.length co96)) (fun _ h_ => h_.1)) (fun _ h_ => h_.1)) (fun _ h_ => h_.1))))) k_ hk⟩)); (case aO => exact (rlu (Kd.R_mono (Kd.R_far (p := ⟨gb137, 2, none⟩) (Kd.R_far (p := ⟨gb137, 1, none⟩) (Kd.R_far (p := ⟨gb137, 0, none⟩) (Kd.R_far (p := ⟨gb212, 1, none⟩) (Kd.R_far (p := ⟨gb212, 0, none⟩) (Kd.R_far (p := ⟨gb211, 2, none⟩) (Kd.R_far (p := ⟨gb211, 1, none⟩) (Kd.R_far (p := ⟨gb211, 0, none⟩) (Kd.R_types (Kd.R_types (Kd.R_types HO_4.out BK211.out (by decide)) BK212.out (by decide)) BK137.out (by decide)) (fun _ hk => hk.1.1.2) (.int .u64 t197)) (fun _ hk => hk.1.1.2) (.slice Ao95 t198.length co95)) (fun _ hk => hk.1.1.2) (.slice Ao96 t201.length co96)) (fun _ hk => hk.1.2) (.slice Ao97 t204.length co97)) (fun _ hk => hk.1.2) (.slice Ao100 t207.length co100)) (fun _ hk => hk.2) (.int .u64 t197)) (fun _ hk => hk.2) (.slice Ao95 t198.length co95)) (fun _ hk => hk.2) (.slice Ao96 t201.length co96)) (fun _ hk => ⟨hk.1.1.1.1.2, hk.1.1.1.2⟩)))); (case aS => exact (below_size (bls HB.out))); (case aL => have := LMc85.out; omega); intro v214 w102 ho hb hg hat; rw [← Ny213.out] at ho; have n0_ := aA (Kd.V_afterv (ok := (fun k_ => some k_ ≠ (.slice Ao97 t204.length co97 : Value).ownBlock ∧ some k_ ≠ (.slice Ao100 t207.length co100 : Value).ownBlock ∧ k_ ≠ gb137 ∧ k_ ≠ gb211 ∧ k_ ≠ gb212)) (vlu (Kd.V_mono (Kd.V_far (p := ⟨gb137, 2, none⟩) (Kd.V_far (p := ⟨gb137, 1, none⟩) (Kd.V_far (p := ⟨gb137, 0, none⟩) (Kd.V_far (p := ⟨gb212, 1, none⟩) (Kd.V_far (p := ⟨gb212, 0, none⟩) (Kd.V_far (p := ⟨gb211, 2, none⟩) (Kd.V_far (p := ⟨gb211, 1, none⟩) (Kd.V_far (p := ⟨gb211, 0, none⟩) (Kd.V_mono (Kd.V_mono (Kd.V_mono HO_138001.out (fun k_ hk => (⟨hk, hk.1.2⟩ : _ ∧ k_ ≠ gb211))) (fun k_ hk => (⟨hk, hk.1.2⟩ : _ ∧ k_ ≠ gb212))) (fun k_ hk => (⟨hk, hk.1.1.1.1.1.1.2⟩ : _ ∧ k_ ≠ gb137))) (fun _ hk => hk.1.1.2) (.int .u64 t197)) (fun _ hk => hk.1.1.2) (.slice Ao95 t198.length co95)) (fun _ hk => hk.1.1.2) (.slice Ao96 t201.length co96)) (fun _ hk => hk.1.2) (.slice Ao97 t204.length co97)) (fun _ hk => hk.1.2) (.slice Ao100 t207.length co100)) (fun _ hk => hk.2) (.int .u64 t197)) (fun _ hk => hk.2) (.slice Ao95 t198.length co95)) (fun _ hk => hk.2) (.slice Ao96 t201.length co96)) (fun _ hk => ⟨⟨hk.1.1.1.1.1.1.2, ⟨hk.1.1.1.1.1.2, ⟨hk.1.1.1.1.1.1.1.2, ⟨hk.1.1.1.1.2, hk.1.1.1.2⟩⟩⟩⟩, hk.1.1.1.1.1.1.1.1⟩))) hg hat); have n1_ := aA (Kd.V_afterv (ok := (fun k_ => some k_ ≠ (.slice Ao97 t204.length co97 : Value).ownBlock ∧ some k_ ≠ (.slice Ao100 t207.length co100 : Value).ownBlock ∧ k_ ≠ gb137 ∧ k_ ≠ gb211 ∧ k_ ≠ gb212)) (vlu (Kd.V_mono (Kd.V_far (p := ⟨gb137, 2, none⟩) (Kd.V_far (p := ⟨gb137, 1, none⟩) (Kd.V_far (p := ⟨gb137, 0, none⟩) (Kd.V_far (p := ⟨gb212, 1, none⟩) (Kd.V_far (p := ⟨gb212, 0, none⟩) (Kd.V_far (p := ⟨gb211, 2, none⟩) (Kd.V_far (p := ⟨gb211, 1, none⟩) (Kd.V_far (p := ⟨gb211, 0, none⟩) (Kd.V_mono (Kd.V_mono (Kd.V_mono HO_138002.out (fun k_ hk => (⟨hk, hk.1.2⟩ : _ ∧ k_ ≠ gb211))) (fun k_ hk => (⟨hk, hk.1.2⟩ : _ ∧ k_ ≠ gb212))) (fun k_ hk => (⟨hk, hk.1.1.1.1.1.1.2⟩ : _ ∧ k_ ≠ gb137))) (fun _ hk => hk.1.1.2) (.int .u64 t197)) (fun _ hk => hk.1.1.2) (.slice Ao95 t198.length co95)) (fun _ hk => hk.1.1.2) (.slice Ao96 t201.length co96)) (fun _ hk => hk.1.2) (.slice Ao97 t204.length co97)) (fun _ hk => hk.1.2) (.slice Ao100 t207.length co100)) (fun _ hk => hk.2) (.int .u64 t197)) (fun _ hk => hk.2) (.slice Ao95 t198.length co95)) (fun _ hk => hk.2) (.slice Ao96 t201.length co96)) (fun _ hk => ⟨⟨hk.1.1.1.1.1.1.2, ⟨hk.1.1.1.1.1.2, ⟨hk.1.1.1.1.1.1.1.2, ⟨hk.1.1.1.1.2, hk.1.1.1.2⟩⟩⟩⟩, hk.1.1.1.1.1.1.1.1⟩))) hg hat); have n2_ := aA (blk_grown (g := gb137) (o := .cells #[.int .u64 t197, .slice Ao95 t198.length co95, .slice Ao96 t201.length co96] 26 (0, 0)) (by refine bku ?_; refine blk_put (cs := #[.int .u64 t197, .slice Ao95 t198.length co95, .slice Ao88 x138002_4.length co88]) ?_ 2 _ rfl; refine bku ?_; refine blk_put (cs := #[.int .u64 t197, .slice Ao87 x138001_4.length co87, .slice Ao88 x138002_4.length co88]) ?_ 1 _ rfl; refine bku ?_; refine blk_put (cs := #[.int .u64 x138000_4, .slice Ao87 x138001_4.length co87, .slice Ao88 x138002_4.length co88]) ?_ 0 _ rfl; refine bku ?_; refine blk_far ?_ NB137_212.out _; refine bku ?_; refine blk_far ?_ NB137_212.out _; refine bku ?_; refine blk_far ?_ NB137_211.out _; refine bku ?_; refine blk_far ?_ NB137_211.out _; refine bku ?_; refine blk_far ?_ NB137_211.out _; refine bku ?_; exact BK137.out) hg (Kd.R_ne HO_4.out BK137.out (by decide))); have n3_ := aA (Kd.V_afterv (ok := (fun k_ => some k_ ≠ (.slice Ao97 t204.length co97 : Value).ownBlock ∧ some k_ ≠ (.slice Ao100 t207.length co100 : Value).ownBlock ∧ k_ ≠ gb137 ∧ k_ ≠ gb211 ∧ k_ ≠ gb212)) (vlu (Kd.V_mono (Kd.V_far (p := ⟨gb137, 2, none⟩) (Kd.V_far (p := ⟨gb137, 1, none⟩) (Kd.V_far (p := ⟨gb137, 0, none⟩) (Kd.V_far (p := ⟨gb212, 1, none⟩) (Kd.V_far (p := ⟨gb212, 0, none⟩) (Kd.V_far (p := ⟨gb211, 2, none⟩) (Kd.V_far (p := ⟨gb211, 1, none⟩) (Kd.V_far (p := ⟨gb211, 0, none⟩) (Kd.V_mono (Kd.V_mono (Kd.V_mono HO200.out (fun k_ hk => (⟨hk, hk.1.2⟩ : _ ∧ k_ ≠ gb211))) (fun k_ hk => (⟨hk, hk.1.2⟩ : _ ∧ k_ ≠ gb212))) (fun k_ hk => (⟨hk, hk.1.1.1.1.2.2.2⟩ : _ ∧ k_ ≠ gb137))) (fun _ hk => hk.1.1.2) (.int .u64 t197)) (fun _ hk => hk.1.1.2) (.slice Ao95 t198.length co95)) (fun _ hk => hk.1.1.2) (.slice Ao96 t201.length co96)) (fun _ hk => hk.1.2) (.slice Ao97 t204.length co97)) (fun _ hk => hk.1.2) (.slice Ao100 t207.length co100)) (fun _ hk => hk.2) (.int .u64 t197)) (fun _ hk => hk.2) (.slice Ao95 t198.length co95)) (fun _ hk => hk.2) (.slice Ao96 t201.length co96)) (fun _ hk => ⟨⟨hk.1.1.1.1.1.1, ⟨hk.1.1.1.1.1.2.1, ⟨hk.1.1.1.1.1.2.2.2, ⟨hk.1.1.1.1.2, hk.1.1.1.2⟩⟩⟩⟩, hk.1.1.1.1.1.2.2.1⟩))) hg hat); have n4_ := aA (Kd.V_afterv (ok := (fun k_ => some k_ ≠ (.slice Ao97 t204.length co97 : Value).ownBlock ∧ some k_ ≠ (.slice Ao100 t207.length co100 : Value).ownBlock ∧ k_ ≠ gb137 ∧ k_ ≠ gb211 ∧ k_ ≠ gb212)) (vlu (Kd.V_mono (Kd.V_far (p := ⟨gb137, 2, none⟩) (Kd.V_far (p := ⟨gb137, 1, none⟩) (Kd.V_far (p := ⟨gb137, 0, none⟩) (Kd.V_far (p := ⟨gb212, 1, none⟩) (Kd.V_far (p := ⟨gb212, 0, none⟩) (Kd.V_far (p := ⟨gb211, 2, none⟩) (Kd.V_far (p := ⟨gb211, 1, none⟩) (Kd.V_far (p := ⟨gb211, 0, none⟩) (Kd.V_mono (Kd.V_mono (Kd.V_mono HO203.out (fun k_ hk => (⟨hk, hk.1.2⟩ : _ ∧ k_ ≠ gb211))) (fun k_ hk => (⟨hk, hk.1.2⟩ : _ ∧ k_ ≠ gb212))) (fun k_ hk => (⟨hk, hk.1.1.1.1.2.2.2⟩ : _ ∧ k_ ≠ gb137))) (fun _ hk => hk.1.1.2) (.int .u64 t197)) (fun _ hk => hk.1.1.2) (.slice Ao95 t198.length co95)) (fun _ hk => hk.1.1.2) (.slice Ao96 t201.length co96)) (fun _ hk => hk.1.2) (.slice Ao97 t204.length co97)) (fun _ hk => hk.1.2) (.slice Ao100 t207.length co100)) (fun _ hk => hk.2) (.int .u64 t197)) (fun _ hk => hk.2) (.slice Ao95 t198.length co95)) (fun _ hk => hk.2) (.slice Ao96 t201.length co96)) (fun _ hk => ⟨⟨hk.1.1.1.1.1.1, ⟨hk.1.1.1.1.1.2.1, ⟨hk.1.1.1.1.1.2.2.2, ⟨hk.1.1.1.1.2, hk.1.1.1.2⟩⟩⟩⟩, hk.1.1.1.1.1.2.2.1⟩))) hg hat); have n5_ := aA (Kd.R_after (ok := (fun k_ => some k_ ≠ (.slice Ao100 t207.length co100 : Value).ownBlock)) (rlu (Kd.R_mono (Kd.R_far (p := ⟨gb137, 2, none⟩) (Kd.R_far (p := ⟨gb137, 1, none⟩) (Kd.R_far (p := ⟨gb137, 0, none⟩) (Kd.R_far (p := ⟨gb212, 1, none⟩) (Kd.R_far (p := ⟨gb212, 0, none⟩) (Kd.R_far (p := ⟨gb211, 2, none⟩) (Kd.R_far (p := ⟨gb211, 1, none⟩) (Kd.R_far (p := ⟨gb211, 0, none⟩) (Kd.R_types (Kd.R_types (Kd.R_types HO206.out BK211.out (by decide)) BK212.out (by decide)) BK137.out (by decide)) (fun _ hk => hk.1.1.2) (.int .u64 t197)) (fun _ hk => hk.1.1.2) (.slice Ao95 t198.length co95)) (fun _ hk => hk.1.1.2) (.slice Ao96 t201.length co96)) (fun _ hk => hk.1.2) (.slice Ao97 t204.length co97)) (fun _ hk => hk.1.2) (.slice Ao100 t207.length co100)) (fun _ hk => hk.2) (.int .u64 t197)) (fun _ hk => hk.2) (.slice Ao95 t198.length co95)) (fun _ hk => hk.2) (.slice Ao96 t201.length co96)) (fun _ hk => ⟨hk.1.1.1.1, hk.1.1.1.2⟩))) hg hat); have n6_ := aA (Kd.R_after (ok := (fun k_ => some k_ ≠ (.slice Ao97 t204.length co97 : Value).ownBlock)) (rlu (Kd.R_mono (Kd.R_far (p := ⟨gb137, 2, none⟩) (Kd.R_far (p := ⟨gb137, 1, none⟩) (Kd.R_far (p := ⟨gb137, 0, none⟩) (Kd.R_far (p := ⟨gb212, 1, none⟩) (Kd.R_far (p := ⟨gb212, 0, none⟩) (Kd.R_far (p := ⟨gb211, 2, none⟩) (Kd.R_far (p := ⟨gb211, 1, none⟩) (Kd.R_far (p := ⟨gb211, 0, none⟩) (Kd.R_types (Kd.R_types (Kd.R_types HO209.out BK211.out (by decide)) BK212.out (by decide)) BK137.out (by decide)) (fun _ hk => hk.1.1.2) (.int .u64 t197)) (fun _ hk => hk.1.1.2) (.slice Ao95 t198.length co95)) (fun _ hk => hk.1.1.2) (.slice Ao96 t201.length co96)) (fun _ hk => hk.1.2) (.slice Ao97 t204.length co97)) (fun _ hk => hk.1.2) (.slice Ao100 t207.length co100)) (fun _ hk => hk.2) (.int .u64 t197)) (fun _ hk => hk.2) (.slice Ao95 t198.length co95)) (fun _ hk => hk.2) (.slice Ao96 t201.length co96)) (fun _ hk => ⟨hk.1.1.1.1, hk.1.1.1.2⟩))) hg hat); have n7_ := aA (blk_grown (g := gb211) (o := .cells #[.int .u64 t197, .slice Ao95 t198.length co95, .slice Ao96 t201.length co96] 26 (0, 0)) (by refine bku ?_; refine blk_far ?_ NB211_137.out _; refine bku ?_; refine blk_far ?_ NB211_137.out _; refine bku ?_; refine blk_far ?_ NB211_137.out _; refine bku ?_; refine blk_far ?_ NB211_212.out _; refine bku ?_; refine blk_far ?_ NB211_212.out _; refine bku ?_; refine blk_put (cs := #[.int .u64 t197, .slice Ao95 t198.length co95, .slice none 0 0]) ?_ 2 _ rfl; refine bku ?_; refine blk_put (cs := #[.int .u64 t197, .slice none 0 0, .slice none 0 0]) ?_ 1 _ rfl; refine bku ?_; refine blk_put (cs := #[.int .u64 0, .slice none 0 0, .slice none 0 0]) ?_ 0 _ rfl; refine bku ?_; exact BK211.out) hg (Kd.R_ne HO_4.out BK211.out (by decide))); have n8_ := aA (blk_grown (g := gb212) (o := .cells #[.slice Ao97 t204.length co97, .slice Ao100 t207.length co100] 30 (0, 0)) (by refine bku ?_; refine blk_far ?_ NB212_137.out _; refine bku ?_; refine blk_far ?_ NB212_137.out _; refine bku ?_; refine blk_far ?_ NB212_137.out _; refine bku ?_; refine blk_put (cs := #[.slice Ao97 t204.length co97, .slice none 0 0]) ?_ 1 _ rfl; refine bku ?_; refine blk_put (cs := #[.slice none 0 0, .slice none 0 0]) ?_ 0 _ rfl; refine bku ?_; refine blk_far ?_ NB212_211.out _; refine bku ?_; refine blk_far ?_ NB212_211.out _; refine bku ?_; refine blk_far ?_ NB212_211.out _; refine bku ?_; exact BK212.out) hg (Kd.R_ne HO_4.out BK212.out (by decide))); have n9_ := aA (hb); have n10_ := aA (ho); clear HO_138001 HO_138002 BK137 HO200 HO203 HO206 HO209 BK211 BK212 HB HO_4; have HO_138001 := n0_; have HO_138002 := n1_; have BK137 := n2_; have HO200 := n3_; have HO203 := n4_; have HO206 := n5_; have HO209 := n6_; have BK211 := n7_; have BK212 := n8_; have HB := n9_; have HO215 := n10_; clear n0_ n1_ n2_ n3_ n4_ n5_ n6_ n7_ n8_ n9_ n10_ ho hb hg hat))
               go_roundg k4
               case measure => have := HJ1.out; have := HK2.out; have := HK3.out; have := HK4.out; omega
               case rel => exact ⟨(y213), (wrap64 (x11_4 + 1)), (t197), (t198), (t201), (.slice Ao95 t198.length co95), (.slice Ao96 t201.length co96), (by first | rfl | (simp; done) | (simp [*]; done)), H', ⟨by have := HJ1.out; have := HK2.out; have := HK3.out; have := HK4.out; omega⟩, ⟨by (with_reducible repeat (first | apply Kd.R_alloc | apply Kd.R_drewN | apply Kd.R_drew)); exact Kd.R_mono HO215.out (fun _ hk => trivial)⟩, ⟨by (with_reducible repeat (first | apply Kd.V_alloc | apply Kd.V_drewN | apply Kd.V_drew)); exact Kd.V_mono HO200.out (fun _ hk => ⟨hk.2, hk.1.2.2.1⟩)⟩, ⟨by (with_reducible repeat (first | apply Kd.V_alloc | apply Kd.V_drewN | apply Kd.V_drew)); exact Kd.V_mono HO203.out (fun _ hk => ⟨hk.2, hk.1.2.2.1⟩)⟩, ⟨by refine bku ?_; exact BK137.out⟩, ⟨by repeat (first | (with_reducible first | exact HB.out | apply below_alloc | apply pw_below_drewN | apply below_drew1 | refine below_set ?_ GE137.out | refine below_set ?_ GE211.out | refine below_set ?_ GE212.out) | exact HB.out)⟩⟩
              ·rw [if_neg c85] at H
               exact absurd H (by simp)
             ·replace c84 := Bool.eq_false_iff.mpr c84
              subst c84
              have H1 : (some false) = some r := by rw [if_neg (show ¬ (false = true) by decide)] at H; exact H
              clear H
              have H := H1
              clear H1
              exact absurd ((Option.some.inj H).trans hr_) (by decide)
            ·rw [if_neg c82] at H
             have c82b0 : decide (x11_4 < 2) = false := decide_eq_false c82
             clear c82
             have H' := aA H
             clear H
             go_wp2
             go_loopg [15] k4 (fun kq v15 w' => ∃ (x15_5 : Int), v15 = .int .i64 x15_5 ∧ Aside0 (treillagelaw14_EpochAll.l3 kq x4_4 x5_2 x15_5 x138000_4 x138001_4 x138002_4 = some r) ∧ Aside0 (kq ≤ k4) ∧ Aside0 (Kd.R (Kd.int .u64) 22 w' w.heap.size (fun _ => True) u4 x4_4) ∧ Aside0 (Kd.V (Kd.int .u64) 22 w' w.heap.size (fun k_ => some k_ ≠ (u4 : Value).ownBlock ∧ k_ ≠ gb137) u138001 x138001_4) ∧ Aside0 (Kd.V k64 64 w' w.heap.size (fun k_ => some k_ ≠ (u4 : Value).ownBlock ∧ k_ ≠ gb137) u138002 x138002_4) ∧ Aside0 (w'.heap[gb137]? = some (.cells #[.int .u64 x138000_4, u138001, u138002] 26 (0, 0))) ∧ Aside0 (Below w.heap.size w w'))
             case atStart => exact ⟨(0), (by first | rfl | (simp; done) | (simp [*]; done)), H', ⟨Nat.le_refl _⟩, ⟨by (with_reducible repeat (first | apply Kd.R_alloc | apply Kd.R_drewN | apply Kd.R_drew)); exact HO_4.out⟩, ⟨by (with_reducible repeat (first | apply Kd.V_alloc | apply Kd.V_drewN | apply Kd.V_drew)); exact HO_138001.out⟩, ⟨by (with_reducible repeat (first | apply Kd.V_alloc | apply Kd.V_drewN | apply Kd.V_drew)); exact HO_138002.out⟩, ⟨by refine bku ?_; exact BK137.out⟩, ⟨by repeat (first | (with_reducible first | exact HB.out | apply below_alloc | apply pw_below_drewN | apply below_drew1 | refine below_set ?_ GE137.out) | exact HB.out)⟩⟩
             case round =>
              clear H'
              try clear c1
              try clear p1
              try clear q1
              try clear hx1
              try clear c2
              try clear p2
              try clear c3
              try clear c4
              try clear c5
              try clear c6
              try clear p6
              try clear c7
              try clear c8
              try clear c9
              try clear c10
              try clear c11
              try clear c12
              try clear c14
              try clear p14
              try clear q14
              try clear hx14
              try clear c15
              try clear p15
              try clear q15
              try clear hx15
              try clear c16
              try clear c18
              try clear c18b0
              try clear c19
              try clear c19b0
              try clear c20
              try clear c20b0
              try clear c20b1
              try clear c31
              try clear c31b0
              try clear c31b1
              try clear c42
              try clear c42b0
              try clear c42b1
              try clear c55
              try clear c62
              try clear c63
              try clear p64
              try clear c68
              try clear c73
              try clear c73b0
              try clear c82
              try clear c82b0
              try clear c84
              try clear c85
              try clear c92
              try clear c93
              try clear c98
              try clear hcz101_0
              try clear hcz101_1
              try clear hcz101_2
              try clear hcz13_0
              try clear hcz13_1
              try clear hcz13_2
              try clear hcz44_0
              try clear hcz44_1
              try clear hcz44_2
              try clear hcz51_0
              try clear hcz51_1
              try clear hcz51_2
              try clear hcz56_0
              try clear hcz56_1
              try clear hcz56_2
              try clear hcz64_0
              try clear hcz64_1
              try clear hcz64_2
              try clear hcz69_0
              try clear hcz69_1
              try clear hcz71_0
              try clear hcz71_1
              try clear hcz71_2
              try clear hcz75_0
              try clear hcz75_1
              try clear hcz75_2
              try clear hcz79_0
              try clear hcz79_1
              try clear hcz79_2
              try clear hcz86_0
              try clear hcz86_1
              try clear hcz86_2
              try clear hcz94_0
              try clear hcz94_1
              try clear hcz94_2
              try clear hcz99_0
              try clear hcz99_1
              try clear hfz101_0
              try clear hfz101_1
              try clear hfz101_2
              try clear hfz13_0
              try clear hfz13_1
              try clear hfz13_2
              try clear hfz44_0
              try clear hfz44_1
              try clear hfz44_2
              try clear hfz51_0
              try clear hfz51_1
              try clear hfz51_2
              try clear hfz56_0
              try clear hfz56_1
              try clear hfz56_2
              try clear hfz64_0
              try clear hfz64_1
              try clear hfz64_2
              try clear hfz69_0
              try clear hfz69_1
              try clear hfz71_0
              try clear hfz71_1
              try clear hfz71_2
              try clear hfz75_0
              try clear hfz75_1
              try clear hfz75_2
              try clear hfz79_0
              try clear hfz79_1
              try clear hfz79_2
              try clear hfz86_0
              try clear hfz86_1
              try clear hfz86_2
              try clear hfz94_0
              try clear hfz94_1
              try clear hfz94_2
              try clear hfz99_0
              try clear hfz99_1
              try clear hx141_0
              try clear hx141_1
              try clear hx141_2
              try clear hx141_3
              try clear hx141_4
              try clear hx142_0
              try clear hx142_1
              try clear hx142_2
              try clear hx142_3
              try clear hx142_4
              try clear hx151_0
              try clear hx151_1
              try clear hx151_2
              try clear hx151_3
              try clear hx151_4
              try clear p1
              try clear p14
              try clear p141
              try clear p142
              try clear p15
              try clear p151
              try clear p2
              try clear p6
              try clear p64
              try clear q1
              try clear q14
              try clear q141
              try clear q142
              try clear q15
              try clear q151
              obtain ⟨x15_5, rfl, HA, HK5, HO_4, HO_138001, HO_138002, BK137, HB⟩ := hrel
              cases gk with
              | zero => exact absurd HA.out (by simp [treillagelaw14_EpochAll.l3])
              | succ k5 =>
               have H := HA.out
               clear HA
               simp only [treillagelaw14_EpochAll.l3] at H
               by_cases c103 : x15_5 < (x4_4.length : Int)
               ·rw [if_pos c103] at H
                have c103b0 : decide (x15_5 < (x4_4.length : Int)) = true := decide_eq_true c103
                clear c103
                by_cases c104 : 0 ≤ x15_5
                ·rw [if_pos c104] at H
                 have c104b0 : decide (0 ≤ x15_5) = true := decide_eq_true c104
                 clear c104
                 by_cases c105 : (rd x4_4 x15_5) = (IntKind.u64.wrap (wrap64 (x15_5 + 1)))
                 ·rw [if_pos c105] at H
                  have c105b0 : ((rd x4_4 x15_5) == (IntKind.u64.wrap (wrap64 (x15_5 + 1)))) = true := beq_iff_eq.mpr c105
                  have c105b1 : ((rd x4_4 x15_5) != (IntKind.u64.wrap (wrap64 (x15_5 + 1)))) = false := bne_eq_false_iff_eq.mpr c105
                  clear c105
                  have H' := aA H
                  clear H
                  obtain ⟨Ao106, co106, eo106⟩ := Kd.R_slice HO_4.out
                  subst eo106
                  have p216 : 0 ≤ (x15_5 : Int) := of_decide_eq_true (by first | (with_reducible assumption) | assumption)
                  have q216 : x15_5 < (x4_4.length : Int) := of_decide_eq_true (by first | (with_reducible assumption) | assumption)
                  obtain ⟨ad216, e216, hx216_0⟩ := Kd.at_int (Kd.R_reads' HO_4.out).2.2 x15_5 p216 q216
                  cases e216
                  replace p216 := eq_true p216
                  replace q216 := eq_true q216
                  go_wp2
                  go_roundg k5
                  case measure => have := HJ1.out; have := HK2.out; have := HK3.out; have := HK4.out; have := HK5.out; omega
                  case rel => exact ⟨(wrap64 (x15_5 + 1)), (by first | rfl | (simp; done) | (simp [*]; done)), H', ⟨by have := HJ1.out; have := HK2.out; have := HK3.out; have := HK4.out; have := HK5.out; omega⟩, ⟨by (with_reducible repeat (first | apply Kd.R_alloc | apply Kd.R_drewN | apply Kd.R_drew)); exact HO_4.out⟩, ⟨by (with_reducible repeat (first | apply Kd.V_alloc | apply Kd.V_drewN | apply Kd.V_drew)); exact HO_138001.out⟩, ⟨by (with_reducible repeat (first | apply Kd.V_alloc | apply Kd.V_drewN | apply Kd.V_drew)); exact HO_138002.out⟩, ⟨by refine bku ?_; exact BK137.out⟩, ⟨by repeat (first | (with_reducible first | exact HB.out | apply below_alloc | apply pw_below_drewN | apply below_drew1 | refine below_set ?_ GE137.out) | exact HB.out)⟩⟩
                 ·rw [if_neg c105] at H
                  have c105b0 : ((rd x4_4 x15_5) == (IntKind.u64.wrap (wrap64 (x15_5 + 1)))) = false := beq_eq_false_iff_ne.mpr c105
                  have c105b1 : ((rd x4_4 x15_5) != (IntKind.u64.wrap (wrap64 (x15_5 + 1)))) = true := bne_iff_ne.mpr c105
                  exact absurd ((Option.some.inj H).trans hr_) (by decide)
                ·rw [if_neg c104] at H
                 exact absurd H (by simp)
               ·rw [if_neg c103] at H
                have c103b0 : decide (x15_5 < (x4_4.length : Int)) = false := decide_eq_false c103
                clear c103
                by_cases c107 : (x138002_4.length : Int) = 0
                ·rw [if_pos c107] at H
                 have c107b0 : ((x138002_4.length : Int) == 0) = true := beq_iff_eq.mpr c107
                 have c107b1 : ((x138002_4.length : Int) != 0) = false := bne_eq_false_iff_eq.mpr c107
                 clear c107
                 obtain rfl := Option.some.inj H
                 obtain ⟨Ao108, co108, eo108⟩ := Kd.R_slice HO_4.out
                 subst eo108
                 have hcz109_0 : wr.cell? ⟨gb137, 0, none⟩ = some (.int .u64 x138000_4) := (blk_cell BK137.out 0).trans rfl
                 have hcz109_1 : wr.cell? ⟨gb137, 1, none⟩ = some (u138001) := (blk_cell BK137.out 1).trans rfl
                 have hcz109_2 : wr.cell? ⟨gb137, 2, none⟩ = some (u138002) := (blk_cell BK137.out 2).trans rfl
                 have hfz109_0 := blk_frozen BK137.out 0
                 have hfz109_1 := blk_frozen BK137.out 1
                 have hfz109_2 := blk_frozen BK137.out 2
                 obtain ⟨Ao110, co110, eo110⟩ := Kd.V_slice HO_138002.out
                 subst eo110
                 go_wp2
                 go_ret
                 exact ⟨by first | rfl | (simp [errW_none, errW_some] <;> rfl) | (simp [*, errW_none, errW_some] <;> rfl), by repeat (first | (with_reducible first | exact HB.out | apply below_alloc | apply pw_below_drewN | apply below_drew1 | refine below_set ?_ GE137.out) | exact HB.out)⟩
                ·rw [if_neg c107] at H
                 have c107b0 : ((x138002_4.length : Int) == 0) = false := beq_eq_false_iff_ne.mpr c107
                 have c107b1 : ((x138002_4.length : Int) != 0) = true := bne_iff_ne.mpr c107
                 have c107b2 : ¬ (x138002_4 = []) := fun h_ => c107 (by rw [h_]; rfl)
                 exact absurd ((Option.some.inj H).trans hr_) (by decide)

theorem treillagelaw14_EpochAll.calls (k : Nat) (A0 : Option Addr) (c0 : Nat) (l0 : List (S42)) (r : Bool) (w : World) (hr0 : Kd.C k42 w A0 l0.length l0) (hc0 : l0.length ≤ c0) (h : treillagelaw14_EpochAll.f k l0 = some true) :
  Calls Try.prog 6 #[.slice A0 l0.length c0] w fun e w' => e = .returned (.bool true) ∧ Below w.heap.size w w' := treillagelaw14_EpochAll.calls1 k A0 c0 l0 true w hr0 hc0 h rfl
end Go.Proofs.Ytjnfllaonkeefaa.PE
