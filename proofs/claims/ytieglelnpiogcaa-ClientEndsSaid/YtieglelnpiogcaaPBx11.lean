-- Written by wip/hprint/hprint.py (a program of this session, over the print): not typed by hand
import Derived.Test.YtieglelnpiogcaaPBx0
import Derived.Test.YtieglelnpiogcaaPBx1
import Derived.Test.YtieglelnpiogcaaPBx2
import Derived.Test.YtieglelnpiogcaaPBx3
import Derived.Test.YtieglelnpiogcaaPBx4
import Derived.Test.YtieglelnpiogcaaPBx8
import Derived.Test.YtieglelnpiogcaaPBx9
import Derived.Test.YtieglelnpiogcaaPBx12
namespace Go.Proofs.Ytieglelnpiogcaa.PB
open Go.RowKit Go.Proofs.YtieglelnpiogcaaW.PrintWords Go.Proofs.YtieglelnpiogcaaW.PrintLast Go.Proofs.YtieglelnpiogcaaW.PrintMore
attribute [local go_sem] max2_int min2_int max_two min_two max_three min_three max_four min_four   -- for this text's walks alone
open Go.Proofs.YtieglelnpiogcaaH
set_option linter.unusedVariables false
set_option linter.unusedSimpArgs false

/-! ### treillagelaw17_ClientEnds: function 4 -/
mutual
def treillagelaw17_ClientEnds.j0 : Nat → List (S44) → Int → Int → Bool → Option (Bool)
 | 0, _, _, _, _ => none
 | k + 1, x0, x1, x2, x23 => if x23 = true then ((treillagelaw17_shown.f k).bind fun t331 => (some t331)) else ((mem_New.f k 1 1).bind fun t333 => ((mem_Root.f 1 1).bind fun t336 => (if 0 ≤ t336 then (if t336 < (t333.length : Int) then ((mem_Epoch.f 1 1).bind fun t338 => (if 0 ≤ t338 then (if t338 < (t333.length : Int) then (treillagelaw17_ClientEnds.l0 k x0 x2 ((t333.set (t336 : Int).toNat (Int.tmod x1 1000)).set (t338 : Int).toNat (Int.tmod x2 1000)) 1 1 0 0 0 0 0 0 0 0 0 ([] : List (S74))) else (none)) else (none))) else (none)) else (none))))
def treillagelaw17_ClientEnds.l0 : Nat → List (S44) → Int → List Int → Int → Int → Int → Int → Int → Int → Int → Int → Int → Int → Int → List (S74) → Option (Bool)
 | 0, _, _, _, _, _, _, _, _, _, _, _, _, _, _, _ => none
 | k + 1, x0, x2, x8, x333000, x333001, x341000, x341001, x341002, x341003, x341004, x341005, x341006, x341007, x341008, x341009 => if x341001 < (x0.length : Int) then (if 0 ≤ x341001 then (if ((rd_T44 x0 x341001).f0) = 1 then (some true) else (treillagelaw17_ClientEnds.l1 k x0 x2 x8 x341001 0 x333000 x333001 x341000 x341001 x341002 x341003 x341004 x341005 x341006 x341007 x341008 x341009)) else (none)) else (some ((x341009.length : Int) == (x0.length : Int)))
def treillagelaw17_ClientEnds.l1 : Nat → List (S44) → Int → List Int → Int → Int → Int → Int → Int → Int → Int → Int → Int → Int → Int → Int → Int → List (S74) → Option (Bool)
 | 0, _, _, _, _, _, _, _, _, _, _, _, _, _, _, _, _, _ => none
 | k + 1, x0, x2, x8, x10, x11, x333000, x333001, x341000, x341001, x341002, x341003, x341004, x341005, x341006, x341007, x341008, x341009 => if x341001 = x10 then ((client_Want.f x333000 x333001 x0 x341000 x341001 x341002 x341003 x341004 x341005 x341006 x341007 x341008 x341009).bind fun bt342 => ((mem_Do.f x8 bt342.1 bt342.2.1 bt342.2.2.1 bt342.2.2.2.1).bind fun bt348 => (if bt342.2.2.2.2 = true then (if bt348.2.2 = true then (if x11 = 5 then (some false) else ((client_Got.f x333000 x333001 x0 x341000 x341001 x341002 x341003 x341004 x341005 x341006 x341007 x341008 x341009 bt348.2.1 bt348.2.2).bind fun bt353 => (treillagelaw17_ClientEnds.l1 k x0 x2 bt348.1 x10 (wrap64 (x11 + 1)) x333000 x333001 bt353.1 bt353.2.1 bt353.2.2.1 bt353.2.2.2.1 bt353.2.2.2.2.1 bt353.2.2.2.2.2.1 bt353.2.2.2.2.2.2.1 bt353.2.2.2.2.2.2.2.1 bt353.2.2.2.2.2.2.2.2.1 bt353.2.2.2.2.2.2.2.2.2))) else (some false)) else (some false)))) else ((mem_Pin.f x333000 x333001 0).bind fun t365 => (if 0 ≤ t365 then (if t365 < (x8.length : Int) then (if ((x341008 != 0) != ((rd x8 t365) != 0)) = true then (some false) else (if x341008 = 0 then (treillagelaw17_ClientEnds.l0 k x0 x2 x8 x333000 x333001 x341000 x341001 x341002 x341003 x341004 x341005 x341006 x341007 x341008 x341009) else ((mem_Pin.f x333000 x333001 0).bind fun t367 => (if 0 ≤ t367 then (if t367 < (x8.length : Int) then (if (rd x8 t367) = (IntKind.u64.wrap ((Int.tmod x2 1000) + 1)) then (treillagelaw17_ClientEnds.l0 k x0 x2 x8 x333000 x333001 x341000 x341001 x341002 x341003 x341004 x341005 x341006 x341007 x341008 x341009) else (some false)) else (none)) else (none))))) else (none)) else (none)))
end
def treillagelaw17_ClientEnds.f (k : Nat) (l0 : List (S44)) (a1 : Int) (a2 : Int) : Option (Bool) := (treillagelaw17_bounded.f k l0).bind fun t329 => (if t329 = true then ((treillagelaw17_shown.f k).bind fun t330 => (treillagelaw17_ClientEnds.j0 k l0 a1 a2 (!t330))) else (treillagelaw17_ClientEnds.j0 k l0 a1 a2 true))
theorem treillagelaw17_ClientEnds.mono_l : ∀ k, (∀ y0 y1 y2 y3, LeO (treillagelaw17_ClientEnds.j0 k y0 y1 y2 y3) (treillagelaw17_ClientEnds.j0 (k + 1) y0 y1 y2 y3)) ∧ (∀ y0 y1 y2 y3 y4 y5 y6 y7 y8 y9 y10 y11 y12 y13 y14, LeO (treillagelaw17_ClientEnds.l0 k y0 y1 y2 y3 y4 y5 y6 y7 y8 y9 y10 y11 y12 y13 y14) (treillagelaw17_ClientEnds.l0 (k + 1) y0 y1 y2 y3 y4 y5 y6 y7 y8 y9 y10 y11 y12 y13 y14)) ∧ (∀ y0 y1 y2 y3 y4 y5 y6 y7 y8 y9 y10 y11 y12 y13 y14 y15 y16, LeO (treillagelaw17_ClientEnds.l1 k y0 y1 y2 y3 y4 y5 y6 y7 y8 y9 y10 y11 y12 y13 y14 y15 y16) (treillagelaw17_ClientEnds.l1 (k + 1) y0 y1 y2 y3 y4 y5 y6 y7 y8 y9 y10 y11 y12 y13 y14 y15 y16))
 | 0 => ⟨fun _ _ _ _ r h => by simp [treillagelaw17_ClientEnds.j0] at h, fun _ _ _ _ _ _ _ _ _ _ _ _ _ _ _ r h => by simp [treillagelaw17_ClientEnds.l0] at h, fun _ _ _ _ _ _ _ _ _ _ _ _ _ _ _ _ _ r h => by simp [treillagelaw17_ClientEnds.l1] at h⟩
 | k + 1 => by
  obtain ⟨ih0, ih1, ih2⟩ := treillagelaw17_ClientEnds.mono_l k; refine ⟨?_, ?_, ?_⟩
  ·intro y0 y1 y2 y3
   unfold treillagelaw17_ClientEnds.j0; repeat' first
   | (with_reducible exact ih0 _ _ _ _)
   | (with_reducible exact ih1 _ _ _ _ _ _ _ _ _ _ _ _ _ _ _)
   | (with_reducible exact ih2 _ _ _ _ _ _ _ _ _ _ _ _ _ _ _ _ _)
   | (with_reducible exact mem_New.mono _ _ _)
   | (with_reducible exact treillagelaw17_bounded.mono _ _)
   | (with_reducible exact treillagelaw17_shown.mono _)
   | (with_reducible exact LeO.refl _)
   | (with_reducible exact LeO.none _)
   | (with_reducible refine LeO.ite ?_ ?_)
   | (with_reducible refine LeO.bind ?_ (fun _ => ?_))
   | exact ih0 _ _ _ _
   | exact ih1 _ _ _ _ _ _ _ _ _ _ _ _ _ _ _
   | exact ih2 _ _ _ _ _ _ _ _ _ _ _ _ _ _ _ _ _
   | exact mem_New.mono _ _ _
   | exact treillagelaw17_bounded.mono _ _
   | exact treillagelaw17_shown.mono _
   | exact LeO.none _
   | refine LeO.ite ?_ ?_
   | refine LeO.bind ?_ (fun _ => ?_)
  ·intro y0 y1 y2 y3 y4 y5 y6 y7 y8 y9 y10 y11 y12 y13 y14
   unfold treillagelaw17_ClientEnds.l0; repeat' first
   | (with_reducible exact ih0 _ _ _ _)
   | (with_reducible exact ih1 _ _ _ _ _ _ _ _ _ _ _ _ _ _ _)
   | (with_reducible exact ih2 _ _ _ _ _ _ _ _ _ _ _ _ _ _ _ _ _)
   | (with_reducible exact mem_New.mono _ _ _)
   | (with_reducible exact treillagelaw17_bounded.mono _ _)
   | (with_reducible exact treillagelaw17_shown.mono _)
   | (with_reducible exact LeO.refl _)
   | (with_reducible exact LeO.none _)
   | (with_reducible refine LeO.ite ?_ ?_)
   | (with_reducible refine LeO.bind ?_ (fun _ => ?_))
   | exact ih0 _ _ _ _
   | exact ih1 _ _ _ _ _ _ _ _ _ _ _ _ _ _ _
   | exact ih2 _ _ _ _ _ _ _ _ _ _ _ _ _ _ _ _ _
   | exact mem_New.mono _ _ _
   | exact treillagelaw17_bounded.mono _ _
   | exact treillagelaw17_shown.mono _
   | exact LeO.none _
   | refine LeO.ite ?_ ?_
   | refine LeO.bind ?_ (fun _ => ?_)
  ·intro y0 y1 y2 y3 y4 y5 y6 y7 y8 y9 y10 y11 y12 y13 y14 y15 y16
   unfold treillagelaw17_ClientEnds.l1; repeat' first
   | (with_reducible exact ih0 _ _ _ _)
   | (with_reducible exact ih1 _ _ _ _ _ _ _ _ _ _ _ _ _ _ _)
   | (with_reducible exact ih2 _ _ _ _ _ _ _ _ _ _ _ _ _ _ _ _ _)
   | (with_reducible exact mem_New.mono _ _ _)
   | (with_reducible exact treillagelaw17_bounded.mono _ _)
   | (with_reducible exact treillagelaw17_shown.mono _)
   | (with_reducible exact LeO.refl _)
   | (with_reducible exact LeO.none _)
   | (with_reducible refine LeO.ite ?_ ?_)
   | (with_reducible refine LeO.bind ?_ (fun _ => ?_))
   | exact ih0 _ _ _ _
   | exact ih1 _ _ _ _ _ _ _ _ _ _ _ _ _ _ _
   | exact ih2 _ _ _ _ _ _ _ _ _ _ _ _ _ _ _ _ _
   | exact mem_New.mono _ _ _
   | exact treillagelaw17_bounded.mono _ _
   | exact treillagelaw17_shown.mono _
   | exact LeO.none _
   | refine LeO.ite ?_ ?_
   | refine LeO.bind ?_ (fun _ => ?_)
theorem treillagelaw17_ClientEnds.mono : ∀ a0 a1 a2 k, LeO (treillagelaw17_ClientEnds.f k a0 a1 a2) (treillagelaw17_ClientEnds.f (k + 1) a0 a1 a2) := by
 intro a0 a1 a2 k
 obtain ⟨ih0, ih1, ih2⟩ := treillagelaw17_ClientEnds.mono_l k; unfold treillagelaw17_ClientEnds.f
 repeat' first
   | (with_reducible exact ih0 _ _ _ _)
   | (with_reducible exact ih1 _ _ _ _ _ _ _ _ _ _ _ _ _ _ _)
   | (with_reducible exact ih2 _ _ _ _ _ _ _ _ _ _ _ _ _ _ _ _ _)
   | (with_reducible exact mem_New.mono _ _ _)
   | (with_reducible exact treillagelaw17_bounded.mono _ _)
   | (with_reducible exact treillagelaw17_shown.mono _)
   | (with_reducible exact LeO.refl _)
   | (with_reducible exact LeO.none _)
   | (with_reducible refine LeO.ite ?_ ?_)
   | (with_reducible refine LeO.bind ?_ (fun _ => ?_))
   | exact ih0 _ _ _ _
   | exact ih1 _ _ _ _ _ _ _ _ _ _ _ _ _ _ _
   | exact ih2 _ _ _ _ _ _ _ _ _ _ _ _ _ _ _ _ _
   | exact mem_New.mono _ _ _
   | exact treillagelaw17_bounded.mono _ _
   | exact treillagelaw17_shown.mono _
   | exact LeO.none _
   | refine LeO.ite ?_ ?_
   | refine LeO.bind ?_ (fun _ => ?_)
def treillagelaw17_ClientEnds.T21 : Bool × List (List Nat × List Nat) := (true, [([], []), ([0], [0]), ([1], [1]), ([], []), ([], []), ([4], [4]), ([3, 5], [3, 5]), ([6], [6]), ([7], [7]), ([2, 8], [2, 8]), ([9, 5], [9]), ([10], [10]), ([11, 10], [10, 11]), ([12, 10], [10, 12]), ([13, 10, 10], [10, 13]), ([14], [14]), ([14], [14]), ([16, 14, 14], [14, 16]), ([15, 17, 14], [14, 15, 17]), ([18, 14], [14, 18]), ([14], [14]), ([20, 14], [14, 20]), ([21, 14], [14, 21]), ([19, 22, 14], [14, 19, 22]), ([14, 23, 10], [10, 14, 23]), ([10, 24], [10, 24])])
def treillagelaw17_ClientEnds.B21 : List Nat := [0, 1, 3, 0, 0, 16, 56, 120, 248, 511, 1023, 2047, 4095, 8191, 16383, 32767, 32767, 98303, 262143, 524287, 32767, 1081343, 3178495, 8388607, 16777215, 33554431]
theorem treillagelaw17_ClientEnds.tab21 : rtab .any (opsOf Try.f4 21) = treillagelaw17_ClientEnds.T21 := by kernel_rfl
theorem treillagelaw17_ClientEnds.bits21 : waitsOk treillagelaw17_ClientEnds.T21.2 treillagelaw17_ClientEnds.B21 = true := by kernel_rfl
set_option maxHeartbeats 8000000 in
set_option maxRecDepth 100000 in
theorem treillagelaw17_ClientEnds.calls1 (k : Nat) (A0 : Option Addr) (c0 : Nat) (l0 : List (S44)) (a1 : Int) (a2 : Int) (r : Bool) (w : World) (hr0 : Kd.C k44 w A0 l0.length l0) (hc0 : l0.length ≤ c0) (h : treillagelaw17_ClientEnds.f k l0 a1 a2 = some r) (hr_ : r = true) :
  Calls Try.prog 4 #[.slice A0 l0.length c0, .int .u64 a1, .int .u64 a2] w fun e w' => e = .returned (.bool r) ∧ Below w.heap.size w w' := by
 have hu31 := Try.underlying31; have hu39 := Try.underlying39; have hu46 := Try.underlying46; have HR0 := aA hr0; have HC0 := aA hc0; clear hr0 hc0; have HB := aA (Below.refl w.heap.size w); have H : ((treillagelaw17_bounded.f k l0).bind fun t329 => (if t329 = true then ((treillagelaw17_shown.f k).bind fun t330 => (treillagelaw17_ClientEnds.j0 k l0 a1 a2 (!t330))) else (treillagelaw17_ClientEnds.j0 k l0 a1 a2 true))) = some r := h; clear h; have HC4 := aA H; clear H; go_enter Try.func4, Try.ntmps4; go_upto_region 1 with (fail)
 go_cut [23] (fun v23 wc => ∃ (kq : Nat) (x23_3 : Bool), v23 = .bool x23_3 ∧ Aside0 (treillagelaw17_ClientEnds.j0 kq l0 a1 a2 x23_3 = some r) ∧ Aside0 (kq ≤ k) ∧ Aside0 (Below w.heap.size w wc))
 case first =>
  have H := HC4.out; clear HC4; replace H := Option.bind_eq_some_iff.mp H; obtain ⟨t329, A50, H⟩ := H; replace H : (if t329 = true then ((treillagelaw17_shown.f k).bind fun t330 => (treillagelaw17_ClientEnds.j0 k l0 a1 a2 (!t330))) else (treillagelaw17_ClientEnds.j0 k l0 a1 a2 true)) = some r := H; have A5 := aA A50; clear A50; by_cases c6 : t329 = true
  ·subst c6; have H1 : ((treillagelaw17_shown.f k).bind fun t330 => (treillagelaw17_ClientEnds.j0 k l0 a1 a2 (!t330))) = some r := by rw [if_pos rfl] at H; exact H
   clear H; have H := H1; clear H1; replace H := Option.bind_eq_some_iff.mp H; obtain ⟨t330, A70, H⟩ := H; replace H : (treillagelaw17_ClientEnds.j0 k l0 a1 a2 (!t330)) = some r := H; have A7 := aA A70; clear A70; have H' := aA H; clear H; go_wp2_with (first | ((with_reducible refine gate_callee (f := 12) rfl ?_); refine goesL_ (some 18) rfl rfl Try.func12 (by kernel_rfl) rfl #[.slice A0 l0.length c0] rfl (by (try simp only [List.map_toArray, List.map_cons, List.map_nil]); first | done | rfl | (simp only [List.length_drop, List.length_take]; rfl)) ?_; (with_reducible refine (treillagelaw17_bounded.calls k _ _ l0 true _ ?side1 ?side2 A5.out).mono ?_); (case side1 => repeat (first | exact (Kd.C_below HR0.out HB.out) | (with_reducible refine Kd.C_alloc ?_ _) | (with_reducible refine Kd.C_drewN ?_ _) | (with_reducible refine Kd.C_drew ?_))); (case side2 => exact HC0.out); rintro e w' ⟨rfl, ⟨nd, rfl⟩⟩; refine ⟨_, rfl, ?_⟩) | (go_at_call 11; (with_reducible refine (treillagelaw17_shown.calls k  t330 _ A7.out).mono ?_); rintro e w8 ⟨rfl, hb⟩; have n0_ := aA (below_step (blw HB.out) hb); clear HB; have HB := n0_; clear n0_; (try clear hb); (try clear hb2); (try clear hk); (try clear hi)))
   go_meet
   case rel => exact ⟨_, (!t330), (by first | rfl | (simp; done) | (simp [*]; done)), H', ⟨by first | omega | exact Nat.le_refl _⟩, ⟨by repeat (first | (with_reducible first | exact HB.out | apply below_alloc | apply pw_below_drewN | apply below_drew1) | exact HB.out)⟩⟩
  ·replace c6 := Bool.eq_false_iff.mpr c6; subst c6; have H1 : (treillagelaw17_ClientEnds.j0 k l0 a1 a2 true) = some r := by rw [if_neg (show ¬ (false = true) by decide)] at H; exact H
   clear H; have H := H1; clear H1; have H' := aA H; clear H; go_wp2_with (first | ((with_reducible refine gate_callee (f := 12) rfl ?_); refine goesL_ (some 18) rfl rfl Try.func12 (by kernel_rfl) rfl #[.slice A0 l0.length c0] rfl (by (try simp only [List.map_toArray, List.map_cons, List.map_nil]); first | done | rfl | (simp only [List.length_drop, List.length_take]; rfl)) ?_; (with_reducible refine (treillagelaw17_bounded.calls k _ _ l0 false _ ?side1 ?side2 A5.out).mono ?_); (case side1 => repeat (first | exact (Kd.C_below HR0.out HB.out) | (with_reducible refine Kd.C_alloc ?_ _) | (with_reducible refine Kd.C_drewN ?_ _) | (with_reducible refine Kd.C_drew ?_))); (case side2 => exact HC0.out); rintro e w' ⟨rfl, ⟨nd, rfl⟩⟩; refine ⟨_, rfl, ?_⟩))
   go_meet
   case rel => exact ⟨_, (true), (by first | rfl | (simp; done) | (simp [*]; done)), H', ⟨by first | omega | exact Nat.le_refl _⟩, ⟨by repeat (first | (with_reducible first | exact HB.out | apply below_alloc | apply pw_below_drewN | apply below_drew1) | exact HB.out)⟩⟩
 case rest =>
  clear HC4; try clear c1
  try clear p2
  try clear c4
  try clear c6
  obtain ⟨kq, x23_3, rfl, HA, HJ3, HB⟩ := hcut; cases kq with
  | zero => exact absurd HA.out (by simp [treillagelaw17_ClientEnds.j0])
  | succ kj3 =>
   have H := HA.out; clear HA; simp only [treillagelaw17_ClientEnds.j0] at H; by_cases c9 : x23_3 = true
   ·subst c9; have H1 : ((treillagelaw17_shown.f kj3).bind fun t331 => (some t331)) = some r := by rw [if_pos rfl] at H; exact H
    clear H; have H := H1; clear H1; replace H := Option.bind_eq_some_iff.mp H; obtain ⟨t331, A100, H⟩ := H; replace H : (some t331) = some r := H; have A10 := aA A100; clear A100; obtain rfl := Option.some.inj H; go_wp2_with (first | ((with_reducible refine gate_callee (f := 11) rfl ?_); refine goesL_ (some 24) rfl rfl Try.func11 (by kernel_rfl) rfl #[] rfl (by (try simp only [List.map_toArray, List.map_cons, List.map_nil]); first | done | rfl | (simp only [List.length_drop, List.length_take]; rfl)) ?_; (with_reducible refine (treillagelaw17_shown.calls kj3  t331 _ A10.out).mono ?_); rintro e w11 ⟨rfl, hb⟩; refine ⟨_, rfl, ?_⟩; have n0_ := aA (below_step (blw HB.out) hb); clear HB; have HB := n0_; clear n0_; (try clear hb); (try clear hb2); (try clear hk); (try clear hi)))
    go_ret
    exact ⟨by first | rfl | (simp [errW_none, errW_some] <;> rfl) | (simp [*, errW_none, errW_some] <;> rfl), by repeat (first | (with_reducible first | exact HB.out | apply below_alloc | apply pw_below_drewN | apply below_drew1) | exact HB.out)⟩
   ·replace c9 := Bool.eq_false_iff.mpr c9; subst c9; have H1 : ((mem_New.f kj3 1 1).bind fun t333 => ((mem_Root.f 1 1).bind fun t336 => (if 0 ≤ t336 then (if t336 < (t333.length : Int) then ((mem_Epoch.f 1 1).bind fun t338 => (if 0 ≤ t338 then (if t338 < (t333.length : Int) then (treillagelaw17_ClientEnds.l0 kj3 l0 a2 ((t333.set (t336 : Int).toNat (Int.tmod a1 1000)).set (t338 : Int).toNat (Int.tmod a2 1000)) 1 1 0 0 0 0 0 0 0 0 0 ([] : List (S74))) else (none)) else (none))) else (none)) else (none)))) = some r := by rw [if_neg (show ¬ (false = true) by decide)] at H; exact H
    clear H; have H := H1; clear H1; replace H := Option.bind_eq_some_iff.mp H; obtain ⟨t333, A120, H⟩ := H; replace H : ((mem_Root.f 1 1).bind fun t336 => (if 0 ≤ t336 then (if t336 < (t333.length : Int) then ((mem_Epoch.f 1 1).bind fun t338 => (if 0 ≤ t338 then (if t338 < (t333.length : Int) then (treillagelaw17_ClientEnds.l0 kj3 l0 a2 ((t333.set (t336 : Int).toNat (Int.tmod a1 1000)).set (t338 : Int).toNat (Int.tmod a2 1000)) 1 1 0 0 0 0 0 0 0 0 0 ([] : List (S74))) else (none)) else (none))) else (none)) else (none))) = some r := H; have A12 := aA A120; clear A120; replace H := Option.bind_eq_some_iff.mp H; obtain ⟨t336, A130, H⟩ := H; replace H : (if 0 ≤ t336 then (if t336 < (t333.length : Int) then ((mem_Epoch.f 1 1).bind fun t338 => (if 0 ≤ t338 then (if t338 < (t333.length : Int) then (treillagelaw17_ClientEnds.l0 kj3 l0 a2 ((t333.set (t336 : Int).toNat (Int.tmod a1 1000)).set (t338 : Int).toNat (Int.tmod a2 1000)) 1 1 0 0 0 0 0 0 0 0 0 ([] : List (S74))) else (none)) else (none))) else (none)) else (none)) = some r := H; have A13 := aA A130; clear A130; by_cases c14 : 0 ≤ t336
    rotate_left
    ·rw [if_neg c14] at H; exact absurd H (by simp)

    rw [if_pos c14] at H; have c14b0 : decide (0 ≤ t336) = true := decide_eq_true c14; clear c14; by_cases c15 : t336 < (t333.length : Int)
    rotate_left
    ·rw [if_neg c15] at H; exact absurd H (by simp)
    rw [if_pos c15] at H; have c15b0 : decide (t336 < (t333.length : Int)) = true := decide_eq_true c15; clear c15; obtain ⟨y337, hy337⟩ : ∃ y_ : List Int, y_ = (t333.set (t336 : Int).toNat (Int.tmod a1 1000)) := ⟨_, rfl⟩; replace H : ((mem_Epoch.f 1 1).bind fun t338 => (if 0 ≤ t338 then (if t338 < (t333.length : Int) then (treillagelaw17_ClientEnds.l0 kj3 l0 a2 (y337.set (t338 : Int).toNat (Int.tmod a2 1000)) 1 1 0 0 0 0 0 0 0 0 0 ([] : List (S74))) else (none)) else (none))) = some r := by first | (rw [hy337]; with_reducible exact H) | (have H2_ := (Option.bind_some _ _).symm.trans H; rw [hy337]; with_reducible exact H2_) | (have H2_ := (Option.bind_some _ _).symm.trans H; with_reducible exact H2_) | with_reducible exact H | (rw [hy337]; exact H) | exact H
    have Ny337 := aA hy337; clear hy337; replace H := Option.bind_eq_some_iff.mp H; obtain ⟨t338, A170, H⟩ := H; replace H : (if 0 ≤ t338 then (if t338 < (t333.length : Int) then (treillagelaw17_ClientEnds.l0 kj3 l0 a2 (y337.set (t338 : Int).toNat (Int.tmod a2 1000)) 1 1 0 0 0 0 0 0 0 0 0 ([] : List (S74))) else (none)) else (none)) = some r := H; have A17 := aA A170; clear A170; by_cases c18 : 0 ≤ t338
    rotate_left
    ·rw [if_neg c18] at H; exact absurd H (by simp)
    rw [if_pos c18] at H; have c18b0 : decide (0 ≤ t338) = true := decide_eq_true c18; clear c18; by_cases c19 : t338 < (t333.length : Int)
    rotate_left
    ·rw [if_neg c19] at H; exact absurd H (by simp)
    rw [if_pos c19] at H; have c19b0 : decide (t338 < (t333.length : Int)) = true := decide_eq_true c19; clear c19; obtain ⟨y339, hy339⟩ : ∃ y_ : List Int, y_ = (y337.set (t338 : Int).toNat (Int.tmod a2 1000)) := ⟨_, rfl⟩; replace H : (treillagelaw17_ClientEnds.l0 kj3 l0 a2 y339 1 1 0 0 0 0 0 0 0 0 0 ([] : List (S74))) = some r := by first | (rw [hy339]; with_reducible exact H) | (have H2_ := (Option.bind_some _ _).symm.trans H; rw [hy339]; with_reducible exact H2_) | (have H2_ := (Option.bind_some _ _).symm.trans H; with_reducible exact H2_) | with_reducible exact H | (rw [hy339]; exact H) | exact H
    have Ny339 := aA hy339; clear hy339; have H' := aA H; clear H; go_wp2_with (first | ((with_reducible refine gate_dst (N := 7) rfl ?_); refine box_event ?hg (N := 7) ?hd (cs := #[.int .i64 0, .int .i64 0]) (t := 31) ?hr ?_; (case hd => rfl); (case hg => rfl); (case hr => first | (go_simp; done) | (go_simp; rfl)); intro gb332 hg w21 hbox hb; have n0_ := aA (below_step (blw HB.out) hb); have n1_ := aA (hbox); have n2_ := aA ((by rw [hg]; exact (below_size (blw HB.out)) : w.heap.size ≤ gb332)); have n3_ := aA ((by rw [hg]; exact (below_size (blw HB.out)) : w.heap.size ≤ gb332)); clear HB; have HB := n0_; have BK332 := n1_; have GW332 := n2_; have GE332 := n3_; clear n0_ n1_ n2_ n3_ hb hbox hg; have hcz22_0 : w21.cell? ⟨gb332, 0, none⟩ = some (.int .i64 0) := (blk_cell BK332.out 0).trans rfl; have hcz22_1 : w21.cell? ⟨gb332, 1, none⟩ = some (.int .i64 0) := (blk_cell BK332.out 1).trans rfl; have hfz22_0 := blk_frozen BK332.out 0; have hfz22_1 := blk_frozen BK332.out 1) | ((with_reducible refine gate_callee (f := 13) rfl ?_); refine goesL_ (some 27) rfl rfl Try.func13 (by kernel_rfl) rfl #[.agg #[.int .i64 1, .int .i64 1]] rfl (by (try simp only [List.map_toArray, List.map_cons, List.map_nil]); first | done | rfl | (simp only [List.length_drop, List.length_take]; rfl)) ?_; (with_reducible refine (mem_New.calls kj3 1 1 t333 _ A12.out).mono ?_); rintro e w23 ⟨v334, rfl, ho0, hb⟩; refine ⟨_, rfl, ?_⟩; have n0_ := aA (Kd.R_lower ho0 (below_size (bls HB.out))); have n1_ := aA (blk_below (g := gb332) (o := .cells #[.int .i64 1, .int .i64 1] 31 (0, 0)) (by (with_reducible repeat (first | refine blk_drewN ?_ _ | refine blk_drew ?_ | refine blk_alloc ?_ _)); refine blk_put (cs := #[.int .i64 1, .int .i64 0]) ?_ 1 _ rfl; (with_reducible repeat (first | refine blk_drewN ?_ _ | refine blk_drew ?_ | refine blk_alloc ?_ _)); refine blk_put (cs := #[.int .i64 0, .int .i64 0]) ?_ 0 _ rfl; (with_reducible repeat (first | refine blk_drewN ?_ _ | refine blk_drew ?_ | refine blk_alloc ?_ _)); exact BK332.out) hb); have n2_ := aA (below_step (bls HB.out) hb); clear BK332 HB; have HO335 := n0_; have BK332 := n1_; have HB := n2_; clear n0_ n1_ n2_; (try clear hb); (try clear hb2); (try clear hk); (try clear hi); (try clear ho0); have hcz24_0 : w23.cell? ⟨gb332, 0, none⟩ = some (.int .i64 1) := (blk_cell BK332.out 0).trans rfl; have hcz24_1 : w23.cell? ⟨gb332, 1, none⟩ = some (.int .i64 1) := (blk_cell BK332.out 1).trans rfl; have hfz24_0 := blk_frozen BK332.out 0; have hfz24_1 := blk_frozen BK332.out 1) | ((with_reducible refine gate_callee (f := 14) rfl ?_); refine goesL_ (some 30) rfl rfl Try.func14 (by kernel_rfl) rfl #[.agg #[.int .i64 1, .int .i64 1]] rfl (by (try simp only [List.map_toArray, List.map_cons, List.map_nil]); first | done | rfl | (simp only [List.length_drop, List.length_take]; rfl)) ?_; (with_reducible refine (mem_Root.calls 1 1 t336 _ A13.out).mono ?_); rintro e w25 ⟨rfl, hb⟩; refine ⟨_, rfl, ?_⟩; have n0_ := aA (Kd.R_below (rlu HO335.out) hb); have n1_ := aA (blk_below (g := gb332) (o := .cells #[.int .i64 1, .int .i64 1] 31 (0, 0)) (bku BK332.out) hb); have n2_ := aA (below_step (bls HB.out) hb); clear HO335 BK332 HB; have HO335 := n0_; have BK332 := n1_; have HB := n2_; clear n0_ n1_ n2_; (try clear hb); (try clear hb2); (try clear hk); (try clear hi); have p16 : 0 ≤ (t336 : Int) := of_decide_eq_true (by first | (with_reducible assumption) | assumption); have q16 : (t336 : Int) < ((t333.length : Int) : Int) := of_decide_eq_true (by first | (with_reducible assumption) | assumption); obtain ⟨go16, co16, eo16, gb16, gl16, cl16, HG16⟩ := Kd.R_form HO335.out (by omega); (first | cases eo16 | (injection eo16 with ea_ en_ ec_; (first | subst ea_ | (injection ea_ with ea_; subst ea_)); subst ec_; clear en_)); have GB16 := aA gb16; have GG16 := aA HG16; clear gb16 gl16 HG16; obtain ⟨hx16_0, hf16_0⟩ := Kd.R_celln 0 HO335.out (t336 : Int) p16 q16; replace p16 := eq_true p16; replace q16 := eq_true q16; obtain ⟨hy26_, hz26_⟩ := Kd.R_celln 0 HO335.out (t336 : Int) (of_decide_eq_true (by first | (with_reducible assumption) | assumption)) (of_decide_eq_true (by first | (with_reducible assumption) | assumption)); have HP26 := Kd.R_putg HO335.out (t336 : Int) (Int.tmod a1 1000)) | ((with_reducible refine gate_store (t := 22) (p := 33) rfl ?_); refine store_event (t := 22) (p := 33) (v := ?vo_w27) (w1 := (w25.setCell ⟨go16, (t336 : Int).toNat, none⟩ (.int .u64 (Int.tmod a1 1000)))) ?hg ?ho ?hn ?hr ?_; (case ho => rfl); (case hg => rfl); (case hn => rfl); (case hr => first | (go_simp; done) | (go_simp; rfl)); intro w27 hw; have hg : w25.grownBy w27 (some go16) := (by rw [hw]; exact HP26.2); have hp_ : Kd.R (Kd.int .u64) 22 w27 w.heap.size (fun _ => True) (.slice (some ⟨go16, 0, none⟩) t333.length co16) y337 := (by rw [hw, Ny337.out]; exact HP26.1); clear HP26; have n0_ := aA (blk_grown (g := gb332) (o := .cells #[.int .i64 1, .int .i64 1] 31 (0, 0)) (bku BK332.out) hg (Kd.R_ne HO335.out BK332.out (by decide))); have n1_ := aA (hp_); have n2_ := aA ((by rw [hw]; exact below_set (HB.out) GB16.out : Below w.heap.size w w27)); clear BK332 HO335 HB; have BK332 := n0_; have HO335 := n1_; have HB := n2_; clear n0_ n1_ n2_ hg hw hp_; have hcz28_0 : w27.cell? ⟨gb332, 0, none⟩ = some (.int .i64 1) := (blk_cell BK332.out 0).trans rfl; have hcz28_1 : w27.cell? ⟨gb332, 1, none⟩ = some (.int .i64 1) := (blk_cell BK332.out 1).trans rfl; have hfz28_0 := blk_frozen BK332.out 0; have hfz28_1 := blk_frozen BK332.out 1) | ((with_reducible refine gate_callee (f := 15) rfl ?_); refine goesL_ (some 36) rfl rfl Try.func15 (by kernel_rfl) rfl #[.agg #[.int .i64 1, .int .i64 1]] rfl (by (try simp only [List.map_toArray, List.map_cons, List.map_nil]); first | done | rfl | (simp only [List.length_drop, List.length_take]; rfl)) ?_; (with_reducible refine (mem_Epoch.calls 1 1 t338 _ A17.out).mono ?_); rintro e w29 ⟨rfl, hb⟩; refine ⟨_, rfl, ?_⟩; have n0_ := aA (Kd.R_below (rlu HO335.out) hb); have n1_ := aA (blk_below (g := gb332) (o := .cells #[.int .i64 1, .int .i64 1] 31 (0, 0)) (bku BK332.out) hb); have n2_ := aA (below_step (bls HB.out) hb); clear HO335 BK332 HB; have HO335 := n0_; have BK332 := n1_; have HB := n2_; clear n0_ n1_ n2_; (try clear hb); (try clear hb2); (try clear hk); (try clear hi); have p20 : 0 ≤ (t338 : Int) := of_decide_eq_true (by first | (with_reducible assumption) | assumption); have q20 : (t338 : Int) < ((t333.length : Int) : Int) := of_decide_eq_true (by first | (with_reducible assumption) | assumption); obtain ⟨hx20_0, hf20_0⟩ := Kd.R_celln 0 HO335.out (t338 : Int) p20 q20; replace p20 := eq_true p20; replace q20 := eq_true q20; obtain ⟨hy30_, hz30_⟩ := Kd.R_celln 0 HO335.out (t338 : Int) (of_decide_eq_true (by first | (with_reducible assumption) | assumption)) (of_decide_eq_true (by first | (with_reducible assumption) | assumption)); have HP30 := Kd.R_putg HO335.out (t338 : Int) (Int.tmod a2 1000)) | ((with_reducible refine gate_store (t := 22) (p := 39) rfl ?_); refine store_event (t := 22) (p := 39) (v := ?vo_w31) (w1 := (w29.setCell ⟨go16, (t338 : Int).toNat, none⟩ (.int .u64 (Int.tmod a2 1000)))) ?hg ?ho ?hn ?hr ?_; (case ho => rfl); (case hg => rfl); (case hn => rfl); (case hr => first | (go_simp; done) | (go_simp; rfl)); intro w31 hw; have hg : w29.grownBy w31 (some go16) := (by rw [hw]; exact HP30.2); have hp_ : Kd.R (Kd.int .u64) 22 w31 w.heap.size (fun _ => True) (.slice (some ⟨go16, 0, none⟩) t333.length co16) y339 := (by rw [hw, Ny339.out]; exact HP30.1); clear HP30; have n0_ := aA (blk_grown (g := gb332) (o := .cells #[.int .i64 1, .int .i64 1] 31 (0, 0)) (bku BK332.out) hg (Kd.R_ne HO335.out BK332.out (by decide))); have n1_ := aA (hp_); have n2_ := aA ((by rw [hw]; exact below_set (HB.out) GB16.out : Below w.heap.size w w31)); clear BK332 HO335 HB; have BK332 := n0_; have HO335 := n1_; have HB := n2_; clear n0_ n1_ n2_ hg hw hp_) | ((with_reducible refine gate_dst (N := 9) rfl ?_); refine box_event ?hg (N := 9) ?hd (cs := #[.int .i64 0, .int .i64 0, .int .i64 0, .int .i64 0, .int .u64 0, .int .u64 0, .int .u64 0, .int .u64 0, .int .u64 0, .slice none 0 0]) (t := 39) ?hr ?_; (case hd => rfl); (case hg => rfl); (case hr => first | (go_simp; done) | (go_simp; rfl)); intro gb340 hg w32 hbox hb; have n0_ := aA (Kd.R_below (rlu HO335.out) hb); have n1_ := aA (blk_below (g := gb332) (o := .cells #[.int .i64 1, .int .i64 1] 31 (0, 0)) (bku BK332.out) hb); have n2_ := aA (below_step (bls HB.out) hb); have n3_ := aA (hbox); have n4_ := aA ((by rw [hg]; exact (below_size (bls HB.out)) : w.heap.size ≤ gb340)); have n5_ := aA ((by rw [hg]; exact (below_size (bls HB.out)) : w.heap.size ≤ gb340)); have n6_ := aA ((by rw [hg]; exact Nat.ne_of_lt (blk_lt (g := gb332) (o := .cells #[.int .i64 1, .int .i64 1] 31 (0, 0)) (bku BK332.out)) : gb332 ≠ gb340)); have n7_ := aA ((by rw [hg]; exact Nat.ne_of_gt (blk_lt (g := gb332) (o := .cells #[.int .i64 1, .int .i64 1] 31 (0, 0)) (bku BK332.out)) : gb340 ≠ gb332)); clear HO335 BK332 HB; have HO335 := n0_; have BK332 := n1_; have HB := n2_; have BK340 := n3_; have GW340 := n4_; have GE340 := n5_; have NB332_340 := n6_; have NB340_332 := n7_; clear n0_ n1_ n2_ n3_ n4_ n5_ n6_ n7_ hb hbox hg; have hnb33 := NB340_332.out; have hnc33 := NB332_340.out; have hcz34_0 : w32.cell? ⟨gb340, 0, none⟩ = some (.int .i64 0) := (blk_cell BK340.out 0).trans rfl; have hcz34_1 : w32.cell? ⟨gb340, 1, none⟩ = some (.int .i64 0) := (blk_cell BK340.out 1).trans rfl; have hcz34_2 : w32.cell? ⟨gb340, 2, none⟩ = some (.int .i64 0) := (blk_cell BK340.out 2).trans rfl; have hcz34_3 : w32.cell? ⟨gb340, 3, none⟩ = some (.int .i64 0) := (blk_cell BK340.out 3).trans rfl; have hcz34_4 : w32.cell? ⟨gb340, 4, none⟩ = some (.int .u64 0) := (blk_cell BK340.out 4).trans rfl; have hcz34_5 : w32.cell? ⟨gb340, 5, none⟩ = some (.int .u64 0) := (blk_cell BK340.out 5).trans rfl; have hcz34_6 : w32.cell? ⟨gb340, 6, none⟩ = some (.int .u64 0) := (blk_cell BK340.out 6).trans rfl; have hcz34_7 : w32.cell? ⟨gb340, 7, none⟩ = some (.int .u64 0) := (blk_cell BK340.out 7).trans rfl; have hcz34_8 : w32.cell? ⟨gb340, 8, none⟩ = some (.int .u64 0) := (blk_cell BK340.out 8).trans rfl; have hcz34_9 : w32.cell? ⟨gb340, 9, none⟩ = some (.slice none 0 0) := (blk_cell BK340.out 9).trans rfl; have hfz34_0 := blk_frozen BK340.out 0; have hfz34_1 := blk_frozen BK340.out 1; have hfz34_2 := blk_frozen BK340.out 2; have hfz34_3 := blk_frozen BK340.out 3; have hfz34_4 := blk_frozen BK340.out 4; have hfz34_5 := blk_frozen BK340.out 5; have hfz34_6 := blk_frozen BK340.out 6; have hfz34_7 := blk_frozen BK340.out 7; have hfz34_8 := blk_frozen BK340.out 8; have hfz34_9 := blk_frozen BK340.out 9))
    go_loopg [8] kj3 (fun kq v8 w' => ∃ (x8_2 : List Int) (x341000_2 : Int) (x341001_2 : Int) (x341002_2 : Int) (x341003_2 : Int) (x341004_2 : Int) (x341005_2 : Int) (x341006_2 : Int) (x341007_2 : Int) (x341008_2 : Int) (x341009_2 : List (S74)) (u341009 : Value), Aside0 (treillagelaw17_ClientEnds.l0 kq l0 a2 x8_2 1 1 x341000_2 x341001_2 x341002_2 x341003_2 x341004_2 x341005_2 x341006_2 x341007_2 x341008_2 x341009_2 = some r) ∧ Aside0 (kq ≤ kj3) ∧ Aside0 (Kd.V (Kd.int .u64) 22 w' w.heap.size (fun k_ => k_ ≠ gb332 ∧ k_ ≠ gb340) v8 x8_2) ∧ Aside0 (Kd.V k74 74 w' w.heap.size (fun k_ => k_ ≠ gb332 ∧ k_ ≠ gb340) u341009 x341009_2) ∧ Aside0 (w'.heap[gb332]? = some (.cells #[.int .i64 1, .int .i64 1] 31 (0, 0))) ∧ Aside0 (w'.heap[gb340]? = some (.cells #[.int .i64 x341000_2, .int .i64 x341001_2, .int .i64 x341002_2, .int .i64 x341003_2, .int .u64 x341004_2, .int .u64 x341005_2, .int .u64 x341006_2, .int .u64 x341007_2, .int .u64 x341008_2, u341009] 39 (0, 0))) ∧ Aside0 (Below w.heap.size w w'))
    case atStart => exact ⟨(y339), (0), (0), (0), (0), (0), (0), (0), (0), (0), (([] : List (S74))), (.slice none 0 0), H', ⟨Nat.le_refl _⟩, ⟨Kd.R_V (rlu (Kd.R_mono (Kd.R_far (p := ⟨gb340, 9, none⟩) (Kd.R_far (p := ⟨gb340, 8, none⟩) (Kd.R_far (p := ⟨gb340, 7, none⟩) (Kd.R_far (p := ⟨gb340, 6, none⟩) (Kd.R_far (p := ⟨gb340, 5, none⟩) (Kd.R_far (p := ⟨gb340, 4, none⟩) (Kd.R_far (p := ⟨gb340, 3, none⟩) (Kd.R_far (p := ⟨gb340, 2, none⟩) (Kd.R_far (p := ⟨gb340, 1, none⟩) (Kd.R_far (p := ⟨gb340, 0, none⟩) (Kd.R_types (Kd.R_types (Kd.R_types HO335.out BK332.out (by decide)) BK340.out (by decide)) BK340.out (by decide)) (fun _ hk => hk.2) (.int .i64 0)) (fun _ hk => hk.2) (.int .i64 0)) (fun _ hk => hk.2) (.int .i64 0)) (fun _ hk => hk.2) (.int .i64 0)) (fun _ hk => hk.2) (.int .u64 0)) (fun _ hk => hk.2) (.int .u64 0)) (fun _ hk => hk.2) (.int .u64 0)) (fun _ hk => hk.2) (.int .u64 0)) (fun _ hk => hk.2) (.int .u64 0)) (fun _ hk => hk.2) (.slice none 0 0)) (fun _ hk => ⟨hk.1.1.2, hk.1.2⟩)))⟩, ⟨(by first | exact Kd.V_nil _ _ _ _ _ | exact Kd.R_V (Kd.R_nil _ _ _ _ _))⟩, ⟨by (with_reducible repeat (first | refine blk_drewN ?_ _ | refine blk_drew ?_ | refine blk_alloc ?_ _)); refine blk_far ?_ NB332_340.out _; (with_reducible repeat (first | refine blk_drewN ?_ _ | refine blk_drew ?_ | refine blk_alloc ?_ _)); refine blk_far ?_ NB332_340.out _; (with_reducible repeat (first | refine blk_drewN ?_ _ | refine blk_drew ?_ | refine blk_alloc ?_ _)); refine blk_far ?_ NB332_340.out _; (with_reducible repeat (first | refine blk_drewN ?_ _ | refine blk_drew ?_ | refine blk_alloc ?_ _)); refine blk_far ?_ NB332_340.out _; (with_reducible repeat (first | refine blk_drewN ?_ _ | refine blk_drew ?_ | refine blk_alloc ?_ _)); refine blk_far ?_ NB332_340.out _; (with_reducible repeat (first | refine blk_drewN ?_ _ | refine blk_drew ?_ | refine blk_alloc ?_ _)); refine blk_far ?_ NB332_340.out _; (with_reducible repeat (first | refine blk_drewN ?_ _ | refine blk_drew ?_ | refine blk_alloc ?_ _)); refine blk_far ?_ NB332_340.out _; (with_reducible repeat (first | refine blk_drewN ?_ _ | refine blk_drew ?_ | refine blk_alloc ?_ _)); refine blk_far ?_ NB332_340.out _; (with_reducible repeat (first | refine blk_drewN ?_ _ | refine blk_drew ?_ | refine blk_alloc ?_ _)); refine blk_far ?_ NB332_340.out _; (with_reducible repeat (first | refine blk_drewN ?_ _ | refine blk_drew ?_ | refine blk_alloc ?_ _)); refine blk_far ?_ NB332_340.out _; (with_reducible repeat (first | refine blk_drewN ?_ _ | refine blk_drew ?_ | refine blk_alloc ?_ _)); exact BK332.out⟩, ⟨by (with_reducible repeat (first | refine blk_drewN ?_ _ | refine blk_drew ?_ | refine blk_alloc ?_ _)); refine blk_put (cs := #[.int .i64 0, .int .i64 0, .int .i64 0, .int .i64 0, .int .u64 0, .int .u64 0, .int .u64 0, .int .u64 0, .int .u64 0, .slice none 0 0]) ?_ 9 _ rfl; (with_reducible repeat (first | refine blk_drewN ?_ _ | refine blk_drew ?_ | refine blk_alloc ?_ _)); refine blk_put (cs := #[.int .i64 0, .int .i64 0, .int .i64 0, .int .i64 0, .int .u64 0, .int .u64 0, .int .u64 0, .int .u64 0, .int .u64 0, .slice none 0 0]) ?_ 8 _ rfl; (with_reducible repeat (first | refine blk_drewN ?_ _ | refine blk_drew ?_ | refine blk_alloc ?_ _)); refine blk_put (cs := #[.int .i64 0, .int .i64 0, .int .i64 0, .int .i64 0, .int .u64 0, .int .u64 0, .int .u64 0, .int .u64 0, .int .u64 0, .slice none 0 0]) ?_ 7 _ rfl; (with_reducible repeat (first | refine blk_drewN ?_ _ | refine blk_drew ?_ | refine blk_alloc ?_ _)); refine blk_put (cs := #[.int .i64 0, .int .i64 0, .int .i64 0, .int .i64 0, .int .u64 0, .int .u64 0, .int .u64 0, .int .u64 0, .int .u64 0, .slice none 0 0]) ?_ 6 _ rfl; (with_reducible repeat (first | refine blk_drewN ?_ _ | refine blk_drew ?_ | refine blk_alloc ?_ _)); refine blk_put (cs := #[.int .i64 0, .int .i64 0, .int .i64 0, .int .i64 0, .int .u64 0, .int .u64 0, .int .u64 0, .int .u64 0, .int .u64 0, .slice none 0 0]) ?_ 5 _ rfl; (with_reducible repeat (first | refine blk_drewN ?_ _ | refine blk_drew ?_ | refine blk_alloc ?_ _)); refine blk_put (cs := #[.int .i64 0, .int .i64 0, .int .i64 0, .int .i64 0, .int .u64 0, .int .u64 0, .int .u64 0, .int .u64 0, .int .u64 0, .slice none 0 0]) ?_ 4 _ rfl; (with_reducible repeat (first | refine blk_drewN ?_ _ | refine blk_drew ?_ | refine blk_alloc ?_ _)); refine blk_put (cs := #[.int .i64 0, .int .i64 0, .int .i64 0, .int .i64 0, .int .u64 0, .int .u64 0, .int .u64 0, .int .u64 0, .int .u64 0, .slice none 0 0]) ?_ 3 _ rfl; (with_reducible repeat (first | refine blk_drewN ?_ _ | refine blk_drew ?_ | refine blk_alloc ?_ _)); refine blk_put (cs := #[.int .i64 0, .int .i64 0, .int .i64 0, .int .i64 0, .int .u64 0, .int .u64 0, .int .u64 0, .int .u64 0, .int .u64 0, .slice none 0 0]) ?_ 2 _ rfl; (with_reducible repeat (first | refine blk_drewN ?_ _ | refine blk_drew ?_ | refine blk_alloc ?_ _)); refine blk_put (cs := #[.int .i64 0, .int .i64 0, .int .i64 0, .int .i64 0, .int .u64 0, .int .u64 0, .int .u64 0, .int .u64 0, .int .u64 0, .slice none 0 0]) ?_ 1 _ rfl; (with_reducible repeat (first | refine blk_drewN ?_ _ | refine blk_drew ?_ | refine blk_alloc ?_ _)); refine blk_put (cs := #[.int .i64 0, .int .i64 0, .int .i64 0, .int .i64 0, .int .u64 0, .int .u64 0, .int .u64 0, .int .u64 0, .int .u64 0, .slice none 0 0]) ?_ 0 _ rfl; (with_reducible repeat (first | refine blk_drewN ?_ _ | refine blk_drew ?_ | refine blk_alloc ?_ _)); exact BK340.out⟩, ⟨by repeat (first | (with_reducible first | exact HB.out | apply below_alloc | apply pw_below_drewN | apply below_drew1 | refine below_set ?_ GE332.out | refine below_set ?_ GE340.out) | exact HB.out)⟩⟩
    case round =>
     clear H'; try clear c1
     try clear p1
     try clear q1
     try clear hx1
     try clear p2
     try clear q2
     try clear hx2
     try clear c3
     try clear c4
     try clear c6
     try clear c9
     try clear c11
     try clear c12
     try clear c13
     try clear c14
     try clear c14b0
     try clear c15
     try clear c15b0
     try clear p16
     try clear q16
     try clear hx16
     try clear hf16
     try clear c18
     try clear c18b0
     try clear c19
     try clear c19b0
     try clear p20
     try clear q20
     try clear hx20
     try clear hf20
     try clear c33
     try clear hcz22_0
     try clear hcz22_1
     try clear hcz24_0
     try clear hcz24_1
     try clear hcz28_0
     try clear hcz28_1
     try clear hcz34_0
     try clear hcz34_1
     try clear hcz34_2
     try clear hcz34_3
     try clear hcz34_4
     try clear hcz34_5
     try clear hcz34_6
     try clear hcz34_7
     try clear hcz34_8
     try clear hcz34_9
     try clear hfz22_0
     try clear hfz22_1
     try clear hfz24_0
     try clear hfz24_1
     try clear hfz28_0
     try clear hfz28_1
     try clear hfz34_0
     try clear hfz34_1
     try clear hfz34_2
     try clear hfz34_3
     try clear hfz34_4
     try clear hfz34_5
     try clear hfz34_6
     try clear hfz34_7
     try clear hfz34_8
     try clear hfz34_9
     try clear hx16_0
     try clear hx20_0
     try clear p16
     try clear p2
     try clear p20
     try clear q16
     try clear q20
     obtain ⟨x8_2, x341000_2, x341001_2, x341002_2, x341003_2, x341004_2, x341005_2, x341006_2, x341007_2, x341008_2, x341009_2, u341009, HA, HK2, HO_8, HO_341009, BK332, BK340, HB⟩ := hrel; cases gk with
     | zero => exact absurd HA.out (by simp [treillagelaw17_ClientEnds.l0])
     | succ k2 =>
      have H := HA.out; clear HA; simp only [treillagelaw17_ClientEnds.l0] at H; by_cases c35 : x341001_2 < (l0.length : Int)
      ·rw [if_pos c35] at H; have c35b0 : decide (x341001_2 < (l0.length : Int)) = true := decide_eq_true c35; clear c35; by_cases c36 : 0 ≤ x341001_2
       rotate_left
       ·rw [if_neg c36] at H; exact absurd H (by simp)
       rw [if_pos c36] at H; have c36b0 : decide (0 ≤ x341001_2) = true := decide_eq_true c36; clear c36; by_cases c37 : ((rd_T44 l0 x341001_2).f0) = 1
       ·rw [if_pos c37] at H; have c37b0 : (((rd_T44 l0 x341001_2).f0) == 1) = true := beq_iff_eq.mpr c37; have c37b1 : (((rd_T44 l0 x341001_2).f0) != 1) = false := bne_eq_false_iff_eq.mpr c37; clear c37; obtain rfl := Option.some.inj H; have hnb38 := NB340_332.out; have hnc38 := NB332_340.out; have hcz39_0 : wr.cell? ⟨gb340, 0, none⟩ = some (.int .i64 x341000_2) := (blk_cell BK340.out 0).trans rfl; have hcz39_1 : wr.cell? ⟨gb340, 1, none⟩ = some (.int .i64 x341001_2) := (blk_cell BK340.out 1).trans rfl; have hcz39_2 : wr.cell? ⟨gb340, 2, none⟩ = some (.int .i64 x341002_2) := (blk_cell BK340.out 2).trans rfl; have hcz39_3 : wr.cell? ⟨gb340, 3, none⟩ = some (.int .i64 x341003_2) := (blk_cell BK340.out 3).trans rfl; have hcz39_4 : wr.cell? ⟨gb340, 4, none⟩ = some (.int .u64 x341004_2) := (blk_cell BK340.out 4).trans rfl; have hcz39_5 : wr.cell? ⟨gb340, 5, none⟩ = some (.int .u64 x341005_2) := (blk_cell BK340.out 5).trans rfl; have hcz39_6 : wr.cell? ⟨gb340, 6, none⟩ = some (.int .u64 x341006_2) := (blk_cell BK340.out 6).trans rfl; have hcz39_7 : wr.cell? ⟨gb340, 7, none⟩ = some (.int .u64 x341007_2) := (blk_cell BK340.out 7).trans rfl; have hcz39_8 : wr.cell? ⟨gb340, 8, none⟩ = some (.int .u64 x341008_2) := (blk_cell BK340.out 8).trans rfl; have hcz39_9 : wr.cell? ⟨gb340, 9, none⟩ = some (u341009) := (blk_cell BK340.out 9).trans rfl; have hfz39_0 := blk_frozen BK340.out 0; have hfz39_1 := blk_frozen BK340.out 1; have hfz39_2 := blk_frozen BK340.out 2; have hfz39_3 := blk_frozen BK340.out 3; have hfz39_4 := blk_frozen BK340.out 4; have hfz39_5 := blk_frozen BK340.out 5; have hfz39_6 := blk_frozen BK340.out 6; have hfz39_7 := blk_frozen BK340.out 7; have hfz39_8 := blk_frozen BK340.out 8; have hfz39_9 := blk_frozen BK340.out 9; have p341 : 0 ≤ (x341001_2 : Int) := of_decide_eq_true (by first | (with_reducible assumption) | assumption); have q341 : x341001_2 < (l0.length : Int) := of_decide_eq_true (by first | (with_reducible assumption) | assumption); obtain ⟨ad341, A341_1, c341_1, e341, hx341_0, hx341_1, hx341_2, hx341_3, hx341_4, hx341_5, hl341_1, hi341_1⟩ := at_T44 HR0.out x341001_2 p341 q341; cases e341
        replace hx341_0 := (HB.out.cell (World.block_lt_of_cell? w _ hx341_0)).trans hx341_0; replace hx341_1 := (HB.out.cell (World.block_lt_of_cell? w _ hx341_1)).trans hx341_1; replace hx341_2 := (HB.out.cell (World.block_lt_of_cell? w _ hx341_2)).trans hx341_2; replace hx341_3 := (HB.out.cell (World.block_lt_of_cell? w _ hx341_3)).trans hx341_3; replace hx341_4 := (HB.out.cell (World.block_lt_of_cell? w _ hx341_4)).trans hx341_4; replace hx341_5 := (HB.out.cell (World.block_lt_of_cell? w _ hx341_5)).trans hx341_5; have HR341_1 := aA hi341_1; have HC341_1 := aA hl341_1; clear hi341_1 hl341_1; replace p341 := eq_true p341; replace q341 := eq_true q341; go_wp2; go_ret
        exact ⟨by first | rfl | (simp [errW_none, errW_some] <;> rfl) | (simp [*, errW_none, errW_some] <;> rfl), by repeat (first | (with_reducible first | exact HB.out | apply below_alloc | apply pw_below_drewN | apply below_drew1 | refine below_set ?_ GE332.out | refine below_set ?_ GE340.out) | exact HB.out)⟩
       ·rw [if_neg c37] at H; have c37b0 : (((rd_T44 l0 x341001_2).f0) == 1) = false := beq_eq_false_iff_ne.mpr c37; have c37b1 : (((rd_T44 l0 x341001_2).f0) != 1) = true := bne_iff_ne.mpr c37; have H' := aA H; clear H; have hnb40 := NB340_332.out; have hnc40 := NB332_340.out; have hcz41_0 : wr.cell? ⟨gb340, 0, none⟩ = some (.int .i64 x341000_2) := (blk_cell BK340.out 0).trans rfl; have hcz41_1 : wr.cell? ⟨gb340, 1, none⟩ = some (.int .i64 x341001_2) := (blk_cell BK340.out 1).trans rfl; have hcz41_2 : wr.cell? ⟨gb340, 2, none⟩ = some (.int .i64 x341002_2) := (blk_cell BK340.out 2).trans rfl; have hcz41_3 : wr.cell? ⟨gb340, 3, none⟩ = some (.int .i64 x341003_2) := (blk_cell BK340.out 3).trans rfl; have hcz41_4 : wr.cell? ⟨gb340, 4, none⟩ = some (.int .u64 x341004_2) := (blk_cell BK340.out 4).trans rfl; have hcz41_5 : wr.cell? ⟨gb340, 5, none⟩ = some (.int .u64 x341005_2) := (blk_cell BK340.out 5).trans rfl; have hcz41_6 : wr.cell? ⟨gb340, 6, none⟩ = some (.int .u64 x341006_2) := (blk_cell BK340.out 6).trans rfl; have hcz41_7 : wr.cell? ⟨gb340, 7, none⟩ = some (.int .u64 x341007_2) := (blk_cell BK340.out 7).trans rfl; have hcz41_8 : wr.cell? ⟨gb340, 8, none⟩ = some (.int .u64 x341008_2) := (blk_cell BK340.out 8).trans rfl; have hcz41_9 : wr.cell? ⟨gb340, 9, none⟩ = some (u341009) := (blk_cell BK340.out 9).trans rfl; have hfz41_0 := blk_frozen BK340.out 0; have hfz41_1 := blk_frozen BK340.out 1; have hfz41_2 := blk_frozen BK340.out 2; have hfz41_3 := blk_frozen BK340.out 3; have hfz41_4 := blk_frozen BK340.out 4; have hfz41_5 := blk_frozen BK340.out 5; have hfz41_6 := blk_frozen BK340.out 6; have hfz41_7 := blk_frozen BK340.out 7; have hfz41_8 := blk_frozen BK340.out 8; have hfz41_9 := blk_frozen BK340.out 9; have p341 : 0 ≤ (x341001_2 : Int) := of_decide_eq_true (by first | (with_reducible assumption) | assumption); have q341 : x341001_2 < (l0.length : Int) := of_decide_eq_true (by first | (with_reducible assumption) | assumption); obtain ⟨ad341, A341_1, c341_1, e341, hx341_0, hx341_1, hx341_2, hx341_3, hx341_4, hx341_5, hl341_1, hi341_1⟩ := at_T44 HR0.out x341001_2 p341 q341; cases e341
        replace hx341_0 := (HB.out.cell (World.block_lt_of_cell? w _ hx341_0)).trans hx341_0; replace hx341_1 := (HB.out.cell (World.block_lt_of_cell? w _ hx341_1)).trans hx341_1; replace hx341_2 := (HB.out.cell (World.block_lt_of_cell? w _ hx341_2)).trans hx341_2; replace hx341_3 := (HB.out.cell (World.block_lt_of_cell? w _ hx341_3)).trans hx341_3; replace hx341_4 := (HB.out.cell (World.block_lt_of_cell? w _ hx341_4)).trans hx341_4; replace hx341_5 := (HB.out.cell (World.block_lt_of_cell? w _ hx341_5)).trans hx341_5; have HR341_1 := aA hi341_1; have HC341_1 := aA hl341_1; clear hi341_1 hl341_1; replace p341 := eq_true p341; replace q341 := eq_true q341; go_wp2; go_loopg [8, 11] k2 (fun kq v8 v11 w' => ∃ (x8_3 : List Int) (x11_3 : Int) (x341000_3 : Int) (x341001_3 : Int) (x341002_3 : Int) (x341003_3 : Int) (x341004_3 : Int) (x341005_3 : Int) (x341006_3 : Int) (x341007_3 : Int) (x341008_3 : Int) (x341009_3 : List (S74)) (u341009 : Value), v11 = .int .i64 x11_3 ∧ Aside0 (treillagelaw17_ClientEnds.l1 kq l0 a2 x8_3 x341001_2 x11_3 1 1 x341000_3 x341001_3 x341002_3 x341003_3 x341004_3 x341005_3 x341006_3 x341007_3 x341008_3 x341009_3 = some r) ∧ Aside0 (kq ≤ k2) ∧ Aside0 (Kd.V (Kd.int .u64) 22 w' w.heap.size (fun k_ => k_ ≠ gb332 ∧ k_ ≠ gb340) v8 x8_3) ∧ Aside0 (Kd.V k74 74 w' w.heap.size (fun k_ => k_ ≠ gb332 ∧ k_ ≠ gb340) u341009 x341009_3) ∧ Aside0 (w'.heap[gb332]? = some (.cells #[.int .i64 1, .int .i64 1] 31 (0, 0))) ∧ Aside0 (w'.heap[gb340]? = some (.cells #[.int .i64 x341000_3, .int .i64 x341001_3, .int .i64 x341002_3, .int .i64 x341003_3, .int .u64 x341004_3, .int .u64 x341005_3, .int .u64 x341006_3, .int .u64 x341007_3, .int .u64 x341008_3, u341009] 39 (0, 0))) ∧ Aside0 (Below w.heap.size w w'))
        case atStart => exact ⟨(x8_2), (0), (x341000_2), (x341001_2), (x341002_2), (x341003_2), (x341004_2), (x341005_2), (x341006_2), (x341007_2), (x341008_2), (x341009_2), (u341009), (by first | rfl | (simp; done) | (simp [*]; done)), H', ⟨Nat.le_refl _⟩, ⟨by (with_reducible repeat (first | apply Kd.V_alloc | apply Kd.V_drewN | apply Kd.V_drew)); exact HO_8.out⟩, ⟨by (with_reducible repeat (first | apply Kd.V_alloc | apply Kd.V_drewN | apply Kd.V_drew)); exact HO_341009.out⟩, ⟨by (with_reducible repeat (first | refine blk_drewN ?_ _ | refine blk_drew ?_ | refine blk_alloc ?_ _)); exact BK332.out⟩, ⟨by (with_reducible repeat (first | refine blk_drewN ?_ _ | refine blk_drew ?_ | refine blk_alloc ?_ _)); exact BK340.out⟩, ⟨by repeat (first | (with_reducible first | exact HB.out | apply below_alloc | apply pw_below_drewN | apply below_drew1 | refine below_set ?_ GE332.out | refine below_set ?_ GE340.out) | exact HB.out)⟩⟩
        case round =>
         clear H'; try clear c1
         try clear p1
         try clear q1
         try clear hx1
         try clear p2
         try clear q2
         try clear hx2
         try clear c3
         try clear p3
         try clear q3
         try clear hx3
         try clear c4
         try clear c6
         try clear c9
         try clear c11
         try clear c12
         try clear c13
         try clear c14
         try clear c14b0
         try clear c15
         try clear c15b0
         try clear p16
         try clear q16
         try clear hx16
         try clear hf16
         try clear c18
         try clear c18b0
         try clear c19
         try clear c19b0
         try clear p20
         try clear q20
         try clear hx20
         try clear hf20
         try clear c33
         try clear c34
         try clear p34
         try clear q34
         try clear hx34
         try clear c35
         try clear c35b0
         try clear c36
         try clear c36b0
         try clear c37
         try clear c37b0
         try clear c37b1
         try clear c38
         try clear c40
         try clear hcz22_0
         try clear hcz22_1
         try clear hcz24_0
         try clear hcz24_1
         try clear hcz28_0
         try clear hcz28_1
         try clear hcz34_0
         try clear hcz34_1
         try clear hcz34_2
         try clear hcz34_3
         try clear hcz34_4
         try clear hcz34_5
         try clear hcz34_6
         try clear hcz34_7
         try clear hcz34_8
         try clear hcz34_9
         try clear hcz39_0
         try clear hcz39_1
         try clear hcz39_2
         try clear hcz39_3
         try clear hcz39_4
         try clear hcz39_5
         try clear hcz39_6
         try clear hcz39_7
         try clear hcz39_8
         try clear hcz39_9
         try clear hcz41_0
         try clear hcz41_1
         try clear hcz41_2
         try clear hcz41_3
         try clear hcz41_4
         try clear hcz41_5
         try clear hcz41_6
         try clear hcz41_7
         try clear hcz41_8
         try clear hcz41_9
         try clear hfz22_0
         try clear hfz22_1
         try clear hfz24_0
         try clear hfz24_1
         try clear hfz28_0
         try clear hfz28_1
         try clear hfz34_0
         try clear hfz34_1
         try clear hfz34_2
         try clear hfz34_3
         try clear hfz34_4
         try clear hfz34_5
         try clear hfz34_6
         try clear hfz34_7
         try clear hfz34_8
         try clear hfz34_9
         try clear hfz39_0
         try clear hfz39_1
         try clear hfz39_2
         try clear hfz39_3
         try clear hfz39_4
         try clear hfz39_5
         try clear hfz39_6
         try clear hfz39_7
         try clear hfz39_8
         try clear hfz39_9
         try clear hfz41_0
         try clear hfz41_1
         try clear hfz41_2
         try clear hfz41_3
         try clear hfz41_4
         try clear hfz41_5
         try clear hfz41_6
         try clear hfz41_7
         try clear hfz41_8
         try clear hfz41_9
         try clear hx16_0
         try clear hx20_0
         try clear hx341_0
         try clear hx341_1
         try clear hx341_2
         try clear hx341_3
         try clear hx341_4
         try clear hx341_5
         try clear p1
         try clear p16
         try clear p2
         try clear p20
         try clear p341
         try clear q1
         try clear q16
         try clear q2
         try clear q20
         try clear q341
         obtain ⟨x8_3, x11_3, x341000_3, x341001_3, x341002_3, x341003_3, x341004_3, x341005_3, x341006_3, x341007_3, x341008_3, x341009_3, u341009, rfl, HA, HK3, HO_8, HO_341009, BK332, BK340, HB⟩ := hrel; cases gk with
         | zero => exact absurd HA.out (by simp [treillagelaw17_ClientEnds.l1])
         | succ k3 =>
          have H := HA.out; clear HA; simp only [treillagelaw17_ClientEnds.l1] at H; by_cases c42 : x341001_3 = x341001_2
          ·rw [if_pos c42] at H; have c42b0 : (x341001_3 == x341001_2) = true := beq_iff_eq.mpr c42; have c42b1 : (x341001_3 != x341001_2) = false := bne_eq_false_iff_eq.mpr c42; clear c42; replace H := Option.bind_eq_some_iff.mp H; obtain ⟨⟨t342, t343, t344, t345, t346⟩, A430, H⟩ := H; replace H : ((mem_Do.f x8_3 t342 t343 t344 t345).bind fun bt348 => (if t346 = true then (if bt348.2.2 = true then (if x11_3 = 5 then (some false) else ((client_Got.f 1 1 l0 x341000_3 x341001_3 x341002_3 x341003_3 x341004_3 x341005_3 x341006_3 x341007_3 x341008_3 x341009_3 bt348.2.1 bt348.2.2).bind fun bt353 => (treillagelaw17_ClientEnds.l1 k3 l0 a2 bt348.1 x341001_2 (wrap64 (x11_3 + 1)) 1 1 bt353.1 bt353.2.1 bt353.2.2.1 bt353.2.2.2.1 bt353.2.2.2.2.1 bt353.2.2.2.2.2.1 bt353.2.2.2.2.2.2.1 bt353.2.2.2.2.2.2.2.1 bt353.2.2.2.2.2.2.2.2.1 bt353.2.2.2.2.2.2.2.2.2))) else (some false)) else (some false))) = some r := H; have A43 := aA A430; clear A430; replace H := Option.bind_eq_some_iff.mp H; obtain ⟨⟨t348, t351, t352⟩, A440, H⟩ := H; replace H : (if t346 = true then (if t352 = true then (if x11_3 = 5 then (some false) else ((client_Got.f 1 1 l0 x341000_3 x341001_3 x341002_3 x341003_3 x341004_3 x341005_3 x341006_3 x341007_3 x341008_3 x341009_3 t351 t352).bind fun bt353 => (treillagelaw17_ClientEnds.l1 k3 l0 a2 t348 x341001_2 (wrap64 (x11_3 + 1)) 1 1 bt353.1 bt353.2.1 bt353.2.2.1 bt353.2.2.2.1 bt353.2.2.2.2.1 bt353.2.2.2.2.2.1 bt353.2.2.2.2.2.2.1 bt353.2.2.2.2.2.2.2.1 bt353.2.2.2.2.2.2.2.2.1 bt353.2.2.2.2.2.2.2.2.2))) else (some false)) else (some false)) = some r := H; have A44 := aA A440; clear A440; by_cases c45 : t346 = true
           ·subst c45; have H1 : (if t352 = true then (if x11_3 = 5 then (some false) else ((client_Got.f 1 1 l0 x341000_3 x341001_3 x341002_3 x341003_3 x341004_3 x341005_3 x341006_3 x341007_3 x341008_3 x341009_3 t351 t352).bind fun bt353 => (treillagelaw17_ClientEnds.l1 k3 l0 a2 t348 x341001_2 (wrap64 (x11_3 + 1)) 1 1 bt353.1 bt353.2.1 bt353.2.2.1 bt353.2.2.2.1 bt353.2.2.2.2.1 bt353.2.2.2.2.2.1 bt353.2.2.2.2.2.2.1 bt353.2.2.2.2.2.2.2.1 bt353.2.2.2.2.2.2.2.2.1 bt353.2.2.2.2.2.2.2.2.2))) else (some false)) = some r := by rw [if_pos rfl] at H; exact H
            clear H; have H := H1; clear H1; by_cases c46 : t352 = true
            ·subst c46; have H1 : (if x11_3 = 5 then (some false) else ((client_Got.f 1 1 l0 x341000_3 x341001_3 x341002_3 x341003_3 x341004_3 x341005_3 x341006_3 x341007_3 x341008_3 x341009_3 t351 true).bind fun bt353 => (treillagelaw17_ClientEnds.l1 k3 l0 a2 t348 x341001_2 (wrap64 (x11_3 + 1)) 1 1 bt353.1 bt353.2.1 bt353.2.2.1 bt353.2.2.2.1 bt353.2.2.2.2.1 bt353.2.2.2.2.2.1 bt353.2.2.2.2.2.2.1 bt353.2.2.2.2.2.2.2.1 bt353.2.2.2.2.2.2.2.2.1 bt353.2.2.2.2.2.2.2.2.2))) = some r := by rw [if_pos rfl] at H; exact H
             clear H; have H := H1; clear H1; by_cases c47 : x11_3 = 5
             ·rw [if_pos c47] at H; have c47b0 : (x11_3 == 5) = true := beq_iff_eq.mpr c47; have c47b1 : (x11_3 != 5) = false := bne_eq_false_iff_eq.mpr c47; clear c47; exact absurd ((Option.some.inj H).trans hr_) (by decide)
             ·rw [if_neg c47] at H; have c47b0 : (x11_3 == 5) = false := beq_eq_false_iff_ne.mpr c47; have c47b1 : (x11_3 != 5) = true := bne_iff_ne.mpr c47; replace H := Option.bind_eq_some_iff.mp H; obtain ⟨⟨t353, t354, t355, t356, t357, t358, t359, t360, t361, t362⟩, A480, H⟩ := H; replace H : (treillagelaw17_ClientEnds.l1 k3 l0 a2 t348 x341001_2 (wrap64 (x11_3 + 1)) 1 1 t353 t354 t355 t356 t357 t358 t359 t360 t361 t362) = some r := H; have A48 := aA A480; clear A480; have H' := aA H; clear H; have hnb49 := NB340_332.out; have hnc49 := NB332_340.out; have hcz50_0 : wr.cell? ⟨gb340, 0, none⟩ = some (.int .i64 x341000_3) := (blk_cell BK340.out 0).trans rfl; have hcz50_1 : wr.cell? ⟨gb340, 1, none⟩ = some (.int .i64 x341001_3) := (blk_cell BK340.out 1).trans rfl; have hcz50_2 : wr.cell? ⟨gb340, 2, none⟩ = some (.int .i64 x341002_3) := (blk_cell BK340.out 2).trans rfl; have hcz50_3 : wr.cell? ⟨gb340, 3, none⟩ = some (.int .i64 x341003_3) := (blk_cell BK340.out 3).trans rfl; have hcz50_4 : wr.cell? ⟨gb340, 4, none⟩ = some (.int .u64 x341004_3) := (blk_cell BK340.out 4).trans rfl; have hcz50_5 : wr.cell? ⟨gb340, 5, none⟩ = some (.int .u64 x341005_3) := (blk_cell BK340.out 5).trans rfl; have hcz50_6 : wr.cell? ⟨gb340, 6, none⟩ = some (.int .u64 x341006_3) := (blk_cell BK340.out 6).trans rfl; have hcz50_7 : wr.cell? ⟨gb340, 7, none⟩ = some (.int .u64 x341007_3) := (blk_cell BK340.out 7).trans rfl; have hcz50_8 : wr.cell? ⟨gb340, 8, none⟩ = some (.int .u64 x341008_3) := (blk_cell BK340.out 8).trans rfl; have hcz50_9 : wr.cell? ⟨gb340, 9, none⟩ = some (u341009) := (blk_cell BK340.out 9).trans rfl; have hfz50_0 := blk_frozen BK340.out 0; have hfz50_1 := blk_frozen BK340.out 1; have hfz50_2 := blk_frozen BK340.out 2; have hfz50_3 := blk_frozen BK340.out 3; have hfz50_4 := blk_frozen BK340.out 4; have hfz50_5 := blk_frozen BK340.out 5; have hfz50_6 := blk_frozen BK340.out 6; have hfz50_7 := blk_frozen BK340.out 7; have hfz50_8 := blk_frozen BK340.out 8; have hfz50_9 := blk_frozen BK340.out 9; have hcz51_0 : wr.cell? ⟨gb332, 0, none⟩ = some (.int .i64 1) := (blk_cell BK332.out 0).trans rfl; have hcz51_1 : wr.cell? ⟨gb332, 1, none⟩ = some (.int .i64 1) := (blk_cell BK332.out 1).trans rfl; have hfz51_0 := blk_frozen BK332.out 0; have hfz51_1 := blk_frozen BK332.out 1; obtain ⟨Ao52, co52, eo52⟩ := Kd.V_slice HO_341009.out; subst eo52; go_wp2_with (first | ((with_reducible refine gate_callee (f := 16) rfl ?_); refine goesL_ (some 63) rfl rfl Try.func16 (by kernel_rfl) rfl #[.agg #[.int .i64 1, .int .i64 1], .slice (some ad341) l0.length c0, .agg #[.int .i64 x341000_3, .int .i64 x341001_3, .int .i64 x341002_3, .int .i64 x341003_3, .int .u64 x341004_3, .int .u64 x341005_3, .int .u64 x341006_3, .int .u64 x341007_3, .int .u64 x341008_3, .slice Ao52 x341009_3.length co52]] rfl (by (try simp only [List.map_toArray, List.map_cons, List.map_nil]); first | done | rfl | (simp only [List.length_drop, List.length_take]; rfl)) ?_; (with_reducible refine (client_Want.calls 1 1 _ _ l0 x341000_3 x341001_3 x341002_3 x341003_3 x341004_3 x341005_3 x341006_3 x341007_3 x341008_3 _ _ x341009_3 t342 t343 t344 t345 true _ ?side1 ?side2 ?side3 ?side4 A43.out).mono ?_); (case side1 => repeat (first | exact (Kd.C_below HR0.out HB.out) | (with_reducible refine Kd.C_alloc ?_ _) | (with_reducible refine Kd.C_drewN ?_ _) | (with_reducible refine Kd.C_drew ?_))); (case side2 => exact HC0.out); (case side3 => repeat (first | exact (Kd.V_reads' HO_341009.out).2.2 | (with_reducible refine Kd.C_alloc ?_ _) | (with_reducible refine Kd.C_drewN ?_ _) | (with_reducible refine Kd.C_drew ?_))); (case side4 => exact (Kd.V_reads' HO_341009.out).2.1); rintro e w53 ⟨rfl, hb⟩; refine ⟨_, rfl, ?_⟩; have n0_ := aA (Kd.V_below (vlu HO_8.out) hb); have n1_ := aA (Kd.V_below (vlu HO_341009.out) hb); have n2_ := aA (blk_below (g := gb332) (o := .cells #[.int .i64 1, .int .i64 1] 31 (0, 0)) (bku BK332.out) hb); have n3_ := aA (blk_below (g := gb340) (o := .cells #[.int .i64 x341000_3, .int .i64 x341001_3, .int .i64 x341002_3, .int .i64 x341003_3, .int .u64 x341004_3, .int .u64 x341005_3, .int .u64 x341006_3, .int .u64 x341007_3, .int .u64 x341008_3, .slice Ao52 x341009_3.length co52] 39 (0, 0)) (bku BK340.out) hb); have n4_ := aA (below_step (bls HB.out) hb); clear HO_8 HO_341009 BK332 BK340 HB; have HO_8 := n0_; have HO_341009 := n1_; have BK332 := n2_; have BK340 := n3_; have HB := n4_; clear n0_ n1_ n2_ n3_ n4_; (try clear hb); (try clear hb2); (try clear hk); (try clear hi)) | ((with_reducible refine gate_dst (N := 12) rfl ?_); refine box_event ?hg (N := 12) ?hd (cs := #[.int .i64 0, .int .i64 0, .int .u64 0, .int .u64 0]) (t := 46) ?hr ?_; (case hd => rfl); (case hg => rfl); (case hr => first | (go_simp; done) | (go_simp; rfl)); intro gb347 hg w54 hbox hb; have n0_ := aA (Kd.V_below (Kd.V_elderB (vlu HO_8.out) gb347 (Nat.le_of_eq hg.symm)) hb); have n1_ := aA (Kd.V_below (Kd.V_elderB (vlu HO_341009.out) gb347 (Nat.le_of_eq hg.symm)) hb); have n2_ := aA (blk_below (g := gb332) (o := .cells #[.int .i64 1, .int .i64 1] 31 (0, 0)) (bku BK332.out) hb); have n3_ := aA (blk_below (g := gb340) (o := .cells #[.int .i64 x341000_3, .int .i64 x341001_3, .int .i64 x341002_3, .int .i64 x341003_3, .int .u64 x341004_3, .int .u64 x341005_3, .int .u64 x341006_3, .int .u64 x341007_3, .int .u64 x341008_3, .slice Ao52 x341009_3.length co52] 39 (0, 0)) (bku BK340.out) hb); have n4_ := aA (below_step (bls HB.out) hb); have n5_ := aA (hbox); have n6_ := aA ((by rw [hg]; exact (below_size (bls HB.out)) : w.heap.size ≤ gb347)); have n7_ := aA ((by rw [hg]; exact (below_size (bls HB.out)) : w.heap.size ≤ gb347)); have n8_ := aA ((by rw [hg]; exact Nat.ne_of_lt (blk_lt (g := gb332) (o := .cells #[.int .i64 1, .int .i64 1] 31 (0, 0)) (bku BK332.out)) : gb332 ≠ gb347)); have n9_ := aA ((by rw [hg]; exact Nat.ne_of_gt (blk_lt (g := gb332) (o := .cells #[.int .i64 1, .int .i64 1] 31 (0, 0)) (bku BK332.out)) : gb347 ≠ gb332)); have n10_ := aA ((by rw [hg]; exact Nat.ne_of_lt (blk_lt (g := gb340) (o := .cells #[.int .i64 x341000_3, .int .i64 x341001_3, .int .i64 x341002_3, .int .i64 x341003_3, .int .u64 x341004_3, .int .u64 x341005_3, .int .u64 x341006_3, .int .u64 x341007_3, .int .u64 x341008_3, .slice Ao52 x341009_3.length co52] 39 (0, 0)) (bku BK340.out)) : gb340 ≠ gb347)); have n11_ := aA ((by rw [hg]; exact Nat.ne_of_gt (blk_lt (g := gb340) (o := .cells #[.int .i64 x341000_3, .int .i64 x341001_3, .int .i64 x341002_3, .int .i64 x341003_3, .int .u64 x341004_3, .int .u64 x341005_3, .int .u64 x341006_3, .int .u64 x341007_3, .int .u64 x341008_3, .slice Ao52 x341009_3.length co52] 39 (0, 0)) (bku BK340.out)) : gb347 ≠ gb340)); clear HO_8 HO_341009 BK332 BK340 HB; have HO_8 := n0_; have HO_341009 := n1_; have BK332 := n2_; have BK340 := n3_; have HB := n4_; have BK347 := n5_; have GW347 := n6_; have GE347 := n7_; have NB332_347 := n8_; have NB347_332 := n9_; have NB340_347 := n10_; have NB347_340 := n11_; clear n0_ n1_ n2_ n3_ n4_ n5_ n6_ n7_ n8_ n9_ n10_ n11_ hb hbox hg; have hnb55 := NB347_332.out; have hnc55 := NB332_347.out; have hnb56 := NB347_340.out; have hnc56 := NB340_347.out; have hcz57_0 : w54.cell? ⟨gb347, 0, none⟩ = some (.int .i64 0) := (blk_cell BK347.out 0).trans rfl; have hcz57_1 : w54.cell? ⟨gb347, 1, none⟩ = some (.int .i64 0) := (blk_cell BK347.out 1).trans rfl; have hcz57_2 : w54.cell? ⟨gb347, 2, none⟩ = some (.int .u64 0) := (blk_cell BK347.out 2).trans rfl; have hcz57_3 : w54.cell? ⟨gb347, 3, none⟩ = some (.int .u64 0) := (blk_cell BK347.out 3).trans rfl; have hfz57_0 := blk_frozen BK347.out 0; have hfz57_1 := blk_frozen BK347.out 1; have hfz57_2 := blk_frozen BK347.out 2; have hfz57_3 := blk_frozen BK347.out 3) | ((with_reducible refine gate_store (t := 46) (p := 12) rfl ?_); refine store_event (t := 46) (p := 12) (v := ?vo_w58) (w1 := ((((w54.setCell ⟨gb347, 0, none⟩ (.int .i64 t342)).setCell ⟨gb347, 1, none⟩ (.int .i64 t343)).setCell ⟨gb347, 2, none⟩ (.int .u64 t344)).setCell ⟨gb347, 3, none⟩ (.int .u64 t345))) ?hg ?ho ?hn ?hr ?_; (case ho => rfl); (case hg => rfl); (case hn => rfl); (case hr => first | (go_simp; done) | (go_simp; rfl)); intro w58 hw; have n0_ : Aside0 (Kd.V (Kd.int .u64) 22 w58 w.heap.size (fun k_ => k_ ≠ gb332 ∧ k_ ≠ gb340 ∧ k_ ≠ gb347) u8 x8_3) := ⟨(by rw [hw]; exact (vlu (Kd.V_mono (Kd.V_far (p := ⟨gb347, 3, none⟩) (Kd.V_far (p := ⟨gb347, 2, none⟩) (Kd.V_far (p := ⟨gb347, 1, none⟩) (Kd.V_far (p := ⟨gb347, 0, none⟩) (Kd.V_mono HO_8.out (fun k_ hk => (⟨hk, hk.2⟩ : _ ∧ k_ ≠ gb347))) (fun _ hk => hk.2) (.int .i64 t342)) (fun _ hk => hk.2) (.int .i64 t343)) (fun _ hk => hk.2) (.int .u64 t344)) (fun _ hk => hk.2) (.int .u64 t345)) (fun _ hk => ⟨hk.1.1.1, ⟨hk.1.1.2, hk.1.2⟩⟩))))⟩; have n1_ : Aside0 (Kd.V k74 74 w58 w.heap.size (fun k_ => k_ ≠ gb332 ∧ k_ ≠ gb340 ∧ k_ ≠ gb347) (.slice Ao52 x341009_3.length co52) x341009_3) := ⟨(by rw [hw]; exact (vlu (Kd.V_mono (Kd.V_far (p := ⟨gb347, 3, none⟩) (Kd.V_far (p := ⟨gb347, 2, none⟩) (Kd.V_far (p := ⟨gb347, 1, none⟩) (Kd.V_far (p := ⟨gb347, 0, none⟩) (Kd.V_mono HO_341009.out (fun k_ hk => (⟨hk, hk.2⟩ : _ ∧ k_ ≠ gb347))) (fun _ hk => hk.2) (.int .i64 t342)) (fun _ hk => hk.2) (.int .i64 t343)) (fun _ hk => hk.2) (.int .u64 t344)) (fun _ hk => hk.2) (.int .u64 t345)) (fun _ hk => ⟨hk.1.1.1, ⟨hk.1.1.2, hk.1.2⟩⟩))))⟩; have n2_ : Aside0 (w58.heap[gb332]? = some (.cells #[.int .i64 1, .int .i64 1] 31 (0, 0))) := ⟨(by rw [hw]; exact (by (with_reducible repeat (first | refine blk_drewN ?_ _ | refine blk_drew ?_ | refine blk_alloc ?_ _)); refine blk_far ?_ NB332_347.out _; (with_reducible repeat (first | refine blk_drewN ?_ _ | refine blk_drew ?_ | refine blk_alloc ?_ _)); refine blk_far ?_ NB332_347.out _; (with_reducible repeat (first | refine blk_drewN ?_ _ | refine blk_drew ?_ | refine blk_alloc ?_ _)); refine blk_far ?_ NB332_347.out _; (with_reducible repeat (first | refine blk_drewN ?_ _ | refine blk_drew ?_ | refine blk_alloc ?_ _)); refine blk_far ?_ NB332_347.out _; (with_reducible repeat (first | refine blk_drewN ?_ _ | refine blk_drew ?_ | refine blk_alloc ?_ _)); exact BK332.out))⟩; have n3_ : Aside0 (w58.heap[gb340]? = some (.cells #[.int .i64 x341000_3, .int .i64 x341001_3, .int .i64 x341002_3, .int .i64 x341003_3, .int .u64 x341004_3, .int .u64 x341005_3, .int .u64 x341006_3, .int .u64 x341007_3, .int .u64 x341008_3, .slice Ao52 x341009_3.length co52] 39 (0, 0))) := ⟨(by rw [hw]; exact (by (with_reducible repeat (first | refine blk_drewN ?_ _ | refine blk_drew ?_ | refine blk_alloc ?_ _)); refine blk_far ?_ NB340_347.out _; (with_reducible repeat (first | refine blk_drewN ?_ _ | refine blk_drew ?_ | refine blk_alloc ?_ _)); refine blk_far ?_ NB340_347.out _; (with_reducible repeat (first | refine blk_drewN ?_ _ | refine blk_drew ?_ | refine blk_alloc ?_ _)); refine blk_far ?_ NB340_347.out _; (with_reducible repeat (first | refine blk_drewN ?_ _ | refine blk_drew ?_ | refine blk_alloc ?_ _)); refine blk_far ?_ NB340_347.out _; (with_reducible repeat (first | refine blk_drewN ?_ _ | refine blk_drew ?_ | refine blk_alloc ?_ _)); exact BK340.out))⟩; have n4_ : Aside0 (w58.heap[gb347]? = some (.cells #[.int .i64 t342, .int .i64 t343, .int .u64 t344, .int .u64 t345] 46 (0, 0))) := ⟨(by rw [hw]; exact (by (with_reducible repeat (first | refine blk_drewN ?_ _ | refine blk_drew ?_ | refine blk_alloc ?_ _)); refine blk_put (cs := #[.int .i64 t342, .int .i64 t343, .int .u64 t344, .int .u64 0]) ?_ 3 _ rfl; (with_reducible repeat (first | refine blk_drewN ?_ _ | refine blk_drew ?_ | refine blk_alloc ?_ _)); refine blk_put (cs := #[.int .i64 t342, .int .i64 t343, .int .u64 0, .int .u64 0]) ?_ 2 _ rfl; (with_reducible repeat (first | refine blk_drewN ?_ _ | refine blk_drew ?_ | refine blk_alloc ?_ _)); refine blk_put (cs := #[.int .i64 t342, .int .i64 0, .int .u64 0, .int .u64 0]) ?_ 1 _ rfl; (with_reducible repeat (first | refine blk_drewN ?_ _ | refine blk_drew ?_ | refine blk_alloc ?_ _)); refine blk_put (cs := #[.int .i64 0, .int .i64 0, .int .u64 0, .int .u64 0]) ?_ 0 _ rfl; (with_reducible repeat (first | refine blk_drewN ?_ _ | refine blk_drew ?_ | refine blk_alloc ?_ _)); exact BK347.out))⟩; have n5_ : Aside0 (Below w.heap.size w w58) := ⟨(by rw [hw]; exact (bls HB.out))⟩; clear hw HO_8 HO_341009 BK332 BK340 BK347 HB; have HO_8 := n0_; have HO_341009 := n1_; have BK332 := n2_; have BK340 := n3_; have BK347 := n4_; have HB := n5_; clear n0_ n1_ n2_ n3_ n4_ n5_; have hcz59_0 : w58.cell? ⟨gb347, 0, none⟩ = some (.int .i64 t342) := (blk_cell BK347.out 0).trans rfl; have hcz59_1 : w58.cell? ⟨gb347, 1, none⟩ = some (.int .i64 t343) := (blk_cell BK347.out 1).trans rfl; have hcz59_2 : w58.cell? ⟨gb347, 2, none⟩ = some (.int .u64 t344) := (blk_cell BK347.out 2).trans rfl; have hcz59_3 : w58.cell? ⟨gb347, 3, none⟩ = some (.int .u64 t345) := (blk_cell BK347.out 3).trans rfl; have hfz59_0 := blk_frozen BK347.out 0; have hfz59_1 := blk_frozen BK347.out 1; have hfz59_2 := blk_frozen BK347.out 2; have hfz59_3 := blk_frozen BK347.out 3; obtain ⟨Ao60, co60, eo60⟩ := Kd.V_slice HO_8.out; subst eo60) | ((with_reducible refine gate_callee (f := 17) rfl ?_); refine goesL_ (some 69) rfl rfl Try.func17 (by kernel_rfl) rfl #[.slice Ao60 x8_3.length co60, .agg #[.int .i64 t342, .int .i64 t343, .int .u64 t344, .int .u64 t345]] rfl (by (try simp only [List.map_toArray, List.map_cons, List.map_nil]); first | done | rfl | (simp only [List.length_drop, List.length_take]; rfl)) ?_; (with_reducible refine (mem_Do.calls (fun k_ => (k_ ≠ gb332 ∧ (k_ ≠ gb340 ∧ k_ ≠ gb347))) _ _ x8_3 t342 t343 t344 t345 t348 t351 true _ ?side1 A44.out).mono ?_); (case side1 => first | exact HO_8.out | exact V_below HO_8.out (blw (Below.refl _ _)) (fun k_ hk_ => by first | exact hk_ | exact ⟨⟨hk_.1, hk_.2.1⟩, hk_.2.2⟩)); rintro e w61 ⟨v349, rfl, ho0, hb⟩; refine ⟨_, rfl, ?_⟩; have n0_ := aA (Kd.V_below (vlu HO_8.out) hb); have n1_ := aA (Kd.V_below (vlu HO_341009.out) hb); have n2_ := aA (Kd.V_lower (Kd.V_mono (ok' := fun k_ => k_ ≠ gb332 ∧ k_ ≠ gb340 ∧ k_ ≠ gb347) ho0 (fun k_ hk_ => ⟨Or.elim hk_ (fun hs_ => hs_.1) (fun hn_ => (Kd.freshB (g := gb332) (o := .cells #[.int .i64 1, .int .i64 1] 31 (0, 0)) (bku BK332.out) k_ hn_)), Or.elim hk_ (fun hs_ => hs_.2.1) (fun hn_ => (Kd.freshB (g := gb340) (o := .cells #[.int .i64 x341000_3, .int .i64 x341001_3, .int .i64 x341002_3, .int .i64 x341003_3, .int .u64 x341004_3, .int .u64 x341005_3, .int .u64 x341006_3, .int .u64 x341007_3, .int .u64 x341008_3, .slice Ao52 x341009_3.length co52] 39 (0, 0)) (bku BK340.out) k_ hn_)), Or.elim hk_ (fun hs_ => hs_.2.2) (fun hn_ => (Kd.freshB (g := gb347) (o := .cells #[.int .i64 t342, .int .i64 t343, .int .u64 t344, .int .u64 t345] 46 (0, 0)) (bku BK347.out) k_ hn_))⟩)) (below_size (bls HB.out))); have n3_ := aA (blk_below (g := gb332) (o := .cells #[.int .i64 1, .int .i64 1] 31 (0, 0)) (bku BK332.out) hb); have n4_ := aA (blk_below (g := gb340) (o := .cells #[.int .i64 x341000_3, .int .i64 x341001_3, .int .i64 x341002_3, .int .i64 x341003_3, .int .u64 x341004_3, .int .u64 x341005_3, .int .u64 x341006_3, .int .u64 x341007_3, .int .u64 x341008_3, .slice Ao52 x341009_3.length co52] 39 (0, 0)) (bku BK340.out) hb); have n5_ := aA (blk_below (g := gb347) (o := .cells #[.int .i64 t342, .int .i64 t343, .int .u64 t344, .int .u64 t345] 46 (0, 0)) (bku BK347.out) hb); have n6_ := aA (below_step (bls HB.out) hb); clear HO_8 HO_341009 BK332 BK340 BK347 HB; have HO_8 := n0_; have HO_341009 := n1_; have HO350 := n2_; have BK332 := n3_; have BK340 := n4_; have BK347 := n5_; have HB := n6_; clear n0_ n1_ n2_ n3_ n4_ n5_ n6_; (try clear hb); (try clear hb2); (try clear hk); (try clear hi); (try clear ho0); have hcz62_0 : w61.cell? ⟨gb332, 0, none⟩ = some (.int .i64 1) := (blk_cell BK332.out 0).trans rfl; have hcz62_1 : w61.cell? ⟨gb332, 1, none⟩ = some (.int .i64 1) := (blk_cell BK332.out 1).trans rfl; have hfz62_0 := blk_frozen BK332.out 0; have hfz62_1 := blk_frozen BK332.out 1; have hcz63_0 : w61.cell? ⟨gb340, 0, none⟩ = some (.int .i64 x341000_3) := (blk_cell BK340.out 0).trans rfl; have hcz63_1 : w61.cell? ⟨gb340, 1, none⟩ = some (.int .i64 x341001_3) := (blk_cell BK340.out 1).trans rfl; have hcz63_2 : w61.cell? ⟨gb340, 2, none⟩ = some (.int .i64 x341002_3) := (blk_cell BK340.out 2).trans rfl; have hcz63_3 : w61.cell? ⟨gb340, 3, none⟩ = some (.int .i64 x341003_3) := (blk_cell BK340.out 3).trans rfl; have hcz63_4 : w61.cell? ⟨gb340, 4, none⟩ = some (.int .u64 x341004_3) := (blk_cell BK340.out 4).trans rfl; have hcz63_5 : w61.cell? ⟨gb340, 5, none⟩ = some (.int .u64 x341005_3) := (blk_cell BK340.out 5).trans rfl; have hcz63_6 : w61.cell? ⟨gb340, 6, none⟩ = some (.int .u64 x341006_3) := (blk_cell BK340.out 6).trans rfl; have hcz63_7 : w61.cell? ⟨gb340, 7, none⟩ = some (.int .u64 x341007_3) := (blk_cell BK340.out 7).trans rfl; have hcz63_8 : w61.cell? ⟨gb340, 8, none⟩ = some (.int .u64 x341008_3) := (blk_cell BK340.out 8).trans rfl; have hcz63_9 : w61.cell? ⟨gb340, 9, none⟩ = some (.slice Ao52 x341009_3.length co52) := (blk_cell BK340.out 9).trans rfl; have hfz63_0 := blk_frozen BK340.out 0; have hfz63_1 := blk_frozen BK340.out 1; have hfz63_2 := blk_frozen BK340.out 2; have hfz63_3 := blk_frozen BK340.out 3; have hfz63_4 := blk_frozen BK340.out 4; have hfz63_5 := blk_frozen BK340.out 5; have hfz63_6 := blk_frozen BK340.out 6; have hfz63_7 := blk_frozen BK340.out 7; have hfz63_8 := blk_frozen BK340.out 8; have hfz63_9 := blk_frozen BK340.out 9) | ((with_reducible refine gate_callee (f := 18) rfl ?_); refine goesL_ (some 89) rfl rfl Try.func18 (by kernel_rfl) rfl #[.agg #[.int .i64 1, .int .i64 1], .slice (some ad341) l0.length c0, .agg #[.int .i64 x341000_3, .int .i64 x341001_3, .int .i64 x341002_3, .int .i64 x341003_3, .int .u64 x341004_3, .int .u64 x341005_3, .int .u64 x341006_3, .int .u64 x341007_3, .int .u64 x341008_3, .slice Ao52 x341009_3.length co52], .int .u64 t351, .bool true] rfl (by (try simp only [List.map_toArray, List.map_cons, List.map_nil]); first | done | rfl | (simp only [List.length_drop, List.length_take]; rfl)) ?_; (with_reducible refine (client_Got.calls 1 1 _ _ l0 x341000_3 x341001_3 x341002_3 x341003_3 x341004_3 x341005_3 x341006_3 x341007_3 x341008_3 (fun k_ => (k_ ≠ gb332 ∧ (k_ ≠ gb340 ∧ k_ ≠ gb347))) _ _ x341009_3 t351 true t353 t354 t355 t356 t357 t358 t359 t360 t361 t362 _ ?side1 ?side2 ?side3 A48.out).mono ?_); (case side1 => repeat (first | exact (Kd.C_below HR0.out HB.out) | (with_reducible refine Kd.C_alloc ?_ _) | (with_reducible refine Kd.C_drewN ?_ _) | (with_reducible refine Kd.C_drew ?_))); (case side2 => exact HC0.out); (case side3 => first | exact HO_341009.out | exact V_below HO_341009.out (blw (Below.refl _ _)) (fun k_ hk_ => by first | exact hk_ | exact ⟨⟨hk_.1, hk_.2.1⟩, hk_.2.2⟩)); rintro e w64 ⟨v363, rfl, ho0, hb⟩; refine ⟨_, rfl, ?_⟩; have n0_ := aA (Kd.V_below (vlu HO_8.out) hb); have n1_ := aA (Kd.V_below (vlu HO_341009.out) hb); have n2_ := aA (Kd.V_below (vlu HO350.out) hb); have n3_ := aA (Kd.V_lower (Kd.V_mono (ok' := fun k_ => k_ ≠ gb332 ∧ k_ ≠ gb340 ∧ k_ ≠ gb347) ho0 (fun k_ hk_ => ⟨Or.elim hk_ (fun hs_ => hs_.1) (fun hn_ => (Kd.freshB (g := gb332) (o := .cells #[.int .i64 1, .int .i64 1] 31 (0, 0)) (bku BK332.out) k_ hn_)), Or.elim hk_ (fun hs_ => hs_.2.1) (fun hn_ => (Kd.freshB (g := gb340) (o := .cells #[.int .i64 x341000_3, .int .i64 x341001_3, .int .i64 x341002_3, .int .i64 x341003_3, .int .u64 x341004_3, .int .u64 x341005_3, .int .u64 x341006_3, .int .u64 x341007_3, .int .u64 x341008_3, .slice Ao52 x341009_3.length co52] 39 (0, 0)) (bku BK340.out) k_ hn_)), Or.elim hk_ (fun hs_ => hs_.2.2) (fun hn_ => (Kd.freshB (g := gb347) (o := .cells #[.int .i64 t342, .int .i64 t343, .int .u64 t344, .int .u64 t345] 46 (0, 0)) (bku BK347.out) k_ hn_))⟩)) (below_size (bls HB.out))); have n4_ := aA (blk_below (g := gb332) (o := .cells #[.int .i64 1, .int .i64 1] 31 (0, 0)) (bku BK332.out) hb); have n5_ := aA (blk_below (g := gb340) (o := .cells #[.int .i64 x341000_3, .int .i64 x341001_3, .int .i64 x341002_3, .int .i64 x341003_3, .int .u64 x341004_3, .int .u64 x341005_3, .int .u64 x341006_3, .int .u64 x341007_3, .int .u64 x341008_3, .slice Ao52 x341009_3.length co52] 39 (0, 0)) (bku BK340.out) hb); have n6_ := aA (blk_below (g := gb347) (o := .cells #[.int .i64 t342, .int .i64 t343, .int .u64 t344, .int .u64 t345] 46 (0, 0)) (bku BK347.out) hb); have n7_ := aA (below_step (bls HB.out) hb); clear HO_8 HO_341009 HO350 BK332 BK340 BK347 HB; have HO_8 := n0_; have HO_341009 := n1_; have HO350 := n2_; have HO364 := n3_; have BK332 := n4_; have BK340 := n5_; have BK347 := n6_; have HB := n7_; clear n0_ n1_ n2_ n3_ n4_ n5_ n6_ n7_; (try clear hb); (try clear hb2); (try clear hk); (try clear hi); (try clear ho0); have hcz65_0 : w64.cell? ⟨gb340, 0, none⟩ = some (.int .i64 x341000_3) := (blk_cell BK340.out 0).trans rfl; have hcz65_1 : w64.cell? ⟨gb340, 1, none⟩ = some (.int .i64 x341001_3) := (blk_cell BK340.out 1).trans rfl; have hcz65_2 : w64.cell? ⟨gb340, 2, none⟩ = some (.int .i64 x341002_3) := (blk_cell BK340.out 2).trans rfl; have hcz65_3 : w64.cell? ⟨gb340, 3, none⟩ = some (.int .i64 x341003_3) := (blk_cell BK340.out 3).trans rfl; have hcz65_4 : w64.cell? ⟨gb340, 4, none⟩ = some (.int .u64 x341004_3) := (blk_cell BK340.out 4).trans rfl; have hcz65_5 : w64.cell? ⟨gb340, 5, none⟩ = some (.int .u64 x341005_3) := (blk_cell BK340.out 5).trans rfl; have hcz65_6 : w64.cell? ⟨gb340, 6, none⟩ = some (.int .u64 x341006_3) := (blk_cell BK340.out 6).trans rfl; have hcz65_7 : w64.cell? ⟨gb340, 7, none⟩ = some (.int .u64 x341007_3) := (blk_cell BK340.out 7).trans rfl; have hcz65_8 : w64.cell? ⟨gb340, 8, none⟩ = some (.int .u64 x341008_3) := (blk_cell BK340.out 8).trans rfl; have hcz65_9 : w64.cell? ⟨gb340, 9, none⟩ = some (.slice Ao52 x341009_3.length co52) := (blk_cell BK340.out 9).trans rfl; have hfz65_0 := blk_frozen BK340.out 0; have hfz65_1 := blk_frozen BK340.out 1; have hfz65_2 := blk_frozen BK340.out 2; have hfz65_3 := blk_frozen BK340.out 3; have hfz65_4 := blk_frozen BK340.out 4; have hfz65_5 := blk_frozen BK340.out 5; have hfz65_6 := blk_frozen BK340.out 6; have hfz65_7 := blk_frozen BK340.out 7; have hfz65_8 := blk_frozen BK340.out 8; have hfz65_9 := blk_frozen BK340.out 9; obtain ⟨Ao66, co66, eo66⟩ := Kd.V_slice HO364.out; subst eo66))
              go_roundg k3
              case measure => have := HJ3.out; have := HK2.out; have := HK3.out; omega
              case rel => exact ⟨(t348), (wrap64 (x11_3 + 1)), (t353), (t354), (t355), (t356), (t357), (t358), (t359), (t360), (t361), (t362), (.slice Ao66 t362.length co66), (by first | rfl | (simp; done) | (simp [*]; done)), H', ⟨by have := HJ3.out; have := HK2.out; have := HK3.out; omega⟩, ⟨by (with_reducible repeat (first | apply Kd.V_alloc | apply Kd.V_drewN | apply Kd.V_drew)); exact Kd.V_mono (Kd.V_far (p := ⟨gb340, 9, none⟩) (Kd.V_far (p := ⟨gb340, 8, none⟩) (Kd.V_far (p := ⟨gb340, 7, none⟩) (Kd.V_far (p := ⟨gb340, 6, none⟩) (Kd.V_far (p := ⟨gb340, 5, none⟩) (Kd.V_far (p := ⟨gb340, 4, none⟩) (Kd.V_far (p := ⟨gb340, 3, none⟩) (Kd.V_far (p := ⟨gb340, 2, none⟩) (Kd.V_far (p := ⟨gb340, 1, none⟩) (Kd.V_far (p := ⟨gb340, 0, none⟩) (Kd.V_mono HO350.out (fun k_ hk => (⟨hk, hk.2.1⟩ : _ ∧ k_ ≠ gb340))) (fun _ hk => hk.2) (.int .i64 t353)) (fun _ hk => hk.2) (.int .i64 t354)) (fun _ hk => hk.2) (.int .i64 t355)) (fun _ hk => hk.2) (.int .i64 t356)) (fun _ hk => hk.2) (.int .u64 t357)) (fun _ hk => hk.2) (.int .u64 t358)) (fun _ hk => hk.2) (.int .u64 t359)) (fun _ hk => hk.2) (.int .u64 t360)) (fun _ hk => hk.2) (.int .u64 t361)) (fun _ hk => hk.2) (.slice Ao66 t362.length co66)) (fun _ hk => ⟨hk.1.1, hk.1.2.1⟩)⟩, ⟨by (with_reducible repeat (first | apply Kd.V_alloc | apply Kd.V_drewN | apply Kd.V_drew)); exact Kd.V_mono (Kd.V_far (p := ⟨gb340, 9, none⟩) (Kd.V_far (p := ⟨gb340, 8, none⟩) (Kd.V_far (p := ⟨gb340, 7, none⟩) (Kd.V_far (p := ⟨gb340, 6, none⟩) (Kd.V_far (p := ⟨gb340, 5, none⟩) (Kd.V_far (p := ⟨gb340, 4, none⟩) (Kd.V_far (p := ⟨gb340, 3, none⟩) (Kd.V_far (p := ⟨gb340, 2, none⟩) (Kd.V_far (p := ⟨gb340, 1, none⟩) (Kd.V_far (p := ⟨gb340, 0, none⟩) (Kd.V_mono HO364.out (fun k_ hk => (⟨hk, hk.2.1⟩ : _ ∧ k_ ≠ gb340))) (fun _ hk => hk.2) (.int .i64 t353)) (fun _ hk => hk.2) (.int .i64 t354)) (fun _ hk => hk.2) (.int .i64 t355)) (fun _ hk => hk.2) (.int .i64 t356)) (fun _ hk => hk.2) (.int .u64 t357)) (fun _ hk => hk.2) (.int .u64 t358)) (fun _ hk => hk.2) (.int .u64 t359)) (fun _ hk => hk.2) (.int .u64 t360)) (fun _ hk => hk.2) (.int .u64 t361)) (fun _ hk => hk.2) (.slice Ao66 t362.length co66)) (fun _ hk => ⟨hk.1.1, hk.1.2.1⟩)⟩, ⟨by (with_reducible repeat (first | refine blk_drewN ?_ _ | refine blk_drew ?_ | refine blk_alloc ?_ _)); refine blk_far ?_ NB332_340.out _; (with_reducible repeat (first | refine blk_drewN ?_ _ | refine blk_drew ?_ | refine blk_alloc ?_ _)); refine blk_far ?_ NB332_340.out _; (with_reducible repeat (first | refine blk_drewN ?_ _ | refine blk_drew ?_ | refine blk_alloc ?_ _)); refine blk_far ?_ NB332_340.out _; (with_reducible repeat (first | refine blk_drewN ?_ _ | refine blk_drew ?_ | refine blk_alloc ?_ _)); refine blk_far ?_ NB332_340.out _; (with_reducible repeat (first | refine blk_drewN ?_ _ | refine blk_drew ?_ | refine blk_alloc ?_ _)); refine blk_far ?_ NB332_340.out _; (with_reducible repeat (first | refine blk_drewN ?_ _ | refine blk_drew ?_ | refine blk_alloc ?_ _)); refine blk_far ?_ NB332_340.out _; (with_reducible repeat (first | refine blk_drewN ?_ _ | refine blk_drew ?_ | refine blk_alloc ?_ _)); refine blk_far ?_ NB332_340.out _; (with_reducible repeat (first | refine blk_drewN ?_ _ | refine blk_drew ?_ | refine blk_alloc ?_ _)); refine blk_far ?_ NB332_340.out _; (with_reducible repeat (first | refine blk_drewN ?_ _ | refine blk_drew ?_ | refine blk_alloc ?_ _)); refine blk_far ?_ NB332_340.out _; (with_reducible repeat (first | refine blk_drewN ?_ _ | refine blk_drew ?_ | refine blk_alloc ?_ _)); refine blk_far ?_ NB332_340.out _; (with_reducible repeat (first | refine blk_drewN ?_ _ | refine blk_drew ?_ | refine blk_alloc ?_ _)); exact BK332.out⟩, ⟨by (with_reducible repeat (first | refine blk_drewN ?_ _ | refine blk_drew ?_ | refine blk_alloc ?_ _)); refine blk_put (cs := #[.int .i64 t353, .int .i64 t354, .int .i64 t355, .int .i64 t356, .int .u64 t357, .int .u64 t358, .int .u64 t359, .int .u64 t360, .int .u64 t361, .slice Ao52 x341009_3.length co52]) ?_ 9 _ rfl; (with_reducible repeat (first | refine blk_drewN ?_ _ | refine blk_drew ?_ | refine blk_alloc ?_ _)); refine blk_put (cs := #[.int .i64 t353, .int .i64 t354, .int .i64 t355, .int .i64 t356, .int .u64 t357, .int .u64 t358, .int .u64 t359, .int .u64 t360, .int .u64 x341008_3, .slice Ao52 x341009_3.length co52]) ?_ 8 _ rfl; (with_reducible repeat (first | refine blk_drewN ?_ _ | refine blk_drew ?_ | refine blk_alloc ?_ _)); refine blk_put (cs := #[.int .i64 t353, .int .i64 t354, .int .i64 t355, .int .i64 t356, .int .u64 t357, .int .u64 t358, .int .u64 t359, .int .u64 x341007_3, .int .u64 x341008_3, .slice Ao52 x341009_3.length co52]) ?_ 7 _ rfl; (with_reducible repeat (first | refine blk_drewN ?_ _ | refine blk_drew ?_ | refine blk_alloc ?_ _)); refine blk_put (cs := #[.int .i64 t353, .int .i64 t354, .int .i64 t355, .int .i64 t356, .int .u64 t357, .int .u64 t358, .int .u64 x341006_3, .int .u64 x341007_3, .int .u64 x341008_3, .slice Ao52 x341009_3.length co52]) ?_ 6 _ rfl; (with_reducible repeat (first | refine blk_drewN ?_ _ | refine blk_drew ?_ | refine blk_alloc ?_ _)); refine blk_put (cs := #[.int .i64 t353, .int .i64 t354, .int .i64 t355, .int .i64 t356, .int .u64 t357, .int .u64 x341005_3, .int .u64 x341006_3, .int .u64 x341007_3, .int .u64 x341008_3, .slice Ao52 x341009_3.length co52]) ?_ 5 _ rfl; (with_reducible repeat (first | refine blk_drewN ?_ _ | refine blk_drew ?_ | refine blk_alloc ?_ _)); refine blk_put (cs := #[.int .i64 t353, .int .i64 t354, .int .i64 t355, .int .i64 t356, .int .u64 x341004_3, .int .u64 x341005_3, .int .u64 x341006_3, .int .u64 x341007_3, .int .u64 x341008_3, .slice Ao52 x341009_3.length co52]) ?_ 4 _ rfl; (with_reducible repeat (first | refine blk_drewN ?_ _ | refine blk_drew ?_ | refine blk_alloc ?_ _)); refine blk_put (cs := #[.int .i64 t353, .int .i64 t354, .int .i64 t355, .int .i64 x341003_3, .int .u64 x341004_3, .int .u64 x341005_3, .int .u64 x341006_3, .int .u64 x341007_3, .int .u64 x341008_3, .slice Ao52 x341009_3.length co52]) ?_ 3 _ rfl; (with_reducible repeat (first | refine blk_drewN ?_ _ | refine blk_drew ?_ | refine blk_alloc ?_ _)); refine blk_put (cs := #[.int .i64 t353, .int .i64 t354, .int .i64 x341002_3, .int .i64 x341003_3, .int .u64 x341004_3, .int .u64 x341005_3, .int .u64 x341006_3, .int .u64 x341007_3, .int .u64 x341008_3, .slice Ao52 x341009_3.length co52]) ?_ 2 _ rfl; (with_reducible repeat (first | refine blk_drewN ?_ _ | refine blk_drew ?_ | refine blk_alloc ?_ _)); refine blk_put (cs := #[.int .i64 t353, .int .i64 x341001_3, .int .i64 x341002_3, .int .i64 x341003_3, .int .u64 x341004_3, .int .u64 x341005_3, .int .u64 x341006_3, .int .u64 x341007_3, .int .u64 x341008_3, .slice Ao52 x341009_3.length co52]) ?_ 1 _ rfl; (with_reducible repeat (first | refine blk_drewN ?_ _ | refine blk_drew ?_ | refine blk_alloc ?_ _)); refine blk_put (cs := #[.int .i64 x341000_3, .int .i64 x341001_3, .int .i64 x341002_3, .int .i64 x341003_3, .int .u64 x341004_3, .int .u64 x341005_3, .int .u64 x341006_3, .int .u64 x341007_3, .int .u64 x341008_3, .slice Ao52 x341009_3.length co52]) ?_ 0 _ rfl; (with_reducible repeat (first | refine blk_drewN ?_ _ | refine blk_drew ?_ | refine blk_alloc ?_ _)); exact BK340.out⟩, ⟨by repeat (first | (with_reducible first | exact HB.out | apply below_alloc | apply pw_below_drewN | apply below_drew1 | refine below_set ?_ GE332.out | refine below_set ?_ GE340.out | refine below_set ?_ GE347.out) | exact HB.out)⟩⟩
            ·replace c46 := Bool.eq_false_iff.mpr c46; subst c46; have H1 : (some false) = some r := by rw [if_neg (show ¬ (false = true) by decide)] at H; exact H
             clear H; have H := H1; clear H1; exact absurd ((Option.some.inj H).trans hr_) (by decide)
           ·replace c45 := Bool.eq_false_iff.mpr c45; subst c45; have H1 : (some false) = some r := by rw [if_neg (show ¬ (false = true) by decide)] at H; exact H
            clear H; have H := H1; clear H1; exact absurd ((Option.some.inj H).trans hr_) (by decide)
          ·rw [if_neg c42] at H; have c42b0 : (x341001_3 == x341001_2) = false := beq_eq_false_iff_ne.mpr c42; have c42b1 : (x341001_3 != x341001_2) = true := bne_iff_ne.mpr c42; replace H := Option.bind_eq_some_iff.mp H; obtain ⟨t365, A670, H⟩ := H; replace H : (if 0 ≤ t365 then (if t365 < (x8_3.length : Int) then (if ((x341008_3 != 0) != ((rd x8_3 t365) != 0)) = true then (some false) else (if x341008_3 = 0 then (treillagelaw17_ClientEnds.l0 k3 l0 a2 x8_3 1 1 x341000_3 x341001_3 x341002_3 x341003_3 x341004_3 x341005_3 x341006_3 x341007_3 x341008_3 x341009_3) else ((mem_Pin.f 1 1 0).bind fun t367 => (if 0 ≤ t367 then (if t367 < (x8_3.length : Int) then (if (rd x8_3 t367) = (IntKind.u64.wrap ((Int.tmod a2 1000) + 1)) then (treillagelaw17_ClientEnds.l0 k3 l0 a2 x8_3 1 1 x341000_3 x341001_3 x341002_3 x341003_3 x341004_3 x341005_3 x341006_3 x341007_3 x341008_3 x341009_3) else (some false)) else (none)) else (none))))) else (none)) else (none)) = some r := H; have A67 := aA A670; clear A670; by_cases c68 : 0 ≤ t365
           rotate_left
           ·rw [if_neg c68] at H; exact absurd H (by simp)
           rw [if_pos c68] at H; have c68b0 : decide (0 ≤ t365) = true := decide_eq_true c68; clear c68; by_cases c69 : t365 < (x8_3.length : Int)
           rotate_left
           ·rw [if_neg c69] at H; exact absurd H (by simp)
           rw [if_pos c69] at H; have c69b0 : decide (t365 < (x8_3.length : Int)) = true := decide_eq_true c69; clear c69; by_cases c70 : ((x341008_3 != 0) != ((rd x8_3 t365) != 0)) = true
           ·rw [if_pos c70] at H; have c70b0 : ((x341008_3 != 0) != ((rd x8_3 t365) != 0)) = true := c70; (try (have c70b1 : decide ((x341008_3 != 0) = ((rd x8_3 t365) != 0)) = false := by simpa using c70)); (try (have c70b2 : ((x341008_3 != 0) == ((rd x8_3 t365) != 0)) = false := by simpa using c70)); (try (have c70b3 : ¬ ((x341008_3 != 0) = ((rd x8_3 t365) != 0)) := by simpa using c70)); clear c70; exact absurd ((Option.some.inj H).trans hr_) (by decide)
           ·rw [if_neg c70] at H; have c70b0 : ((x341008_3 != 0) != ((rd x8_3 t365) != 0)) = false := by simpa using c70
            (try (have c70b1 : decide ((x341008_3 != 0) = ((rd x8_3 t365) != 0)) = true := by simpa using c70)); (try (have c70b2 : ((x341008_3 != 0) == ((rd x8_3 t365) != 0)) = true := by simpa using c70)); clear c70; by_cases c71 : x341008_3 = 0
            ·rw [if_pos c71] at H; have c71b0 : (x341008_3 == 0) = true := beq_iff_eq.mpr c71; have c71b1 : (x341008_3 != 0) = false := bne_eq_false_iff_eq.mpr c71; have c71b9 : ((rd x8_3 t365) != 0) = false := (by have q := c70b0; rw [c71b1] at q; simpa using q); clear c71; have H' := aA H; clear H; have hnb72 := NB340_332.out; have hnc72 := NB332_340.out; have hcz73_0 : wr.cell? ⟨gb340, 0, none⟩ = some (.int .i64 x341000_3) := (blk_cell BK340.out 0).trans rfl; have hcz73_1 : wr.cell? ⟨gb340, 1, none⟩ = some (.int .i64 x341001_3) := (blk_cell BK340.out 1).trans rfl; have hcz73_2 : wr.cell? ⟨gb340, 2, none⟩ = some (.int .i64 x341002_3) := (blk_cell BK340.out 2).trans rfl; have hcz73_3 : wr.cell? ⟨gb340, 3, none⟩ = some (.int .i64 x341003_3) := (blk_cell BK340.out 3).trans rfl; have hcz73_4 : wr.cell? ⟨gb340, 4, none⟩ = some (.int .u64 x341004_3) := (blk_cell BK340.out 4).trans rfl; have hcz73_5 : wr.cell? ⟨gb340, 5, none⟩ = some (.int .u64 x341005_3) := (blk_cell BK340.out 5).trans rfl; have hcz73_6 : wr.cell? ⟨gb340, 6, none⟩ = some (.int .u64 x341006_3) := (blk_cell BK340.out 6).trans rfl; have hcz73_7 : wr.cell? ⟨gb340, 7, none⟩ = some (.int .u64 x341007_3) := (blk_cell BK340.out 7).trans rfl; have hcz73_8 : wr.cell? ⟨gb340, 8, none⟩ = some (.int .u64 x341008_3) := (blk_cell BK340.out 8).trans rfl; have hcz73_9 : wr.cell? ⟨gb340, 9, none⟩ = some (u341009) := (blk_cell BK340.out 9).trans rfl; have hfz73_0 := blk_frozen BK340.out 0; have hfz73_1 := blk_frozen BK340.out 1; have hfz73_2 := blk_frozen BK340.out 2; have hfz73_3 := blk_frozen BK340.out 3; have hfz73_4 := blk_frozen BK340.out 4; have hfz73_5 := blk_frozen BK340.out 5; have hfz73_6 := blk_frozen BK340.out 6; have hfz73_7 := blk_frozen BK340.out 7; have hfz73_8 := blk_frozen BK340.out 8; have hfz73_9 := blk_frozen BK340.out 9; try go_wp2
             have n0_ := aA (Kd.V_drew HO_8.out); have n1_ := aA (Kd.V_drew HO_341009.out); have n2_ := aA (blk_drew BK332.out); have n3_ := aA (blk_drew BK340.out); have n4_ := aA (below_drew1 HB.out); clear HO_8; clear HO_341009; clear BK332; clear BK340; clear HB; have HO_8 := n0_; have HO_341009 := n1_; have BK332 := n2_; have BK340 := n3_; have HB := n4_; clear n0_ n1_ n2_ n3_ n4_; obtain ⟨Ao991, co991, eo991⟩ := Kd.V_slice HO_8.out; subst eo991; have p366 : 0 ≤ (t365 : Int) := of_decide_eq_true (by first | (with_reducible assumption) | assumption); have q366 : t365 < (x8_3.length : Int) := of_decide_eq_true (by first | (with_reducible assumption) | assumption); obtain ⟨ad366, e366, hx366_0⟩ := Kd.at_int (Kd.V_reads' HO_8.out).2.2 t365 p366 q366; cases e366
             replace p366 := eq_true p366; replace q366 := eq_true q366; refine start_ (n := 26) (S := fun w' => w'.cell? ⟨gb340, 0, none⟩ = some (.int .i64 x341000_3) ∧ w'.cell? ⟨gb340, 1, none⟩ = some (.int .i64 x341001_3) ∧ w'.cell? ⟨gb340, 2, none⟩ = some (.int .i64 x341002_3) ∧ w'.cell? ⟨gb340, 3, none⟩ = some (.int .i64 x341003_3) ∧ w'.cell? ⟨gb340, 4, none⟩ = some (.int .u64 x341004_3) ∧ w'.cell? ⟨gb340, 5, none⟩ = some (.int .u64 x341005_3) ∧ w'.cell? ⟨gb340, 6, none⟩ = some (.int .u64 x341006_3) ∧ w'.cell? ⟨gb340, 7, none⟩ = some (.int .u64 x341007_3) ∧ w'.cell? ⟨gb340, 8, none⟩ = some (.int .u64 x341008_3) ∧ w'.cell? ⟨gb340, 9, none⟩ = some (u341009) ∧ w'.cell? ⟨gb332, 0, none⟩ = some (.int .i64 1) ∧ w'.cell? ⟨gb332, 1, none⟩ = some (.int .i64 1) ∧ w'.cell? (ad366.add (t365).toNat) = some (.int .u64 (rd x8_3 t365))) (ds := []) #[false, false, false, false, false, false, false, false, false, false, false, false, false, false, false, false, false, false, false, false, false, false, false, false, false, false] (by kernel_rfl) rfl rfl ⟨(blk_cell BK340.out 0).trans rfl, (blk_cell BK340.out 1).trans rfl, (blk_cell BK340.out 2).trans rfl, (blk_cell BK340.out 3).trans rfl, (blk_cell BK340.out 4).trans rfl, (blk_cell BK340.out 5).trans rfl, (blk_cell BK340.out 6).trans rfl, (blk_cell BK340.out 7).trans rfl, (blk_cell BK340.out 8).trans rfl, (blk_cell BK340.out 9).trans rfl, (blk_cell BK332.out 0).trans rfl, (blk_cell BK332.out 1).trans rfl, hx366_0⟩ (fun hHeld => ?_); refine with_tabW treillagelaw17_ClientEnds.tab21 treillagelaw17_ClientEnds.bits21 (fun HT_ HW_ => ?_); generalize wr.drew = w74 at HO_8 HO_341009 BK332 BK340 HB hx366_0 hHeld ⊢; refine pure_ (i := 0) (N := some 92) (v := ?_) (a' := ?_) #[true, false, false, false, false, false, false, false, false, false, false, false, false, false, false, false, false, false, false, false, false, false, false, false, false, false] rfl rfl (any_of HT_.out (by kernel_rfl)) (fun _ _ _ h => h) (Or.inl ⟨by rfl, ?_⟩) ?_ ?_; rotate_left
             ·intro w'
              go_simp
              with_reducible rfl
             rotate_left
             ·simp only [Act.put, List.setIfInBounds_toArray, List.set_cons_zero, List.set_cons_succ, i64_w, i32_w]; rfl
             refine pure_ (i := 3) (N := some 95) (v := ?_) (a' := ?_) #[true, false, false, true, false, false, false, false, false, false, false, false, false, false, false, false, false, false, false, false, false, false, false, false, false, false] rfl rfl (any_of HT_.out (by kernel_rfl)) (fun _ _ _ h => h) (Or.inl ⟨by rfl, ?_⟩) ?_ ?_; rotate_left
             ·intro w'
              go_simp
              with_reducible rfl
             rotate_left
             ·simp only [Act.put, List.setIfInBounds_toArray, List.set_cons_zero, List.set_cons_succ, i64_w, i32_w]; rfl
             refine take_ (i := 1) (N := some 93) (v := ?_) (a' := ?_) #[true, true, false, true, false, false, false, false, false, false, false, false, false, false, false, false, false, false, false, false, false, false, false, false, false, false] rfl rfl (take_ofW HT_.out HW_.out (by kernel_rfl)) (fun _ _ _ h => h) (Or.inl ⟨by rfl, ?_⟩) hHeld ?_ ?_; rotate_left
             ·rintro w' ⟨s0, s1, s2, s3, s4, s5, s6, s7, s8, s9, s10, s11, s12⟩
              go_simp
              with_reducible rfl
             rotate_left
             ·simp only [Act.put, List.setIfInBounds_toArray, List.set_cons_zero, List.set_cons_succ, i64_w, i32_w]; rfl
             refine pure_ (i := 2) (N := some 94) (v := ?_) (a' := ?_) #[true, true, true, true, false, false, false, false, false, false, false, false, false, false, false, false, false, false, false, false, false, false, false, false, false, false] rfl rfl (any_of HT_.out (by kernel_rfl)) (fun _ _ _ h => h) (Or.inl ⟨by rfl, ?_⟩) ?_ ?_; rotate_left
             ·intro w'
              go_simp
              with_reducible rfl
             rotate_left
             ·simp only [Act.put, List.setIfInBounds_toArray, List.set_cons_zero, List.set_cons_succ, i64_w, i32_w]; rfl
             refine take_ (i := 4) (N := some 96) (v := ?_) (a' := ?_) #[true, true, true, true, true, false, false, false, false, false, false, false, false, false, false, false, false, false, false, false, false, false, false, false, false, false] rfl rfl (take_ofW HT_.out HW_.out (by kernel_rfl)) (fun _ _ _ h => h) (Or.inl ⟨by rfl, ?_⟩) hHeld ?_ ?_; rotate_left
             ·rintro w' ⟨s0, s1, s2, s3, s4, s5, s6, s7, s8, s9, s10, s11, s12⟩
              go_simp
              with_reducible rfl
             rotate_left
             ·simp only [Act.put, List.setIfInBounds_toArray, List.set_cons_zero, List.set_cons_succ, i64_w, i32_w]; rfl
             refine one_ (i := 5) (N := some 97) #[true, true, true, true, true, true, false, false, false, false, false, false, false, false, false, false, false, false, false, false, false, false, false, false, false, false] rfl rfl (one_of HT_.out (by kernel_rfl)) (by decide) (fun K hK => ?_); refine goes_ Try.func19 (by kernel_rfl) rfl #[.agg #[.int .i64 1, .int .i64 1], .int .i64 0] (by rfl) rfl rfl (by (try simp only [List.map_toArray, List.map_cons, List.map_nil]); first | done | rfl | (simp only [List.length_drop, List.length_take]; rfl)) ?_; with_reducible refine (mem_Pin.calls 1 1 0 t365 _ A67.out).mono ?_
             rintro e w75 ⟨rfl, hb⟩
             have HS12_ := (hb.cell (World.block_lt_of_cell? _ _ (hHeld.2.2.2.2.2.2.2.2.2.2.2.2))).trans (hHeld.2.2.2.2.2.2.2.2.2.2.2.2); refine ⟨_, rfl, ?_⟩; have n0_ := aA (Kd.V_below (vlu HO_8.out) hb); have n1_ := aA (Kd.V_below (vlu HO_341009.out) hb); have n2_ := aA (blk_below (g := gb332) (o := .cells #[.int .i64 1, .int .i64 1] 31 (0, 0)) (bku BK332.out) hb); have n3_ := aA (blk_below (g := gb340) (o := .cells #[.int .i64 x341000_3, .int .i64 x341001_3, .int .i64 x341002_3, .int .i64 x341003_3, .int .u64 x341004_3, .int .u64 x341005_3, .int .u64 x341006_3, .int .u64 x341007_3, .int .u64 x341008_3, u341009] 39 (0, 0)) (bku BK340.out) hb); have n4_ := aA (below_step (bls HB.out) hb); clear HO_8; clear HO_341009; clear BK332; clear BK340; clear HB; have HO_8 := n0_; have HO_341009 := n1_; have BK332 := n2_; have BK340 := n3_; have HB := n4_; clear n0_ n1_ n2_ n3_ n4_; (try clear hb); (try clear hb2); (try clear hk); (try clear hi); obtain ⟨Ao76, co76, eo76⟩ := Kd.V_slice HO_8.out; (first | subst eo76 | (injection eo76 with f1_ f2_ f3_; have f4_ := f1_.symm; have f5_ := f3_.symm; clear f1_ f2_ f3_; subst f4_; subst f5_))
             refine hK.out _ _ ⟨(blk_cell BK340.out 0).trans rfl, (blk_cell BK340.out 1).trans rfl, (blk_cell BK340.out 2).trans rfl, (blk_cell BK340.out 3).trans rfl, (blk_cell BK340.out 4).trans rfl, (blk_cell BK340.out 5).trans rfl, (blk_cell BK340.out 6).trans rfl, (blk_cell BK340.out 7).trans rfl, (blk_cell BK340.out 8).trans rfl, (blk_cell BK340.out 9).trans rfl, (blk_cell BK332.out 0).trans rfl, (blk_cell BK332.out 1).trans rfl, HS12_⟩ (fun hHeld => ?_); clear hK K; refine norm_ (a' := ?_) ?_ ?_; rotate_left
             ·show Act.put _ (some 97) _ = _
              simp only [Act.put, List.setIfInBounds_toArray, List.set_cons_zero, List.set_cons_succ, i64_w, i32_w]; rfl
             refine pure_ (i := 6) (N := some 98) (v := ?_) (a' := ?_) #[true, true, true, true, true, true, true, false, false, false, false, false, false, false, false, false, false, false, false, false, false, false, false, false, false, false] rfl rfl (any_of HT_.out (by kernel_rfl)) (fun _ _ _ h => h) (Or.inl ⟨by rfl, ?_⟩) ?_ ?_; rotate_left
             ·intro w'
              go_simp
              with_reducible rfl
             rotate_left
             ·simp only [Act.put, List.setIfInBounds_toArray, List.set_cons_zero, List.set_cons_succ, i64_w, i32_w]; rfl
             refine take_ (i := 7) (N := some 99) (v := ?_) (a' := ?_) #[true, true, true, true, true, true, true, true, false, false, false, false, false, false, false, false, false, false, false, false, false, false, false, false, false, false] rfl rfl (take_ofW HT_.out HW_.out (by kernel_rfl)) (fun _ _ _ h => h) (Or.inl ⟨by rfl, ?_⟩) hHeld ?_ ?_; rotate_left
             ·rintro w' ⟨s0, s1, s2, s3, s4, s5, s6, s7, s8, s9, s10, s11, s12⟩
              go_simp
              with_reducible rfl
             rotate_left
             ·simp only [Act.put, List.setIfInBounds_toArray, List.set_cons_zero, List.set_cons_succ, i64_w, i32_w]; rfl
             refine pure_ (i := 8) (N := some 100) (v := ?_) (a' := ?_) #[true, true, true, true, true, true, true, true, true, false, false, false, false, false, false, false, false, false, false, false, false, false, false, false, false, false] rfl rfl (any_of HT_.out (by kernel_rfl)) (fun _ _ _ h => h) (Or.inl ⟨by rfl, ?_⟩) ?_ ?_; rotate_left
             ·intro w'
              go_simp
              with_reducible rfl
             rotate_left
             ·simp only [Act.put, List.setIfInBounds_toArray, List.set_cons_zero, List.set_cons_succ, i64_w, i32_w]; rfl
             refine pure_ (i := 9) (N := some 101) (v := ?_) (a' := ?_) #[true, true, true, true, true, true, true, true, true, true, false, false, false, false, false, false, false, false, false, false, false, false, false, false, false, false] rfl rfl (any_of HT_.out (by kernel_rfl)) (fun _ _ _ h => h) (Or.inl ⟨by rfl, ?_⟩) ?_ ?_; rotate_left
             ·intro w'
              go_simp
              with_reducible rfl
             rotate_left
             ·simp only [Act.put, List.setIfInBounds_toArray, List.set_cons_zero, List.set_cons_succ, i64_w, i32_w]; rfl
             refine pure_ (i := 10) (N := some 102) (v := ?_) (a' := ?_) #[true, true, true, true, true, true, true, true, true, true, true, false, false, false, false, false, false, false, false, false, false, false, false, false, false, false] rfl rfl (any_of HT_.out (by kernel_rfl)) (fun _ _ _ h => h) (Or.inl ⟨by rfl, ?_⟩) ?_ ?_; rotate_left
             ·intro w'
              go_simp
              with_reducible rfl
             rotate_left
             ·simp only [Act.put, List.setIfInBounds_toArray, List.set_cons_zero, List.set_cons_succ, i64_w, i32_w]; rfl
             refine pure_ (i := 11) (N := some 103) (v := ?_) (a' := ?_) #[true, true, true, true, true, true, true, true, true, true, true, true, false, false, false, false, false, false, false, false, false, false, false, false, false, false] rfl rfl (any_of HT_.out (by kernel_rfl)) (fun _ _ _ h => h) (Or.inl ⟨by rfl, ?_⟩) ?_ ?_; rotate_left
             ·intro w'
              go_simp
              with_reducible rfl
             rotate_left
             ·simp only [Act.put, List.setIfInBounds_toArray, List.set_cons_zero, List.set_cons_succ, i64_w, i32_w]; rfl
             refine take_ (i := 12) (N := some 104) (v := ?_) (a' := ?_) #[true, true, true, true, true, true, true, true, true, true, true, true, true, false, false, false, false, false, false, false, false, false, false, false, false, false] rfl rfl (take_ofW HT_.out HW_.out (by kernel_rfl)) (fun _ _ _ h => h) (Or.inl ⟨by rfl, ?_⟩) hHeld ?_ ?_; rotate_left
             ·rintro w' ⟨s0, s1, s2, s3, s4, s5, s6, s7, s8, s9, s10, s11, s12⟩
              go_simp
              with_reducible rfl
             rotate_left
             ·simp only [Act.put, List.setIfInBounds_toArray, List.set_cons_zero, List.set_cons_succ, i64_w, i32_w]; rfl
             refine pure_ (i := 13) (N := some 105) (v := ?_) (a' := ?_) #[true, true, true, true, true, true, true, true, true, true, true, true, true, true, false, false, false, false, false, false, false, false, false, false, false, false] rfl rfl (any_of HT_.out (by kernel_rfl)) (fun _ _ _ h => h) (Or.inl ⟨by rfl, ?_⟩) ?_ ?_; rotate_left
             ·intro w'
              go_simp
              with_reducible rfl
             rotate_left
             ·simp only [Act.put, List.setIfInBounds_toArray, List.set_cons_zero, List.set_cons_succ, i64_w, i32_w]; rfl
             refine pure_ (i := 14) (N := some 106) (v := ?_) (a' := ?_) #[true, true, true, true, true, true, true, true, true, true, true, true, true, true, true, false, false, false, false, false, false, false, false, false, false, false] rfl rfl (any_of HT_.out (by kernel_rfl)) (fun _ _ _ h => h) (Or.inl ⟨by rfl, ?_⟩) ?_ ?_; rotate_left
             ·intro w'
              go_simp
              with_reducible rfl
             rotate_left
             ·simp only [Act.put, List.setIfInBounds_toArray, List.set_cons_zero, List.set_cons_succ, i64_w, i32_w]; rfl
             refine pure_ (i := 15) (N := some 107) (v := undef) (a' := ?_) #[true, true, true, true, true, true, true, true, true, true, true, true, true, true, true, true, false, false, false, false, false, false, false, false, false, false] rfl rfl (any_of HT_.out (by kernel_rfl)) (fun _ _ _ h => h) (Or.inr ⟨by rfl, rfl⟩) ?_ ?_; rotate_left
             ·simp only [Act.put, List.setIfInBounds_toArray, List.set_cons_zero, List.set_cons_succ, i64_w, i32_w]; rfl
             refine pure_ (i := 16) (N := some 108) (v := undef) (a' := ?_) #[true, true, true, true, true, true, true, true, true, true, true, true, true, true, true, true, true, false, false, false, false, false, false, false, false, false] rfl rfl (any_of HT_.out (by kernel_rfl)) (fun _ _ _ h => h) (Or.inr ⟨by rfl, rfl⟩) ?_ ?_; rotate_left
             ·simp only [Act.put, List.setIfInBounds_toArray, List.set_cons_zero, List.set_cons_succ, i64_w, i32_w]; rfl
             refine pure_ (i := 17) (N := some 109) (v := undef) (a' := ?_) #[true, true, true, true, true, true, true, true, true, true, true, true, true, true, true, true, true, true, false, false, false, false, false, false, false, false] rfl rfl (any_of HT_.out (by kernel_rfl)) (fun _ _ _ h => h) (Or.inr ⟨by rfl, rfl⟩) ?_ ?_; rotate_left
             ·simp only [Act.put, List.setIfInBounds_toArray, List.set_cons_zero, List.set_cons_succ, i64_w, i32_w]; rfl
             refine pure_ (i := 18) (N := some 110) (v := undef) (a' := ?_) #[true, true, true, true, true, true, true, true, true, true, true, true, true, true, true, true, true, true, true, false, false, false, false, false, false, false] rfl rfl (any_of HT_.out (by kernel_rfl)) (fun _ _ _ h => h) (Or.inr ⟨by rfl, rfl⟩) ?_ ?_; rotate_left
             ·simp only [Act.put, List.setIfInBounds_toArray, List.set_cons_zero, List.set_cons_succ, i64_w, i32_w]; rfl
             refine pure_ (i := 19) (N := some 111) (v := undef) (a' := ?_) #[true, true, true, true, true, true, true, true, true, true, true, true, true, true, true, true, true, true, true, true, false, false, false, false, false, false] rfl rfl (any_of HT_.out (by kernel_rfl)) (fun _ _ _ h => h) (Or.inr ⟨by rfl, rfl⟩) ?_ ?_; rotate_left
             ·simp only [Act.put, List.setIfInBounds_toArray, List.set_cons_zero, List.set_cons_succ, i64_w, i32_w]; rfl
             refine pure_ (i := 20) (N := some 112) (v := undef) (a' := ?_) #[true, true, true, true, true, true, true, true, true, true, true, true, true, true, true, true, true, true, true, true, true, false, false, false, false, false] rfl rfl (any_of HT_.out (by kernel_rfl)) (fun _ _ _ h => h) (Or.inr ⟨by rfl, rfl⟩) ?_ ?_; rotate_left
             ·simp only [Act.put, List.setIfInBounds_toArray, List.set_cons_zero, List.set_cons_succ, i64_w, i32_w]; rfl
             refine pure_ (i := 21) (N := some 113) (v := undef) (a' := ?_) #[true, true, true, true, true, true, true, true, true, true, true, true, true, true, true, true, true, true, true, true, true, true, false, false, false, false] rfl rfl (any_of HT_.out (by kernel_rfl)) (fun _ _ _ h => h) (Or.inr ⟨by rfl, rfl⟩) ?_ ?_; rotate_left
             ·simp only [Act.put, List.setIfInBounds_toArray, List.set_cons_zero, List.set_cons_succ, i64_w, i32_w]; rfl
             refine pure_ (i := 22) (N := some 114) (v := undef) (a' := ?_) #[true, true, true, true, true, true, true, true, true, true, true, true, true, true, true, true, true, true, true, true, true, true, true, false, false, false] rfl rfl (any_of HT_.out (by kernel_rfl)) (fun _ _ _ h => h) (Or.inr ⟨by rfl, rfl⟩) ?_ ?_; rotate_left
             ·simp only [Act.put, List.setIfInBounds_toArray, List.set_cons_zero, List.set_cons_succ, i64_w, i32_w]; rfl
             refine pure_ (i := 23) (N := some 115) (v := undef) (a' := ?_) #[true, true, true, true, true, true, true, true, true, true, true, true, true, true, true, true, true, true, true, true, true, true, true, true, false, false] rfl rfl (any_of HT_.out (by kernel_rfl)) (fun _ _ _ h => h) (Or.inr ⟨by rfl, rfl⟩) ?_ ?_; rotate_left
             ·simp only [Act.put, List.setIfInBounds_toArray, List.set_cons_zero, List.set_cons_succ, i64_w, i32_w]; rfl
             refine pure_ (i := 24) (N := some 116) (v := ?_) (a' := ?_) #[true, true, true, true, true, true, true, true, true, true, true, true, true, true, true, true, true, true, true, true, true, true, true, true, true, false] rfl rfl (any_of HT_.out (by kernel_rfl)) (fun _ _ _ h => h) (Or.inl ⟨by rfl, ?_⟩) ?_ ?_; rotate_left
             ·intro w'
              go_simp
              with_reducible rfl
             rotate_left
             ·simp only [Act.put, List.setIfInBounds_toArray, List.set_cons_zero, List.set_cons_succ, i64_w, i32_w]; rfl
             refine pure_ (i := 25) (N := some 117) (v := ?_) (a' := ?_) #[true, true, true, true, true, true, true, true, true, true, true, true, true, true, true, true, true, true, true, true, true, true, true, true, true, true] rfl rfl (any_of HT_.out (by kernel_rfl)) (fun _ _ _ h => h) (Or.inl ⟨by rfl, ?_⟩) ?_ ?_; rotate_left
             ·intro w'
              go_simp
              with_reducible rfl
             rotate_left
             ·simp only [Act.put, List.setIfInBounds_toArray, List.set_cons_zero, List.set_cons_succ, i64_w, i32_w]; rfl
             refine done_ (done_of HT_.out (by kernel_rfl)) ?_; try go_wp2
             go_roundg k3
             case measure => have := HJ3.out; have := HK2.out; have := HK3.out; omega
             case rel => exact ⟨(x8_3), (x341000_3), (x341001_3), (x341002_3), (x341003_3), (x341004_3), (x341005_3), (x341006_3), (x341007_3), (x341008_3), (x341009_3), (u341009), H', ⟨by have := HJ3.out; have := HK2.out; have := HK3.out; omega⟩, ⟨by (with_reducible repeat (first | apply Kd.V_alloc | apply Kd.V_drewN | apply Kd.V_drew)); exact HO_8.out⟩, ⟨by (with_reducible repeat (first | apply Kd.V_alloc | apply Kd.V_drewN | apply Kd.V_drew)); exact HO_341009.out⟩, ⟨by (with_reducible repeat (first | refine blk_drewN ?_ _ | refine blk_drew ?_ | refine blk_alloc ?_ _)); exact BK332.out⟩, ⟨by (with_reducible repeat (first | refine blk_drewN ?_ _ | refine blk_drew ?_ | refine blk_alloc ?_ _)); exact BK340.out⟩, ⟨by repeat (first | (with_reducible first | exact HB.out | apply below_alloc | apply pw_below_drewN | apply below_drew1 | refine below_set ?_ GE332.out | refine below_set ?_ GE340.out) | exact HB.out)⟩⟩
            ·rw [if_neg c71] at H; have c71b0 : (x341008_3 == 0) = false := beq_eq_false_iff_ne.mpr c71; have c71b1 : (x341008_3 != 0) = true := bne_iff_ne.mpr c71; have c71b9 : ((rd x8_3 t365) != 0) = true := (by have q := c70b0; rw [c71b1] at q; simpa using q); replace H := Option.bind_eq_some_iff.mp H; obtain ⟨t367, A770, H⟩ := H; replace H : (if 0 ≤ t367 then (if t367 < (x8_3.length : Int) then (if (rd x8_3 t367) = (IntKind.u64.wrap ((Int.tmod a2 1000) + 1)) then (treillagelaw17_ClientEnds.l0 k3 l0 a2 x8_3 1 1 x341000_3 x341001_3 x341002_3 x341003_3 x341004_3 x341005_3 x341006_3 x341007_3 x341008_3 x341009_3) else (some false)) else (none)) else (none)) = some r := H; have A77 := aA A770; clear A770; by_cases c78 : 0 ≤ t367
             rotate_left
             ·rw [if_neg c78] at H; exact absurd H (by simp)
             rw [if_pos c78] at H; have c78b0 : decide (0 ≤ t367) = true := decide_eq_true c78; clear c78; by_cases c79 : t367 < (x8_3.length : Int)
             rotate_left
             ·rw [if_neg c79] at H; exact absurd H (by simp)
             rw [if_pos c79] at H; have c79b0 : decide (t367 < (x8_3.length : Int)) = true := decide_eq_true c79; clear c79; by_cases c80 : (rd x8_3 t367) = (IntKind.u64.wrap ((Int.tmod a2 1000) + 1))
             ·rw [if_pos c80] at H; have c80b0 : ((rd x8_3 t367) == (IntKind.u64.wrap ((Int.tmod a2 1000) + 1))) = true := beq_iff_eq.mpr c80; have c80b1 : ((rd x8_3 t367) != (IntKind.u64.wrap ((Int.tmod a2 1000) + 1))) = false := bne_eq_false_iff_eq.mpr c80; clear c80; have H' := aA H; clear H; have hnb81 := NB340_332.out; have hnc81 := NB332_340.out; have hcz82_0 : wr.cell? ⟨gb340, 0, none⟩ = some (.int .i64 x341000_3) := (blk_cell BK340.out 0).trans rfl; have hcz82_1 : wr.cell? ⟨gb340, 1, none⟩ = some (.int .i64 x341001_3) := (blk_cell BK340.out 1).trans rfl; have hcz82_2 : wr.cell? ⟨gb340, 2, none⟩ = some (.int .i64 x341002_3) := (blk_cell BK340.out 2).trans rfl; have hcz82_3 : wr.cell? ⟨gb340, 3, none⟩ = some (.int .i64 x341003_3) := (blk_cell BK340.out 3).trans rfl; have hcz82_4 : wr.cell? ⟨gb340, 4, none⟩ = some (.int .u64 x341004_3) := (blk_cell BK340.out 4).trans rfl; have hcz82_5 : wr.cell? ⟨gb340, 5, none⟩ = some (.int .u64 x341005_3) := (blk_cell BK340.out 5).trans rfl; have hcz82_6 : wr.cell? ⟨gb340, 6, none⟩ = some (.int .u64 x341006_3) := (blk_cell BK340.out 6).trans rfl; have hcz82_7 : wr.cell? ⟨gb340, 7, none⟩ = some (.int .u64 x341007_3) := (blk_cell BK340.out 7).trans rfl; have hcz82_8 : wr.cell? ⟨gb340, 8, none⟩ = some (.int .u64 x341008_3) := (blk_cell BK340.out 8).trans rfl; have hcz82_9 : wr.cell? ⟨gb340, 9, none⟩ = some (u341009) := (blk_cell BK340.out 9).trans rfl; have hfz82_0 := blk_frozen BK340.out 0; have hfz82_1 := blk_frozen BK340.out 1; have hfz82_2 := blk_frozen BK340.out 2; have hfz82_3 := blk_frozen BK340.out 3; have hfz82_4 := blk_frozen BK340.out 4; have hfz82_5 := blk_frozen BK340.out 5; have hfz82_6 := blk_frozen BK340.out 6; have hfz82_7 := blk_frozen BK340.out 7; have hfz82_8 := blk_frozen BK340.out 8; have hfz82_9 := blk_frozen BK340.out 9; try go_wp2
              have n0_ := aA (Kd.V_drew HO_8.out); have n1_ := aA (Kd.V_drew HO_341009.out); have n2_ := aA (blk_drew BK332.out); have n3_ := aA (blk_drew BK340.out); have n4_ := aA (below_drew1 HB.out); clear HO_8; clear HO_341009; clear BK332; clear BK340; clear HB; have HO_8 := n0_; have HO_341009 := n1_; have BK332 := n2_; have BK340 := n3_; have HB := n4_; clear n0_ n1_ n2_ n3_ n4_; obtain ⟨Ao992, co992, eo992⟩ := Kd.V_slice HO_8.out; subst eo992; have p366 : 0 ≤ (t365 : Int) := of_decide_eq_true (by first | (with_reducible assumption) | assumption); have q366 : t365 < (x8_3.length : Int) := of_decide_eq_true (by first | (with_reducible assumption) | assumption); obtain ⟨ad366, e366, hx366_0⟩ := Kd.at_int (Kd.V_reads' HO_8.out).2.2 t365 p366 q366; cases e366
              replace p366 := eq_true p366; replace q366 := eq_true q366; have p368 : 0 ≤ (t367 : Int) := of_decide_eq_true (by first | (with_reducible assumption) | assumption); have q368 : t367 < (x8_3.length : Int) := of_decide_eq_true (by first | (with_reducible assumption) | assumption); obtain ⟨ad368, e368, hx368_0⟩ := Kd.at_int (Kd.V_reads' HO_8.out).2.2 t367 p368 q368; obtain rfl : ad366 = ad368 := (by injection e368); replace p368 := eq_true p368; replace q368 := eq_true q368; refine start_ (n := 26) (S := fun w' => w'.cell? ⟨gb340, 0, none⟩ = some (.int .i64 x341000_3) ∧ w'.cell? ⟨gb340, 1, none⟩ = some (.int .i64 x341001_3) ∧ w'.cell? ⟨gb340, 2, none⟩ = some (.int .i64 x341002_3) ∧ w'.cell? ⟨gb340, 3, none⟩ = some (.int .i64 x341003_3) ∧ w'.cell? ⟨gb340, 4, none⟩ = some (.int .u64 x341004_3) ∧ w'.cell? ⟨gb340, 5, none⟩ = some (.int .u64 x341005_3) ∧ w'.cell? ⟨gb340, 6, none⟩ = some (.int .u64 x341006_3) ∧ w'.cell? ⟨gb340, 7, none⟩ = some (.int .u64 x341007_3) ∧ w'.cell? ⟨gb340, 8, none⟩ = some (.int .u64 x341008_3) ∧ w'.cell? ⟨gb340, 9, none⟩ = some (u341009) ∧ w'.cell? ⟨gb332, 0, none⟩ = some (.int .i64 1) ∧ w'.cell? ⟨gb332, 1, none⟩ = some (.int .i64 1) ∧ w'.cell? (ad366.add (t365).toNat) = some (.int .u64 (rd x8_3 t365)) ∧ w'.cell? (ad366.add (t367).toNat) = some (.int .u64 (rd x8_3 t367))) (ds := []) #[false, false, false, false, false, false, false, false, false, false, false, false, false, false, false, false, false, false, false, false, false, false, false, false, false, false] (by kernel_rfl) rfl rfl ⟨(blk_cell BK340.out 0).trans rfl, (blk_cell BK340.out 1).trans rfl, (blk_cell BK340.out 2).trans rfl, (blk_cell BK340.out 3).trans rfl, (blk_cell BK340.out 4).trans rfl, (blk_cell BK340.out 5).trans rfl, (blk_cell BK340.out 6).trans rfl, (blk_cell BK340.out 7).trans rfl, (blk_cell BK340.out 8).trans rfl, (blk_cell BK340.out 9).trans rfl, (blk_cell BK332.out 0).trans rfl, (blk_cell BK332.out 1).trans rfl, hx366_0, hx368_0⟩ (fun hHeld => ?_); refine with_tabW treillagelaw17_ClientEnds.tab21 treillagelaw17_ClientEnds.bits21 (fun HT_ HW_ => ?_); generalize wr.drew = w83 at HO_8 HO_341009 BK332 BK340 HB hx366_0 hx368_0 hHeld ⊢; refine pure_ (i := 0) (N := some 92) (v := ?_) (a' := ?_) #[true, false, false, false, false, false, false, false, false, false, false, false, false, false, false, false, false, false, false, false, false, false, false, false, false, false] rfl rfl (any_of HT_.out (by kernel_rfl)) (fun _ _ _ h => h) (Or.inl ⟨by rfl, ?_⟩) ?_ ?_; rotate_left
              ·intro w'
               go_simp
               with_reducible rfl
              rotate_left
              ·simp only [Act.put, List.setIfInBounds_toArray, List.set_cons_zero, List.set_cons_succ, i64_w, i32_w]; rfl
              refine pure_ (i := 3) (N := some 95) (v := ?_) (a' := ?_) #[true, false, false, true, false, false, false, false, false, false, false, false, false, false, false, false, false, false, false, false, false, false, false, false, false, false] rfl rfl (any_of HT_.out (by kernel_rfl)) (fun _ _ _ h => h) (Or.inl ⟨by rfl, ?_⟩) ?_ ?_; rotate_left
              ·intro w'
               go_simp
               with_reducible rfl
              rotate_left
              ·simp only [Act.put, List.setIfInBounds_toArray, List.set_cons_zero, List.set_cons_succ, i64_w, i32_w]; rfl
              refine take_ (i := 1) (N := some 93) (v := ?_) (a' := ?_) #[true, true, false, true, false, false, false, false, false, false, false, false, false, false, false, false, false, false, false, false, false, false, false, false, false, false] rfl rfl (take_ofW HT_.out HW_.out (by kernel_rfl)) (fun _ _ _ h => h) (Or.inl ⟨by rfl, ?_⟩) hHeld ?_ ?_; rotate_left
              ·rintro w' ⟨s0, s1, s2, s3, s4, s5, s6, s7, s8, s9, s10, s11, s12, s13⟩
               go_simp
               with_reducible rfl
              rotate_left
              ·simp only [Act.put, List.setIfInBounds_toArray, List.set_cons_zero, List.set_cons_succ, i64_w, i32_w]; rfl
              refine pure_ (i := 2) (N := some 94) (v := ?_) (a' := ?_) #[true, true, true, true, false, false, false, false, false, false, false, false, false, false, false, false, false, false, false, false, false, false, false, false, false, false] rfl rfl (any_of HT_.out (by kernel_rfl)) (fun _ _ _ h => h) (Or.inl ⟨by rfl, ?_⟩) ?_ ?_; rotate_left
              ·intro w'
               go_simp
               with_reducible rfl
              rotate_left
              ·simp only [Act.put, List.setIfInBounds_toArray, List.set_cons_zero, List.set_cons_succ, i64_w, i32_w]; rfl
              refine take_ (i := 4) (N := some 96) (v := ?_) (a' := ?_) #[true, true, true, true, true, false, false, false, false, false, false, false, false, false, false, false, false, false, false, false, false, false, false, false, false, false] rfl rfl (take_ofW HT_.out HW_.out (by kernel_rfl)) (fun _ _ _ h => h) (Or.inl ⟨by rfl, ?_⟩) hHeld ?_ ?_; rotate_left
              ·rintro w' ⟨s0, s1, s2, s3, s4, s5, s6, s7, s8, s9, s10, s11, s12, s13⟩
               go_simp
               with_reducible rfl
              rotate_left
              ·simp only [Act.put, List.setIfInBounds_toArray, List.set_cons_zero, List.set_cons_succ, i64_w, i32_w]; rfl
              refine one_ (i := 5) (N := some 97) #[true, true, true, true, true, true, false, false, false, false, false, false, false, false, false, false, false, false, false, false, false, false, false, false, false, false] rfl rfl (one_of HT_.out (by kernel_rfl)) (by decide) (fun K hK => ?_); refine goes_ Try.func19 (by kernel_rfl) rfl #[.agg #[.int .i64 1, .int .i64 1], .int .i64 0] (by rfl) rfl rfl (by (try simp only [List.map_toArray, List.map_cons, List.map_nil]); first | done | rfl | (simp only [List.length_drop, List.length_take]; rfl)) ?_; with_reducible refine (mem_Pin.calls 1 1 0 t365 _ A67.out).mono ?_
              rintro e w84 ⟨rfl, hb⟩
              have HS12_ := (hb.cell (World.block_lt_of_cell? _ _ (hHeld.2.2.2.2.2.2.2.2.2.2.2.2.1))).trans (hHeld.2.2.2.2.2.2.2.2.2.2.2.2.1); have HS13_ := (hb.cell (World.block_lt_of_cell? _ _ (hHeld.2.2.2.2.2.2.2.2.2.2.2.2.2))).trans (hHeld.2.2.2.2.2.2.2.2.2.2.2.2.2); refine ⟨_, rfl, ?_⟩; have n0_ := aA (Kd.V_below (vlu HO_8.out) hb); have n1_ := aA (Kd.V_below (vlu HO_341009.out) hb); have n2_ := aA (blk_below (g := gb332) (o := .cells #[.int .i64 1, .int .i64 1] 31 (0, 0)) (bku BK332.out) hb); have n3_ := aA (blk_below (g := gb340) (o := .cells #[.int .i64 x341000_3, .int .i64 x341001_3, .int .i64 x341002_3, .int .i64 x341003_3, .int .u64 x341004_3, .int .u64 x341005_3, .int .u64 x341006_3, .int .u64 x341007_3, .int .u64 x341008_3, u341009] 39 (0, 0)) (bku BK340.out) hb); have n4_ := aA (below_step (bls HB.out) hb); clear HO_8; clear HO_341009; clear BK332; clear BK340; clear HB; have HO_8 := n0_; have HO_341009 := n1_; have BK332 := n2_; have BK340 := n3_; have HB := n4_; clear n0_ n1_ n2_ n3_ n4_; (try clear hb); (try clear hb2); (try clear hk); (try clear hi); obtain ⟨Ao85, co85, eo85⟩ := Kd.V_slice HO_8.out; (first | subst eo85 | (injection eo85 with f1_ f2_ f3_; have f4_ := f1_.symm; have f5_ := f3_.symm; clear f1_ f2_ f3_; subst f4_; subst f5_))
              refine hK.out _ _ ⟨(blk_cell BK340.out 0).trans rfl, (blk_cell BK340.out 1).trans rfl, (blk_cell BK340.out 2).trans rfl, (blk_cell BK340.out 3).trans rfl, (blk_cell BK340.out 4).trans rfl, (blk_cell BK340.out 5).trans rfl, (blk_cell BK340.out 6).trans rfl, (blk_cell BK340.out 7).trans rfl, (blk_cell BK340.out 8).trans rfl, (blk_cell BK340.out 9).trans rfl, (blk_cell BK332.out 0).trans rfl, (blk_cell BK332.out 1).trans rfl, HS12_, HS13_⟩ (fun hHeld => ?_); clear hK K; refine norm_ (a' := ?_) ?_ ?_; rotate_left
              ·show Act.put _ (some 97) _ = _
               simp only [Act.put, List.setIfInBounds_toArray, List.set_cons_zero, List.set_cons_succ, i64_w, i32_w]; rfl
              refine pure_ (i := 6) (N := some 98) (v := ?_) (a' := ?_) #[true, true, true, true, true, true, true, false, false, false, false, false, false, false, false, false, false, false, false, false, false, false, false, false, false, false] rfl rfl (any_of HT_.out (by kernel_rfl)) (fun _ _ _ h => h) (Or.inl ⟨by rfl, ?_⟩) ?_ ?_; rotate_left
              ·intro w'
               go_simp
               with_reducible rfl
              rotate_left
              ·simp only [Act.put, List.setIfInBounds_toArray, List.set_cons_zero, List.set_cons_succ, i64_w, i32_w]; rfl
              refine take_ (i := 7) (N := some 99) (v := ?_) (a' := ?_) #[true, true, true, true, true, true, true, true, false, false, false, false, false, false, false, false, false, false, false, false, false, false, false, false, false, false] rfl rfl (take_ofW HT_.out HW_.out (by kernel_rfl)) (fun _ _ _ h => h) (Or.inl ⟨by rfl, ?_⟩) hHeld ?_ ?_; rotate_left
              ·rintro w' ⟨s0, s1, s2, s3, s4, s5, s6, s7, s8, s9, s10, s11, s12, s13⟩
               go_simp
               with_reducible rfl
              rotate_left
              ·simp only [Act.put, List.setIfInBounds_toArray, List.set_cons_zero, List.set_cons_succ, i64_w, i32_w]; rfl
              refine pure_ (i := 8) (N := some 100) (v := ?_) (a' := ?_) #[true, true, true, true, true, true, true, true, true, false, false, false, false, false, false, false, false, false, false, false, false, false, false, false, false, false] rfl rfl (any_of HT_.out (by kernel_rfl)) (fun _ _ _ h => h) (Or.inl ⟨by rfl, ?_⟩) ?_ ?_; rotate_left
              ·intro w'
               go_simp
               with_reducible rfl
              rotate_left
              ·simp only [Act.put, List.setIfInBounds_toArray, List.set_cons_zero, List.set_cons_succ, i64_w, i32_w]; rfl
              refine pure_ (i := 9) (N := some 101) (v := ?_) (a' := ?_) #[true, true, true, true, true, true, true, true, true, true, false, false, false, false, false, false, false, false, false, false, false, false, false, false, false, false] rfl rfl (any_of HT_.out (by kernel_rfl)) (fun _ _ _ h => h) (Or.inl ⟨by rfl, ?_⟩) ?_ ?_; rotate_left
              ·intro w'
               go_simp
               with_reducible rfl
              rotate_left
              ·simp only [Act.put, List.setIfInBounds_toArray, List.set_cons_zero, List.set_cons_succ, i64_w, i32_w]; rfl
              refine pure_ (i := 10) (N := some 102) (v := ?_) (a' := ?_) #[true, true, true, true, true, true, true, true, true, true, true, false, false, false, false, false, false, false, false, false, false, false, false, false, false, false] rfl rfl (any_of HT_.out (by kernel_rfl)) (fun _ _ _ h => h) (Or.inl ⟨by rfl, ?_⟩) ?_ ?_; rotate_left
              ·intro w'
               go_simp
               with_reducible rfl
              rotate_left
              ·simp only [Act.put, List.setIfInBounds_toArray, List.set_cons_zero, List.set_cons_succ, i64_w, i32_w]; rfl
              refine pure_ (i := 11) (N := some 103) (v := ?_) (a' := ?_) #[true, true, true, true, true, true, true, true, true, true, true, true, false, false, false, false, false, false, false, false, false, false, false, false, false, false] rfl rfl (any_of HT_.out (by kernel_rfl)) (fun _ _ _ h => h) (Or.inl ⟨by rfl, ?_⟩) ?_ ?_; rotate_left
              ·intro w'
               go_simp
               with_reducible rfl
              rotate_left
              ·simp only [Act.put, List.setIfInBounds_toArray, List.set_cons_zero, List.set_cons_succ, i64_w, i32_w]; rfl
              refine take_ (i := 12) (N := some 104) (v := ?_) (a' := ?_) #[true, true, true, true, true, true, true, true, true, true, true, true, true, false, false, false, false, false, false, false, false, false, false, false, false, false] rfl rfl (take_ofW HT_.out HW_.out (by kernel_rfl)) (fun _ _ _ h => h) (Or.inl ⟨by rfl, ?_⟩) hHeld ?_ ?_; rotate_left
              ·rintro w' ⟨s0, s1, s2, s3, s4, s5, s6, s7, s8, s9, s10, s11, s12, s13⟩
               go_simp
               with_reducible rfl
              rotate_left
              ·simp only [Act.put, List.setIfInBounds_toArray, List.set_cons_zero, List.set_cons_succ, i64_w, i32_w]; rfl
              refine pure_ (i := 13) (N := some 105) (v := ?_) (a' := ?_) #[true, true, true, true, true, true, true, true, true, true, true, true, true, true, false, false, false, false, false, false, false, false, false, false, false, false] rfl rfl (any_of HT_.out (by kernel_rfl)) (fun _ _ _ h => h) (Or.inl ⟨by rfl, ?_⟩) ?_ ?_; rotate_left
              ·intro w'
               go_simp
               with_reducible rfl
              rotate_left
              ·simp only [Act.put, List.setIfInBounds_toArray, List.set_cons_zero, List.set_cons_succ, i64_w, i32_w]; rfl
              refine pure_ (i := 14) (N := some 106) (v := ?_) (a' := ?_) #[true, true, true, true, true, true, true, true, true, true, true, true, true, true, true, false, false, false, false, false, false, false, false, false, false, false] rfl rfl (any_of HT_.out (by kernel_rfl)) (fun _ _ _ h => h) (Or.inl ⟨by rfl, ?_⟩) ?_ ?_; rotate_left
              ·intro w'
               go_simp
               with_reducible rfl
              rotate_left
              ·simp only [Act.put, List.setIfInBounds_toArray, List.set_cons_zero, List.set_cons_succ, i64_w, i32_w]; rfl
              refine pure_ (i := 15) (N := some 107) (v := ?_) (a' := ?_) #[true, true, true, true, true, true, true, true, true, true, true, true, true, true, true, true, false, false, false, false, false, false, false, false, false, false] rfl rfl (any_of HT_.out (by kernel_rfl)) (fun _ _ _ h => h) (Or.inl ⟨by rfl, ?_⟩) ?_ ?_; rotate_left
              ·intro w'
               go_simp
               with_reducible rfl
              rotate_left
              ·simp only [Act.put, List.setIfInBounds_toArray, List.set_cons_zero, List.set_cons_succ, i64_w, i32_w]; rfl
              refine pure_ (i := 20) (N := some 112) (v := ?_) (a' := ?_) #[true, true, true, true, true, true, true, true, true, true, true, true, true, true, true, true, false, false, false, false, true, false, false, false, false, false] rfl rfl (any_of HT_.out (by kernel_rfl)) (fun _ _ _ h => h) (Or.inl ⟨by rfl, ?_⟩) ?_ ?_; rotate_left
              ·intro w'
               go_simp
               with_reducible rfl
              rotate_left
              ·simp only [Act.put, List.setIfInBounds_toArray, List.set_cons_zero, List.set_cons_succ, i64_w, i32_w]; rfl
              refine pure_ (i := 21) (N := some 113) (v := ?_) (a' := ?_) #[true, true, true, true, true, true, true, true, true, true, true, true, true, true, true, true, false, false, false, false, true, true, false, false, false, false] rfl rfl (any_of HT_.out (by kernel_rfl)) (fun _ _ _ h => h) (Or.inl ⟨by rfl, ?_⟩) ?_ ?_; rotate_left
              ·intro w'
               go_simp
               with_reducible rfl
              rotate_left
              ·simp only [Act.put, List.setIfInBounds_toArray, List.set_cons_zero, List.set_cons_succ, i64_w, i32_w]; rfl
              refine pure_ (i := 22) (N := some 114) (v := ?_) (a' := ?_) #[true, true, true, true, true, true, true, true, true, true, true, true, true, true, true, true, false, false, false, false, true, true, true, false, false, false] rfl rfl (any_of HT_.out (by kernel_rfl)) (fun _ _ _ h => h) (Or.inl ⟨by rfl, ?_⟩) ?_ ?_; rotate_left
              ·intro w'
               go_simp
               with_reducible rfl
              rotate_left
              ·simp only [Act.put, List.setIfInBounds_toArray, List.set_cons_zero, List.set_cons_succ, i64_w, i32_w]; rfl
              refine take_ (i := 16) (N := some 108) (v := ?_) (a' := ?_) #[true, true, true, true, true, true, true, true, true, true, true, true, true, true, true, true, true, false, false, false, true, true, true, false, false, false] rfl rfl (take_ofW HT_.out HW_.out (by kernel_rfl)) (fun _ _ _ h => h) (Or.inl ⟨by rfl, ?_⟩) hHeld ?_ ?_; rotate_left
              ·rintro w' ⟨s0, s1, s2, s3, s4, s5, s6, s7, s8, s9, s10, s11, s12, s13⟩
               go_simp
               with_reducible rfl
              rotate_left
              ·simp only [Act.put, List.setIfInBounds_toArray, List.set_cons_zero, List.set_cons_succ, i64_w, i32_w]; rfl
              refine one_ (i := 17) (N := some 109) #[true, true, true, true, true, true, true, true, true, true, true, true, true, true, true, true, true, true, false, false, true, true, true, false, false, false] rfl rfl (one_of HT_.out (by kernel_rfl)) (by decide) (fun K hK => ?_); refine goes_ Try.func19 (by kernel_rfl) rfl #[.agg #[.int .i64 1, .int .i64 1], .int .i64 0] (by rfl) rfl rfl (by (try simp only [List.map_toArray, List.map_cons, List.map_nil]); first | done | rfl | (simp only [List.length_drop, List.length_take]; rfl)) ?_; with_reducible refine (mem_Pin.calls 1 1 0 t367 _ A77.out).mono ?_
              rintro e w86 ⟨rfl, hb⟩
              have HS12_ := (hb.cell (World.block_lt_of_cell? _ _ (hHeld.2.2.2.2.2.2.2.2.2.2.2.2.1))).trans (hHeld.2.2.2.2.2.2.2.2.2.2.2.2.1); have HS13_ := (hb.cell (World.block_lt_of_cell? _ _ (hHeld.2.2.2.2.2.2.2.2.2.2.2.2.2))).trans (hHeld.2.2.2.2.2.2.2.2.2.2.2.2.2); refine ⟨_, rfl, ?_⟩; have n0_ := aA (Kd.V_below (vlu HO_8.out) hb); have n1_ := aA (Kd.V_below (vlu HO_341009.out) hb); have n2_ := aA (blk_below (g := gb332) (o := .cells #[.int .i64 1, .int .i64 1] 31 (0, 0)) (bku BK332.out) hb); have n3_ := aA (blk_below (g := gb340) (o := .cells #[.int .i64 x341000_3, .int .i64 x341001_3, .int .i64 x341002_3, .int .i64 x341003_3, .int .u64 x341004_3, .int .u64 x341005_3, .int .u64 x341006_3, .int .u64 x341007_3, .int .u64 x341008_3, u341009] 39 (0, 0)) (bku BK340.out) hb); have n4_ := aA (below_step (bls HB.out) hb); clear HO_8; clear HO_341009; clear BK332; clear BK340; clear HB; have HO_8 := n0_; have HO_341009 := n1_; have BK332 := n2_; have BK340 := n3_; have HB := n4_; clear n0_ n1_ n2_ n3_ n4_; (try clear hb); (try clear hb2); (try clear hk); (try clear hi); refine hK.out _ _ ⟨(blk_cell BK340.out 0).trans rfl, (blk_cell BK340.out 1).trans rfl, (blk_cell BK340.out 2).trans rfl, (blk_cell BK340.out 3).trans rfl, (blk_cell BK340.out 4).trans rfl, (blk_cell BK340.out 5).trans rfl, (blk_cell BK340.out 6).trans rfl, (blk_cell BK340.out 7).trans rfl, (blk_cell BK340.out 8).trans rfl, (blk_cell BK340.out 9).trans rfl, (blk_cell BK332.out 0).trans rfl, (blk_cell BK332.out 1).trans rfl, HS12_, HS13_⟩ (fun hHeld => ?_); clear hK K; refine norm_ (a' := ?_) ?_ ?_; rotate_left
              ·show Act.put _ (some 109) _ = _
               simp only [Act.put, List.setIfInBounds_toArray, List.set_cons_zero, List.set_cons_succ, i64_w, i32_w]; rfl
              refine pure_ (i := 18) (N := some 110) (v := ?_) (a' := ?_) #[true, true, true, true, true, true, true, true, true, true, true, true, true, true, true, true, true, true, true, false, true, true, true, false, false, false] rfl rfl (any_of HT_.out (by kernel_rfl)) (fun _ _ _ h => h) (Or.inl ⟨by rfl, ?_⟩) ?_ ?_; rotate_left
              ·intro w'
               go_simp
               with_reducible rfl
              rotate_left
              ·simp only [Act.put, List.setIfInBounds_toArray, List.set_cons_zero, List.set_cons_succ, i64_w, i32_w]; rfl
              refine take_ (i := 19) (N := some 111) (v := ?_) (a' := ?_) #[true, true, true, true, true, true, true, true, true, true, true, true, true, true, true, true, true, true, true, true, true, true, true, false, false, false] rfl rfl (take_ofW HT_.out HW_.out (by kernel_rfl)) (fun _ _ _ h => h) (Or.inl ⟨by rfl, ?_⟩) hHeld ?_ ?_; rotate_left
              ·rintro w' ⟨s0, s1, s2, s3, s4, s5, s6, s7, s8, s9, s10, s11, s12, s13⟩
               go_simp
               with_reducible rfl
              rotate_left
              ·simp only [Act.put, List.setIfInBounds_toArray, List.set_cons_zero, List.set_cons_succ, i64_w, i32_w]; rfl
              refine pure_ (i := 23) (N := some 115) (v := ?_) (a' := ?_) #[true, true, true, true, true, true, true, true, true, true, true, true, true, true, true, true, true, true, true, true, true, true, true, true, false, false] rfl rfl (any_of HT_.out (by kernel_rfl)) (fun _ _ _ h => h) (Or.inl ⟨by rfl, ?_⟩) ?_ ?_; rotate_left
              ·intro w'
               go_simp
               with_reducible rfl
              rotate_left
              ·simp only [Act.put, List.setIfInBounds_toArray, List.set_cons_zero, List.set_cons_succ, i64_w, i32_w]; rfl
              refine pure_ (i := 24) (N := some 116) (v := ?_) (a' := ?_) #[true, true, true, true, true, true, true, true, true, true, true, true, true, true, true, true, true, true, true, true, true, true, true, true, true, false] rfl rfl (any_of HT_.out (by kernel_rfl)) (fun _ _ _ h => h) (Or.inl ⟨by rfl, ?_⟩) ?_ ?_; rotate_left
              ·intro w'
               go_simp
               with_reducible rfl
              rotate_left
              ·simp only [Act.put, List.setIfInBounds_toArray, List.set_cons_zero, List.set_cons_succ, i64_w, i32_w]; rfl
              refine pure_ (i := 25) (N := some 117) (v := ?_) (a' := ?_) #[true, true, true, true, true, true, true, true, true, true, true, true, true, true, true, true, true, true, true, true, true, true, true, true, true, true] rfl rfl (any_of HT_.out (by kernel_rfl)) (fun _ _ _ h => h) (Or.inl ⟨by rfl, ?_⟩) ?_ ?_; rotate_left
              ·intro w'
               go_simp
               with_reducible rfl
              rotate_left
              ·simp only [Act.put, List.setIfInBounds_toArray, List.set_cons_zero, List.set_cons_succ, i64_w, i32_w]; rfl
              refine done_ (done_of HT_.out (by kernel_rfl)) ?_; try go_wp2
              go_roundg k3
              case measure => have := HJ3.out; have := HK2.out; have := HK3.out; omega
              case rel => exact ⟨(x8_3), (x341000_3), (x341001_3), (x341002_3), (x341003_3), (x341004_3), (x341005_3), (x341006_3), (x341007_3), (x341008_3), (x341009_3), (u341009), H', ⟨by have := HJ3.out; have := HK2.out; have := HK3.out; omega⟩, ⟨by (with_reducible repeat (first | apply Kd.V_alloc | apply Kd.V_drewN | apply Kd.V_drew)); exact HO_8.out⟩, ⟨by (with_reducible repeat (first | apply Kd.V_alloc | apply Kd.V_drewN | apply Kd.V_drew)); exact HO_341009.out⟩, ⟨by (with_reducible repeat (first | refine blk_drewN ?_ _ | refine blk_drew ?_ | refine blk_alloc ?_ _)); exact BK332.out⟩, ⟨by (with_reducible repeat (first | refine blk_drewN ?_ _ | refine blk_drew ?_ | refine blk_alloc ?_ _)); exact BK340.out⟩, ⟨by repeat (first | (with_reducible first | exact HB.out | apply below_alloc | apply pw_below_drewN | apply below_drew1 | refine below_set ?_ GE332.out | refine below_set ?_ GE340.out) | exact HB.out)⟩⟩
             ·rw [if_neg c80] at H; have c80b0 : ((rd x8_3 t367) == (IntKind.u64.wrap ((Int.tmod a2 1000) + 1))) = false := beq_eq_false_iff_ne.mpr c80; have c80b1 : ((rd x8_3 t367) != (IntKind.u64.wrap ((Int.tmod a2 1000) + 1))) = true := bne_iff_ne.mpr c80; exact absurd ((Option.some.inj H).trans hr_) (by decide)
      ·rw [if_neg c35] at H; have c35b0 : decide (x341001_2 < (l0.length : Int)) = false := decide_eq_false c35; clear c35; obtain rfl := Option.some.inj H; have hnb87 := NB340_332.out; have hnc87 := NB332_340.out; have hcz88_0 : wr.cell? ⟨gb340, 0, none⟩ = some (.int .i64 x341000_2) := (blk_cell BK340.out 0).trans rfl; have hcz88_1 : wr.cell? ⟨gb340, 1, none⟩ = some (.int .i64 x341001_2) := (blk_cell BK340.out 1).trans rfl; have hcz88_2 : wr.cell? ⟨gb340, 2, none⟩ = some (.int .i64 x341002_2) := (blk_cell BK340.out 2).trans rfl; have hcz88_3 : wr.cell? ⟨gb340, 3, none⟩ = some (.int .i64 x341003_2) := (blk_cell BK340.out 3).trans rfl; have hcz88_4 : wr.cell? ⟨gb340, 4, none⟩ = some (.int .u64 x341004_2) := (blk_cell BK340.out 4).trans rfl; have hcz88_5 : wr.cell? ⟨gb340, 5, none⟩ = some (.int .u64 x341005_2) := (blk_cell BK340.out 5).trans rfl; have hcz88_6 : wr.cell? ⟨gb340, 6, none⟩ = some (.int .u64 x341006_2) := (blk_cell BK340.out 6).trans rfl; have hcz88_7 : wr.cell? ⟨gb340, 7, none⟩ = some (.int .u64 x341007_2) := (blk_cell BK340.out 7).trans rfl; have hcz88_8 : wr.cell? ⟨gb340, 8, none⟩ = some (.int .u64 x341008_2) := (blk_cell BK340.out 8).trans rfl; have hcz88_9 : wr.cell? ⟨gb340, 9, none⟩ = some (u341009) := (blk_cell BK340.out 9).trans rfl; have hfz88_0 := blk_frozen BK340.out 0; have hfz88_1 := blk_frozen BK340.out 1; have hfz88_2 := blk_frozen BK340.out 2; have hfz88_3 := blk_frozen BK340.out 3; have hfz88_4 := blk_frozen BK340.out 4; have hfz88_5 := blk_frozen BK340.out 5; have hfz88_6 := blk_frozen BK340.out 6; have hfz88_7 := blk_frozen BK340.out 7; have hfz88_8 := blk_frozen BK340.out 8; have hfz88_9 := blk_frozen BK340.out 9; obtain ⟨Ao89, co89, eo89⟩ := Kd.V_slice HO_341009.out; subst eo89; go_wp2; go_ret
       exact ⟨by first | rfl | (simp [errW_none, errW_some] <;> rfl) | (simp [*, errW_none, errW_some] <;> rfl), by repeat (first | (with_reducible first | exact HB.out | apply below_alloc | apply pw_below_drewN | apply below_drew1 | refine below_set ?_ GE332.out | refine below_set ?_ GE340.out) | exact HB.out)⟩
theorem treillagelaw17_ClientEnds.calls (k : Nat) (A0 : Option Addr) (c0 : Nat) (l0 : List (S44)) (a1 : Int) (a2 : Int) (r : Bool) (w : World) (hr0 : Kd.C k44 w A0 l0.length l0) (hc0 : l0.length ≤ c0) (h : treillagelaw17_ClientEnds.f k l0 a1 a2 = some true) :
  Calls Try.prog 4 #[.slice A0 l0.length c0, .int .u64 a1, .int .u64 a2] w fun e w' => e = .returned (.bool true) ∧ Below w.heap.size w w' := treillagelaw17_ClientEnds.calls1 k A0 c0 l0 a1 a2 true w hr0 hc0 h rfl
end Go.Proofs.Ytieglelnpiogcaa.PB
