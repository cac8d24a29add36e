-- Written by wip/hprint/hprint.py (a program of this session, over the print): not typed by hand
import Derived.Test.YtjiejmkkaekefaaPAx0
import Derived.Test.YtjiejmkkaekefaaPAx3
import Derived.Test.YtjiejmkkaekefaaPAx8
import Derived.Test.YtjiejmkkaekefaaPAx9
namespace Go.Proofs.Ytjiejmkkaekefaa.PA
open Go.RowKit Go.Proofs.YtjiejmkkaekefaaW.PrintWords Go.Proofs.YtjiejmkkaekefaaW.PrintLast Go.Proofs.YtjiejmkkaekefaaW.PrintMore
attribute [local go_sem] max2_int min2_int max_two min_two max_three min_three max_four min_four   -- for this text's walks alone
open Go.Proofs.YtjiejmkkaekefaaH
set_option linter.unusedVariables false
set_option linter.unusedSimpArgs false

/-! ### sel_Print: function 16 -/
mutual
def sel_Print.l0 : Nat → List (List (S46)) → List ByteArray → List (List (S46)) → Int → Int → Option (ByteArray × Int)
 | 0, _, _, _, _, _ => none
 | k + 1, x0, x4, x16, x17, x18 => if x18 < x17 then (if 0 ≤ x18 then (if x18 < (x16.length : Int) then (sel_Print.l1 k x0 x4 (⟨#[]⟩ : ByteArray) x16 x17 x18 (rd_L6 x16 x18) ((rd_L6 x16 x18).length : Int) 0) else (none)) else (none)) else ((strings_Join.f x4 (⟨#[44, 32]⟩ : ByteArray)).bind fun t344 => ((sel_Parse.f k t344).bind fun bt345 => (if bt345.2.2 = 0 then ((sel_Step_25.f k x0 bt345.1).bind fun t350 => (if t350 = true then (some (t344, 0)) else (some ((⟨#[]⟩ : ByteArray), 1)))) else (some ((⟨#[]⟩ : ByteArray), 1)))))
def sel_Print.l1 : Nat → List (List (S46)) → List ByteArray → ByteArray → List (List (S46)) → Int → Int → List (S46) → Int → Int → Option (ByteArray × Int)
 | 0, _, _, _, _, _, _, _, _, _ => none
 | k + 1, x0, x4, x7, x16, x17, x18, x22, x23, x24 => if x24 < x23 then (if 0 ≤ x24 then (if x24 < (x22.length : Int) then (if x24 > 0 then (sel_Print.j2 k x0 x4 x7 x24 x16 x17 x18 x22 x23 x24 ((rd_T46 x22 x24).f1) ((rd_T46 x22 x24).f0) ((rd_T46 x22 x24).f1)) else (sel_Print.j2 k x0 x4 x7 x24 x16 x17 x18 x22 x23 x24 false ((rd_T46 x22 x24).f0) ((rd_T46 x22 x24).f1))) else (none)) else (none)) else (if x4.length < 8796093022208 then (sel_Print.l0 k x0 (x4 ++ [x7]) x16 x17 (wrap64 (x18 + 1))) else (none))
def sel_Print.j3 : Nat → List (List (S46)) → List ByteArray → ByteArray → List (List (S46)) → Int → Int → List (S46) → Int → Int → List (S48) → Bool → Option (ByteArray × Int)
 | 0, _, _, _, _, _, _, _, _, _, _, _ => none
 | k + 1, x0, x4, x7, x16, x17, x18, x22, x23, x24, x341000, x341001 => if (x341000.length : Int) = 0 then (if x7.size + 1 ≤ 9223372036854775807 then (sel_Print.j4 k x0 x4 (x7 ++ (⟨#[42]⟩ : ByteArray)) x16 x17 x18 x22 x23 x24 x341000 x341001) else (none)) else (sel_Print.j4 k x0 x4 x7 x16 x17 x18 x22 x23 x24 x341000 x341001)
def sel_Print.j4 : Nat → List (List (S46)) → List ByteArray → ByteArray → List (List (S46)) → Int → Int → List (S46) → Int → Int → List (S48) → Bool → Option (ByteArray × Int)
 | 0, _, _, _, _, _, _, _, _, _, _, _ => none
 | k + 1, x0, x4, x7, x16, x17, x18, x22, x23, x24, x341000, x341001 => sel_Print.l2 k x0 x4 x7 x16 x17 x18 x22 x23 x24 x341000 (x341000.length : Int) 0
def sel_Print.l2 : Nat → List (List (S46)) → List ByteArray → ByteArray → List (List (S46)) → Int → Int → List (S46) → Int → Int → List (S48) → Int → Int → Option (ByteArray × Int)
 | 0, _, _, _, _, _, _, _, _, _, _, _, _ => none
 | k + 1, x0, x4, x7, x16, x17, x18, x22, x23, x24, x50, x51, x52 => if x52 < x51 then (if 0 ≤ x52 then (if x52 < (x50.length : Int) then ((sel_Test_text.f ((rd_T48 x50 x52).f0) ((rd_T48 x50 x52).f1) ((rd_T48 x50 x52).f2)).bind fun t343 => (if x7.size + t343.size ≤ 9223372036854775807 then (sel_Print.l2 k x0 x4 (x7 ++ t343) x16 x17 x18 x22 x23 x24 x50 x51 (wrap64 (x52 + 1))) else (none))) else (none)) else (none)) else (sel_Print.l1 k x0 x4 x7 x16 x17 x18 x22 x23 (wrap64 (x24 + 1)))
def sel_Print.j2 : Nat → List (List (S46)) → List ByteArray → ByteArray → Int → List (List (S46)) → Int → Int → List (S46) → Int → Int → Bool → List (S48) → Bool → Option (ByteArray × Int)
 | 0, _, _, _, _, _, _, _, _, _, _, _, _, _ => none
 | k + 1, x0, x4, x7, x8, x16, x17, x18, x22, x23, x24, x29, x341000, x341001 => if x29 = true then (if x7.size + 3 ≤ 9223372036854775807 then (sel_Print.j3 k x0 x4 (x7 ++ (⟨#[32, 62, 32]⟩ : ByteArray)) x16 x17 x18 x22 x23 x24 x341000 x341001) else (none)) else (if x8 > 0 then (if x7.size + 1 ≤ 9223372036854775807 then (sel_Print.j3 k x0 x4 (x7 ++ (⟨#[32]⟩ : ByteArray)) x16 x17 x18 x22 x23 x24 x341000 x341001) else (none)) else (sel_Print.j3 k x0 x4 x7 x16 x17 x18 x22 x23 x24 x341000 x341001))
end
def sel_Print.f (k : Nat) (l0 : List (List (S46))) : Option (ByteArray × Int) := sel_Print.l0 k l0 ([] : List ByteArray) l0 (l0.length : Int) 0
theorem sel_Print.mono_l : ∀ k, (∀ y0 y1 y2 y3 y4, LeO (sel_Print.l0 k y0 y1 y2 y3 y4) (sel_Print.l0 (k + 1) y0 y1 y2 y3 y4)) ∧ (∀ y0 y1 y2 y3 y4 y5 y6 y7 y8, LeO (sel_Print.l1 k y0 y1 y2 y3 y4 y5 y6 y7 y8) (sel_Print.l1 (k + 1) y0 y1 y2 y3 y4 y5 y6 y7 y8)) ∧ (∀ y0 y1 y2 y3 y4 y5 y6 y7 y8 y9 y10, LeO (sel_Print.j3 k y0 y1 y2 y3 y4 y5 y6 y7 y8 y9 y10) (sel_Print.j3 (k + 1) y0 y1 y2 y3 y4 y5 y6 y7 y8 y9 y10)) ∧ (∀ y0 y1 y2 y3 y4 y5 y6 y7 y8 y9 y10, LeO (sel_Print.j4 k y0 y1 y2 y3 y4 y5 y6 y7 y8 y9 y10) (sel_Print.j4 (k + 1) y0 y1 y2 y3 y4 y5 y6 y7 y8 y9 y10)) ∧ (∀ y0 y1 y2 y3 y4 y5 y6 y7 y8 y9 y10 y11, LeO (sel_Print.l2 k y0 y1 y2 y3 y4 y5 y6 y7 y8 y9 y10 y11) (sel_Print.l2 (k + 1) y0 y1 y2 y3 y4 y5 y6 y7 y8 y9 y10 y11)) ∧ (∀ y0 y1 y2 y3 y4 y5 y6 y7 y8 y9 y10 y11 y12, LeO (sel_Print.j2 k y0 y1 y2 y3 y4 y5 y6 y7 y8 y9 y10 y11 y12) (sel_Print.j2 (k + 1) y0 y1 y2 y3 y4 y5 y6 y7 y8 y9 y10 y11 y12))
 | 0 => ⟨fun _ _ _ _ _ r h => by simp [sel_Print.l0] at h, fun _ _ _ _ _ _ _ _ _ r h => by simp [sel_Print.l1] at h, fun _ _ _ _ _ _ _ _ _ _ _ r h => by simp [sel_Print.j3] at h, fun _ _ _ _ _ _ _ _ _ _ _ r h => by simp [sel_Print.j4] at h, fun _ _ _ _ _ _ _ _ _ _ _ _ r h => by simp [sel_Print.l2] at h, fun _ _ _ _ _ _ _ _ _ _ _ _ _ r h => by simp [sel_Print.j2] at h⟩
 | k + 1 => by
  obtain ⟨ih0, ih1, ih2, ih3, ih4, ih5⟩ := sel_Print.mono_l k; refine ⟨?_, ?_, ?_, ?_, ?_, ?_⟩
  ·intro y0 y1 y2 y3 y4
   unfold sel_Print.l0; repeat' first
   | (with_reducible exact ih0 _ _ _ _ _)
   | (with_reducible exact ih1 _ _ _ _ _ _ _ _ _)
   | (with_reducible exact ih2 _ _ _ _ _ _ _ _ _ _ _)
   | (with_reducible exact ih3 _ _ _ _ _ _ _ _ _ _ _)
   | (with_reducible exact ih4 _ _ _ _ _ _ _ _ _ _ _ _)
   | (with_reducible exact ih5 _ _ _ _ _ _ _ _ _ _ _ _ _)
   | (with_reducible exact sel_Parse.mono _ _)
   | (with_reducible exact sel_Step_25.mono _ _ _)
   | (with_reducible exact LeO.refl _)
   | (with_reducible exact LeO.none _)
   | (with_reducible refine LeO.ite ?_ ?_)
   | (with_reducible refine LeO.exB (fun _ => ?_))
   | (with_reducible refine LeO.bind ?_ (fun _ => ?_))
   | exact ih0 _ _ _ _ _
   | exact ih1 _ _ _ _ _ _ _ _ _
   | exact ih2 _ _ _ _ _ _ _ _ _ _ _
   | exact ih3 _ _ _ _ _ _ _ _ _ _ _
   | exact ih4 _ _ _ _ _ _ _ _ _ _ _ _
   | exact ih5 _ _ _ _ _ _ _ _ _ _ _ _ _
   | exact sel_Parse.mono _ _
   | exact sel_Step_25.mono _ _ _
   | exact LeO.none _
   | refine LeO.ite ?_ ?_
   | refine LeO.bind ?_ (fun _ => ?_)
  ·intro y0 y1 y2 y3 y4 y5 y6 y7 y8
   unfold sel_Print.l1; repeat' first
   | (with_reducible exact ih0 _ _ _ _ _)
   | (with_reducible exact ih1 _ _ _ _ _ _ _ _ _)
   | (with_reducible exact ih2 _ _ _ _ _ _ _ _ _ _ _)
   | (with_reducible exact ih3 _ _ _ _ _ _ _ _ _ _ _)
   | (with_reducible exact ih4 _ _ _ _ _ _ _ _ _ _ _ _)
   | (with_reducible exact ih5 _ _ _ _ _ _ _ _ _ _ _ _ _)
   | (with_reducible exact sel_Parse.mono _ _)
   | (with_reducible exact sel_Step_25.mono _ _ _)
   | (with_reducible exact LeO.refl _)
   | (with_reducible exact LeO.none _)
   | (with_reducible refine LeO.ite ?_ ?_)
   | (with_reducible refine LeO.exB (fun _ => ?_))
   | (with_reducible refine LeO.bind ?_ (fun _ => ?_))
   | exact ih0 _ _ _ _ _
   | exact ih1 _ _ _ _ _ _ _ _ _
   | exact ih2 _ _ _ _ _ _ _ _ _ _ _
   | exact ih3 _ _ _ _ _ _ _ _ _ _ _
   | exact ih4 _ _ _ _ _ _ _ _ _ _ _ _
   | exact ih5 _ _ _ _ _ _ _ _ _ _ _ _ _
   | exact sel_Parse.mono _ _
   | exact sel_Step_25.mono _ _ _
   | exact LeO.none _
   | refine LeO.ite ?_ ?_
   | refine LeO.bind ?_ (fun _ => ?_)
  ·intro y0 y1 y2 y3 y4 y5 y6 y7 y8 y9 y10
   unfold sel_Print.j3; repeat' first
   | (with_reducible exact ih0 _ _ _ _ _)
   | (with_reducible exact ih1 _ _ _ _ _ _ _ _ _)
   | (with_reducible exact ih2 _ _ _ _ _ _ _ _ _ _ _)
   | (with_reducible exact ih3 _ _ _ _ _ _ _ _ _ _ _)
   | (with_reducible exact ih4 _ _ _ _ _ _ _ _ _ _ _ _)
   | (with_reducible exact ih5 _ _ _ _ _ _ _ _ _ _ _ _ _)
   | (with_reducible exact sel_Parse.mono _ _)
   | (with_reducible exact sel_Step_25.mono _ _ _)
   | (with_reducible exact LeO.refl _)
   | (with_reducible exact LeO.none _)
   | (with_reducible refine LeO.ite ?_ ?_)
   | (with_reducible refine LeO.exB (fun _ => ?_))
   | (with_reducible refine LeO.bind ?_ (fun _ => ?_))
   | exact ih0 _ _ _ _ _
   | exact ih1 _ _ _ _ _ _ _ _ _
   | exact ih2 _ _ _ _ _ _ _ _ _ _ _
   | exact ih3 _ _ _ _ _ _ _ _ _ _ _
   | exact ih4 _ _ _ _ _ _ _ _ _ _ _ _
   | exact ih5 _ _ _ _ _ _ _ _ _ _ _ _ _
   | exact sel_Parse.mono _ _
   | exact sel_Step_25.mono _ _ _
   | exact LeO.none _
   | refine LeO.ite ?_ ?_
   | refine LeO.bind ?_ (fun _ => ?_)
  ·intro y0 y1 y2 y3 y4 y5 y6 y7 y8 y9 y10
   unfold sel_Print.j4; repeat' first
   | (with_reducible exact ih0 _ _ _ _ _)
   | (with_reducible exact ih1 _ _ _ _ _ _ _ _ _)
   | (with_reducible exact ih2 _ _ _ _ _ _ _ _ _ _ _)
   | (with_reducible exact ih3 _ _ _ _ _ _ _ _ _ _ _)
   | (with_reducible exact ih4 _ _ _ _ _ _ _ _ _ _ _ _)
   | (with_reducible exact ih5 _ _ _ _ _ _ _ _ _ _ _ _ _)
   | (with_reducible exact sel_Parse.mono _ _)
   | (with_reducible exact sel_Step_25.mono _ _ _)
   | (with_reducible exact LeO.refl _)
   | (with_reducible exact LeO.none _)
   | (with_reducible refine LeO.ite ?_ ?_)
   | (with_reducible refine LeO.exB (fun _ => ?_))
   | (with_reducible refine LeO.bind ?_ (fun _ => ?_))
   | exact ih0 _ _ _ _ _
   | exact ih1 _ _ _ _ _ _ _ _ _
   | exact ih2 _ _ _ _ _ _ _ _ _ _ _
   | exact ih3 _ _ _ _ _ _ _ _ _ _ _
   | exact ih4 _ _ _ _ _ _ _ _ _ _ _ _
   | exact ih5 _ _ _ _ _ _ _ _ _ _ _ _ _
   | exact sel_Parse.mono _ _
   | exact sel_Step_25.mono _ _ _
   | exact LeO.none _
   | refine LeO.ite ?_ ?_
   | refine LeO.bind ?_ (fun _ => ?_)
  ·intro y0 y1 y2 y3 y4 y5 y6 y7 y8 y9 y10 y11
   unfold sel_Print.l2; repeat' first
   | (with_reducible exact ih0 _ _ _ _ _)
   | (with_reducible exact ih1 _ _ _ _ _ _ _ _ _)
   | (with_reducible exact ih2 _ _ _ _ _ _ _ _ _ _ _)
   | (with_reducible exact ih3 _ _ _ _ _ _ _ _ _ _ _)
   | (with_reducible exact ih4 _ _ _ _ _ _ _ _ _ _ _ _)
   | (with_reducible exact ih5 _ _ _ _ _ _ _ _ _ _ _ _ _)
   | (with_reducible exact sel_Parse.mono _ _)
   | (with_reducible exact sel_Step_25.mono _ _ _)
   | (with_reducible exact LeO.refl _)
   | (with_reducible exact LeO.none _)
   | (with_reducible refine LeO.ite ?_ ?_)
   | (with_reducible refine LeO.exB (fun _ => ?_))
   | (with_reducible refine LeO.bind ?_ (fun _ => ?_))
   | exact ih0 _ _ _ _ _
   | exact ih1 _ _ _ _ _ _ _ _ _
   | exact ih2 _ _ _ _ _ _ _ _ _ _ _
   | exact ih3 _ _ _ _ _ _ _ _ _ _ _
   | exact ih4 _ _ _ _ _ _ _ _ _ _ _ _
   | exact ih5 _ _ _ _ _ _ _ _ _ _ _ _ _
   | exact sel_Parse.mono _ _
   | exact sel_Step_25.mono _ _ _
   | exact LeO.none _
   | refine LeO.ite ?_ ?_
   | refine LeO.bind ?_ (fun _ => ?_)
  ·intro y0 y1 y2 y3 y4 y5 y6 y7 y8 y9 y10 y11 y12
   unfold sel_Print.j2; repeat' first
   | (with_reducible exact ih0 _ _ _ _ _)
   | (with_reducible exact ih1 _ _ _ _ _ _ _ _ _)
   | (with_reducible exact ih2 _ _ _ _ _ _ _ _ _ _ _)
   | (with_reducible exact ih3 _ _ _ _ _ _ _ _ _ _ _)
   | (with_reducible exact ih4 _ _ _ _ _ _ _ _ _ _ _ _)
   | (with_reducible exact ih5 _ _ _ _ _ _ _ _ _ _ _ _ _)
   | (with_reducible exact sel_Parse.mono _ _)
   | (with_reducible exact sel_Step_25.mono _ _ _)
   | (with_reducible exact LeO.refl _)
   | (with_reducible exact LeO.none _)
   | (with_reducible refine LeO.ite ?_ ?_)
   | (with_reducible refine LeO.exB (fun _ => ?_))
   | (with_reducible refine LeO.bind ?_ (fun _ => ?_))
   | exact ih0 _ _ _ _ _
   | exact ih1 _ _ _ _ _ _ _ _ _
   | exact ih2 _ _ _ _ _ _ _ _ _ _ _
   | exact ih3 _ _ _ _ _ _ _ _ _ _ _
   | exact ih4 _ _ _ _ _ _ _ _ _ _ _ _
   | exact ih5 _ _ _ _ _ _ _ _ _ _ _ _ _
   | exact sel_Parse.mono _ _
   | exact sel_Step_25.mono _ _ _
   | exact LeO.none _
   | refine LeO.ite ?_ ?_
   | refine LeO.bind ?_ (fun _ => ?_)
theorem sel_Print.mono : ∀ a0 k, LeO (sel_Print.f k a0) (sel_Print.f (k + 1) a0) := by
 intro a0 k
 obtain ⟨ih0, ih1, ih2, ih3, ih4, ih5⟩ := sel_Print.mono_l k; unfold sel_Print.f
 repeat' first
   | (with_reducible exact ih0 _ _ _ _ _)
   | (with_reducible exact ih1 _ _ _ _ _ _ _ _ _)
   | (with_reducible exact ih2 _ _ _ _ _ _ _ _ _ _ _)
   | (with_reducible exact ih3 _ _ _ _ _ _ _ _ _ _ _)
   | (with_reducible exact ih4 _ _ _ _ _ _ _ _ _ _ _ _)
   | (with_reducible exact ih5 _ _ _ _ _ _ _ _ _ _ _ _ _)
   | (with_reducible exact sel_Parse.mono _ _)
   | (with_reducible exact sel_Step_25.mono _ _ _)
   | (with_reducible exact LeO.refl _)
   | (with_reducible exact LeO.none _)
   | (with_reducible refine LeO.ite ?_ ?_)
   | (with_reducible refine LeO.exB (fun _ => ?_))
   | (with_reducible refine LeO.bind ?_ (fun _ => ?_))
   | exact ih0 _ _ _ _ _
   | exact ih1 _ _ _ _ _ _ _ _ _
   | exact ih2 _ _ _ _ _ _ _ _ _ _ _
   | exact ih3 _ _ _ _ _ _ _ _ _ _ _
   | exact ih4 _ _ _ _ _ _ _ _ _ _ _ _
   | exact ih5 _ _ _ _ _ _ _ _ _ _ _ _ _
   | exact sel_Parse.mono _ _
   | exact sel_Step_25.mono _ _ _
   | exact LeO.none _
   | refine LeO.ite ?_ ?_
   | refine LeO.bind ?_ (fun _ => ?_)
set_option maxHeartbeats 8000000 in
set_option maxRecDepth 100000 in
theorem sel_Print.calls (k : Nat) (A0 : Option Addr) (c0 : Nat) (l0 : List (List (S46))) (r1 : ByteArray) (r2 : Int) (w : World) (hr0 : Kd.C (Kd.slice 46 k46) w A0 l0.length l0) (hc0 : l0.length ≤ c0) (h : sel_Print.f k l0 = some (r1, r2)) :
  Calls Try.prog 16 #[.slice A0 l0.length c0] w fun e w' => e = .returned (.tuple #[.string r1, .int .i64 r2]) ∧ Below w.heap.size w w' := by
 have hu46 := Try.underlying46; have hu48 := Try.underlying48; have HR0 := aA hr0; have HC0 := aA hc0; clear hr0 hc0; have HB := aA (Below.refl w.heap.size w); have H : (sel_Print.l0 k l0 ([] : List ByteArray) l0 (l0.length : Int) 0) = some (r1, r2) := h; clear h; have H' := aA H; clear H; go_enter Try.func16, Try.ntmps16; go_wp2; go_loopg [4, 18] k (fun kq v4 v18 w' => ∃ (Jf : List ByteArray) (Ja : Int), v18 = .int .i64 Ja ∧ Aside0 (sel_Print.l0 kq l0 Jf l0 (l0.length : Int) Ja = some (r1, r2)) ∧ Aside0 (kq ≤ k) ∧ Aside0 (Kd.R Kd.string 9 w' w.heap.size (fun _ => True) v4 Jf) ∧ Aside0 (Below w.heap.size w w'))
 case atStart => exact ⟨(([] : List ByteArray)), (0), (by first | rfl | (simp; done) | (simp [*]; done)), H', ⟨Nat.le_refl _⟩, ⟨by first | exact Kd.R_nil _ _ _ _ _ | exact Kd.N_nil _ _ _ _ _ | exact Kd.V_nil _ _ _ _ _ | exact Kd.Q_nil _ _ _ _ _ | exact Kd.S_nil _ _ _ _ _⟩, ⟨by repeat (first | (with_reducible first | exact HB.out | apply below_alloc | apply pw_below_drewN | apply below_drew1) | exact HB.out)⟩⟩
 case round =>
  clear H'; try clear c1
  obtain ⟨Jf, Ja, rfl, HA, HK1, Je, HB⟩ := hrel; cases gk with
  | zero => exact absurd HA.out (by simp [sel_Print.l0])
  | succ k1 =>
   have H := HA.out; clear HA; simp only [sel_Print.l0] at H; by_cases c2 : Ja < (l0.length : Int)
   ·rw [if_pos c2] at H; have c2b0 : decide (Ja < (l0.length : Int)) = true := decide_eq_true c2; clear c2; by_cases c3 : 0 ≤ Ja
    rotate_left
    ·rw [if_neg c3] at H; exact absurd H (by simp)
    rw [if_pos c3] at H; have c3b0 : decide (0 ≤ Ja) = true := decide_eq_true c3; clear c3; by_cases c4 : Ja < (l0.length : Int)
    rotate_left
    ·rw [if_neg c4] at H; exact absurd H (by simp)
    rw [if_pos c4] at H; have c4b0 : decide (Ja < (l0.length : Int)) = true := decide_eq_true c4; clear c4; have H' := aA H; clear H; have p335 : 0 ≤ (Ja : Int) := of_decide_eq_true (by first | (with_reducible assumption) | assumption); have q335 : Ja < (l0.length : Int) := of_decide_eq_true (by first | (with_reducible assumption) | assumption); obtain ⟨ad335, A335_0, c335_0, e335, hx335_0, hl335_0, hi335_0⟩ := at_L6 HR0.out Ja p335 q335; cases e335
    replace hx335_0 := (HB.out.cell (World.block_lt_of_cell? w _ hx335_0)).trans hx335_0; have HR335_0 := aA hi335_0; have HC335_0 := aA hl335_0; clear hi335_0 hl335_0; replace p335 := eq_true p335; replace q335 := eq_true q335; go_wp2; go_loopg [7, 24] k1 (fun kq v7 v24 w' => ∃ (Jh : ByteArray) (Jb : Int), v7 = .string Jh ∧ v24 = .int .i64 Jb ∧ Aside0 (sel_Print.l1 kq l0 Jf Jh l0 (l0.length : Int) Ja (rd_L6 l0 Ja) ((rd_L6 l0 Ja).length : Int) Jb = some (r1, r2)) ∧ Aside0 (kq ≤ k1) ∧ Aside0 (Kd.R Kd.string 9 w' w.heap.size (fun _ => True) u4 Jf) ∧ Aside0 (Below w.heap.size w w'))
    case atStart => exact ⟨((⟨#[]⟩ : ByteArray)), (0), (by first | rfl | (simp; done) | (simp [*]; done)), (by first | rfl | (simp; done) | (simp [*]; done)), H', ⟨Nat.le_refl _⟩, ⟨by (with_reducible repeat (first | apply Kd.R_alloc | apply Kd.R_drewN | apply Kd.R_drew)); exact Je.out⟩, ⟨by repeat (first | (with_reducible first | exact HB.out | apply below_alloc | apply pw_below_drewN | apply below_drew1) | exact HB.out)⟩⟩
    case round =>
     clear H'; try clear c1
     try clear c2
     try clear c2b0
     try clear p2
     try clear c3
     try clear c3b0
     try clear p3
     try clear q3
     try clear hx3
     try clear c4
     try clear c4b0
     try clear hx335_0
     try clear p335
     try clear q335
     obtain ⟨Jh, Jb, rfl, rfl, HA, HK2, Je, HB⟩ := hrel; cases gk with
     | zero => exact absurd HA.out (by simp [sel_Print.l1])
     | succ k2 =>
      have H := HA.out; clear HA; simp only [sel_Print.l1] at H; by_cases c5 : Jb < ((rd_L6 l0 Ja).length : Int)
      ·rw [if_pos c5] at H; have c5b0 : decide (Jb < ((rd_L6 l0 Ja).length : Int)) = true := decide_eq_true c5; clear c5; by_cases c6 : 0 ≤ Jb
       rotate_left
       ·rw [if_neg c6] at H; exact absurd H (by simp)
       rw [if_pos c6] at H; have c6b0 : decide (0 ≤ Jb) = true := decide_eq_true c6; clear c6; by_cases c7 : Jb < ((rd_L6 l0 Ja).length : Int)
       rotate_left
       ·rw [if_neg c7] at H; exact absurd H (by simp)
       rw [if_pos c7] at H; have c7b0 : decide (Jb < ((rd_L6 l0 Ja).length : Int)) = true := decide_eq_true c7; clear c7; have HC8 := aA H; clear H; have p339 : 0 ≤ (Jb : Int) := of_decide_eq_true (by first | (with_reducible assumption) | assumption); have q339 : Jb < ((rd_L6 l0 Ja).length : Int) := of_decide_eq_true (by first | (with_reducible assumption) | assumption); obtain ⟨ad339, A339_0, c339_0, e339, hx339_0, hx339_1, hl339_0, hi339_0⟩ := at_T46 HR335_0.out Jb p339 q339; cases e339
       replace hx339_0 := (HB.out.cell (World.block_lt_of_cell? w _ hx339_0)).trans hx339_0; replace hx339_1 := (HB.out.cell (World.block_lt_of_cell? w _ hx339_1)).trans hx339_1; have HR339_0 := aA hi339_0; have HC339_0 := aA hl339_0; clear hi339_0 hl339_0; replace p339 := eq_true p339; replace q339 := eq_true q339; go_upto_block 4 with (first | ((with_reducible refine gate_dst (N := 9) rfl ?_); refine box_event ?hg (N := 9) ?hd (cs := #[.slice none 0 0, .bool false]) (t := 46) ?hr ?_; (case hd => rfl); (case hg => rfl); (case hr => first | (go_simp; done) | (go_simp; rfl)); intro Jg hg w9 hbox hb; have n0_ := aA (Kd.R_below (rlu Je.out) hb); have n1_ := aA (below_step (blw HB.out) hb); have n2_ := aA (hbox); have n3_ := aA ((by rw [hg]; exact (below_size (blw HB.out)) : w.heap.size ≤ Jg)); have n4_ := aA ((by rw [hg]; exact (below_size (blw HB.out)) : w.heap.size ≤ Jg)); clear Je HB; have Je := n0_; have HB := n1_; have Jc := n2_; have GW340 := n3_; have Jl := n4_; clear n0_ n1_ n2_ n3_ n4_ hb hbox hg; have Jr : w9.cell? ⟨Jg, 0, none⟩ = some (.slice none 0 0) := (blk_cell Jc.out 0).trans rfl; have Js : w9.cell? ⟨Jg, 1, none⟩ = some (.bool false) := (blk_cell Jc.out 1).trans rfl; have Jt := blk_frozen Jc.out 0; have Ju := blk_frozen Jc.out 1))
       (try simp only [Act.put, List.setIfInBounds_toArray, List.set_cons_zero, List.set_cons_succ]); go_cut [7] (fun v7 wc => ∃ (kq : Nat) (Jq : ByteArray), v7 = .string Jq ∧ Aside0 (sel_Print.j3 kq l0 Jf Jq l0 (l0.length : Int) Ja (rd_L6 l0 Ja) ((rd_L6 l0 Ja).length : Int) Jb ((rd_T46 (rd_L6 l0 Ja) Jb).f0) ((rd_T46 (rd_L6 l0 Ja) Jb).f1) = some (r1, r2)) ∧ Aside0 (kq ≤ k2) ∧ Aside0 (Kd.R Kd.string 9 wc w.heap.size (fun _ => True) u4 Jf) ∧ Aside0 (wc.heap[Jg]? = some (.cells #[(.slice A339_0 ((rd_T46 (rd_L6 l0 Ja) Jb).f0).length c339_0), .bool ((rd_T46 (rd_L6 l0 Ja) Jb).f1)] 46 (0, 0))) ∧ Aside0 (Below w.heap.size w wc))
       case first =>
        have H := HC8.out; clear HC8; have HC11 := aA H; clear H; go_upto_region 9 with (fail)
        go_cut [29] (fun v29 wc => ∃ (kq : Nat) (J0 : Bool), v29 = .bool J0 ∧ Aside0 (sel_Print.j2 kq l0 Jf Jh Jb l0 (l0.length : Int) Ja (rd_L6 l0 Ja) ((rd_L6 l0 Ja).length : Int) Jb J0 ((rd_T46 (rd_L6 l0 Ja) Jb).f0) ((rd_T46 (rd_L6 l0 Ja) Jb).f1) = some (r1, r2)) ∧ Aside0 (kq ≤ k2) ∧ Aside0 (Kd.R Kd.string 9 wc w.heap.size (fun _ => True) u4 Jf) ∧ Aside0 (wc.heap[Jg]? = some (.cells #[(.slice A339_0 ((rd_T46 (rd_L6 l0 Ja) Jb).f0).length c339_0), .bool ((rd_T46 (rd_L6 l0 Ja) Jb).f1)] 46 (0, 0))) ∧ Aside0 (Below w.heap.size w wc))
        case first =>
         have H := HC11.out; clear HC11; by_cases c12 : Jb > 0
         ·rw [if_pos c12] at H; have c12b0 : decide (0 < Jb) = true := decide_eq_true c12; clear c12; (first | rw [c12b0] | rw [c12b1] | (simp only [i64_w, i32_w]; rw [c12b0]) | skip)
          have H' := aA H; clear H; have Jv : w9.cell? ⟨Jg, 0, none⟩ = some (.slice none 0 0) := (blk_cell Jc.out 0).trans rfl; have Jw : w9.cell? ⟨Jg, 1, none⟩ = some (.bool false) := (blk_cell Jc.out 1).trans rfl; have Jx := blk_frozen Jc.out 0; have Jy := blk_frozen Jc.out 1; go_wp2; go_meet
          case rel => exact ⟨_, ((rd_T46 (rd_L6 l0 Ja) Jb).f1), (by first | rfl | (simp; done) | (simp [*]; done)), H', ⟨by have := HK1.out; have := HK2.out; first | omega | exact Nat.le_refl _⟩, ⟨by (with_reducible repeat (first | apply Kd.R_alloc | apply Kd.R_drewN | apply Kd.R_drew)); exact Kd.R_mono (Kd.R_far (p := ⟨Jg, 1, none⟩) (Kd.R_far (p := ⟨Jg, 0, none⟩) (Kd.R_types Je.out Jc.out (by decide)) (fun _ hk => hk.2) (.slice A339_0 ((rd_T46 (rd_L6 l0 Ja) Jb).f0).length c339_0)) (fun _ hk => hk.2) (.bool ((rd_T46 (rd_L6 l0 Ja) Jb).f1))) (fun _ hk => trivial)⟩, ⟨by (with_reducible repeat (first | refine blk_drewN ?_ _ | refine blk_drew ?_ | refine blk_alloc ?_ _)); refine blk_put (cs := #[.slice A339_0 ((rd_T46 (rd_L6 l0 Ja) Jb).f0).length c339_0, .bool false]) ?_ 1 _ rfl; (with_reducible repeat (first | refine blk_drewN ?_ _ | refine blk_drew ?_ | refine blk_alloc ?_ _)); refine blk_put (cs := #[.slice none 0 0, .bool false]) ?_ 0 _ rfl; (with_reducible repeat (first | refine blk_drewN ?_ _ | refine blk_drew ?_ | refine blk_alloc ?_ _)); exact Jc.out⟩, ⟨by repeat (first | (with_reducible first | exact HB.out | apply below_alloc | apply pw_below_drewN | apply below_drew1 | refine below_set ?_ Jl.out) | exact HB.out)⟩⟩
         ·rw [if_neg c12] at H; have c12b0 : decide (0 < Jb) = false := decide_eq_false c12; clear c12; (first | rw [c12b0] | rw [c12b1] | (simp only [i64_w, i32_w]; rw [c12b0]) | skip)
          have H' := aA H; clear H; go_wp2; go_meet
          case rel => exact ⟨_, (false), (by first | rfl | (simp; done) | (simp [*]; done)), H', ⟨by have := HK1.out; have := HK2.out; first | omega | exact Nat.le_refl _⟩, ⟨by (with_reducible repeat (first | apply Kd.R_alloc | apply Kd.R_drewN | apply Kd.R_drew)); exact Kd.R_mono (Kd.R_far (p := ⟨Jg, 1, none⟩) (Kd.R_far (p := ⟨Jg, 0, none⟩) (Kd.R_types Je.out Jc.out (by decide)) (fun _ hk => hk.2) (.slice A339_0 ((rd_T46 (rd_L6 l0 Ja) Jb).f0).length c339_0)) (fun _ hk => hk.2) (.bool ((rd_T46 (rd_L6 l0 Ja) Jb).f1))) (fun _ hk => trivial)⟩, ⟨by (with_reducible repeat (first | refine blk_drewN ?_ _ | refine blk_drew ?_ | refine blk_alloc ?_ _)); refine blk_put (cs := #[.slice A339_0 ((rd_T46 (rd_L6 l0 Ja) Jb).f0).length c339_0, .bool false]) ?_ 1 _ rfl; (with_reducible repeat (first | refine blk_drewN ?_ _ | refine blk_drew ?_ | refine blk_alloc ?_ _)); refine blk_put (cs := #[.slice none 0 0, .bool false]) ?_ 0 _ rfl; (with_reducible repeat (first | refine blk_drewN ?_ _ | refine blk_drew ?_ | refine blk_alloc ?_ _)); exact Jc.out⟩, ⟨by repeat (first | (with_reducible first | exact HB.out | apply below_alloc | apply pw_below_drewN | apply below_drew1 | refine below_set ?_ Jl.out) | exact HB.out)⟩⟩
        case rest =>
         clear HC11; try clear c1
         try clear c2
         try clear c2b0
         try clear p2
         try clear c3
         try clear c3b0
         try clear p3
         try clear q3
         try clear hx3
         try clear c4
         try clear c4b0
         try clear c5
         try clear c5b0
         try clear c6
         try clear c6b0
         try clear c7
         try clear c7b0
         try clear c12
         try clear c12b0
         try clear c12b1
         try clear Jr
         try clear Js
         try clear Jv
         try clear Jw
         try clear Jt
         try clear Ju
         try clear Jx
         try clear Jy
         try clear hx335_0
         try clear hx339_0
         try clear hx339_1
         try clear p2
         try clear p3
         try clear p335
         try clear p339
         try clear q3
         try clear q335
         try clear q339
         obtain ⟨kq, J0, rfl, HA, HJ10, Je, Jc, HB⟩ := hcut; cases kq with
         | zero => exact absurd HA.out (by simp [sel_Print.j2])
         | succ kj10 =>
          have H := HA.out; clear HA; simp only [sel_Print.j2] at H; by_cases c14 : J0 = true
          ·subst c14; have H1 : (if Jh.size + 3 ≤ 9223372036854775807 then (sel_Print.j3 kj10 l0 Jf (Jh ++ (⟨#[32, 62, 32]⟩ : ByteArray)) l0 (l0.length : Int) Ja (rd_L6 l0 Ja) ((rd_L6 l0 Ja).length : Int) Jb ((rd_T46 (rd_L6 l0 Ja) Jb).f0) ((rd_T46 (rd_L6 l0 Ja) Jb).f1)) else (none)) = some (r1, r2) := by rw [if_pos rfl] at H; exact H
           clear H; have H := H1; clear H1; by_cases c15 : Jh.size + 3 ≤ 9223372036854775807
           rotate_left
           ·rw [if_neg c15] at H; exact absurd H (by simp)
           rw [if_pos c15] at H; have c15b0 := eq_true c15; have c15b1 : decide (Jh.size + 3 ≤ 9223372036854775807) = true := decide_eq_true c15; try have c15b2 : (9223372036854775807 < Jh.size + 3) = False := eq_false (Nat.not_lt.2 c15)
           have H' := aA H; clear H; go_wp2; go_meet
           case rel => exact ⟨_, (Jh ++ (⟨#[32, 62, 32]⟩ : ByteArray)), (by first | rfl | (simp; done) | (simp [*]; done)), H', ⟨by have := HK1.out; have := HK2.out; have := HJ10.out; first | omega | exact Nat.le_refl _⟩, ⟨by (with_reducible repeat (first | apply Kd.R_alloc | apply Kd.R_drewN | apply Kd.R_drew)); exact Je.out⟩, ⟨by (with_reducible repeat (first | refine blk_drewN ?_ _ | refine blk_drew ?_ | refine blk_alloc ?_ _)); exact Jc.out⟩, ⟨by repeat (first | (with_reducible first | exact HB.out | apply below_alloc | apply pw_below_drewN | apply below_drew1 | refine below_set ?_ Jl.out) | exact HB.out)⟩⟩
          ·replace c14 := Bool.eq_false_iff.mpr c14; subst c14; have H1 : (if Jb > 0 then (if Jh.size + 1 ≤ 9223372036854775807 then (sel_Print.j3 kj10 l0 Jf (Jh ++ (⟨#[32]⟩ : ByteArray)) l0 (l0.length : Int) Ja (rd_L6 l0 Ja) ((rd_L6 l0 Ja).length : Int) Jb ((rd_T46 (rd_L6 l0 Ja) Jb).f0) ((rd_T46 (rd_L6 l0 Ja) Jb).f1)) else (none)) else (sel_Print.j3 kj10 l0 Jf Jh l0 (l0.length : Int) Ja (rd_L6 l0 Ja) ((rd_L6 l0 Ja).length : Int) Jb ((rd_T46 (rd_L6 l0 Ja) Jb).f0) ((rd_T46 (rd_L6 l0 Ja) Jb).f1))) = some (r1, r2) := by rw [if_neg (show ¬ (false = true) by decide)] at H; exact H
           clear H; have H := H1; clear H1; by_cases c16 : Jb > 0
           ·rw [if_pos c16] at H; have c16b0 : decide (0 < Jb) = true := decide_eq_true c16; clear c16; by_cases c17 : Jh.size + 1 ≤ 9223372036854775807
            rotate_left
            ·rw [if_neg c17] at H; exact absurd H (by simp)
            rw [if_pos c17] at H; have c17b0 := eq_true c17; have c17b1 : decide (Jh.size + 1 ≤ 9223372036854775807) = true := decide_eq_true c17; try have c17b2 : (9223372036854775807 < Jh.size + 1) = False := eq_false (Nat.not_lt.2 c17)
            have H' := aA H; clear H; go_wp2; go_meet
            case rel => exact ⟨_, (Jh ++ (⟨#[32]⟩ : ByteArray)), (by first | rfl | (simp; done) | (simp [*]; done)), H', ⟨by have := HK1.out; have := HK2.out; have := HJ10.out; first | omega | exact Nat.le_refl _⟩, ⟨by (with_reducible repeat (first | apply Kd.R_alloc | apply Kd.R_drewN | apply Kd.R_drew)); exact Je.out⟩, ⟨by (with_reducible repeat (first | refine blk_drewN ?_ _ | refine blk_drew ?_ | refine blk_alloc ?_ _)); exact Jc.out⟩, ⟨by repeat (first | (with_reducible first | exact HB.out | apply below_alloc | apply pw_below_drewN | apply below_drew1 | refine below_set ?_ Jl.out) | exact HB.out)⟩⟩
           ·rw [if_neg c16] at H; have c16b0 : decide (0 < Jb) = false := decide_eq_false c16; clear c16; have H' := aA H; clear H; go_wp2; go_meet
            case rel => exact ⟨_, (Jh), (by first | rfl | (simp; done) | (simp [*]; done)), H', ⟨by have := HK1.out; have := HK2.out; have := HJ10.out; first | omega | exact Nat.le_refl _⟩, ⟨by (with_reducible repeat (first | apply Kd.R_alloc | apply Kd.R_drewN | apply Kd.R_drew)); exact Je.out⟩, ⟨by (with_reducible repeat (first | refine blk_drewN ?_ _ | refine blk_drew ?_ | refine blk_alloc ?_ _)); exact Jc.out⟩, ⟨by repeat (first | (with_reducible first | exact HB.out | apply below_alloc | apply pw_below_drewN | apply below_drew1 | refine below_set ?_ Jl.out) | exact HB.out)⟩⟩
       case rest =>
        clear HC8; try clear c1
        try clear c2
        try clear c2b0
        try clear p2
        try clear c3
        try clear c3b0
        try clear p3
        try clear q3
        try clear hx3
        try clear c4
        try clear c4b0
        try clear c5
        try clear c5b0
        try clear c6
        try clear c6b0
        try clear c7
        try clear c7b0
        try clear c12
        try clear c12b0
        try clear c12b1
        try clear c14
        try clear c15
        try clear c15b0
        try clear c15b1
        try clear c15b2
        try clear c16
        try clear c16b0
        try clear c17
        try clear c17b0
        try clear c17b1
        try clear c17b2
        try clear Jr
        try clear Js
        try clear Jv
        try clear Jw
        try clear Jt
        try clear Ju
        try clear Jx
        try clear Jy
        try clear hx335_0
        try clear hx339_0
        try clear hx339_1
        try clear p2
        try clear p3
        try clear p335
        try clear p339
        try clear q3
        try clear q335
        try clear q339
        obtain ⟨kq, Jq, rfl, HA, HJ7, Je, Jc, HB⟩ := hcut; cases kq with
        | zero => exact absurd HA.out (by simp [sel_Print.j3])
        | succ kj7 =>
         have H := HA.out; clear HA; simp only [sel_Print.j3] at H; have HC18 := aA H; clear H; have J4 : wc.cell? ⟨Jg, 0, none⟩ = some (.slice A339_0 ((rd_T46 (rd_L6 l0 Ja) Jb).f0).length c339_0) := (blk_cell Jc.out 0).trans rfl; have J5 : wc.cell? ⟨Jg, 1, none⟩ = some (.bool ((rd_T46 (rd_L6 l0 Ja) Jb).f1)) := (blk_cell Jc.out 1).trans rfl; have J6 := blk_frozen Jc.out 0; have J7 := blk_frozen Jc.out 1; go_upto_if 46 with (fail)
         go_cut [7] (fun v7 wc => ∃ (kq : Nat) (J3 : ByteArray), v7 = .string J3 ∧ Aside0 (sel_Print.j4 kq l0 Jf J3 l0 (l0.length : Int) Ja (rd_L6 l0 Ja) ((rd_L6 l0 Ja).length : Int) Jb ((rd_T46 (rd_L6 l0 Ja) Jb).f0) ((rd_T46 (rd_L6 l0 Ja) Jb).f1) = some (r1, r2)) ∧ Aside0 (kq ≤ kj7) ∧ Aside0 (Kd.R Kd.string 9 wc w.heap.size (fun _ => True) u4 Jf) ∧ Aside0 (wc.heap[Jg]? = some (.cells #[(.slice A339_0 ((rd_T46 (rd_L6 l0 Ja) Jb).f0).length c339_0), .bool ((rd_T46 (rd_L6 l0 Ja) Jb).f1)] 46 (0, 0))) ∧ Aside0 (Below w.heap.size w wc))
         case first =>
          have H := HC18.out; clear HC18; by_cases c20 : (((rd_T46 (rd_L6 l0 Ja) Jb).f0).length : Int) = 0
          ·rw [if_pos c20] at H; have c20b0 : ((((rd_T46 (rd_L6 l0 Ja) Jb).f0).length : Int) == 0) = true := beq_iff_eq.mpr c20; have c20b1 : ((((rd_T46 (rd_L6 l0 Ja) Jb).f0).length : Int) != 0) = false := bne_eq_false_iff_eq.mpr c20; clear c20; (first | rw [c20b0] | rw [c20b1] | (simp only [i64_w, i32_w]; rw [c20b0]) | skip)
           by_cases c21 : Jq.size + 1 ≤ 9223372036854775807
           rotate_left
           ·rw [if_neg c21] at H; exact absurd H (by simp)
           rw [if_pos c21] at H; have c21b0 := eq_true c21; have c21b1 : decide (Jq.size + 1 ≤ 9223372036854775807) = true := decide_eq_true c21; try have c21b2 : (9223372036854775807 < Jq.size + 1) = False := eq_false (Nat.not_lt.2 c21)
           have H' := aA H; clear H; go_wp2; go_meet
           case rel => exact ⟨_, (Jq ++ (⟨#[42]⟩ : ByteArray)), (by first | rfl | (simp; done) | (simp [*]; done)), H', ⟨by have := HK1.out; have := HK2.out; have := HJ7.out; first | omega | exact Nat.le_refl _⟩, ⟨by (with_reducible repeat (first | apply Kd.R_alloc | apply Kd.R_drewN | apply Kd.R_drew)); exact Je.out⟩, ⟨by (with_reducible repeat (first | refine blk_drewN ?_ _ | refine blk_drew ?_ | refine blk_alloc ?_ _)); exact Jc.out⟩, ⟨by repeat (first | (with_reducible first | exact HB.out | apply below_alloc | apply pw_below_drewN | apply below_drew1 | refine below_set ?_ Jl.out) | exact HB.out)⟩⟩
          ·rw [if_neg c20] at H; have c20b0 : ((((rd_T46 (rd_L6 l0 Ja) Jb).f0).length : Int) == 0) = false := beq_eq_false_iff_ne.mpr c20; have c20b1 : ((((rd_T46 (rd_L6 l0 Ja) Jb).f0).length : Int) != 0) = true := bne_iff_ne.mpr c20; have c20b2 : ¬ (((rd_T46 (rd_L6 l0 Ja) Jb).f0) = []) := fun h_ => c20 (by rw [h_]; rfl)
           (first | rw [c20b0] | rw [c20b1] | (simp only [i64_w, i32_w]; rw [c20b0]) | skip)
           have H' := aA H; clear H; go_wp2; go_meet
           case rel => exact ⟨_, (Jq), (by first | rfl | (simp; done) | (simp [*]; done)), H', ⟨by have := HK1.out; have := HK2.out; have := HJ7.out; first | omega | exact Nat.le_refl _⟩, ⟨by (with_reducible repeat (first | apply Kd.R_alloc | apply Kd.R_drewN | apply Kd.R_drew)); exact Je.out⟩, ⟨by (with_reducible repeat (first | refine blk_drewN ?_ _ | refine blk_drew ?_ | refine blk_alloc ?_ _)); exact Jc.out⟩, ⟨by repeat (first | (with_reducible first | exact HB.out | apply below_alloc | apply pw_below_drewN | apply below_drew1 | refine below_set ?_ Jl.out) | exact HB.out)⟩⟩
         case rest =>
          clear HC18; try clear c1
          try clear c2
          try clear c2b0
          try clear p2
          try clear c3
          try clear c3b0
          try clear p3
          try clear q3
          try clear hx3
          try clear c4
          try clear c4b0
          try clear c5
          try clear c5b0
          try clear c6
          try clear c6b0
          try clear c7
          try clear c7b0
          try clear c12
          try clear c12b0
          try clear c12b1
          try clear c14
          try clear c15
          try clear c15b0
          try clear c15b1
          try clear c15b2
          try clear c16
          try clear c16b0
          try clear c17
          try clear c17b0
          try clear c17b1
          try clear c17b2
          try clear c20
          try clear c20b0
          try clear c20b1
          try clear c20b2
          try clear c21
          try clear c21b0
          try clear c21b1
          try clear c21b2
          try clear Jr
          try clear Js
          try clear Jv
          try clear Jw
          try clear J4
          try clear J5
          try clear Jt
          try clear Ju
          try clear Jx
          try clear Jy
          try clear J6
          try clear J7
          try clear hx335_0
          try clear hx339_0
          try clear hx339_1
          try clear p2
          try clear p3
          try clear p335
          try clear p339
          try clear q3
          try clear q335
          try clear q339
          obtain ⟨kq, J3, rfl, HA, HJ17, Je, Jc, HB⟩ := hcut; cases kq with
          | zero => exact absurd HA.out (by simp [sel_Print.j4])
          | succ kj17 =>
           have H := HA.out; clear HA; simp only [sel_Print.j4] at H; have H' := aA H; clear H; have hcz22_0 : wc.cell? ⟨Jg, 0, none⟩ = some (.slice A339_0 ((rd_T46 (rd_L6 l0 Ja) Jb).f0).length c339_0) := (blk_cell Jc.out 0).trans rfl; have hcz22_1 : wc.cell? ⟨Jg, 1, none⟩ = some (.bool ((rd_T46 (rd_L6 l0 Ja) Jb).f1)) := (blk_cell Jc.out 1).trans rfl; have hfz22_0 := blk_frozen Jc.out 0; have hfz22_1 := blk_frozen Jc.out 1; go_wp2; go_loopg [7, 52] kj17 (fun kq v7 v52 w' => ∃ (Jo : ByteArray) (Jd : Int), v7 = .string Jo ∧ v52 = .int .i64 Jd ∧ Aside0 (sel_Print.l2 kq l0 Jf Jo l0 (l0.length : Int) Ja (rd_L6 l0 Ja) ((rd_L6 l0 Ja).length : Int) Jb ((rd_T46 (rd_L6 l0 Ja) Jb).f0) (((rd_T46 (rd_L6 l0 Ja) Jb).f0).length : Int) Jd = some (r1, r2)) ∧ Aside0 (kq ≤ kj17) ∧ Aside0 (Kd.R Kd.string 9 w' w.heap.size (fun _ => True) u4 Jf) ∧ Aside0 (w'.heap[Jg]? = some (.cells #[(.slice A339_0 ((rd_T46 (rd_L6 l0 Ja) Jb).f0).length c339_0), .bool ((rd_T46 (rd_L6 l0 Ja) Jb).f1)] 46 (0, 0))) ∧ Aside0 (Below w.heap.size w w'))
           case atStart => exact ⟨(J3), (0), (by first | rfl | (simp; done) | (simp [*]; done)), (by first | rfl | (simp; done) | (simp [*]; done)), H', ⟨Nat.le_refl _⟩, ⟨by (with_reducible repeat (first | apply Kd.R_alloc | apply Kd.R_drewN | apply Kd.R_drew)); exact Je.out⟩, ⟨by (with_reducible repeat (first | refine blk_drewN ?_ _ | refine blk_drew ?_ | refine blk_alloc ?_ _)); exact Jc.out⟩, ⟨by repeat (first | (with_reducible first | exact HB.out | apply below_alloc | apply pw_below_drewN | apply below_drew1 | refine below_set ?_ Jl.out) | exact HB.out)⟩⟩
           case round =>
            clear H'; try clear c1
            try clear c2
            try clear c2b0
            try clear p2
            try clear c3
            try clear c3b0
            try clear p3
            try clear q3
            try clear hx3
            try clear c4
            try clear c4b0
            try clear c5
            try clear c5b0
            try clear c6
            try clear c6b0
            try clear c7
            try clear c7b0
            try clear c12
            try clear c12b0
            try clear c12b1
            try clear c14
            try clear c15
            try clear c15b0
            try clear c15b1
            try clear c15b2
            try clear c16
            try clear c16b0
            try clear c17
            try clear c17b0
            try clear c17b1
            try clear c17b2
            try clear c20
            try clear c20b0
            try clear c20b1
            try clear c20b2
            try clear c21
            try clear c21b0
            try clear c21b1
            try clear c21b2
            try clear Jr
            try clear Js
            try clear Jv
            try clear Jw
            try clear J4
            try clear J5
            try clear hcz22_0
            try clear hcz22_1
            try clear Jt
            try clear Ju
            try clear Jx
            try clear Jy
            try clear J6
            try clear J7
            try clear hfz22_0
            try clear hfz22_1
            try clear hx335_0
            try clear hx339_0
            try clear hx339_1
            try clear p2
            try clear p3
            try clear p335
            try clear p339
            try clear q3
            try clear q335
            try clear q339
            obtain ⟨Jo, Jd, rfl, rfl, HA, HK5, Je, Jc, HB⟩ := hrel; cases gk with
            | zero => exact absurd HA.out (by simp [sel_Print.l2])
            | succ k5 =>
             have H := HA.out; clear HA; simp only [sel_Print.l2] at H; by_cases c23 : Jd < (((rd_T46 (rd_L6 l0 Ja) Jb).f0).length : Int)
             ·rw [if_pos c23] at H; have c23b0 : decide (Jd < (((rd_T46 (rd_L6 l0 Ja) Jb).f0).length : Int)) = true := decide_eq_true c23; clear c23; by_cases c24 : 0 ≤ Jd
              rotate_left
              ·rw [if_neg c24] at H; exact absurd H (by simp)
              rw [if_pos c24] at H; have c24b0 : decide (0 ≤ Jd) = true := decide_eq_true c24; clear c24; by_cases c25 : Jd < (((rd_T46 (rd_L6 l0 Ja) Jb).f0).length : Int)
              rotate_left
              ·rw [if_neg c25] at H; exact absurd H (by simp)
              rw [if_pos c25] at H; have c25b0 : decide (Jd < (((rd_T46 (rd_L6 l0 Ja) Jb).f0).length : Int)) = true := decide_eq_true c25; clear c25; replace H := Option.bind_eq_some_iff.mp H; obtain ⟨Jz, A260, H⟩ := H; replace H : (if Jo.size + Jz.size ≤ 9223372036854775807 then (sel_Print.l2 k5 l0 Jf (Jo ++ Jz) l0 (l0.length : Int) Ja (rd_L6 l0 Ja) ((rd_L6 l0 Ja).length : Int) Jb ((rd_T46 (rd_L6 l0 Ja) Jb).f0) (((rd_T46 (rd_L6 l0 Ja) Jb).f0).length : Int) (wrap64 (Jd + 1))) else (none)) = some (r1, r2) := H; have A26 := aA A260; clear A260; by_cases c27 : Jo.size + Jz.size ≤ 9223372036854775807
              rotate_left
              ·rw [if_neg c27] at H; exact absurd H (by simp)
              rw [if_pos c27] at H; have c27b0 := eq_true c27; have c27b1 : decide (Jo.size + Jz.size ≤ 9223372036854775807) = true := decide_eq_true c27; try have c27b2 : (9223372036854775807 < Jo.size + Jz.size) = False := eq_false (Nat.not_lt.2 c27)
              have H' := aA H; clear H; have p341 : 0 ≤ (Jd : Int) := of_decide_eq_true (by first | (with_reducible assumption) | assumption); have q341 : Jd < (((rd_T46 (rd_L6 l0 Ja) Jb).f0).length : Int) := of_decide_eq_true (by first | (with_reducible assumption) | assumption); obtain ⟨ad341, e341, hx341_0, hx341_1, hx341_2⟩ := at_T48 HR339_0.out Jd p341 q341; cases e341
              replace hx341_0 := (HB.out.cell (World.block_lt_of_cell? w _ hx341_0)).trans hx341_0; replace hx341_1 := (HB.out.cell (World.block_lt_of_cell? w _ hx341_1)).trans hx341_1; replace hx341_2 := (HB.out.cell (World.block_lt_of_cell? w _ hx341_2)).trans hx341_2; replace p341 := eq_true p341; replace q341 := eq_true q341; go_wp2_with (first | ((with_reducible refine gate_dst (N := 11) rfl ?_); refine box_event ?hg (N := 11) ?hd (cs := #[.int .i64 0, .string (⟨#[]⟩ : ByteArray), .string (⟨#[]⟩ : ByteArray)]) (t := 48) ?hr ?_; (case hd => rfl); (case hg => rfl); (case hr => first | (go_simp; done) | (go_simp; rfl)); intro Jj hg w28 hbox hb; have n0_ := aA (Kd.R_below (rlu Je.out) hb); have n1_ := aA (blk_below (g := Jg) (o := .cells #[.slice (some ad341) ((rd_T46 (rd_L6 l0 Ja) Jb).f0).length c339_0, .bool ((rd_T46 (rd_L6 l0 Ja) Jb).f1)] 46 (0, 0)) (bku Jc.out) hb); have n2_ := aA (below_step (bls HB.out) hb); have n3_ := aA (hbox); have n4_ := aA ((by rw [hg]; exact (below_size (bls HB.out)) : w.heap.size ≤ Jj)); have n5_ := aA ((by rw [hg]; exact (below_size (bls HB.out)) : w.heap.size ≤ Jj)); have n6_ := aA ((by rw [hg]; exact Nat.ne_of_lt (blk_lt (g := Jg) (o := .cells #[.slice (some ad341) ((rd_T46 (rd_L6 l0 Ja) Jb).f0).length c339_0, .bool ((rd_T46 (rd_L6 l0 Ja) Jb).f1)] 46 (0, 0)) (bku Jc.out)) : Jg ≠ Jj)); have n7_ := aA ((by rw [hg]; exact Nat.ne_of_gt (blk_lt (g := Jg) (o := .cells #[.slice (some ad341) ((rd_T46 (rd_L6 l0 Ja) Jb).f0).length c339_0, .bool ((rd_T46 (rd_L6 l0 Ja) Jb).f1)] 46 (0, 0)) (bku Jc.out)) : Jj ≠ Jg)); clear Je Jc HB; have Je := n0_; have Jc := n1_; have HB := n2_; have Jm := n3_; have GW342 := n4_; have GE342 := n5_; have Jn := n6_; have NB342_340 := n7_; clear n0_ n1_ n2_ n3_ n4_ n5_ n6_ n7_ hb hbox hg; have hnb29 := NB342_340.out; have hnc29 := Jn.out; have hcz30_0 : w28.cell? ⟨Jj, 0, none⟩ = some (.int .i64 0) := (blk_cell Jm.out 0).trans rfl; have hcz30_1 : w28.cell? ⟨Jj, 1, none⟩ = some (.string (⟨#[]⟩ : ByteArray)) := (blk_cell Jm.out 1).trans rfl; have hcz30_2 : w28.cell? ⟨Jj, 2, none⟩ = some (.string (⟨#[]⟩ : ByteArray)) := (blk_cell Jm.out 2).trans rfl; have hfz30_0 := blk_frozen Jm.out 0; have hfz30_1 := blk_frozen Jm.out 1; have hfz30_2 := blk_frozen Jm.out 2) | ((with_reducible refine gate_callee (f := 23) rfl ?_); refine goesL_ (some 58) rfl rfl Try.func23 (by kernel_rfl) rfl #[.agg #[.int .i64 ((rd_T48 ((rd_T46 (rd_L6 l0 Ja) Jb).f0) Jd).f0), .string ((rd_T48 ((rd_T46 (rd_L6 l0 Ja) Jb).f0) Jd).f1), .string ((rd_T48 ((rd_T46 (rd_L6 l0 Ja) Jb).f0) Jd).f2)]] rfl (by (try simp only [List.map_toArray, List.map_cons, List.map_nil]); first | done | rfl | (simp only [List.length_drop, List.length_take]; rfl)) ?_; (with_reducible refine (sel_Test_text.calls ((rd_T48 ((rd_T46 (rd_L6 l0 Ja) Jb).f0) Jd).f0) ((rd_T48 ((rd_T46 (rd_L6 l0 Ja) Jb).f0) Jd).f1) ((rd_T48 ((rd_T46 (rd_L6 l0 Ja) Jb).f0) Jd).f2) Jz _ A26.out).mono ?_); rintro e w31 ⟨rfl, hb⟩; refine ⟨_, rfl, ?_⟩; have n0_ := aA (Kd.R_below (rlu ((Kd.R_mono (Kd.R_far (p := ⟨Jj, 2, none⟩) (Kd.R_far (p := ⟨Jj, 1, none⟩) (Kd.R_far (p := ⟨Jj, 0, none⟩) (Kd.R_types Je.out Jm.out (by decide)) (fun _ hk => hk.2) (.int .i64 ((rd_T48 ((rd_T46 (rd_L6 l0 Ja) Jb).f0) Jd).f0))) (fun _ hk => hk.2) (.string ((rd_T48 ((rd_T46 (rd_L6 l0 Ja) Jb).f0) Jd).f1))) (fun _ hk => hk.2) (.string ((rd_T48 ((rd_T46 (rd_L6 l0 Ja) Jb).f0) Jd).f2))) (fun _ h_ => h_.1)))) hb); have n1_ := aA (blk_below (g := Jg) (o := .cells #[.slice (some ad341) ((rd_T46 (rd_L6 l0 Ja) Jb).f0).length c339_0, .bool ((rd_T46 (rd_L6 l0 Ja) Jb).f1)] 46 (0, 0)) (by (with_reducible repeat (first | refine blk_drewN ?_ _ | refine blk_drew ?_ | refine blk_alloc ?_ _)); refine blk_far ?_ Jn.out _; (with_reducible repeat (first | refine blk_drewN ?_ _ | refine blk_drew ?_ | refine blk_alloc ?_ _)); refine blk_far ?_ Jn.out _; (with_reducible repeat (first | refine blk_drewN ?_ _ | refine blk_drew ?_ | refine blk_alloc ?_ _)); refine blk_far ?_ Jn.out _; (with_reducible repeat (first | refine blk_drewN ?_ _ | refine blk_drew ?_ | refine blk_alloc ?_ _)); exact Jc.out) hb); have n2_ := aA (blk_below (g := Jj) (o := .cells #[.int .i64 ((rd_T48 ((rd_T46 (rd_L6 l0 Ja) Jb).f0) Jd).f0), .string ((rd_T48 ((rd_T46 (rd_L6 l0 Ja) Jb).f0) Jd).f1), .string ((rd_T48 ((rd_T46 (rd_L6 l0 Ja) Jb).f0) Jd).f2)] 48 (0, 0)) (by (with_reducible repeat (first | refine blk_drewN ?_ _ | refine blk_drew ?_ | refine blk_alloc ?_ _)); refine blk_put (cs := #[.int .i64 ((rd_T48 ((rd_T46 (rd_L6 l0 Ja) Jb).f0) Jd).f0), .string ((rd_T48 ((rd_T46 (rd_L6 l0 Ja) Jb).f0) Jd).f1), .string (⟨#[]⟩ : ByteArray)]) ?_ 2 _ rfl; (with_reducible repeat (first | refine blk_drewN ?_ _ | refine blk_drew ?_ | refine blk_alloc ?_ _)); refine blk_put (cs := #[.int .i64 ((rd_T48 ((rd_T46 (rd_L6 l0 Ja) Jb).f0) Jd).f0), .string (⟨#[]⟩ : ByteArray), .string (⟨#[]⟩ : ByteArray)]) ?_ 1 _ rfl; (with_reducible repeat (first | refine blk_drewN ?_ _ | refine blk_drew ?_ | refine blk_alloc ?_ _)); refine blk_put (cs := #[.int .i64 0, .string (⟨#[]⟩ : ByteArray), .string (⟨#[]⟩ : ByteArray)]) ?_ 0 _ rfl; (with_reducible repeat (first | refine blk_drewN ?_ _ | refine blk_drew ?_ | refine blk_alloc ?_ _)); exact Jm.out) hb); have n3_ := aA (below_step (bls HB.out) hb); clear Je Jc Jm HB; have Je := n0_; have Jc := n1_; have Jm := n2_; have HB := n3_; clear n0_ n1_ n2_ n3_; (try clear hb); (try clear hb2); (try clear hk); (try clear hi)))
              go_roundg k5
              case measure => have := HK1.out; have := HK2.out; have := HJ7.out; have := HJ17.out; have := HK5.out; omega
              case rel => exact ⟨(Jo ++ Jz), (wrap64 (Jd + 1)), (by first | rfl | (simp; done) | (simp [*]; done)), (by first | rfl | (simp; done) | (simp [*]; done)), H', ⟨by have := HK1.out; have := HK2.out; have := HJ7.out; have := HJ17.out; have := HK5.out; omega⟩, ⟨by (with_reducible repeat (first | apply Kd.R_alloc | apply Kd.R_drewN | apply Kd.R_drew)); exact Je.out⟩, ⟨by (with_reducible repeat (first | refine blk_drewN ?_ _ | refine blk_drew ?_ | refine blk_alloc ?_ _)); exact Jc.out⟩, ⟨by repeat (first | (with_reducible first | exact HB.out | apply below_alloc | apply pw_below_drewN | apply below_drew1 | refine below_set ?_ Jl.out | refine below_set ?_ GE342.out) | exact HB.out)⟩⟩
             ·rw [if_neg c23] at H; have c23b0 : decide (Jd < (((rd_T46 (rd_L6 l0 Ja) Jb).f0).length : Int)) = false := decide_eq_false c23; clear c23; have H' := aA H; clear H; go_wp2; go_roundg k5
              case measure => have := HK1.out; have := HK2.out; have := HJ7.out; have := HJ17.out; have := HK5.out; omega
              case rel => exact ⟨(Jo), (wrap64 (Jb + 1)), (by first | rfl | (simp; done) | (simp [*]; done)), (by first | rfl | (simp; done) | (simp [*]; done)), H', ⟨by have := HK1.out; have := HK2.out; have := HJ7.out; have := HJ17.out; have := HK5.out; omega⟩, ⟨by (with_reducible repeat (first | apply Kd.R_alloc | apply Kd.R_drewN | apply Kd.R_drew)); exact Je.out⟩, ⟨by repeat (first | (with_reducible first | exact HB.out | apply below_alloc | apply pw_below_drewN | apply below_drew1 | refine below_set ?_ Jl.out) | exact HB.out)⟩⟩
      ·rw [if_neg c5] at H; have c5b0 : decide (Jb < ((rd_L6 l0 Ja).length : Int)) = false := decide_eq_false c5; clear c5; by_cases c32 : Jf.length < 8796093022208
       rotate_left
       ·rw [if_neg c32] at H; exact absurd H (by simp)
       rw [if_pos c32] at H; have LMc32 := aA c32; clear c32; obtain ⟨Qg, hy336⟩ : ∃ y_ : List ByteArray, y_ = (Jf ++ [Jh]) := ⟨_, rfl⟩; replace H : (sel_Print.l0 k2 l0 Qg l0 (l0.length : Int) (wrap64 (Ja + 1))) = some (r1, r2) := by first | (rw [hy336]; with_reducible exact H) | (have H2_ := (Option.bind_some _ _).symm.trans H; rw [hy336]; with_reducible exact H2_) | (have H2_ := (Option.bind_some _ _).symm.trans H; with_reducible exact H2_) | with_reducible exact H | (rw [hy336]; exact H) | exact H
       have Ny336 := aA hy336; clear hy336; have H' := aA H; clear H; go_wp2_with (first | ((with_reducible refine gate_builtin (b := .append) (xs := #[.tmp 62, .tmp 64]) rfl ?_); at_builtin; refine Kd.R_append Kd.string (w0 := w) w.heap.size rfl (.tmp 62) (.tmp 64) 40 9 (.string ⟨#[]⟩) 16 rfl Try.underlying40 info9 rfl (by decide) (by omega) u4 Jf Jh [.string Jh] (fun _ => True) (fun _ => False) rfl rfl ?aP (fun _ hk => hk.elim) ?aF ?aO ?aB ?aS ?aL ?_; (case aP => exact rfl); (case aB => exact (blw HB.out)); (case aF => exact (fun _ _ => trivial)); (case aO => exact (rlu Je.out)); (case aS => exact (below_size (blw HB.out))); (case aL => have := LMc32.out; omega); intro v337 w33 ho hb hg hat; rw [← Ny336.out] at ho; have n0_ := aA (hb); have n1_ := aA (ho); clear HB Je; have HB := n0_; have HO338 := n1_; clear n0_ n1_ ho hb hg hat))
       go_roundg k2
       case measure => have := HK1.out; have := HK2.out; omega
       case rel => exact ⟨(Qg), (wrap64 (Ja + 1)), (by first | rfl | (simp; done) | (simp [*]; done)), H', ⟨by have := HK1.out; have := HK2.out; omega⟩, ⟨by (with_reducible repeat (first | apply Kd.R_alloc | apply Kd.R_drewN | apply Kd.R_drew)); exact HO338.out⟩, ⟨by repeat (first | (with_reducible first | exact HB.out | apply below_alloc | apply pw_below_drewN | apply below_drew1) | exact HB.out)⟩⟩
   ·rw [if_neg c2] at H; have c2b0 : decide (Ja < (l0.length : Int)) = false := decide_eq_false c2; clear c2; replace H := Option.bind_eq_some_iff.mp H; obtain ⟨Jk, A340, H⟩ := H; replace H : ((sel_Parse.f k1 Jk).bind fun Qf => (if Qf.2.2 = 0 then ((sel_Step_25.f k1 l0 Qf.1).bind fun J1 => (if J1 = true then (some (Jk, 0)) else (some ((⟨#[]⟩ : ByteArray), 1)))) else (some ((⟨#[]⟩ : ByteArray), 1)))) = some (r1, r2) := H; have A34 := aA A340; clear A340; replace H := Option.bind_eq_some_iff.mp H; obtain ⟨⟨J2, J8, Jp⟩, A350, H⟩ := H; replace H : (if Jp = 0 then ((sel_Step_25.f k1 l0 J2).bind fun J1 => (if J1 = true then (some (Jk, 0)) else (some ((⟨#[]⟩ : ByteArray), 1)))) else (some ((⟨#[]⟩ : ByteArray), 1))) = some (r1, r2) := H; have A35 := aA A350; clear A350; by_cases c36 : Jp = 0
    ·rw [if_pos c36] at H; have c36b0 : (Jp == 0) = true := beq_iff_eq.mpr c36; have c36b1 : (Jp != 0) = false := bne_eq_false_iff_eq.mpr c36; clear c36; replace H := Option.bind_eq_some_iff.mp H; obtain ⟨J1, A370, H⟩ := H; replace H : (if J1 = true then (some (Jk, 0)) else (some ((⟨#[]⟩ : ByteArray), 1))) = some (r1, r2) := H; have A37 := aA A370; clear A370; by_cases c38 : J1 = true
     ·subst c38; have H1 : (some (Jk, 0)) = some (r1, r2) := by rw [if_pos rfl] at H; exact H
      clear H; have H := H1; clear H1; simp only [Option.some.injEq, Prod.mk.injEq] at H; obtain ⟨rfl, rfl⟩ := H; obtain ⟨J9, Qa, eo39⟩ := Kd.R_slice Je.out; subst eo39; go_wp2_with (first | ((with_reducible refine gate_callee (f := 24) rfl ?_); refine goesL_ (some 68) rfl rfl Try.func24 (by kernel_rfl) rfl #[.slice J9 Jf.length Qa, .string (⟨#[44, 32]⟩ : ByteArray)] rfl (by (try simp only [List.map_toArray, List.map_cons, List.map_nil]); first | done | rfl | (simp only [List.length_drop, List.length_take]; rfl)) ?_; (with_reducible refine (strings_Join.calls (fun k_ => some k_ = (.slice J9 Jf.length Qa : Value).ownBlock) (.slice J9 Jf.length Qa) Jf (⟨#[44, 32]⟩ : ByteArray) Jk w _ ?side1 ?side2 A34.out).mono ?_); (case side1 => repeat (first | (with_reducible first | exact HB.out | apply below_alloc | apply pw_below_drewN | apply below_drew1) | exact HB.out)); (case side2 => exact Kd.R_tight rfl Je.out); rintro e w40 ⟨rfl, hb, hkp⟩; refine ⟨_, rfl, ?_⟩; have n0_ := aA (hb); clear HB Je; have HB := n0_; clear n0_; (try clear hb); (try clear hkp)) | ((with_reducible refine gate_callee (f := 11) rfl ?_); refine goesL_ (some 71) rfl rfl Try.func11 (by kernel_rfl) rfl #[.string Jk] rfl (by (try simp only [List.map_toArray, List.map_cons, List.map_nil]); first | done | rfl | (simp only [List.length_drop, List.length_take]; rfl)) ?_; (with_reducible refine (sel_Parse.calls k1 Jk J2 J8 Jp _ A35.out).mono ?_); rintro e w41 ⟨v348, rfl, ho0, hb⟩; refine ⟨_, rfl, ?_⟩; have n0_ := aA (Kd.R_lower ho0 (below_size (blw HB.out))); have n1_ := aA (below_step (blw HB.out) hb); clear HB; have Ji := n0_; have HB := n1_; clear n0_ n1_; (try clear hb); (try clear hb2); (try clear hk); (try clear hi); (try clear ho0); obtain ⟨Ao42, co42, eo42⟩ := Kd.R_slice Ji.out; subst eo42) | (go_at_call 25; (with_reducible refine (sel_Step_25.calls k1 _ _ l0 _ _ J2 true _ ?side1 ?side2 ?side3 ?side4 A37.out).mono ?_); (case side1 => repeat (first | exact (Kd.C_below HR0.out HB.out) | (with_reducible refine Kd.C_alloc ?_ _) | (with_reducible refine Kd.C_drewN ?_ _) | (with_reducible refine Kd.C_drew ?_))); (case side2 => exact HC0.out); (case side3 => repeat (first | exact (Kd.R_reads' Ji.out).2.2 | (with_reducible refine Kd.C_alloc ?_ _) | (with_reducible refine Kd.C_drewN ?_ _) | (with_reducible refine Kd.C_drew ?_))); (case side4 => exact (Kd.R_reads' Ji.out).2.1); rintro e w43 ⟨rfl, hb⟩; have n0_ := aA (Kd.R_below (rlu Ji.out) hb); have n1_ := aA (below_step (blw HB.out) hb); clear Ji HB; have Ji := n0_; have HB := n1_; clear n0_ n1_; (try clear hb); (try clear hb2); (try clear hk); (try clear hi)))
      go_ret2
      exact ⟨by first | rfl | (simp [errW_none, errW_some] <;> rfl) | (simp [*, errW_none, errW_some] <;> rfl), by repeat (first | (with_reducible first | exact HB.out | apply below_alloc | apply pw_below_drewN | apply below_drew1) | exact HB.out)⟩
     ·replace c38 := Bool.eq_false_iff.mpr c38; subst c38; have H1 : (some ((⟨#[]⟩ : ByteArray), 1)) = some (r1, r2) := by rw [if_neg (show ¬ (false = true) by decide)] at H; exact H
      clear H; have H := H1; clear H1; simp only [Option.some.injEq, Prod.mk.injEq] at H; obtain ⟨rfl, rfl⟩ := H; obtain ⟨Qb, Qc, eo44⟩ := Kd.R_slice Je.out; subst eo44; go_wp2_with (first | ((with_reducible refine gate_callee (f := 24) rfl ?_); refine goesL_ (some 68) rfl rfl Try.func24 (by kernel_rfl) rfl #[.slice Qb Jf.length Qc, .string (⟨#[44, 32]⟩ : ByteArray)] rfl (by (try simp only [List.map_toArray, List.map_cons, List.map_nil]); first | done | rfl | (simp only [List.length_drop, List.length_take]; rfl)) ?_; (with_reducible refine (strings_Join.calls (fun k_ => some k_ = (.slice Qb Jf.length Qc : Value).ownBlock) (.slice Qb Jf.length Qc) Jf (⟨#[44, 32]⟩ : ByteArray) Jk w _ ?side1 ?side2 A34.out).mono ?_); (case side1 => repeat (first | (with_reducible first | exact HB.out | apply below_alloc | apply pw_below_drewN | apply below_drew1) | exact HB.out)); (case side2 => exact Kd.R_tight rfl Je.out); rintro e w45 ⟨rfl, hb, hkp⟩; refine ⟨_, rfl, ?_⟩; have n0_ := aA (hb); clear HB Je; have HB := n0_; clear n0_; (try clear hb); (try clear hkp)) | ((with_reducible refine gate_callee (f := 11) rfl ?_); refine goesL_ (some 71) rfl rfl Try.func11 (by kernel_rfl) rfl #[.string Jk] rfl (by (try simp only [List.map_toArray, List.map_cons, List.map_nil]); first | done | rfl | (simp only [List.length_drop, List.length_take]; rfl)) ?_; (with_reducible refine (sel_Parse.calls k1 Jk J2 J8 Jp _ A35.out).mono ?_); rintro e w46 ⟨v348, rfl, ho0, hb⟩; refine ⟨_, rfl, ?_⟩; have n0_ := aA (Kd.R_lower ho0 (below_size (blw HB.out))); have n1_ := aA (below_step (blw HB.out) hb); clear HB; have Ji := n0_; have HB := n1_; clear n0_ n1_; (try clear hb); (try clear hb2); (try clear hk); (try clear hi); (try clear ho0); obtain ⟨Ao47, co47, eo47⟩ := Kd.R_slice Ji.out; subst eo47) | (go_at_call 25; (with_reducible refine (sel_Step_25.calls k1 _ _ l0 _ _ J2 false _ ?side1 ?side2 ?side3 ?side4 A37.out).mono ?_); (case side1 => repeat (first | exact (Kd.C_below HR0.out HB.out) | (with_reducible refine Kd.C_alloc ?_ _) | (with_reducible refine Kd.C_drewN ?_ _) | (with_reducible refine Kd.C_drew ?_))); (case side2 => exact HC0.out); (case side3 => repeat (first | exact (Kd.R_reads' Ji.out).2.2 | (with_reducible refine Kd.C_alloc ?_ _) | (with_reducible refine Kd.C_drewN ?_ _) | (with_reducible refine Kd.C_drew ?_))); (case side4 => exact (Kd.R_reads' Ji.out).2.1); rintro e w48 ⟨rfl, hb⟩; have n0_ := aA (Kd.R_below (rlu Ji.out) hb); have n1_ := aA (below_step (blw HB.out) hb); clear Ji HB; have Ji := n0_; have HB := n1_; clear n0_ n1_; (try clear hb); (try clear hb2); (try clear hk); (try clear hi)))
      go_ret2
      exact ⟨by first | rfl | (simp [errW_none, errW_some] <;> rfl) | (simp [*, errW_none, errW_some] <;> rfl), by repeat (first | (with_reducible first | exact HB.out | apply below_alloc | apply pw_below_drewN | apply below_drew1) | exact HB.out)⟩
    ·rw [if_neg c36] at H; have c36b0 : (Jp == 0) = false := beq_eq_false_iff_ne.mpr c36; have c36b1 : (Jp != 0) = true := bne_iff_ne.mpr c36; simp only [Option.some.injEq, Prod.mk.injEq] at H; obtain ⟨rfl, rfl⟩ := H; obtain ⟨Qd, Qe, eo49⟩ := Kd.R_slice Je.out; subst eo49; go_wp2_with (first | ((with_reducible refine gate_callee (f := 24) rfl ?_); refine goesL_ (some 68) rfl rfl Try.func24 (by kernel_rfl) rfl #[.slice Qd Jf.length Qe, .string (⟨#[44, 32]⟩ : ByteArray)] rfl (by (try simp only [List.map_toArray, List.map_cons, List.map_nil]); first | done | rfl | (simp only [List.length_drop, List.length_take]; rfl)) ?_; (with_reducible refine (strings_Join.calls (fun k_ => some k_ = (.slice Qd Jf.length Qe : Value).ownBlock) (.slice Qd Jf.length Qe) Jf (⟨#[44, 32]⟩ : ByteArray) Jk w _ ?side1 ?side2 A34.out).mono ?_); (case side1 => repeat (first | (with_reducible first | exact HB.out | apply below_alloc | apply pw_below_drewN | apply below_drew1) | exact HB.out)); (case side2 => exact Kd.R_tight rfl Je.out); rintro e w50 ⟨rfl, hb, hkp⟩; refine ⟨_, rfl, ?_⟩; have n0_ := aA (hb); clear HB Je; have HB := n0_; clear n0_; (try clear hb); (try clear hkp)) | ((with_reducible refine gate_callee (f := 11) rfl ?_); refine goesL_ (some 71) rfl rfl Try.func11 (by kernel_rfl) rfl #[.string Jk] rfl (by (try simp only [List.map_toArray, List.map_cons, List.map_nil]); first | done | rfl | (simp only [List.length_drop, List.length_take]; rfl)) ?_; (with_reducible refine (sel_Parse.calls k1 Jk J2 J8 Jp _ A35.out).mono ?_); rintro e w51 ⟨v348, rfl, ho0, hb⟩; refine ⟨_, rfl, ?_⟩; have n0_ := aA (Kd.R_lower ho0 (below_size (blw HB.out))); have n1_ := aA (below_step (blw HB.out) hb); clear HB; have Ji := n0_; have HB := n1_; clear n0_ n1_; (try clear hb); (try clear hb2); (try clear hk); (try clear hi); (try clear ho0)))
     go_ret2
     exact ⟨by first | rfl | (simp [errW_none, errW_some] <;> rfl) | (simp [*, errW_none, errW_some] <;> rfl), by repeat (first | (with_reducible first | exact HB.out | apply below_alloc | apply pw_below_drewN | apply below_drew1) | exact HB.out)⟩

end Go.Proofs.Ytjiejmkkaekefaa.PA
