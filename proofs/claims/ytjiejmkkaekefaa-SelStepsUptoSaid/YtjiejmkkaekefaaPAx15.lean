-- Written by wip/hprint/hprint.py (a program of this session, over the print): not typed by hand
import Derived.Test.YtjiejmkkaekefaaPAx0
import Derived.Test.YtjiejmkkaekefaaPAx2
namespace Go.Proofs.Ytjiejmkkaekefaa.PA
open Go.RowKit Go.Proofs.YtjiejmkkaekefaaW.PrintWords Go.Proofs.YtjiejmkkaekefaaW.PrintLast Go.Proofs.YtjiejmkkaekefaaW.PrintMore
attribute [local go_sem] max2_int min2_int max_two min_two max_three min_three max_four min_four   -- for this text's walks alone
open Go.Proofs.YtjiejmkkaekefaaH
set_option linter.unusedVariables false
set_option linter.unusedSimpArgs false

attribute [local go_sem high] eqA62
/-! ### treillageref09_Same: function 13 -/
mutual
def treillageref09_Same.l0 : Nat → List (List (S61)) → List (List (S61)) → Int → Option (Bool)
 | 0, _, _, _ => none
 | k + 1, x0, x1, x5 => if x5 < (x0.length : Int) then (if 0 ≤ x5 then (if x5 < (x1.length : Int) then (if ((rd_L13 x0 x5).length : Int) = ((rd_L13 x1 x5).length : Int) then (treillageref09_Same.l1 k x0 x1 x5 0) else (some false)) else (none)) else (none)) else (some true)
def treillageref09_Same.l1 : Nat → List (List (S61)) → List (List (S61)) → Int → Int → Option (Bool)
 | 0, _, _, _, _ => none
 | k + 1, x0, x1, x5, x6 => if 0 ≤ x5 then (if x5 < (x0.length : Int) then (if x6 < ((rd_L13 x0 x5).length : Int) then (if 0 ≤ x6 then (if x5 < (x1.length : Int) then (if x6 < ((rd_L13 x1 x5).length : Int) then (if (((rd_T61 (rd_L13 x0 x5) x6).f1) != ((rd_T61 (rd_L13 x1 x5) x6).f1)) = true then (treillageref09_Same.j2 k x0 x1 x5 x6 true) else (treillageref09_Same.j2 k x0 x1 x5 x6 ((((rd_T61 (rd_L13 x0 x5) x6).f0).length : Int) != (((rd_T61 (rd_L13 x1 x5) x6).f0).length : Int)))) else (none)) else (none)) else (none)) else (treillageref09_Same.l0 k x0 x1 (wrap64 (x5 + 1)))) else (none)) else (none)
def treillageref09_Same.j2 : Nat → List (List (S61)) → List (List (S61)) → Int → Int → Bool → Option (Bool)
 | 0, _, _, _, _, _ => none
 | k + 1, x0, x1, x5, x6, x76 => if x76 = true then (some false) else (treillageref09_Same.l2 k x0 x1 x5 x6 0)
def treillageref09_Same.l2 : Nat → List (List (S61)) → List (List (S61)) → Int → Int → Int → Option (Bool)
 | 0, _, _, _, _, _ => none
 | k + 1, x0, x1, x5, x6, x7 => if 0 ≤ x5 then (if x5 < (x0.length : Int) then (if 0 ≤ x6 then (if x6 < ((rd_L13 x0 x5).length : Int) then (if x7 < (((rd_T61 (rd_L13 x0 x5) x6).f0).length : Int) then (if 0 ≤ x7 then (if x5 < (x1.length : Int) then (if x6 < ((rd_L13 x1 x5).length : Int) then (if x7 < (((rd_T61 (rd_L13 x1 x5) x6).f0).length : Int) then (if (!(((rd_T62 ((rd_T61 (rd_L13 x0 x5) x6).f0) x7).f0) == ((rd_T62 ((rd_T61 (rd_L13 x1 x5) x6).f0) x7).f0)) || (!((((rd_T62 ((rd_T61 (rd_L13 x0 x5) x6).f0) x7).f1).toList) == (((rd_T62 ((rd_T61 (rd_L13 x1 x5) x6).f0) x7).f1).toList)) || (!((((rd_T62 ((rd_T61 (rd_L13 x0 x5) x6).f0) x7).f2).toList) == (((rd_T62 ((rd_T61 (rd_L13 x1 x5) x6).f0) x7).f2).toList))))) = true then (some false) else (treillageref09_Same.l2 k x0 x1 x5 x6 (wrap64 (x7 + 1)))) else (none)) else (none)) else (none)) else (none)) else (treillageref09_Same.l1 k x0 x1 x5 (wrap64 (x6 + 1)))) else (none)) else (none)) else (none)) else (none)
end
def treillageref09_Same.f (k : Nat) (l0 : List (List (S61))) (l1 : List (List (S61))) : Option (Bool) := if (l0.length : Int) = (l1.length : Int) then (treillageref09_Same.l0 k l0 l1 0) else (some false)
theorem treillageref09_Same.mono_l : ∀ k, (∀ y0 y1 y2, LeO (treillageref09_Same.l0 k y0 y1 y2) (treillageref09_Same.l0 (k + 1) y0 y1 y2)) ∧ (∀ y0 y1 y2 y3, LeO (treillageref09_Same.l1 k y0 y1 y2 y3) (treillageref09_Same.l1 (k + 1) y0 y1 y2 y3)) ∧ (∀ y0 y1 y2 y3 y4, LeO (treillageref09_Same.j2 k y0 y1 y2 y3 y4) (treillageref09_Same.j2 (k + 1) y0 y1 y2 y3 y4)) ∧ (∀ y0 y1 y2 y3 y4, LeO (treillageref09_Same.l2 k y0 y1 y2 y3 y4) (treillageref09_Same.l2 (k + 1) y0 y1 y2 y3 y4))
 | 0 => ⟨fun _ _ _ r h => by simp [treillageref09_Same.l0] at h, fun _ _ _ _ r h => by simp [treillageref09_Same.l1] at h, fun _ _ _ _ _ r h => by simp [treillageref09_Same.j2] at h, fun _ _ _ _ _ r h => by simp [treillageref09_Same.l2] at h⟩
 | k + 1 => by
  obtain ⟨ih0, ih1, ih2, ih3⟩ := treillageref09_Same.mono_l k; refine ⟨?_, ?_, ?_, ?_⟩
  ·intro y0 y1 y2
   unfold treillageref09_Same.l0; repeat' first
   | (with_reducible exact ih0 _ _ _)
   | (with_reducible exact ih1 _ _ _ _)
   | (with_reducible exact ih2 _ _ _ _ _)
   | (with_reducible exact ih3 _ _ _ _ _)
   | (with_reducible exact LeO.refl _)
   | (with_reducible exact LeO.none _)
   | (with_reducible refine LeO.ite ?_ ?_)
   | (with_reducible refine LeO.exB (fun _ => ?_))
   | (with_reducible refine LeO.bind ?_ (fun _ => ?_))
   | exact ih0 _ _ _
   | exact ih1 _ _ _ _
   | exact ih2 _ _ _ _ _
   | exact ih3 _ _ _ _ _
   | exact LeO.none _
   | refine LeO.ite ?_ ?_
   | refine LeO.bind ?_ (fun _ => ?_)
  ·intro y0 y1 y2 y3
   unfold treillageref09_Same.l1; repeat' first
   | (with_reducible exact ih0 _ _ _)
   | (with_reducible exact ih1 _ _ _ _)
   | (with_reducible exact ih2 _ _ _ _ _)
   | (with_reducible exact ih3 _ _ _ _ _)
   | (with_reducible exact LeO.refl _)
   | (with_reducible exact LeO.none _)
   | (with_reducible refine LeO.ite ?_ ?_)
   | (with_reducible refine LeO.exB (fun _ => ?_))
   | (with_reducible refine LeO.bind ?_ (fun _ => ?_))
   | exact ih0 _ _ _
   | exact ih1 _ _ _ _
   | exact ih2 _ _ _ _ _
   | exact ih3 _ _ _ _ _
   | exact LeO.none _
   | refine LeO.ite ?_ ?_
   | refine LeO.bind ?_ (fun _ => ?_)
  ·intro y0 y1 y2 y3 y4
   unfold treillageref09_Same.j2; repeat' first
   | (with_reducible exact ih0 _ _ _)
   | (with_reducible exact ih1 _ _ _ _)
   | (with_reducible exact ih2 _ _ _ _ _)
   | (with_reducible exact ih3 _ _ _ _ _)
   | (with_reducible exact LeO.refl _)
   | (with_reducible exact LeO.none _)
   | (with_reducible refine LeO.ite ?_ ?_)
   | (with_reducible refine LeO.exB (fun _ => ?_))
   | (with_reducible refine LeO.bind ?_ (fun _ => ?_))
   | exact ih0 _ _ _
   | exact ih1 _ _ _ _
   | exact ih2 _ _ _ _ _
   | exact ih3 _ _ _ _ _
   | exact LeO.none _
   | refine LeO.ite ?_ ?_
   | refine LeO.bind ?_ (fun _ => ?_)
  ·intro y0 y1 y2 y3 y4
   unfold treillageref09_Same.l2; repeat' first
   | (with_reducible exact ih0 _ _ _)
   | (with_reducible exact ih1 _ _ _ _)
   | (with_reducible exact ih2 _ _ _ _ _)
   | (with_reducible exact ih3 _ _ _ _ _)
   | (with_reducible exact LeO.refl _)
   | (with_reducible exact LeO.none _)
   | (with_reducible refine LeO.ite ?_ ?_)
   | (with_reducible refine LeO.exB (fun _ => ?_))
   | (with_reducible refine LeO.bind ?_ (fun _ => ?_))
   | exact ih0 _ _ _
   | exact ih1 _ _ _ _
   | exact ih2 _ _ _ _ _
   | exact ih3 _ _ _ _ _
   | exact LeO.none _
   | refine LeO.ite ?_ ?_
   | refine LeO.bind ?_ (fun _ => ?_)
theorem treillageref09_Same.mono : ∀ a0 a1 k, LeO (treillageref09_Same.f k a0 a1) (treillageref09_Same.f (k + 1) a0 a1) := by
 intro a0 a1 k
 obtain ⟨ih0, ih1, ih2, ih3⟩ := treillageref09_Same.mono_l k; unfold treillageref09_Same.f
 repeat' first
   | (with_reducible exact ih0 _ _ _)
   | (with_reducible exact ih1 _ _ _ _)
   | (with_reducible exact ih2 _ _ _ _ _)
   | (with_reducible exact ih3 _ _ _ _ _)
   | (with_reducible exact LeO.refl _)
   | (with_reducible exact LeO.none _)
   | (with_reducible refine LeO.ite ?_ ?_)
   | (with_reducible refine LeO.exB (fun _ => ?_))
   | (with_reducible refine LeO.bind ?_ (fun _ => ?_))
   | exact ih0 _ _ _
   | exact ih1 _ _ _ _
   | exact ih2 _ _ _ _ _
   | exact ih3 _ _ _ _ _
   | exact LeO.none _
   | refine LeO.ite ?_ ?_
   | refine LeO.bind ?_ (fun _ => ?_)
set_option maxHeartbeats 8000000 in
set_option maxRecDepth 100000 in
theorem treillageref09_Same.calls (k : Nat) (A0 : Option Addr) (c0 : Nat) (l0 : List (List (S61))) (A1 : Option Addr) (c1 : Nat) (l1 : List (List (S61))) (r : Bool) (w : World) (hr0 : Kd.C (Kd.slice 61 k61) w A0 l0.length l0) (hc0 : l0.length ≤ c0) (hr1 : Kd.C (Kd.slice 61 k61) w A1 l1.length l1) (hc1 : l1.length ≤ c1) (h : treillageref09_Same.f k l0 l1 = some r) :
  Calls Try.prog 13 #[.slice A0 l0.length c0, .slice A1 l1.length c1] w fun e w' => e = .returned (.bool r) ∧ Drawn0 w w' := by
 have hu62 := Try.underlying62; have HR0 := aA hr0; have HC0 := aA hc0; clear hr0 hc0; have HR1 := aA hr1; have HC1 := aA hc1; clear hr1 hc1; have H : (if (l0.length : Int) = (l1.length : Int) then (treillageref09_Same.l0 k l0 l1 0) else (some false)) = some r := h; clear h; by_cases c3 : (l0.length : Int) = (l1.length : Int)
 ·rw [if_pos c3] at H; have c3b0 : ((l0.length : Int) == (l1.length : Int)) = true := beq_iff_eq.mpr c3; have c3b1 : ((l0.length : Int) != (l1.length : Int)) = false := bne_eq_false_iff_eq.mpr c3; have c3b2 : (l0.length == l1.length) = true := by first | simpa using c3 | (simp at c3 ⊢; omega)
  clear c3; have H' := aA H; clear H; go_enter Try.func13, Try.ntmps13; go_wp2; repeat (go_quiet (fail); try go_wp2)
  go_loopg [5] k (fun kq v5 w' => ∃ (Ja : Int), v5 = .int .i64 Ja ∧ Aside0 (treillageref09_Same.l0 kq l0 l1 Ja = some r) ∧ Aside0 (kq ≤ k) ∧ Drawn0 w w')
  case atStart => exact ⟨(0), (by first | rfl | (simp; done) | (simp [*]; done)), H', ⟨Nat.le_refl _⟩, by repeat (first | exact Drawn0.refl _ | apply Drawn0.step)⟩
  case round =>
   clear H'; try clear c1
   try clear p2
   try clear c3
   try clear c3b0
   try clear c3b1
   try clear c3b2
   obtain ⟨Ja, rfl, HA, HK1, ⟨m1, rfl⟩⟩ := hrel; cases gk with
   | zero => exact absurd HA.out (by simp [treillageref09_Same.l0])
   | succ k1 =>
    have H := HA.out; clear HA; simp only [treillageref09_Same.l0] at H; by_cases c4 : Ja < (l0.length : Int)
    ·rw [if_pos c4] at H; have c4b0 : decide (Ja < (l0.length : Int)) = true := decide_eq_true c4; clear c4; by_cases c5 : 0 ≤ Ja
     rotate_left
     ·rw [if_neg c5] at H; exact absurd H (by simp)
     rw [if_pos c5] at H; have c5b0 : decide (0 ≤ Ja) = true := decide_eq_true c5; clear c5; by_cases c6 : Ja < (l1.length : Int)
     rotate_left
     ·rw [if_neg c6] at H; exact absurd H (by simp)
     rw [if_pos c6] at H; have c6b0 : decide (Ja < (l1.length : Int)) = true := decide_eq_true c6; clear c6; by_cases c7 : ((rd_L13 l0 Ja).length : Int) = ((rd_L13 l1 Ja).length : Int)
     ·rw [if_pos c7] at H; have c7b0 : (((rd_L13 l0 Ja).length : Int) == ((rd_L13 l1 Ja).length : Int)) = true := beq_iff_eq.mpr c7; have c7b1 : (((rd_L13 l0 Ja).length : Int) != ((rd_L13 l1 Ja).length : Int)) = false := bne_eq_false_iff_eq.mpr c7; have c7b2 : ((rd_L13 l0 Ja).length == (rd_L13 l1 Ja).length) = true := by first | simpa using c7 | (simp at c7 ⊢; omega)
      clear c7; have H' := aA H; clear H; have p438 : 0 ≤ (Ja : Int) := of_decide_eq_true (by first | (with_reducible assumption) | assumption); have q438 : Ja < (l0.length : Int) := of_decide_eq_true (by first | (with_reducible assumption) | assumption); obtain ⟨ad438, A438_0, c438_0, e438, hx438_0, hl438_0, hi438_0⟩ := at_L13 HR0.out Ja p438 q438; cases e438
      have HR438_0 := aA hi438_0; have HC438_0 := aA hl438_0; clear hi438_0 hl438_0; replace p438 := eq_true p438; replace q438 := eq_true q438; have p439 : 0 ≤ (Ja : Int) := of_decide_eq_true (by first | (with_reducible assumption) | assumption); have q439 : Ja < (l1.length : Int) := of_decide_eq_true (by first | (with_reducible assumption) | assumption); obtain ⟨ad439, A439_0, c439_0, e439, hx439_0, hl439_0, hi439_0⟩ := at_L13 HR1.out Ja p439 q439; cases e439
      have HR439_0 := aA hi439_0; have HC439_0 := aA hl439_0; clear hi439_0 hl439_0; replace p439 := eq_true p439; replace q439 := eq_true q439; go_wp2; repeat (go_quiet (fail); try go_wp2)
      go_loopg [6] k1 (fun kq v6 w' => ∃ (Jb : Int), v6 = .int .i64 Jb ∧ Aside0 (treillageref09_Same.l1 kq l0 l1 Ja Jb = some r) ∧ Aside0 (kq ≤ k1) ∧ Drawn0 w w')
      case atStart => exact ⟨(0), (by first | rfl | (simp; done) | (simp [*]; done)), H', ⟨Nat.le_refl _⟩, by repeat (first | exact Drawn0.refl _ | apply Drawn0.step)⟩
      case round =>
       clear H'; try clear c1
       try clear p2
       try clear c3
       try clear c3b0
       try clear c3b1
       try clear c3b2
       try clear c4
       try clear c4b0
       try clear p4
       try clear q4
       try clear hx4
       try clear c5
       try clear c5b0
       try clear c6
       try clear c6b0
       try clear c7
       try clear c7b0
       try clear c7b1
       try clear c7b2
       try clear hx438_0
       try clear hx439_0
       try clear p2
       try clear p438
       try clear p439
       try clear q438
       try clear q439
       obtain ⟨Jb, rfl, HA, HK2, ⟨m2, rfl⟩⟩ := hrel; cases gk with
       | zero => exact absurd HA.out (by simp [treillageref09_Same.l1])
       | succ k2 =>
        have H := HA.out; clear HA; simp only [treillageref09_Same.l1] at H; by_cases c8 : 0 ≤ Ja
        rotate_left
        ·rw [if_neg c8] at H; exact absurd H (by simp)
        rw [if_pos c8] at H; have c8b0 : decide (0 ≤ Ja) = true := decide_eq_true c8; clear c8; by_cases c9 : Ja < (l0.length : Int)
        rotate_left
        ·rw [if_neg c9] at H; exact absurd H (by simp)
        rw [if_pos c9] at H; have c9b0 : decide (Ja < (l0.length : Int)) = true := decide_eq_true c9; clear c9; by_cases c10 : Jb < ((rd_L13 l0 Ja).length : Int)
        ·rw [if_pos c10] at H; have c10b0 : decide (Jb < ((rd_L13 l0 Ja).length : Int)) = true := decide_eq_true c10; clear c10; have HC11 := aA H; clear H; have p440 : 0 ≤ (Ja : Int) := of_decide_eq_true (by first | (with_reducible assumption) | assumption); have q440 : Ja < (l0.length : Int) := of_decide_eq_true (by first | (with_reducible assumption) | assumption); obtain ⟨ad440, A440_0, c440_0, e440, hx440_0, hl440_0, hi440_0⟩ := at_L13 HR0.out Ja p440 q440; obtain rfl : ad438 = ad440 := (by injection e440); have HR440_0 := aA hi440_0; have HC440_0 := aA hl440_0; clear hi440_0 hl440_0; replace p440 := eq_true p440; replace q440 := eq_true q440; go_upto_region 11 with (fail)
         repeat (go_quiet (fail); go_upto_region 11 with (fail))
         go_cut [76] (fun v76 wc => ∃ (kq : Nat) (Jd : Bool), v76 = .bool Jd ∧ Aside0 (treillageref09_Same.j2 kq l0 l1 Ja Jb Jd = some r) ∧ Aside0 (kq ≤ k2) ∧ Drawn0 w wc)
         case first =>
          have H := HC11.out; clear HC11; by_cases c12 : 0 ≤ Jb
          rotate_left
          ·rw [if_neg c12] at H; exact absurd H (by simp)
          rw [if_pos c12] at H; have c12b0 : decide (0 ≤ Jb) = true := decide_eq_true c12; clear c12; (first | rw [c12b0] | rw [c12b1] | (simp only [i64_w, i32_w]; rw [c12b0]) | skip)
          by_cases c13 : Ja < (l1.length : Int)
          rotate_left
          ·rw [if_neg c13] at H; exact absurd H (by simp)
          rw [if_pos c13] at H; have c13b0 : decide (Ja < (l1.length : Int)) = true := decide_eq_true c13; clear c13; by_cases c14 : Jb < ((rd_L13 l1 Ja).length : Int)
          rotate_left
          ·rw [if_neg c14] at H; exact absurd H (by simp)
          rw [if_pos c14] at H; have c14b0 : decide (Jb < ((rd_L13 l1 Ja).length : Int)) = true := decide_eq_true c14; clear c14; by_cases c15 : (((rd_T61 (rd_L13 l0 Ja) Jb).f1) != ((rd_T61 (rd_L13 l1 Ja) Jb).f1)) = true
          ·rw [if_pos c15] at H; have c15b0 : (((rd_T61 (rd_L13 l0 Ja) Jb).f1) != ((rd_T61 (rd_L13 l1 Ja) Jb).f1)) = true := c15; (try (have c15b1 : decide (((rd_T61 (rd_L13 l0 Ja) Jb).f1) = ((rd_T61 (rd_L13 l1 Ja) Jb).f1)) = false := by simpa using c15)); (try (have c15b2 : (((rd_T61 (rd_L13 l0 Ja) Jb).f1) == ((rd_T61 (rd_L13 l1 Ja) Jb).f1)) = false := by simpa using c15)); (try (have c15b3 : ¬ (((rd_T61 (rd_L13 l0 Ja) Jb).f1) = ((rd_T61 (rd_L13 l1 Ja) Jb).f1)) := by simpa using c15)); clear c15; have H' := aA H; clear H; have p441 : 0 ≤ (Ja : Int) := of_decide_eq_true (by first | (with_reducible assumption) | assumption); have q441 : Ja < (l0.length : Int) := of_decide_eq_true (by first | (with_reducible assumption) | assumption); obtain ⟨ad441, A441_0, c441_0, e441, hx441_0, hl441_0, hi441_0⟩ := at_L13 HR0.out Ja p441 q441; obtain rfl : ad438 = ad441 := (by injection e441); have HR441_0 := aA hi441_0; have HC441_0 := aA hl441_0; clear hi441_0 hl441_0; replace p441 := eq_true p441; replace q441 := eq_true q441; have p442 : 0 ≤ (Jb : Int) := of_decide_eq_true (by first | (with_reducible assumption) | assumption); have q442 : Jb < ((rd_L13 l0 Ja).length : Int) := of_decide_eq_true (by first | (with_reducible assumption) | assumption); obtain ⟨ad442, A442_0, c442_0, e442, hx442_0, hx442_1, hl442_0, hi442_0⟩ := at_T61 HR441_0.out Jb p442 q442; cases e442
           have HR442_0 := aA hi442_0; have HC442_0 := aA hl442_0; clear hi442_0 hl442_0; replace p442 := eq_true p442; replace q442 := eq_true q442; have p443 : 0 ≤ (Ja : Int) := of_decide_eq_true (by first | (with_reducible assumption) | assumption); have q443 : Ja < (l1.length : Int) := of_decide_eq_true (by first | (with_reducible assumption) | assumption); obtain ⟨ad443, A443_0, c443_0, e443, hx443_0, hl443_0, hi443_0⟩ := at_L13 HR1.out Ja p443 q443; obtain rfl : ad439 = ad443 := (by injection e443); have HR443_0 := aA hi443_0; have HC443_0 := aA hl443_0; clear hi443_0 hl443_0; replace p443 := eq_true p443; replace q443 := eq_true q443; have p444 : 0 ≤ (Jb : Int) := of_decide_eq_true (by first | (with_reducible assumption) | assumption); have q444 : Jb < ((rd_L13 l1 Ja).length : Int) := of_decide_eq_true (by first | (with_reducible assumption) | assumption); obtain ⟨ad444, A444_0, c444_0, e444, hx444_0, hx444_1, hl444_0, hi444_0⟩ := at_T61 HR443_0.out Jb p444 q444; cases e444
           have HR444_0 := aA hi444_0; have HC444_0 := aA hl444_0; clear hi444_0 hl444_0; replace p444 := eq_true p444; replace q444 := eq_true q444; (try (have eu_ := Option.some.inj (hx438_0.symm.trans hx440_0); injection eu_ with eu1_ eu2_ eu3_; (try subst eu1_); (try cases eu1_); (try subst eu3_))); (try (have eu_ := Option.some.inj (hx438_0.symm.trans hx441_0); injection eu_ with eu1_ eu2_ eu3_; (try subst eu1_); (try cases eu1_); (try subst eu3_))); (try (have eu_ := Option.some.inj (hx440_0.symm.trans hx441_0); injection eu_ with eu1_ eu2_ eu3_; (try subst eu1_); (try cases eu1_); (try subst eu3_))); (try (have eu_ := Option.some.inj (hx439_0.symm.trans hx443_0); injection eu_ with eu1_ eu2_ eu3_; (try subst eu1_); (try cases eu1_); (try subst eu3_))); go_wp2; repeat (go_quiet (fail); try go_wp2)
           go_meet
           case rel => exact ⟨_, (true), (by first | rfl | (simp; done) | (simp [*]; done)), H', ⟨by have := HK1.out; have := HK2.out; first | omega | exact Nat.le_refl _⟩, by repeat (first | exact Drawn0.refl _ | apply Drawn0.step)⟩
          ·rw [if_neg c15] at H; have c15b0 : (((rd_T61 (rd_L13 l0 Ja) Jb).f1) != ((rd_T61 (rd_L13 l1 Ja) Jb).f1)) = false := by simpa using c15
           (try (have c15b1 : decide (((rd_T61 (rd_L13 l0 Ja) Jb).f1) = ((rd_T61 (rd_L13 l1 Ja) Jb).f1)) = true := by simpa using c15)); (try (have c15b2 : (((rd_T61 (rd_L13 l0 Ja) Jb).f1) == ((rd_T61 (rd_L13 l1 Ja) Jb).f1)) = true := by simpa using c15)); clear c15; have H' := aA H; clear H; have p441 : 0 ≤ (Ja : Int) := of_decide_eq_true (by first | (with_reducible assumption) | assumption); have q441 : Ja < (l0.length : Int) := of_decide_eq_true (by first | (with_reducible assumption) | assumption); obtain ⟨ad441, A441_0, c441_0, e441, hx441_0, hl441_0, hi441_0⟩ := at_L13 HR0.out Ja p441 q441; obtain rfl : ad438 = ad441 := (by injection e441); have HR441_0 := aA hi441_0; have HC441_0 := aA hl441_0; clear hi441_0 hl441_0; replace p441 := eq_true p441; replace q441 := eq_true q441; have p442 : 0 ≤ (Jb : Int) := of_decide_eq_true (by first | (with_reducible assumption) | assumption); have q442 : Jb < ((rd_L13 l0 Ja).length : Int) := of_decide_eq_true (by first | (with_reducible assumption) | assumption); obtain ⟨ad442, A442_0, c442_0, e442, hx442_0, hx442_1, hl442_0, hi442_0⟩ := at_T61 HR441_0.out Jb p442 q442; cases e442
           have HR442_0 := aA hi442_0; have HC442_0 := aA hl442_0; clear hi442_0 hl442_0; replace p442 := eq_true p442; replace q442 := eq_true q442; have p443 : 0 ≤ (Ja : Int) := of_decide_eq_true (by first | (with_reducible assumption) | assumption); have q443 : Ja < (l1.length : Int) := of_decide_eq_true (by first | (with_reducible assumption) | assumption); obtain ⟨ad443, A443_0, c443_0, e443, hx443_0, hl443_0, hi443_0⟩ := at_L13 HR1.out Ja p443 q443; obtain rfl : ad439 = ad443 := (by injection e443); have HR443_0 := aA hi443_0; have HC443_0 := aA hl443_0; clear hi443_0 hl443_0; replace p443 := eq_true p443; replace q443 := eq_true q443; have p444 : 0 ≤ (Jb : Int) := of_decide_eq_true (by first | (with_reducible assumption) | assumption); have q444 : Jb < ((rd_L13 l1 Ja).length : Int) := of_decide_eq_true (by first | (with_reducible assumption) | assumption); obtain ⟨ad444, A444_0, c444_0, e444, hx444_0, hx444_1, hl444_0, hi444_0⟩ := at_T61 HR443_0.out Jb p444 q444; cases e444
           have HR444_0 := aA hi444_0; have HC444_0 := aA hl444_0; clear hi444_0 hl444_0; replace p444 := eq_true p444; replace q444 := eq_true q444; have p445 : 0 ≤ (Ja : Int) := of_decide_eq_true (by first | (with_reducible assumption) | assumption); have q445 : Ja < (l0.length : Int) := of_decide_eq_true (by first | (with_reducible assumption) | assumption); obtain ⟨ad445, A445_0, c445_0, e445, hx445_0, hl445_0, hi445_0⟩ := at_L13 HR0.out Ja p445 q445; obtain rfl : ad438 = ad445 := (by injection e445); have HR445_0 := aA hi445_0; have HC445_0 := aA hl445_0; clear hi445_0 hl445_0; replace p445 := eq_true p445; replace q445 := eq_true q445; have ea_ := Option.some.inj (hx441_0.symm.trans hx445_0); injection ea_ with ea_ en_ ec_; subst ea_; subst ec_; clear en_; have p446 : 0 ≤ (Jb : Int) := of_decide_eq_true (by first | (with_reducible assumption) | assumption); have q446 : Jb < ((rd_L13 l0 Ja).length : Int) := of_decide_eq_true (by first | (with_reducible assumption) | assumption); obtain ⟨ad446, A446_0, c446_0, e446, hx446_0, hx446_1, hl446_0, hi446_0⟩ := at_T61 HR445_0.out Jb p446 q446; cases e446
           have HR446_0 := aA hi446_0; have HC446_0 := aA hl446_0; clear hi446_0 hl446_0; replace p446 := eq_true p446; replace q446 := eq_true q446; have p447 : 0 ≤ (Ja : Int) := of_decide_eq_true (by first | (with_reducible assumption) | assumption); have q447 : Ja < (l1.length : Int) := of_decide_eq_true (by first | (with_reducible assumption) | assumption); obtain ⟨ad447, A447_0, c447_0, e447, hx447_0, hl447_0, hi447_0⟩ := at_L13 HR1.out Ja p447 q447; obtain rfl : ad439 = ad447 := (by injection e447); have HR447_0 := aA hi447_0; have HC447_0 := aA hl447_0; clear hi447_0 hl447_0; replace p447 := eq_true p447; replace q447 := eq_true q447; have ea_ := Option.some.inj (hx443_0.symm.trans hx447_0); injection ea_ with ea_ en_ ec_; subst ea_; subst ec_; clear en_; have p448 : 0 ≤ (Jb : Int) := of_decide_eq_true (by first | (with_reducible assumption) | assumption); have q448 : Jb < ((rd_L13 l1 Ja).length : Int) := of_decide_eq_true (by first | (with_reducible assumption) | assumption); obtain ⟨ad448, A448_0, c448_0, e448, hx448_0, hx448_1, hl448_0, hi448_0⟩ := at_T61 HR447_0.out Jb p448 q448; cases e448
           have HR448_0 := aA hi448_0; have HC448_0 := aA hl448_0; clear hi448_0 hl448_0; replace p448 := eq_true p448; replace q448 := eq_true q448; (try (have eu_ := Option.some.inj (hx438_0.symm.trans hx440_0); injection eu_ with eu1_ eu2_ eu3_; (try subst eu1_); (try cases eu1_); (try subst eu3_))); (try (have eu_ := Option.some.inj (hx438_0.symm.trans hx441_0); injection eu_ with eu1_ eu2_ eu3_; (try subst eu1_); (try cases eu1_); (try subst eu3_))); (try (have eu_ := Option.some.inj (hx440_0.symm.trans hx441_0); injection eu_ with eu1_ eu2_ eu3_; (try subst eu1_); (try cases eu1_); (try subst eu3_))); (try (have eu_ := Option.some.inj (hx438_0.symm.trans hx445_0); injection eu_ with eu1_ eu2_ eu3_; (try subst eu1_); (try cases eu1_); (try subst eu3_))); (try (have eu_ := Option.some.inj (hx440_0.symm.trans hx445_0); injection eu_ with eu1_ eu2_ eu3_; (try subst eu1_); (try cases eu1_); (try subst eu3_))); (try (have eu_ := Option.some.inj (hx441_0.symm.trans hx445_0); injection eu_ with eu1_ eu2_ eu3_; (try subst eu1_); (try cases eu1_); (try subst eu3_))); (try (have eu_ := Option.some.inj (hx439_0.symm.trans hx443_0); injection eu_ with eu1_ eu2_ eu3_; (try subst eu1_); (try cases eu1_); (try subst eu3_))); (try (have eu_ := Option.some.inj (hx439_0.symm.trans hx447_0); injection eu_ with eu1_ eu2_ eu3_; (try subst eu1_); (try cases eu1_); (try subst eu3_))); (try (have eu_ := Option.some.inj (hx443_0.symm.trans hx447_0); injection eu_ with eu1_ eu2_ eu3_; (try subst eu1_); (try cases eu1_); (try subst eu3_))); (try (have eu_ := Option.some.inj (hx442_0.symm.trans hx446_0); injection eu_ with eu1_ eu2_ eu3_; (try subst eu1_); (try cases eu1_); (try subst eu3_))); (try (have eu_ := Option.some.inj (hx442_1.symm.trans hx446_1); injection eu_ with eu1_ eu2_ eu3_; (try subst eu1_); (try cases eu1_); (try subst eu3_))); (try (have eu_ := Option.some.inj (hx444_0.symm.trans hx448_0); injection eu_ with eu1_ eu2_ eu3_; (try subst eu1_); (try cases eu1_); (try subst eu3_))); (try (have eu_ := Option.some.inj (hx444_1.symm.trans hx448_1); injection eu_ with eu1_ eu2_ eu3_; (try subst eu1_); (try cases eu1_); (try subst eu3_))); go_wp2; repeat (go_quiet (fail); try go_wp2)
           go_meet
           case rel => exact ⟨_, (((((rd_T61 (rd_L13 l0 Ja) Jb).f0).length : Int) != (((rd_T61 (rd_L13 l1 Ja) Jb).f0).length : Int))), (by first | rfl | (simp; done) | (simp [*]; done)), H', ⟨by have := HK1.out; have := HK2.out; first | omega | exact Nat.le_refl _⟩, by repeat (first | exact Drawn0.refl _ | apply Drawn0.step)⟩
         case rest =>
          clear HC11; try clear c1
          try clear p2
          try clear c3
          try clear c3b0
          try clear c3b1
          try clear c3b2
          try clear c4
          try clear c4b0
          try clear p4
          try clear q4
          try clear hx4
          try clear c5
          try clear c5b0
          try clear c6
          try clear c6b0
          try clear c7
          try clear c7b0
          try clear c7b1
          try clear c7b2
          try clear c8
          try clear c8b0
          try clear c9
          try clear c9b0
          try clear c10
          try clear c10b0
          try clear c12
          try clear c12b0
          try clear c12b1
          try clear c13
          try clear c13b0
          try clear c14
          try clear c14b0
          try clear c15
          try clear c15b0
          try clear c15b1
          try clear c15b2
          try clear hx438_0
          try clear hx439_0
          try clear hx440_0
          try clear hx441_0
          try clear hx442_0
          try clear hx442_1
          try clear hx443_0
          try clear hx444_0
          try clear hx444_1
          try clear hx445_0
          try clear hx446_0
          try clear hx446_1
          try clear hx447_0
          try clear hx448_0
          try clear hx448_1
          try clear p2
          try clear p4
          try clear p438
          try clear p439
          try clear p440
          try clear p441
          try clear p442
          try clear p443
          try clear p444
          try clear p445
          try clear p446
          try clear p447
          try clear p448
          try clear q4
          try clear q438
          try clear q439
          try clear q440
          try clear q441
          try clear q442
          try clear q443
          try clear q444
          try clear q445
          try clear q446
          try clear q447
          try clear q448
          obtain ⟨kq, Jd, rfl, HA, HJ10, ⟨mc10, rfl⟩⟩ := hcut; cases kq with
          | zero => exact absurd HA.out (by simp [treillageref09_Same.j2])
          | succ kj10 =>
           have H := HA.out; clear HA; simp only [treillageref09_Same.j2] at H; by_cases c16 : Jd = true
           ·subst c16; have H1 : (some false) = some r := by rw [if_pos rfl] at H; exact H
            clear H; have H := H1; clear H1; obtain rfl := Option.some.inj H; go_wp2; repeat (go_quiet (fail); try go_wp2)
            go_ret
            exact ⟨by first | rfl | (simp; done) | (simp [*]; done), by repeat (first | exact Drawn0.refl _ | apply Drawn0.step)⟩
           ·replace c16 := Bool.eq_false_iff.mpr c16; subst c16; have H1 : (treillageref09_Same.l2 kj10 l0 l1 Ja Jb 0) = some r := by rw [if_neg (show ¬ (false = true) by decide)] at H; exact H
            clear H; have H := H1; clear H1; have H' := aA H; clear H; go_wp2; repeat (go_quiet (fail); try go_wp2)
            go_loopg [7] kj10 (fun kq v7 w' => ∃ (Jc : Int), v7 = .int .i64 Jc ∧ Aside0 (treillageref09_Same.l2 kq l0 l1 Ja Jb Jc = some r) ∧ Aside0 (kq ≤ kj10) ∧ Drawn0 w w')
            case atStart => exact ⟨(0), (by first | rfl | (simp; done) | (simp [*]; done)), H', ⟨Nat.le_refl _⟩, by repeat (first | exact Drawn0.refl _ | apply Drawn0.step)⟩
            case round =>
             clear H'; try clear c1
             try clear p2
             try clear c3
             try clear c3b0
             try clear c3b1
             try clear c3b2
             try clear c4
             try clear c4b0
             try clear p4
             try clear q4
             try clear hx4
             try clear c5
             try clear c5b0
             try clear c6
             try clear c6b0
             try clear c7
             try clear c7b0
             try clear c7b1
             try clear c7b2
             try clear c8
             try clear c8b0
             try clear c9
             try clear c9b0
             try clear c10
             try clear c10b0
             try clear c12
             try clear c12b0
             try clear c12b1
             try clear c13
             try clear c13b0
             try clear c14
             try clear c14b0
             try clear c15
             try clear c15b0
             try clear c15b1
             try clear c15b2
             try clear c16
             try clear hx438_0
             try clear hx439_0
             try clear hx440_0
             try clear hx441_0
             try clear hx442_0
             try clear hx442_1
             try clear hx443_0
             try clear hx444_0
             try clear hx444_1
             try clear hx445_0
             try clear hx446_0
             try clear hx446_1
             try clear hx447_0
             try clear hx448_0
             try clear hx448_1
             try clear p2
             try clear p4
             try clear p438
             try clear p439
             try clear p440
             try clear p441
             try clear p442
             try clear p443
             try clear p444
             try clear p445
             try clear p446
             try clear p447
             try clear p448
             try clear q4
             try clear q438
             try clear q439
             try clear q440
             try clear q441
             try clear q442
             try clear q443
             try clear q444
             try clear q445
             try clear q446
             try clear q447
             try clear q448
             obtain ⟨Jc, rfl, HA, HK4, ⟨m4, rfl⟩⟩ := hrel; cases gk with
             | zero => exact absurd HA.out (by simp [treillageref09_Same.l2])
             | succ k4 =>
              have H := HA.out; clear HA; simp only [treillageref09_Same.l2] at H; by_cases c17 : 0 ≤ Ja
              rotate_left
              ·rw [if_neg c17] at H; exact absurd H (by simp)
              rw [if_pos c17] at H; have c17b0 : decide (0 ≤ Ja) = true := decide_eq_true c17; clear c17; by_cases c18 : Ja < (l0.length : Int)
              rotate_left
              ·rw [if_neg c18] at H; exact absurd H (by simp)
              rw [if_pos c18] at H; have c18b0 : decide (Ja < (l0.length : Int)) = true := decide_eq_true c18; clear c18; by_cases c19 : 0 ≤ Jb
              rotate_left
              ·rw [if_neg c19] at H; exact absurd H (by simp)
              rw [if_pos c19] at H; have c19b0 : decide (0 ≤ Jb) = true := decide_eq_true c19; clear c19; by_cases c20 : Jb < ((rd_L13 l0 Ja).length : Int)
              rotate_left
              ·rw [if_neg c20] at H; exact absurd H (by simp)
              rw [if_pos c20] at H; have c20b0 : decide (Jb < ((rd_L13 l0 Ja).length : Int)) = true := decide_eq_true c20; clear c20; by_cases c21 : Jc < (((rd_T61 (rd_L13 l0 Ja) Jb).f0).length : Int)
              ·rw [if_pos c21] at H; have c21b0 : decide (Jc < (((rd_T61 (rd_L13 l0 Ja) Jb).f0).length : Int)) = true := decide_eq_true c21; clear c21; by_cases c22 : 0 ≤ Jc
               rotate_left
               ·rw [if_neg c22] at H; exact absurd H (by simp)
               rw [if_pos c22] at H; have c22b0 : decide (0 ≤ Jc) = true := decide_eq_true c22; clear c22; by_cases c23 : Ja < (l1.length : Int)
               rotate_left
               ·rw [if_neg c23] at H; exact absurd H (by simp)
               rw [if_pos c23] at H; have c23b0 : decide (Ja < (l1.length : Int)) = true := decide_eq_true c23; clear c23; by_cases c24 : Jb < ((rd_L13 l1 Ja).length : Int)
               rotate_left
               ·rw [if_neg c24] at H; exact absurd H (by simp)
               rw [if_pos c24] at H; have c24b0 : decide (Jb < ((rd_L13 l1 Ja).length : Int)) = true := decide_eq_true c24; clear c24; by_cases c25 : Jc < (((rd_T61 (rd_L13 l1 Ja) Jb).f0).length : Int)
               rotate_left
               ·rw [if_neg c25] at H; exact absurd H (by simp)
               rw [if_pos c25] at H; have c25b0 : decide (Jc < (((rd_T61 (rd_L13 l1 Ja) Jb).f0).length : Int)) = true := decide_eq_true c25; clear c25; by_cases c26 : (!(((rd_T62 ((rd_T61 (rd_L13 l0 Ja) Jb).f0) Jc).f0) == ((rd_T62 ((rd_T61 (rd_L13 l1 Ja) Jb).f0) Jc).f0)) || (!((((rd_T62 ((rd_T61 (rd_L13 l0 Ja) Jb).f0) Jc).f1).toList) == (((rd_T62 ((rd_T61 (rd_L13 l1 Ja) Jb).f0) Jc).f1).toList)) || (!((((rd_T62 ((rd_T61 (rd_L13 l0 Ja) Jb).f0) Jc).f2).toList) == (((rd_T62 ((rd_T61 (rd_L13 l1 Ja) Jb).f0) Jc).f2).toList))))) = true
               ·rw [if_pos c26] at H; have c26b0 : (!(((rd_T62 ((rd_T61 (rd_L13 l0 Ja) Jb).f0) Jc).f0) == ((rd_T62 ((rd_T61 (rd_L13 l1 Ja) Jb).f0) Jc).f0)) || (!((((rd_T62 ((rd_T61 (rd_L13 l0 Ja) Jb).f0) Jc).f1).toList) == (((rd_T62 ((rd_T61 (rd_L13 l1 Ja) Jb).f0) Jc).f1).toList)) || (!((((rd_T62 ((rd_T61 (rd_L13 l0 Ja) Jb).f0) Jc).f2).toList) == (((rd_T62 ((rd_T61 (rd_L13 l1 Ja) Jb).f0) Jc).f2).toList))))) = true := c26; clear c26; obtain rfl := Option.some.inj H; have p449 : 0 ≤ (Ja : Int) := of_decide_eq_true (by first | (with_reducible assumption) | assumption); have q449 : Ja < (l0.length : Int) := of_decide_eq_true (by first | (with_reducible assumption) | assumption); obtain ⟨ad449, A449_0, c449_0, e449, hx449_0, hl449_0, hi449_0⟩ := at_L13 HR0.out Ja p449 q449; obtain rfl : ad438 = ad449 := (by injection e449); have HR449_0 := aA hi449_0; have HC449_0 := aA hl449_0; clear hi449_0 hl449_0; replace p449 := eq_true p449; replace q449 := eq_true q449; have p450 : 0 ≤ (Jb : Int) := of_decide_eq_true (by first | (with_reducible assumption) | assumption); have q450 : Jb < ((rd_L13 l0 Ja).length : Int) := of_decide_eq_true (by first | (with_reducible assumption) | assumption); obtain ⟨ad450, A450_0, c450_0, e450, hx450_0, hx450_1, hl450_0, hi450_0⟩ := at_T61 HR449_0.out Jb p450 q450; cases e450
                have HR450_0 := aA hi450_0; have HC450_0 := aA hl450_0; clear hi450_0 hl450_0; replace p450 := eq_true p450; replace q450 := eq_true q450; have p451 : 0 ≤ (Ja : Int) := of_decide_eq_true (by first | (with_reducible assumption) | assumption); have q451 : Ja < (l0.length : Int) := of_decide_eq_true (by first | (with_reducible assumption) | assumption); obtain ⟨ad451, A451_0, c451_0, e451, hx451_0, hl451_0, hi451_0⟩ := at_L13 HR0.out Ja p451 q451; obtain rfl : ad438 = ad451 := (by injection e451); have HR451_0 := aA hi451_0; have HC451_0 := aA hl451_0; clear hi451_0 hl451_0; replace p451 := eq_true p451; replace q451 := eq_true q451; have ea_ := Option.some.inj (hx449_0.symm.trans hx451_0); injection ea_ with ea_ en_ ec_; subst ea_; subst ec_; clear en_; have p452 : 0 ≤ (Jb : Int) := of_decide_eq_true (by first | (with_reducible assumption) | assumption); have q452 : Jb < ((rd_L13 l0 Ja).length : Int) := of_decide_eq_true (by first | (with_reducible assumption) | assumption); obtain ⟨ad452, A452_0, c452_0, e452, hx452_0, hx452_1, hl452_0, hi452_0⟩ := at_T61 HR451_0.out Jb p452 q452; cases e452
                have HR452_0 := aA hi452_0; have HC452_0 := aA hl452_0; clear hi452_0 hl452_0; replace p452 := eq_true p452; replace q452 := eq_true q452; have p453 : 0 ≤ (Jc : Int) := of_decide_eq_true (by first | (with_reducible assumption) | assumption); have q453 : Jc < (((rd_T61 (rd_L13 l0 Ja) Jb).f0).length : Int) := of_decide_eq_true (by first | (with_reducible assumption) | assumption); obtain ⟨ad453, e453, hx453_0, hx453_1, hx453_2⟩ := at_T62 HR452_0.out Jc p453 q453; cases e453
                replace p453 := eq_true p453; replace q453 := eq_true q453; have p454 : 0 ≤ (Ja : Int) := of_decide_eq_true (by first | (with_reducible assumption) | assumption); have q454 : Ja < (l1.length : Int) := of_decide_eq_true (by first | (with_reducible assumption) | assumption); obtain ⟨ad454, A454_0, c454_0, e454, hx454_0, hl454_0, hi454_0⟩ := at_L13 HR1.out Ja p454 q454; obtain rfl : ad439 = ad454 := (by injection e454); have HR454_0 := aA hi454_0; have HC454_0 := aA hl454_0; clear hi454_0 hl454_0; replace p454 := eq_true p454; replace q454 := eq_true q454; have p455 : 0 ≤ (Jb : Int) := of_decide_eq_true (by first | (with_reducible assumption) | assumption); have q455 : Jb < ((rd_L13 l1 Ja).length : Int) := of_decide_eq_true (by first | (with_reducible assumption) | assumption); obtain ⟨ad455, A455_0, c455_0, e455, hx455_0, hx455_1, hl455_0, hi455_0⟩ := at_T61 HR454_0.out Jb p455 q455; cases e455
                have HR455_0 := aA hi455_0; have HC455_0 := aA hl455_0; clear hi455_0 hl455_0; replace p455 := eq_true p455; replace q455 := eq_true q455; have p456 : 0 ≤ (Jc : Int) := of_decide_eq_true (by first | (with_reducible assumption) | assumption); have q456 : Jc < (((rd_T61 (rd_L13 l1 Ja) Jb).f0).length : Int) := of_decide_eq_true (by first | (with_reducible assumption) | assumption); obtain ⟨ad456, e456, hx456_0, hx456_1, hx456_2⟩ := at_T62 HR455_0.out Jc p456 q456; cases e456
                replace p456 := eq_true p456; replace q456 := eq_true q456; (try (have eu_ := Option.some.inj (hx438_0.symm.trans hx440_0); injection eu_ with eu1_ eu2_ eu3_; (try subst eu1_); (try cases eu1_); (try subst eu3_))); (try (have eu_ := Option.some.inj (hx438_0.symm.trans hx449_0); injection eu_ with eu1_ eu2_ eu3_; (try subst eu1_); (try cases eu1_); (try subst eu3_))); (try (have eu_ := Option.some.inj (hx440_0.symm.trans hx449_0); injection eu_ with eu1_ eu2_ eu3_; (try subst eu1_); (try cases eu1_); (try subst eu3_))); (try (have eu_ := Option.some.inj (hx438_0.symm.trans hx451_0); injection eu_ with eu1_ eu2_ eu3_; (try subst eu1_); (try cases eu1_); (try subst eu3_))); (try (have eu_ := Option.some.inj (hx440_0.symm.trans hx451_0); injection eu_ with eu1_ eu2_ eu3_; (try subst eu1_); (try cases eu1_); (try subst eu3_))); (try (have eu_ := Option.some.inj (hx449_0.symm.trans hx451_0); injection eu_ with eu1_ eu2_ eu3_; (try subst eu1_); (try cases eu1_); (try subst eu3_))); (try (have eu_ := Option.some.inj (hx439_0.symm.trans hx454_0); injection eu_ with eu1_ eu2_ eu3_; (try subst eu1_); (try cases eu1_); (try subst eu3_))); (try (have eu_ := Option.some.inj (hx450_0.symm.trans hx452_0); injection eu_ with eu1_ eu2_ eu3_; (try subst eu1_); (try cases eu1_); (try subst eu3_))); (try (have eu_ := Option.some.inj (hx450_1.symm.trans hx452_1); injection eu_ with eu1_ eu2_ eu3_; (try subst eu1_); (try cases eu1_); (try subst eu3_))); go_wp2; repeat (go_quiet (fail); try go_wp2)
                go_ret
                exact ⟨by first | rfl | (simp; done) | (simp [*]; done), by repeat (first | exact Drawn0.refl _ | apply Drawn0.step)⟩
               ·rw [if_neg c26] at H; have c26b0 : (!(((rd_T62 ((rd_T61 (rd_L13 l0 Ja) Jb).f0) Jc).f0) == ((rd_T62 ((rd_T61 (rd_L13 l1 Ja) Jb).f0) Jc).f0)) || (!((((rd_T62 ((rd_T61 (rd_L13 l0 Ja) Jb).f0) Jc).f1).toList) == (((rd_T62 ((rd_T61 (rd_L13 l1 Ja) Jb).f0) Jc).f1).toList)) || (!((((rd_T62 ((rd_T61 (rd_L13 l0 Ja) Jb).f0) Jc).f2).toList) == (((rd_T62 ((rd_T61 (rd_L13 l1 Ja) Jb).f0) Jc).f2).toList))))) = false := by simpa using c26
                clear c26; have H' := aA H; clear H; have p449 : 0 ≤ (Ja : Int) := of_decide_eq_true (by first | (with_reducible assumption) | assumption); have q449 : Ja < (l0.length : Int) := of_decide_eq_true (by first | (with_reducible assumption) | assumption); obtain ⟨ad449, A449_0, c449_0, e449, hx449_0, hl449_0, hi449_0⟩ := at_L13 HR0.out Ja p449 q449; obtain rfl : ad438 = ad449 := (by injection e449); have HR449_0 := aA hi449_0; have HC449_0 := aA hl449_0; clear hi449_0 hl449_0; replace p449 := eq_true p449; replace q449 := eq_true q449; have p450 : 0 ≤ (Jb : Int) := of_decide_eq_true (by first | (with_reducible assumption) | assumption); have q450 : Jb < ((rd_L13 l0 Ja).length : Int) := of_decide_eq_true (by first | (with_reducible assumption) | assumption); obtain ⟨ad450, A450_0, c450_0, e450, hx450_0, hx450_1, hl450_0, hi450_0⟩ := at_T61 HR449_0.out Jb p450 q450; cases e450
                have HR450_0 := aA hi450_0; have HC450_0 := aA hl450_0; clear hi450_0 hl450_0; replace p450 := eq_true p450; replace q450 := eq_true q450; have p451 : 0 ≤ (Ja : Int) := of_decide_eq_true (by first | (with_reducible assumption) | assumption); have q451 : Ja < (l0.length : Int) := of_decide_eq_true (by first | (with_reducible assumption) | assumption); obtain ⟨ad451, A451_0, c451_0, e451, hx451_0, hl451_0, hi451_0⟩ := at_L13 HR0.out Ja p451 q451; obtain rfl : ad438 = ad451 := (by injection e451); have HR451_0 := aA hi451_0; have HC451_0 := aA hl451_0; clear hi451_0 hl451_0; replace p451 := eq_true p451; replace q451 := eq_true q451; have ea_ := Option.some.inj (hx449_0.symm.trans hx451_0); injection ea_ with ea_ en_ ec_; subst ea_; subst ec_; clear en_; have p452 : 0 ≤ (Jb : Int) := of_decide_eq_true (by first | (with_reducible assumption) | assumption); have q452 : Jb < ((rd_L13 l0 Ja).length : Int) := of_decide_eq_true (by first | (with_reducible assumption) | assumption); obtain ⟨ad452, A452_0, c452_0, e452, hx452_0, hx452_1, hl452_0, hi452_0⟩ := at_T61 HR451_0.out Jb p452 q452; cases e452
                have HR452_0 := aA hi452_0; have HC452_0 := aA hl452_0; clear hi452_0 hl452_0; replace p452 := eq_true p452; replace q452 := eq_true q452; have p453 : 0 ≤ (Jc : Int) := of_decide_eq_true (by first | (with_reducible assumption) | assumption); have q453 : Jc < (((rd_T61 (rd_L13 l0 Ja) Jb).f0).length : Int) := of_decide_eq_true (by first | (with_reducible assumption) | assumption); obtain ⟨ad453, e453, hx453_0, hx453_1, hx453_2⟩ := at_T62 HR452_0.out Jc p453 q453; cases e453
                replace p453 := eq_true p453; replace q453 := eq_true q453; have p454 : 0 ≤ (Ja : Int) := of_decide_eq_true (by first | (with_reducible assumption) | assumption); have q454 : Ja < (l1.length : Int) := of_decide_eq_true (by first | (with_reducible assumption) | assumption); obtain ⟨ad454, A454_0, c454_0, e454, hx454_0, hl454_0, hi454_0⟩ := at_L13 HR1.out Ja p454 q454; obtain rfl : ad439 = ad454 := (by injection e454); have HR454_0 := aA hi454_0; have HC454_0 := aA hl454_0; clear hi454_0 hl454_0; replace p454 := eq_true p454; replace q454 := eq_true q454; have p455 : 0 ≤ (Jb : Int) := of_decide_eq_true (by first | (with_reducible assumption) | assumption); have q455 : Jb < ((rd_L13 l1 Ja).length : Int) := of_decide_eq_true (by first | (with_reducible assumption) | assumption); obtain ⟨ad455, A455_0, c455_0, e455, hx455_0, hx455_1, hl455_0, hi455_0⟩ := at_T61 HR454_0.out Jb p455 q455; cases e455
                have HR455_0 := aA hi455_0; have HC455_0 := aA hl455_0; clear hi455_0 hl455_0; replace p455 := eq_true p455; replace q455 := eq_true q455; have p456 : 0 ≤ (Jc : Int) := of_decide_eq_true (by first | (with_reducible assumption) | assumption); have q456 : Jc < (((rd_T61 (rd_L13 l1 Ja) Jb).f0).length : Int) := of_decide_eq_true (by first | (with_reducible assumption) | assumption); obtain ⟨ad456, e456, hx456_0, hx456_1, hx456_2⟩ := at_T62 HR455_0.out Jc p456 q456; cases e456
                replace p456 := eq_true p456; replace q456 := eq_true q456; (try (have eu_ := Option.some.inj (hx438_0.symm.trans hx440_0); injection eu_ with eu1_ eu2_ eu3_; (try subst eu1_); (try cases eu1_); (try subst eu3_))); (try (have eu_ := Option.some.inj (hx438_0.symm.trans hx449_0); injection eu_ with eu1_ eu2_ eu3_; (try subst eu1_); (try cases eu1_); (try subst eu3_))); (try (have eu_ := Option.some.inj (hx440_0.symm.trans hx449_0); injection eu_ with eu1_ eu2_ eu3_; (try subst eu1_); (try cases eu1_); (try subst eu3_))); (try (have eu_ := Option.some.inj (hx438_0.symm.trans hx451_0); injection eu_ with eu1_ eu2_ eu3_; (try subst eu1_); (try cases eu1_); (try subst eu3_))); (try (have eu_ := Option.some.inj (hx440_0.symm.trans hx451_0); injection eu_ with eu1_ eu2_ eu3_; (try subst eu1_); (try cases eu1_); (try subst eu3_))); (try (have eu_ := Option.some.inj (hx449_0.symm.trans hx451_0); injection eu_ with eu1_ eu2_ eu3_; (try subst eu1_); (try cases eu1_); (try subst eu3_))); (try (have eu_ := Option.some.inj (hx439_0.symm.trans hx454_0); injection eu_ with eu1_ eu2_ eu3_; (try subst eu1_); (try cases eu1_); (try subst eu3_))); (try (have eu_ := Option.some.inj (hx450_0.symm.trans hx452_0); injection eu_ with eu1_ eu2_ eu3_; (try subst eu1_); (try cases eu1_); (try subst eu3_))); (try (have eu_ := Option.some.inj (hx450_1.symm.trans hx452_1); injection eu_ with eu1_ eu2_ eu3_; (try subst eu1_); (try cases eu1_); (try subst eu3_))); go_wp2; repeat (go_quiet (fail); try go_wp2)
                go_roundg k4
                case measure => have := HK1.out; have := HK2.out; have := HJ10.out; have := HK4.out; omega
                case rel => exact ⟨(wrap64 (Jc + 1)), (by first | rfl | (simp; done) | (simp [*]; done)), H', ⟨by have := HK1.out; have := HK2.out; have := HJ10.out; have := HK4.out; omega⟩, by repeat (first | exact Drawn0.refl _ | apply Drawn0.step)⟩
              ·rw [if_neg c21] at H; have c21b0 : decide (Jc < (((rd_T61 (rd_L13 l0 Ja) Jb).f0).length : Int)) = false := decide_eq_false c21; clear c21; have H' := aA H; clear H; have p449 : 0 ≤ (Ja : Int) := of_decide_eq_true (by first | (with_reducible assumption) | assumption); have q449 : Ja < (l0.length : Int) := of_decide_eq_true (by first | (with_reducible assumption) | assumption); obtain ⟨ad449, A449_0, c449_0, e449, hx449_0, hl449_0, hi449_0⟩ := at_L13 HR0.out Ja p449 q449; obtain rfl : ad438 = ad449 := (by injection e449); have HR449_0 := aA hi449_0; have HC449_0 := aA hl449_0; clear hi449_0 hl449_0; replace p449 := eq_true p449; replace q449 := eq_true q449; have p450 : 0 ≤ (Jb : Int) := of_decide_eq_true (by first | (with_reducible assumption) | assumption); have q450 : Jb < ((rd_L13 l0 Ja).length : Int) := of_decide_eq_true (by first | (with_reducible assumption) | assumption); obtain ⟨ad450, A450_0, c450_0, e450, hx450_0, hx450_1, hl450_0, hi450_0⟩ := at_T61 HR449_0.out Jb p450 q450; cases e450
               have HR450_0 := aA hi450_0; have HC450_0 := aA hl450_0; clear hi450_0 hl450_0; replace p450 := eq_true p450; replace q450 := eq_true q450; go_wp2; repeat (go_quiet (fail); try go_wp2)
               go_roundg k4
               case measure => have := HK1.out; have := HK2.out; have := HJ10.out; have := HK4.out; omega
               case rel => exact ⟨(wrap64 (Jb + 1)), (by first | rfl | (simp; done) | (simp [*]; done)), H', ⟨by have := HK1.out; have := HK2.out; have := HJ10.out; have := HK4.out; omega⟩, by repeat (first | exact Drawn0.refl _ | apply Drawn0.step)⟩
        ·rw [if_neg c10] at H; have c10b0 : decide (Jb < ((rd_L13 l0 Ja).length : Int)) = false := decide_eq_false c10; clear c10; have H' := aA H; clear H; have p440 : 0 ≤ (Ja : Int) := of_decide_eq_true (by first | (with_reducible assumption) | assumption); have q440 : Ja < (l0.length : Int) := of_decide_eq_true (by first | (with_reducible assumption) | assumption); obtain ⟨ad440, A440_0, c440_0, e440, hx440_0, hl440_0, hi440_0⟩ := at_L13 HR0.out Ja p440 q440; obtain rfl : ad438 = ad440 := (by injection e440); have HR440_0 := aA hi440_0; have HC440_0 := aA hl440_0; clear hi440_0 hl440_0; replace p440 := eq_true p440; replace q440 := eq_true q440; go_wp2; repeat (go_quiet (fail); try go_wp2)
         go_roundg k2
         case measure => have := HK1.out; have := HK2.out; omega
         case rel => exact ⟨(wrap64 (Ja + 1)), (by first | rfl | (simp; done) | (simp [*]; done)), H', ⟨by have := HK1.out; have := HK2.out; omega⟩, by repeat (first | exact Drawn0.refl _ | apply Drawn0.step)⟩
     ·rw [if_neg c7] at H; have c7b0 : (((rd_L13 l0 Ja).length : Int) == ((rd_L13 l1 Ja).length : Int)) = false := beq_eq_false_iff_ne.mpr c7; have c7b1 : (((rd_L13 l0 Ja).length : Int) != ((rd_L13 l1 Ja).length : Int)) = true := bne_iff_ne.mpr c7; have c7b2 : ((rd_L13 l0 Ja).length == (rd_L13 l1 Ja).length) = false := by first | simpa using c7 | (simp at c7 ⊢; omega)
      obtain rfl := Option.some.inj H; have p438 : 0 ≤ (Ja : Int) := of_decide_eq_true (by first | (with_reducible assumption) | assumption); have q438 : Ja < (l0.length : Int) := of_decide_eq_true (by first | (with_reducible assumption) | assumption); obtain ⟨ad438, A438_0, c438_0, e438, hx438_0, hl438_0, hi438_0⟩ := at_L13 HR0.out Ja p438 q438; cases e438
      have HR438_0 := aA hi438_0; have HC438_0 := aA hl438_0; clear hi438_0 hl438_0; replace p438 := eq_true p438; replace q438 := eq_true q438; have p439 : 0 ≤ (Ja : Int) := of_decide_eq_true (by first | (with_reducible assumption) | assumption); have q439 : Ja < (l1.length : Int) := of_decide_eq_true (by first | (with_reducible assumption) | assumption); obtain ⟨ad439, A439_0, c439_0, e439, hx439_0, hl439_0, hi439_0⟩ := at_L13 HR1.out Ja p439 q439; cases e439
      have HR439_0 := aA hi439_0; have HC439_0 := aA hl439_0; clear hi439_0 hl439_0; replace p439 := eq_true p439; replace q439 := eq_true q439; go_wp2; repeat (go_quiet (fail); try go_wp2)
      go_ret
      exact ⟨by first | rfl | (simp; done) | (simp [*]; done), by repeat (first | exact Drawn0.refl _ | apply Drawn0.step)⟩
    ·rw [if_neg c4] at H; have c4b0 : decide (Ja < (l0.length : Int)) = false := decide_eq_false c4; clear c4; obtain rfl := Option.some.inj H; go_wp2; repeat (go_quiet (fail); try go_wp2)
     go_ret
     exact ⟨by first | rfl | (simp; done) | (simp [*]; done), by repeat (first | exact Drawn0.refl _ | apply Drawn0.step)⟩
 ·rw [if_neg c3] at H; have c3b0 : ((l0.length : Int) == (l1.length : Int)) = false := beq_eq_false_iff_ne.mpr c3; have c3b1 : ((l0.length : Int) != (l1.length : Int)) = true := bne_iff_ne.mpr c3; have c3b2 : (l0.length == l1.length) = false := by first | simpa using c3 | (simp at c3 ⊢; omega)
  obtain rfl := Option.some.inj H; go_enter Try.func13, Try.ntmps13; go_wp2; repeat (go_quiet (fail); try go_wp2)
  go_ret
  exact ⟨by first | rfl | (simp; done) | (simp [*]; done), by repeat (first | exact Drawn0.refl _ | apply Drawn0.step)⟩

end Go.Proofs.Ytjiejmkkaekefaa.PA
