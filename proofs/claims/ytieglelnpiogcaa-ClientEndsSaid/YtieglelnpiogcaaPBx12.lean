-- Written by wip/hprint/hprint.py (a program of this session, over the print): not typed by hand
import Derived.Test.YtieglelnpiogcaaPBx0
import Derived.Test.YtieglelnpiogcaaPBx1
import Derived.Test.YtieglelnpiogcaaPBx9
namespace Go.Proofs.Ytieglelnpiogcaa.PB
open Go.RowKit Go.Proofs.YtieglelnpiogcaaW.PrintWords Go.Proofs.YtieglelnpiogcaaW.PrintLast Go.Proofs.YtieglelnpiogcaaW.PrintMore
attribute [local go_sem] max2_int min2_int max_two min_two max_three min_three max_four min_four   -- for this text's walks alone
open Go.Proofs.YtieglelnpiogcaaH
set_option linter.unusedVariables false
set_option linter.unusedSimpArgs false

/-! ### treillagelaw17_bounded: function 12 -/
mutual
def treillagelaw17_bounded.l0 : Nat → List (S44) → Int → Option (Bool)
 | 0, _, _ => none
 | k + 1, x0, x3 => if x3 < (x0.length : Int) then (if 0 ≤ x3 then (if (((rd_T44 x0 x3).f1).length : Int) > 30 then (treillagelaw17_bounded.j1 k x0 x3 true) else (treillagelaw17_bounded.j1 k x0 x3 (decide ((((rd_T44 x0 x3).f2.f3).size : Int) > 100)))) else (none)) else (some (decide ((x0.length : Int) ≤ 30)))
def treillagelaw17_bounded.j1 : Nat → List (S44) → Int → Bool → Option (Bool)
 | 0, _, _, _ => none
 | k + 1, x0, x3, x27 => if x27 = true then (some false) else (treillagelaw17_bounded.l1 k x0 x3 0)
def treillagelaw17_bounded.l1 : Nat → List (S44) → Int → Int → Option (Bool)
 | 0, _, _, _ => none
 | k + 1, x0, x3, x4 => if 0 ≤ x3 then (if x3 < (x0.length : Int) then (if x4 < (((rd_T44 x0 x3).f1).length : Int) then (if 0 ≤ x4 then (if (((rd_T78 ((rd_T44 x0 x3).f1) x4).f4).size : Int) > 100 then (some false) else (if (((rd_T78 ((rd_T44 x0 x3).f1) x4).f5).size : Int) > 100 then (some false) else (treillagelaw17_bounded.l1 k x0 x3 (wrap64 (x4 + 1))))) else (none)) else (treillagelaw17_bounded.l0 k x0 (wrap64 (x3 + 1)))) else (none)) else (none)
end
def treillagelaw17_bounded.f (k : Nat) (l0 : List (S44)) : Option (Bool) := treillagelaw17_bounded.l0 k l0 0
theorem treillagelaw17_bounded.mono_l : ∀ k, (∀ y0 y1, LeO (treillagelaw17_bounded.l0 k y0 y1) (treillagelaw17_bounded.l0 (k + 1) y0 y1)) ∧ (∀ y0 y1 y2, LeO (treillagelaw17_bounded.j1 k y0 y1 y2) (treillagelaw17_bounded.j1 (k + 1) y0 y1 y2)) ∧ (∀ y0 y1 y2, LeO (treillagelaw17_bounded.l1 k y0 y1 y2) (treillagelaw17_bounded.l1 (k + 1) y0 y1 y2))
 | 0 => ⟨fun _ _ r h => by simp [treillagelaw17_bounded.l0] at h, fun _ _ _ r h => by simp [treillagelaw17_bounded.j1] at h, fun _ _ _ r h => by simp [treillagelaw17_bounded.l1] at h⟩
 | k + 1 => by
  obtain ⟨ih0, ih1, ih2⟩ := treillagelaw17_bounded.mono_l k; refine ⟨?_, ?_, ?_⟩
  ·intro y0 y1
   unfold treillagelaw17_bounded.l0; repeat' first
   | (with_reducible exact ih0 _ _)
   | (with_reducible exact ih1 _ _ _)
   | (with_reducible exact ih2 _ _ _)
   | (with_reducible exact LeO.refl _)
   | (with_reducible exact LeO.none _)
   | (with_reducible refine LeO.ite ?_ ?_)
   | (with_reducible refine LeO.bind ?_ (fun _ => ?_))
   | exact ih0 _ _
   | exact ih1 _ _ _
   | exact ih2 _ _ _
   | exact LeO.none _
   | refine LeO.ite ?_ ?_
   | refine LeO.bind ?_ (fun _ => ?_)
  ·intro y0 y1 y2
   unfold treillagelaw17_bounded.j1; repeat' first
   | (with_reducible exact ih0 _ _)
   | (with_reducible exact ih1 _ _ _)
   | (with_reducible exact ih2 _ _ _)
   | (with_reducible exact LeO.refl _)
   | (with_reducible exact LeO.none _)
   | (with_reducible refine LeO.ite ?_ ?_)
   | (with_reducible refine LeO.bind ?_ (fun _ => ?_))
   | exact ih0 _ _
   | exact ih1 _ _ _
   | exact ih2 _ _ _
   | exact LeO.none _
   | refine LeO.ite ?_ ?_
   | refine LeO.bind ?_ (fun _ => ?_)
  ·intro y0 y1 y2
   unfold treillagelaw17_bounded.l1; repeat' first
   | (with_reducible exact ih0 _ _)
   | (with_reducible exact ih1 _ _ _)
   | (with_reducible exact ih2 _ _ _)
   | (with_reducible exact LeO.refl _)
   | (with_reducible exact LeO.none _)
   | (with_reducible refine LeO.ite ?_ ?_)
   | (with_reducible refine LeO.bind ?_ (fun _ => ?_))
   | exact ih0 _ _
   | exact ih1 _ _ _
   | exact ih2 _ _ _
   | exact LeO.none _
   | refine LeO.ite ?_ ?_
   | refine LeO.bind ?_ (fun _ => ?_)
theorem treillagelaw17_bounded.mono : ∀ a0 k, LeO (treillagelaw17_bounded.f k a0) (treillagelaw17_bounded.f (k + 1) a0) := by
 intro a0 k
 obtain ⟨ih0, ih1, ih2⟩ := treillagelaw17_bounded.mono_l k; unfold treillagelaw17_bounded.f
 repeat' first
   | (with_reducible exact ih0 _ _)
   | (with_reducible exact ih1 _ _ _)
   | (with_reducible exact ih2 _ _ _)
   | (with_reducible exact LeO.refl _)
   | (with_reducible exact LeO.none _)
   | (with_reducible refine LeO.ite ?_ ?_)
   | (with_reducible refine LeO.bind ?_ (fun _ => ?_))
   | exact ih0 _ _
   | exact ih1 _ _ _
   | exact ih2 _ _ _
   | exact LeO.none _
   | refine LeO.ite ?_ ?_
   | refine LeO.bind ?_ (fun _ => ?_)
set_option maxHeartbeats 8000000 in
set_option maxRecDepth 100000 in
theorem treillagelaw17_bounded.calls (k : Nat) (A0 : Option Addr) (c0 : Nat) (l0 : List (S44)) (r : Bool) (w : World) (hr0 : Kd.C k44 w A0 l0.length l0) (hc0 : l0.length ≤ c0) (h : treillagelaw17_bounded.f k l0 = some r) :
  Calls Try.prog 12 #[.slice A0 l0.length c0] w fun e w' => e = .returned (.bool r) ∧ Drawn0 w w' := by
 have HR0 := aA hr0; have HC0 := aA hc0; clear hr0 hc0; have H : (treillagelaw17_bounded.l0 k l0 0) = some r := h; clear h; have H' := aA H; clear H; go_enter Try.func12, Try.ntmps12; go_wp2; go_loopg [3] k (fun kq v3 w' => ∃ (x3_1 : Int), v3 = .int .i64 x3_1 ∧ Aside0 (treillagelaw17_bounded.l0 kq l0 x3_1 = some r) ∧ Aside0 (kq ≤ k) ∧ Drawn0 w w')
 case atStart => exact ⟨(0), (by first | rfl | (simp; done) | (simp [*]; done)), H', ⟨Nat.le_refl _⟩, by repeat (first | exact Drawn0.refl _ | apply Drawn0.step)⟩
 case round =>
  clear H'; try clear c1
  obtain ⟨x3_1, rfl, HA, HK1, ⟨m1, rfl⟩⟩ := hrel; cases gk with
  | zero => exact absurd HA.out (by simp [treillagelaw17_bounded.l0])
  | succ k1 =>
   have H := HA.out; clear HA; simp only [treillagelaw17_bounded.l0] at H; by_cases c2 : x3_1 < (l0.length : Int)
   ·rw [if_pos c2] at H; have c2b0 : decide (x3_1 < (l0.length : Int)) = true := decide_eq_true c2; clear c2; have HC3 := aA H; clear H; go_upto_region 4 with (fail)
    go_cut [27] (fun v27 wc => ∃ (kq : Nat) (x27_2 : Bool), v27 = .bool x27_2 ∧ Aside0 (treillagelaw17_bounded.j1 kq l0 x3_1 x27_2 = some r) ∧ Aside0 (kq ≤ k1) ∧ Drawn0 w wc)
    case first =>
     have H := HC3.out; clear HC3; by_cases c4 : 0 ≤ x3_1
     rotate_left
     ·rw [if_neg c4] at H; exact absurd H (by simp)
     rw [if_pos c4] at H; have c4b0 : decide (0 ≤ x3_1) = true := decide_eq_true c4; clear c4; (first | rw [c4b0] | rw [c4b1] | (simp only [i64_w, i32_w]; rw [c4b0]) | skip)
     by_cases c5 : (((rd_T44 l0 x3_1).f1).length : Int) > 30
     ·rw [if_pos c5] at H; have c5b0 : decide (30 < (((rd_T44 l0 x3_1).f1).length : Int)) = true := decide_eq_true c5; have c5b1 : decide (30 < ((rd_T44 l0 x3_1).f1).length) = true := decide_eq_true (by omega); clear c5; have H' := aA H; clear H; have p322 : 0 ≤ (x3_1 : Int) := of_decide_eq_true (by first | (with_reducible assumption) | assumption); have q322 : x3_1 < (l0.length : Int) := of_decide_eq_true (by first | (with_reducible assumption) | assumption); obtain ⟨ad322, A322_1, c322_1, e322, hx322_0, hx322_1, hx322_2, hx322_3, hx322_4, hx322_5, hl322_1, hi322_1⟩ := at_T44 HR0.out x3_1 p322 q322; cases e322
      have HR322_1 := aA hi322_1; have HC322_1 := aA hl322_1; clear hi322_1 hl322_1; replace p322 := eq_true p322; replace q322 := eq_true q322; go_wp2; go_meet
      case rel => exact ⟨_, (true), (by first | rfl | (simp; done) | (simp [*]; done)), H', ⟨by have := HK1.out; first | omega | exact Nat.le_refl _⟩, by repeat (first | exact Drawn0.refl _ | apply Drawn0.step)⟩
     ·rw [if_neg c5] at H; have c5b0 : decide (30 < (((rd_T44 l0 x3_1).f1).length : Int)) = false := decide_eq_false c5; have c5b1 : decide (30 < ((rd_T44 l0 x3_1).f1).length) = false := decide_eq_false (by omega); clear c5; have H' := aA H; clear H; have p322 : 0 ≤ (x3_1 : Int) := of_decide_eq_true (by first | (with_reducible assumption) | assumption); have q322 : x3_1 < (l0.length : Int) := of_decide_eq_true (by first | (with_reducible assumption) | assumption); obtain ⟨ad322, A322_1, c322_1, e322, hx322_0, hx322_1, hx322_2, hx322_3, hx322_4, hx322_5, hl322_1, hi322_1⟩ := at_T44 HR0.out x3_1 p322 q322; cases e322
      have HR322_1 := aA hi322_1; have HC322_1 := aA hl322_1; clear hi322_1 hl322_1; replace p322 := eq_true p322; replace q322 := eq_true q322; have p323 : 0 ≤ (x3_1 : Int) := of_decide_eq_true (by first | (with_reducible assumption) | assumption); have q323 : x3_1 < (l0.length : Int) := of_decide_eq_true (by first | (with_reducible assumption) | assumption); obtain ⟨ad323, A323_1, c323_1, e323, hx323_0, hx323_1, hx323_2, hx323_3, hx323_4, hx323_5, hl323_1, hi323_1⟩ := at_T44 HR0.out x3_1 p323 q323; obtain rfl : ad322 = ad323 := (by injection e323); have HR323_1 := aA hi323_1; have HC323_1 := aA hl323_1; clear hi323_1 hl323_1; replace p323 := eq_true p323; replace q323 := eq_true q323; have ea_ := Option.some.inj (hx322_1.symm.trans hx323_1); injection ea_ with ea_ en_ ec_; subst ea_; subst ec_; clear en_; go_wp2; go_meet
      case rel => exact ⟨_, (decide ((((rd_T44 l0 x3_1).f2.f3).size : Int) > 100)), (by first | rfl | (simp; done) | (simp [*]; done)), H', ⟨by have := HK1.out; first | omega | exact Nat.le_refl _⟩, by repeat (first | exact Drawn0.refl _ | apply Drawn0.step)⟩
    case rest =>
     clear HC3; try clear c1
     try clear c2
     try clear c2b0
     try clear p2
     try clear c3
     try clear p3
     try clear q3
     try clear hx3
     try clear c4
     try clear c4b0
     try clear c4b1
     try clear c5
     try clear c5b0
     try clear c5b1
     try clear hx322_0
     try clear hx322_1
     try clear hx322_2
     try clear hx322_3
     try clear hx322_4
     try clear hx322_5
     try clear hx323_0
     try clear hx323_1
     try clear hx323_2
     try clear hx323_3
     try clear hx323_4
     try clear hx323_5
     try clear p322
     try clear p323
     try clear q322
     try clear q323
     obtain ⟨kq, x27_2, rfl, HA, HJ2, ⟨mc2, rfl⟩⟩ := hcut; cases kq with
     | zero => exact absurd HA.out (by simp [treillagelaw17_bounded.j1])
     | succ kj2 =>
      have H := HA.out; clear HA; simp only [treillagelaw17_bounded.j1] at H; by_cases c6 : x27_2 = true
      ·subst c6; have H1 : (some false) = some r := by rw [if_pos rfl] at H; exact H
       clear H; have H := H1; clear H1; obtain rfl := Option.some.inj H; go_wp2; go_ret
       exact ⟨by first | rfl | (simp; done) | (simp [*]; done), by repeat (first | exact Drawn0.refl _ | apply Drawn0.step)⟩
      ·replace c6 := Bool.eq_false_iff.mpr c6; subst c6; have H1 : (treillagelaw17_bounded.l1 kj2 l0 x3_1 0) = some r := by rw [if_neg (show ¬ (false = true) by decide)] at H; exact H
       clear H; have H := H1; clear H1; have H' := aA H; clear H; go_wp2; go_loopg [4] kj2 (fun kq v4 w' => ∃ (x4_3 : Int), v4 = .int .i64 x4_3 ∧ Aside0 (treillagelaw17_bounded.l1 kq l0 x3_1 x4_3 = some r) ∧ Aside0 (kq ≤ kj2) ∧ Drawn0 w w')
       case atStart => exact ⟨(0), (by first | rfl | (simp; done) | (simp [*]; done)), H', ⟨Nat.le_refl _⟩, by repeat (first | exact Drawn0.refl _ | apply Drawn0.step)⟩
       case round =>
        clear H'; try clear c1
        try clear c2
        try clear c2b0
        try clear p2
        try clear c3
        try clear p3
        try clear q3
        try clear hx3
        try clear c4
        try clear c4b0
        try clear c4b1
        try clear c5
        try clear c5b0
        try clear c5b1
        try clear c6
        try clear hx322_0
        try clear hx322_1
        try clear hx322_2
        try clear hx322_3
        try clear hx322_4
        try clear hx322_5
        try clear hx323_0
        try clear hx323_1
        try clear hx323_2
        try clear hx323_3
        try clear hx323_4
        try clear hx323_5
        try clear p2
        try clear p3
        try clear p322
        try clear p323
        try clear q3
        try clear q322
        try clear q323
        obtain ⟨x4_3, rfl, HA, HK3, ⟨m3, rfl⟩⟩ := hrel; cases gk with
        | zero => exact absurd HA.out (by simp [treillagelaw17_bounded.l1])
        | succ k3 =>
         have H := HA.out; clear HA; simp only [treillagelaw17_bounded.l1] at H; by_cases c7 : 0 ≤ x3_1
         rotate_left
         ·rw [if_neg c7] at H; exact absurd H (by simp)
         rw [if_pos c7] at H; have c7b0 : decide (0 ≤ x3_1) = true := decide_eq_true c7; clear c7; by_cases c8 : x3_1 < (l0.length : Int)
         rotate_left
         ·rw [if_neg c8] at H; exact absurd H (by simp)
         rw [if_pos c8] at H; have c8b0 : decide (x3_1 < (l0.length : Int)) = true := decide_eq_true c8; clear c8; by_cases c9 : x4_3 < (((rd_T44 l0 x3_1).f1).length : Int)
         ·rw [if_pos c9] at H; have c9b0 : decide (x4_3 < (((rd_T44 l0 x3_1).f1).length : Int)) = true := decide_eq_true c9; clear c9; by_cases c10 : 0 ≤ x4_3
          rotate_left
          ·rw [if_neg c10] at H; exact absurd H (by simp)
          rw [if_pos c10] at H; have c10b0 : decide (0 ≤ x4_3) = true := decide_eq_true c10; clear c10; by_cases c11 : (((rd_T78 ((rd_T44 l0 x3_1).f1) x4_3).f4).size : Int) > 100
          ·rw [if_pos c11] at H; have c11b0 : decide (100 < (((rd_T78 ((rd_T44 l0 x3_1).f1) x4_3).f4).size : Int)) = true := decide_eq_true c11; have c11b1 : decide (100 < ((rd_T78 ((rd_T44 l0 x3_1).f1) x4_3).f4).size) = true := decide_eq_true (by omega); clear c11; obtain rfl := Option.some.inj H; have p324 : 0 ≤ (x3_1 : Int) := of_decide_eq_true (by first | (with_reducible assumption) | assumption); have q324 : x3_1 < (l0.length : Int) := of_decide_eq_true (by first | (with_reducible assumption) | assumption); obtain ⟨ad324, A324_1, c324_1, e324, hx324_0, hx324_1, hx324_2, hx324_3, hx324_4, hx324_5, hl324_1, hi324_1⟩ := at_T44 HR0.out x3_1 p324 q324; cases e324
           have HR324_1 := aA hi324_1; have HC324_1 := aA hl324_1; clear hi324_1 hl324_1; replace p324 := eq_true p324; replace q324 := eq_true q324; have p325 : 0 ≤ (x3_1 : Int) := of_decide_eq_true (by first | (with_reducible assumption) | assumption); have q325 : x3_1 < (l0.length : Int) := of_decide_eq_true (by first | (with_reducible assumption) | assumption); obtain ⟨ad325, A325_1, c325_1, e325, hx325_0, hx325_1, hx325_2, hx325_3, hx325_4, hx325_5, hl325_1, hi325_1⟩ := at_T44 HR0.out x3_1 p325 q325; obtain rfl : ad324 = ad325 := (by injection e325); have HR325_1 := aA hi325_1; have HC325_1 := aA hl325_1; clear hi325_1 hl325_1; replace p325 := eq_true p325; replace q325 := eq_true q325; have ea_ := Option.some.inj (hx324_1.symm.trans hx325_1); injection ea_ with ea_ en_ ec_; subst ea_; subst ec_; clear en_; have p326 : 0 ≤ (x4_3 : Int) := of_decide_eq_true (by first | (with_reducible assumption) | assumption); have q326 : x4_3 < (((rd_T44 l0 x3_1).f1).length : Int) := of_decide_eq_true (by first | (with_reducible assumption) | assumption); obtain ⟨ad326, e326, hx326_0, hx326_1, hx326_2, hx326_3, hx326_4, hx326_5⟩ := at_T78 HR325_1.out x4_3 p326 q326; cases e326
           replace p326 := eq_true p326; replace q326 := eq_true q326; go_wp2; go_ret
           exact ⟨by first | rfl | (simp; done) | (simp [*]; done), by repeat (first | exact Drawn0.refl _ | apply Drawn0.step)⟩
          ·rw [if_neg c11] at H; have c11b0 : decide (100 < (((rd_T78 ((rd_T44 l0 x3_1).f1) x4_3).f4).size : Int)) = false := decide_eq_false c11; have c11b1 : decide (100 < ((rd_T78 ((rd_T44 l0 x3_1).f1) x4_3).f4).size) = false := decide_eq_false (by omega); clear c11; by_cases c12 : (((rd_T78 ((rd_T44 l0 x3_1).f1) x4_3).f5).size : Int) > 100
           ·rw [if_pos c12] at H; have c12b0 : decide (100 < (((rd_T78 ((rd_T44 l0 x3_1).f1) x4_3).f5).size : Int)) = true := decide_eq_true c12; have c12b1 : decide (100 < ((rd_T78 ((rd_T44 l0 x3_1).f1) x4_3).f5).size) = true := decide_eq_true (by omega); clear c12; obtain rfl := Option.some.inj H; have p324 : 0 ≤ (x3_1 : Int) := of_decide_eq_true (by first | (with_reducible assumption) | assumption); have q324 : x3_1 < (l0.length : Int) := of_decide_eq_true (by first | (with_reducible assumption) | assumption); obtain ⟨ad324, A324_1, c324_1, e324, hx324_0, hx324_1, hx324_2, hx324_3, hx324_4, hx324_5, hl324_1, hi324_1⟩ := at_T44 HR0.out x3_1 p324 q324; cases e324
            have HR324_1 := aA hi324_1; have HC324_1 := aA hl324_1; clear hi324_1 hl324_1; replace p324 := eq_true p324; replace q324 := eq_true q324; have p325 : 0 ≤ (x3_1 : Int) := of_decide_eq_true (by first | (with_reducible assumption) | assumption); have q325 : x3_1 < (l0.length : Int) := of_decide_eq_true (by first | (with_reducible assumption) | assumption); obtain ⟨ad325, A325_1, c325_1, e325, hx325_0, hx325_1, hx325_2, hx325_3, hx325_4, hx325_5, hl325_1, hi325_1⟩ := at_T44 HR0.out x3_1 p325 q325; obtain rfl : ad324 = ad325 := (by injection e325); have HR325_1 := aA hi325_1; have HC325_1 := aA hl325_1; clear hi325_1 hl325_1; replace p325 := eq_true p325; replace q325 := eq_true q325; have ea_ := Option.some.inj (hx324_1.symm.trans hx325_1); injection ea_ with ea_ en_ ec_; subst ea_; subst ec_; clear en_; have p326 : 0 ≤ (x4_3 : Int) := of_decide_eq_true (by first | (with_reducible assumption) | assumption); have q326 : x4_3 < (((rd_T44 l0 x3_1).f1).length : Int) := of_decide_eq_true (by first | (with_reducible assumption) | assumption); obtain ⟨ad326, e326, hx326_0, hx326_1, hx326_2, hx326_3, hx326_4, hx326_5⟩ := at_T78 HR325_1.out x4_3 p326 q326; cases e326
            replace p326 := eq_true p326; replace q326 := eq_true q326; have p327 : 0 ≤ (x3_1 : Int) := of_decide_eq_true (by first | (with_reducible assumption) | assumption); have q327 : x3_1 < (l0.length : Int) := of_decide_eq_true (by first | (with_reducible assumption) | assumption); obtain ⟨ad327, A327_1, c327_1, e327, hx327_0, hx327_1, hx327_2, hx327_3, hx327_4, hx327_5, hl327_1, hi327_1⟩ := at_T44 HR0.out x3_1 p327 q327; obtain rfl : ad324 = ad327 := (by injection e327); have HR327_1 := aA hi327_1; have HC327_1 := aA hl327_1; clear hi327_1 hl327_1; replace p327 := eq_true p327; replace q327 := eq_true q327; have ea_ := Option.some.inj (hx324_1.symm.trans hx327_1); injection ea_ with ea_ en_ ec_; subst ea_; subst ec_; clear en_; have p328 : 0 ≤ (x4_3 : Int) := of_decide_eq_true (by first | (with_reducible assumption) | assumption); have q328 : x4_3 < (((rd_T44 l0 x3_1).f1).length : Int) := of_decide_eq_true (by first | (with_reducible assumption) | assumption); obtain ⟨ad328, e328, hx328_0, hx328_1, hx328_2, hx328_3, hx328_4, hx328_5⟩ := at_T78 HR327_1.out x4_3 p328 q328; cases e328
            replace p328 := eq_true p328; replace q328 := eq_true q328; go_wp2; go_ret
            exact ⟨by first | rfl | (simp; done) | (simp [*]; done), by repeat (first | exact Drawn0.refl _ | apply Drawn0.step)⟩
           ·rw [if_neg c12] at H; have c12b0 : decide (100 < (((rd_T78 ((rd_T44 l0 x3_1).f1) x4_3).f5).size : Int)) = false := decide_eq_false c12; have c12b1 : decide (100 < ((rd_T78 ((rd_T44 l0 x3_1).f1) x4_3).f5).size) = false := decide_eq_false (by omega); clear c12; have H' := aA H; clear H; have p324 : 0 ≤ (x3_1 : Int) := of_decide_eq_true (by first | (with_reducible assumption) | assumption); have q324 : x3_1 < (l0.length : Int) := of_decide_eq_true (by first | (with_reducible assumption) | assumption); obtain ⟨ad324, A324_1, c324_1, e324, hx324_0, hx324_1, hx324_2, hx324_3, hx324_4, hx324_5, hl324_1, hi324_1⟩ := at_T44 HR0.out x3_1 p324 q324; cases e324
            have HR324_1 := aA hi324_1; have HC324_1 := aA hl324_1; clear hi324_1 hl324_1; replace p324 := eq_true p324; replace q324 := eq_true q324; have p325 : 0 ≤ (x3_1 : Int) := of_decide_eq_true (by first | (with_reducible assumption) | assumption); have q325 : x3_1 < (l0.length : Int) := of_decide_eq_true (by first | (with_reducible assumption) | assumption); obtain ⟨ad325, A325_1, c325_1, e325, hx325_0, hx325_1, hx325_2, hx325_3, hx325_4, hx325_5, hl325_1, hi325_1⟩ := at_T44 HR0.out x3_1 p325 q325; obtain rfl : ad324 = ad325 := (by injection e325); have HR325_1 := aA hi325_1; have HC325_1 := aA hl325_1; clear hi325_1 hl325_1; replace p325 := eq_true p325; replace q325 := eq_true q325; have ea_ := Option.some.inj (hx324_1.symm.trans hx325_1); injection ea_ with ea_ en_ ec_; subst ea_; subst ec_; clear en_; have p326 : 0 ≤ (x4_3 : Int) := of_decide_eq_true (by first | (with_reducible assumption) | assumption); have q326 : x4_3 < (((rd_T44 l0 x3_1).f1).length : Int) := of_decide_eq_true (by first | (with_reducible assumption) | assumption); obtain ⟨ad326, e326, hx326_0, hx326_1, hx326_2, hx326_3, hx326_4, hx326_5⟩ := at_T78 HR325_1.out x4_3 p326 q326; cases e326
            replace p326 := eq_true p326; replace q326 := eq_true q326; have p327 : 0 ≤ (x3_1 : Int) := of_decide_eq_true (by first | (with_reducible assumption) | assumption); have q327 : x3_1 < (l0.length : Int) := of_decide_eq_true (by first | (with_reducible assumption) | assumption); obtain ⟨ad327, A327_1, c327_1, e327, hx327_0, hx327_1, hx327_2, hx327_3, hx327_4, hx327_5, hl327_1, hi327_1⟩ := at_T44 HR0.out x3_1 p327 q327; obtain rfl : ad324 = ad327 := (by injection e327); have HR327_1 := aA hi327_1; have HC327_1 := aA hl327_1; clear hi327_1 hl327_1; replace p327 := eq_true p327; replace q327 := eq_true q327; have ea_ := Option.some.inj (hx324_1.symm.trans hx327_1); injection ea_ with ea_ en_ ec_; subst ea_; subst ec_; clear en_; have p328 : 0 ≤ (x4_3 : Int) := of_decide_eq_true (by first | (with_reducible assumption) | assumption); have q328 : x4_3 < (((rd_T44 l0 x3_1).f1).length : Int) := of_decide_eq_true (by first | (with_reducible assumption) | assumption); obtain ⟨ad328, e328, hx328_0, hx328_1, hx328_2, hx328_3, hx328_4, hx328_5⟩ := at_T78 HR327_1.out x4_3 p328 q328; cases e328
            replace p328 := eq_true p328; replace q328 := eq_true q328; go_wp2; go_roundg k3
            case measure => have := HK1.out; have := HJ2.out; have := HK3.out; omega
            case rel => exact ⟨(wrap64 (x4_3 + 1)), (by first | rfl | (simp; done) | (simp [*]; done)), H', ⟨by have := HK1.out; have := HJ2.out; have := HK3.out; omega⟩, by repeat (first | exact Drawn0.refl _ | apply Drawn0.step)⟩
         ·rw [if_neg c9] at H; have c9b0 : decide (x4_3 < (((rd_T44 l0 x3_1).f1).length : Int)) = false := decide_eq_false c9; clear c9; have H' := aA H; clear H; have p324 : 0 ≤ (x3_1 : Int) := of_decide_eq_true (by first | (with_reducible assumption) | assumption); have q324 : x3_1 < (l0.length : Int) := of_decide_eq_true (by first | (with_reducible assumption) | assumption); obtain ⟨ad324, A324_1, c324_1, e324, hx324_0, hx324_1, hx324_2, hx324_3, hx324_4, hx324_5, hl324_1, hi324_1⟩ := at_T44 HR0.out x3_1 p324 q324; cases e324
          have HR324_1 := aA hi324_1; have HC324_1 := aA hl324_1; clear hi324_1 hl324_1; replace p324 := eq_true p324; replace q324 := eq_true q324; go_wp2; go_roundg k3
          case measure => have := HK1.out; have := HJ2.out; have := HK3.out; omega
          case rel => exact ⟨(wrap64 (x3_1 + 1)), (by first | rfl | (simp; done) | (simp [*]; done)), H', ⟨by have := HK1.out; have := HJ2.out; have := HK3.out; omega⟩, by repeat (first | exact Drawn0.refl _ | apply Drawn0.step)⟩
   ·rw [if_neg c2] at H; have c2b0 : decide (x3_1 < (l0.length : Int)) = false := decide_eq_false c2; clear c2; obtain rfl := Option.some.inj H; go_wp2; go_ret
    exact ⟨by first | rfl | (simp; done) | (simp [*]; done), by repeat (first | exact Drawn0.refl _ | apply Drawn0.step)⟩

end Go.Proofs.Ytieglelnpiogcaa.PB
