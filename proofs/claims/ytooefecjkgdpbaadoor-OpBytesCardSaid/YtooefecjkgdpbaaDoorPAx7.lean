-- Written by wip/hprint/hprint.py (a program of this session, over the print): not typed by hand
import Derived.Test.YtooefecjkgdpbaaDoorPAx0
namespace Go.Proofs.YtooefecjkgdpbaaDoor.PA
open Go.RowKit Go.Proofs.YtooefecjkgdpbaaDoorW.PrintWords Go.Proofs.YtooefecjkgdpbaaDoorW.PrintLast Go.Proofs.YtooefecjkgdpbaaDoorW.PrintMore
attribute [local go_sem] max2_int min2_int max_two min_two max_three min_three max_four min_four   -- for this text's walks alone
open Go.Proofs.YtooefecjkgdpbaaDoorH
set_option linter.unusedVariables false
set_option linter.unusedSimpArgs false

/-! ### treillageref06_has: function 25 -/
def treillageref06_has.j0 : Nat → Int → Bool → Option (ByteArray)
 | 0, _, _ => none
 | k + 1, x3, x6 => if x6 = true then (some (⟨#[120]⟩ : ByteArray)) else (if x3 = 4 then (some (⟨#[105, 116, 97]⟩ : ByteArray)) else (if x3 = 5 then (some (⟨#[105]⟩ : ByteArray)) else (if x3 = 6 then (some (⟨#[105, 110, 120]⟩ : ByteArray)) else (if x3 = 7 then (some (⟨#[105, 110]⟩ : ByteArray)) else (if x3 = 8 then (some (⟨#[105, 120]⟩ : ByteArray)) else (some (⟨#[]⟩ : ByteArray)))))))
def treillageref06_has.f (k : Nat) (a0 : Int) : Option (ByteArray) := if a0 = 1 then (some (⟨#[110]⟩ : ByteArray)) else (if a0 = 2 then (treillageref06_has.j0 k a0 true) else (treillageref06_has.j0 k a0 (a0 == 3)))
theorem treillageref06_has.mono_l : ∀ k, (∀ y0 y1, LeO (treillageref06_has.j0 k y0 y1) (treillageref06_has.j0 (k + 1) y0 y1))
 | 0 => fun _ _ r h => by simp [treillageref06_has.j0] at h
 | k + 1 => by
  have ih0 := treillageref06_has.mono_l k
  ·intro y0 y1
   unfold treillageref06_has.j0; repeat' first
   | (with_reducible exact ih0 _ _)
   | (with_reducible exact LeO.refl _)
   | (with_reducible exact LeO.none _)
   | (with_reducible refine LeO.ite ?_ ?_)
   | (with_reducible refine LeO.bind ?_ (fun _ => ?_))
   | exact ih0 _ _
   | exact LeO.none _
   | refine LeO.ite ?_ ?_
   | refine LeO.bind ?_ (fun _ => ?_)
theorem treillageref06_has.mono : ∀ a0 k, LeO (treillageref06_has.f k a0) (treillageref06_has.f (k + 1) a0) := by
 intro a0 k
 have ih0 := treillageref06_has.mono_l k; unfold treillageref06_has.f
 repeat' first
   | (with_reducible exact ih0 _ _)
   | (with_reducible exact LeO.refl _)
   | (with_reducible exact LeO.none _)
   | (with_reducible refine LeO.ite ?_ ?_)
   | (with_reducible refine LeO.bind ?_ (fun _ => ?_))
   | exact ih0 _ _
   | exact LeO.none _
   | refine LeO.ite ?_ ?_
   | refine LeO.bind ?_ (fun _ => ?_)
set_option maxHeartbeats 8000000 in
set_option maxRecDepth 100000 in
theorem treillageref06_has.calls (k : Nat) (a0 : Int) (r : ByteArray) (w : World) (h : treillageref06_has.f k a0 = some r) :
  Calls Tryd.prog 25 #[.int .i64 a0] w fun e w' => e = .returned (.string r) ∧ Drawn0 w w' := by
 have H : (if a0 = 1 then (some (⟨#[110]⟩ : ByteArray)) else (if a0 = 2 then (treillageref06_has.j0 k a0 true) else (treillageref06_has.j0 k a0 (a0 == 3)))) = some r := h; clear h; by_cases c2 : a0 = 1
 ·rw [if_pos c2] at H; have c2b0 : (a0 == 1) = true := beq_iff_eq.mpr c2; have c2b1 : (a0 != 1) = false := bne_eq_false_iff_eq.mpr c2; clear c2; obtain rfl := Option.some.inj H; go_enter Tryd.func25, Tryd.ntmps25; go_wp2; go_ret
  exact ⟨by first | rfl | (simp; done) | (simp [*]; done), by repeat (first | exact Drawn0.refl _ | apply Drawn0.step)⟩
 ·rw [if_neg c2] at H; have c2b0 : (a0 == 1) = false := beq_eq_false_iff_ne.mpr c2; have c2b1 : (a0 != 1) = true := bne_iff_ne.mpr c2; have HC3 := aA H; clear H; go_enter Tryd.func25, Tryd.ntmps25; go_upto_if 6 with (fail)
  go_cut [6] (fun v6 wc => ∃ (kq : Nat) (x6_2 : Bool), v6 = .bool x6_2 ∧ Aside0 (treillageref06_has.j0 kq a0 x6_2 = some r) ∧ Aside0 (kq ≤ k) ∧ Drawn0 w wc)
  case first =>
   have H := HC3.out; clear HC3; by_cases c4 : a0 = 2
   ·rw [if_pos c4] at H; have c4b0 : (a0 == 2) = true := beq_iff_eq.mpr c4; have c4b1 : (a0 != 2) = false := bne_eq_false_iff_eq.mpr c4; clear c4; (first | rw [c4b0] | rw [c4b1] | (simp only [i64_w, i32_w]; rw [c4b0]) | skip)
    have H' := aA H; clear H; go_wp2; go_meet
    case rel => exact ⟨_, (true), (by first | rfl | (simp; done) | (simp [*]; done)), H', ⟨by first | omega | exact Nat.le_refl _⟩, by repeat (first | exact Drawn0.refl _ | apply Drawn0.step)⟩
   ·rw [if_neg c4] at H; have c4b0 : (a0 == 2) = false := beq_eq_false_iff_ne.mpr c4; have c4b1 : (a0 != 2) = true := bne_iff_ne.mpr c4; (first | rw [c4b0] | rw [c4b1] | (simp only [i64_w, i32_w]; rw [c4b0]) | skip)
    have H' := aA H; clear H; go_wp2; go_meet
    case rel => exact ⟨_, ((a0 == 3)), (by first | rfl | (simp; done) | (simp [*]; done)), H', ⟨by first | omega | exact Nat.le_refl _⟩, by repeat (first | exact Drawn0.refl _ | apply Drawn0.step)⟩
  case rest =>
   clear HC3; try clear c2
   try clear c2b0
   try clear c2b1
   try clear p2
   try clear c4
   try clear c4b0
   try clear c4b1
   obtain ⟨kq, x6_2, rfl, HA, HJ2, ⟨mc2, rfl⟩⟩ := hcut; cases kq with
   | zero => exact absurd HA.out (by simp [treillageref06_has.j0])
   | succ kj2 =>
    have H := HA.out; clear HA; simp only [treillageref06_has.j0] at H; by_cases c5 : x6_2 = true
    ·subst c5; have H1 : (some (⟨#[120]⟩ : ByteArray)) = some r := by rw [if_pos rfl] at H; exact H
     clear H; have H := H1; clear H1; obtain rfl := Option.some.inj H; go_wp2; go_ret
     exact ⟨by first | rfl | (simp; done) | (simp [*]; done), by repeat (first | exact Drawn0.refl _ | apply Drawn0.step)⟩
    ·replace c5 := Bool.eq_false_iff.mpr c5; subst c5; have H1 : (if a0 = 4 then (some (⟨#[105, 116, 97]⟩ : ByteArray)) else (if a0 = 5 then (some (⟨#[105]⟩ : ByteArray)) else (if a0 = 6 then (some (⟨#[105, 110, 120]⟩ : ByteArray)) else (if a0 = 7 then (some (⟨#[105, 110]⟩ : ByteArray)) else (if a0 = 8 then (some (⟨#[105, 120]⟩ : ByteArray)) else (some (⟨#[]⟩ : ByteArray))))))) = some r := by rw [if_neg (show ¬ (false = true) by decide)] at H; exact H
     clear H; have H := H1; clear H1; by_cases c6 : a0 = 4
     ·rw [if_pos c6] at H; have c6b0 : (a0 == 4) = true := beq_iff_eq.mpr c6; have c6b1 : (a0 != 4) = false := bne_eq_false_iff_eq.mpr c6; clear c6; obtain rfl := Option.some.inj H; go_wp2; go_ret
      exact ⟨by first | rfl | (simp; done) | (simp [*]; done), by repeat (first | exact Drawn0.refl _ | apply Drawn0.step)⟩
     ·rw [if_neg c6] at H; have c6b0 : (a0 == 4) = false := beq_eq_false_iff_ne.mpr c6; have c6b1 : (a0 != 4) = true := bne_iff_ne.mpr c6; by_cases c7 : a0 = 5
      ·rw [if_pos c7] at H; have c7b0 : (a0 == 5) = true := beq_iff_eq.mpr c7; have c7b1 : (a0 != 5) = false := bne_eq_false_iff_eq.mpr c7; clear c7; obtain rfl := Option.some.inj H; go_wp2; go_ret
       exact ⟨by first | rfl | (simp; done) | (simp [*]; done), by repeat (first | exact Drawn0.refl _ | apply Drawn0.step)⟩
      ·rw [if_neg c7] at H; have c7b0 : (a0 == 5) = false := beq_eq_false_iff_ne.mpr c7; have c7b1 : (a0 != 5) = true := bne_iff_ne.mpr c7; by_cases c8 : a0 = 6
       ·rw [if_pos c8] at H; have c8b0 : (a0 == 6) = true := beq_iff_eq.mpr c8; have c8b1 : (a0 != 6) = false := bne_eq_false_iff_eq.mpr c8; clear c8; obtain rfl := Option.some.inj H; go_wp2; go_ret
        exact ⟨by first | rfl | (simp; done) | (simp [*]; done), by repeat (first | exact Drawn0.refl _ | apply Drawn0.step)⟩
       ·rw [if_neg c8] at H; have c8b0 : (a0 == 6) = false := beq_eq_false_iff_ne.mpr c8; have c8b1 : (a0 != 6) = true := bne_iff_ne.mpr c8; by_cases c9 : a0 = 7
        ·rw [if_pos c9] at H; have c9b0 : (a0 == 7) = true := beq_iff_eq.mpr c9; have c9b1 : (a0 != 7) = false := bne_eq_false_iff_eq.mpr c9; clear c9; obtain rfl := Option.some.inj H; go_wp2; go_ret
         exact ⟨by first | rfl | (simp; done) | (simp [*]; done), by repeat (first | exact Drawn0.refl _ | apply Drawn0.step)⟩
        ·rw [if_neg c9] at H; have c9b0 : (a0 == 7) = false := beq_eq_false_iff_ne.mpr c9; have c9b1 : (a0 != 7) = true := bne_iff_ne.mpr c9; by_cases c10 : a0 = 8
         ·rw [if_pos c10] at H; have c10b0 : (a0 == 8) = true := beq_iff_eq.mpr c10; have c10b1 : (a0 != 8) = false := bne_eq_false_iff_eq.mpr c10; clear c10; obtain rfl := Option.some.inj H; go_wp2; go_ret
          exact ⟨by first | rfl | (simp; done) | (simp [*]; done), by repeat (first | exact Drawn0.refl _ | apply Drawn0.step)⟩
         ·rw [if_neg c10] at H; have c10b0 : (a0 == 8) = false := beq_eq_false_iff_ne.mpr c10; have c10b1 : (a0 != 8) = true := bne_iff_ne.mpr c10; obtain rfl := Option.some.inj H; go_wp2; go_ret
          exact ⟨by first | rfl | (simp; done) | (simp [*]; done), by repeat (first | exact Drawn0.refl _ | apply Drawn0.step)⟩

/-! ### treillageref06_in: function 26 -/
def treillageref06_in.l0 : Nat → ByteArray → Int → Int → Option (Bool)
 | 0, _, _, _ => none
 | k + 1, x0, x1, x5 => if x5 < (x0.size : Int) then (if 0 ≤ x5 then (if (bt x0 x5) = x1 then (some true) else (treillageref06_in.l0 k x0 x1 (wrap64 (x5 + 1)))) else (none)) else (some false)
def treillageref06_in.f (k : Nat) (a0 : ByteArray) (a1 : Int) : Option (Bool) := treillageref06_in.l0 k a0 a1 0
theorem treillageref06_in.mono_l : ∀ k, (∀ y0 y1 y2, LeO (treillageref06_in.l0 k y0 y1 y2) (treillageref06_in.l0 (k + 1) y0 y1 y2))
 | 0 => fun _ _ _ r h => by simp [treillageref06_in.l0] at h
 | k + 1 => by
  have ih0 := treillageref06_in.mono_l k
  ·intro y0 y1 y2
   unfold treillageref06_in.l0; repeat' first
   | (with_reducible exact ih0 _ _ _)
   | (with_reducible exact LeO.refl _)
   | (with_reducible exact LeO.none _)
   | (with_reducible refine LeO.ite ?_ ?_)
   | (with_reducible refine LeO.bind ?_ (fun _ => ?_))
   | exact ih0 _ _ _
   | exact LeO.none _
   | refine LeO.ite ?_ ?_
   | refine LeO.bind ?_ (fun _ => ?_)
theorem treillageref06_in.mono : ∀ a0 a1 k, LeO (treillageref06_in.f k a0 a1) (treillageref06_in.f (k + 1) a0 a1) := by
 intro a0 a1 k
 have ih0 := treillageref06_in.mono_l k; unfold treillageref06_in.f
 repeat' first
   | (with_reducible exact ih0 _ _ _)
   | (with_reducible exact LeO.refl _)
   | (with_reducible exact LeO.none _)
   | (with_reducible refine LeO.ite ?_ ?_)
   | (with_reducible refine LeO.bind ?_ (fun _ => ?_))
   | exact ih0 _ _ _
   | exact LeO.none _
   | refine LeO.ite ?_ ?_
   | refine LeO.bind ?_ (fun _ => ?_)
set_option maxHeartbeats 8000000 in
set_option maxRecDepth 100000 in
theorem treillageref06_in.calls (k : Nat) (a0 : ByteArray) (a1 : Int) (r : Bool) (w : World) (h : treillageref06_in.f k a0 a1 = some r) :
  Calls Tryd.prog 26 #[.string a0, .int .u8 a1] w fun e w' => e = .returned (.bool r) ∧ Drawn0 w w' := by
 have H : (treillageref06_in.l0 k a0 a1 0) = some r := h; clear h; have H' := aA H; clear H; go_enter Tryd.func26, Tryd.ntmps26; go_wp2; go_loopg [5] k (fun kq v5 w' => ∃ (x5_1 : Int), v5 = .int .i64 x5_1 ∧ Aside0 (treillageref06_in.l0 kq a0 a1 x5_1 = some r) ∧ Aside0 (kq ≤ k) ∧ Drawn0 w w')
 case atStart => exact ⟨(0), (by first | rfl | (simp; done) | (simp [*]; done)), H', ⟨Nat.le_refl _⟩, by repeat (first | exact Drawn0.refl _ | apply Drawn0.step)⟩
 case round =>
  clear H'; try clear c2
  try clear p2
  obtain ⟨x5_1, rfl, HA, HK1, ⟨m1, rfl⟩⟩ := hrel; cases gk with
  | zero => exact absurd HA.out (by simp [treillageref06_in.l0])
  | succ k1 =>
   have H := HA.out; clear HA; simp only [treillageref06_in.l0] at H; by_cases c3 : x5_1 < (a0.size : Int)
   ·rw [if_pos c3] at H; have c3b0 : decide (x5_1 < (a0.size : Int)) = true := decide_eq_true c3; clear c3; by_cases c4 : 0 ≤ x5_1
    rotate_left
    ·rw [if_neg c4] at H; exact absurd H (by simp)
    rw [if_pos c4] at H; have c4b0 : decide (0 ≤ x5_1) = true := decide_eq_true c4; clear c4; by_cases c6 : (bt a0 x5_1) = a1
    ·rw [if_pos c6] at H; have c6b0 : ((bt a0 x5_1) == a1) = true := beq_iff_eq.mpr c6; have c6b1 : ((bt a0 x5_1) != a1) = false := bne_eq_false_iff_eq.mpr c6; clear c6; obtain rfl := Option.some.inj H; have p5 : 0 ≤ (x5_1 : Int) := of_decide_eq_true (by first | (with_reducible assumption) | assumption); have q5 : x5_1 < (a0.size : Int) := of_decide_eq_true (by first | (with_reducible assumption) | assumption); have hx5 := bt_at a0 x5_1; replace p5 := eq_true p5; replace q5 := eq_true q5; go_wp2; go_ret
     exact ⟨by first | rfl | (simp; done) | (simp [*]; done), by repeat (first | exact Drawn0.refl _ | apply Drawn0.step)⟩
    ·rw [if_neg c6] at H; have c6b0 : ((bt a0 x5_1) == a1) = false := beq_eq_false_iff_ne.mpr c6; have c6b1 : ((bt a0 x5_1) != a1) = true := bne_iff_ne.mpr c6; have H' := aA H; clear H; have p5 : 0 ≤ (x5_1 : Int) := of_decide_eq_true (by first | (with_reducible assumption) | assumption); have q5 : x5_1 < (a0.size : Int) := of_decide_eq_true (by first | (with_reducible assumption) | assumption); have hx5 := bt_at a0 x5_1; replace p5 := eq_true p5; replace q5 := eq_true q5; go_wp2; go_roundg k1
     case measure => have := HK1.out; omega
     case rel => exact ⟨(wrap64 (x5_1 + 1)), (by first | rfl | (simp; done) | (simp [*]; done)), H', ⟨by have := HK1.out; omega⟩, by repeat (first | exact Drawn0.refl _ | apply Drawn0.step)⟩
   ·rw [if_neg c3] at H; have c3b0 : decide (x5_1 < (a0.size : Int)) = false := decide_eq_false c3; clear c3; obtain rfl := Option.some.inj H; go_wp2; go_ret
    exact ⟨by first | rfl | (simp; done) | (simp [*]; done), by repeat (first | exact Drawn0.refl _ | apply Drawn0.step)⟩

theorem may_int (i : Bool) (a : Int) : i = true ∨ (i = false ∧ (a == 0) = true ∧ decide (a = 0) = true) ∨ (i = false ∧ ¬ a = 0 ∧ (a == 0) = false ∧ decide (a = 0) = false) := by
 cases i
 ·by_cases h : a = 0
  ·exact Or.inr (Or.inl ⟨rfl, by simpa using h, by simpa using h⟩)
  ·exact Or.inr (Or.inr ⟨rfl, h, by simpa using h, by simpa using h⟩)
 ·exact Or.inl rfl
theorem may_str (i : Bool) (s : ByteArray) : i = true ∨ (i = false ∧ s.toList = [] ∧ (s.toList == ([] : List UInt8)) = true) ∨ (i = false ∧ ¬ s.toList = [] ∧ (s.toList == ([] : List UInt8)) = false) := by
 cases i
 ·by_cases h : s.toList = []
  ·exact Or.inr (Or.inl ⟨rfl, h, beq_iff_eq.mpr h⟩)
  ·exact Or.inr (Or.inr ⟨rfl, h, beq_eq_false_iff_ne.mpr h⟩)
 ·exact Or.inl rfl
theorem may_len (s : ByteArray) : (s.size ≤ 255 ∧ decide ((s.size : Int) ≤ 255) = true) ∨ (¬ s.size ≤ 255 ∧ decide ((s.size : Int) ≤ 255) = false) := by
 by_cases h : s.size ≤ 255
 ·exact Or.inl ⟨h, decide_eq_true (by omega)⟩
 ·exact Or.inr ⟨h, decide_eq_false (by omega)⟩
def refMayB (h : ByteArray) (i t a n x : Bool) (a0_1 a0_2 a0_3 : Int) (a0_4 a0_5 : ByteArray) : Bool := !decide (h.toList = []) && ((i || decide (a0_1 = 0)) && ((t || decide (a0_2 = 0)) && ((a || decide (a0_3 = 0)) && ((n || decide (a0_4.toList = [])) && ((x || decide (a0_5.toList = [])) && (decide (a0_4.size ≤ 255) && decide (a0_5.size ≤ 255)))))))
def treillageref06_May.f (k : Nat) (a0_0 a0_1 a0_2 a0_3 : Int) (a0_4 a0_5 : ByteArray) : Option Bool := (treillageref06_has.f k a0_0).bind fun h => (treillageref06_in.f k h 105).bind fun i => (treillageref06_in.f k h 116).bind fun t => (treillageref06_in.f k h 97).bind fun a => (treillageref06_in.f k h 110).bind fun n => (treillageref06_in.f k h 120).bind fun x => some (refMayB h i t a n x a0_1 a0_2 a0_3 a0_4 a0_5)
theorem treillageref06_May.mono : ∀ a0 a1 a2 a3 a4 a5 k, LeO (treillageref06_May.f k a0 a1 a2 a3 a4 a5) (treillageref06_May.f (k + 1) a0 a1 a2 a3 a4 a5) := by
 intro a0 a1 a2 a3 a4 a5 k
 unfold treillageref06_May.f; exact LeO.bind (treillageref06_has.mono _ _) fun _ => LeO.bind (treillageref06_in.mono _ _ _) fun _ => LeO.bind (treillageref06_in.mono _ _ _) fun _ => LeO.bind (treillageref06_in.mono _ _ _) fun _ => LeO.bind (treillageref06_in.mono _ _ _) fun _ => LeO.bind (treillageref06_in.mono _ _ _) fun _ => LeO.refl _
set_option maxHeartbeats 40000000 in
set_option maxRecDepth 100000 in
theorem ref_may_at (k : Nat) (h : ByteArray) (i t a n x : Bool) (a0_0 a0_1 a0_2 a0_3 : Int) (a0_4 a0_5 : ByteArray) (w : World) (hh : treillageref06_has.f k a0_0 = some h) (hi : treillageref06_in.f k h 105 = some i) (ht : treillageref06_in.f k h 116 = some t) (ha : treillageref06_in.f k h 97 = some a) (hn : treillageref06_in.f k h 110 = some n) (hx : treillageref06_in.f k h 120 = some x) : Calls Tryd.prog 12 #[.agg #[.int .i64 a0_0, .int .i64 a0_1, .int .i64 a0_2, .int .i64 a0_3, .string a0_4, .string a0_5]] w fun e w' => e = .returned (.bool (refMayB h i t a n x a0_1 a0_2 a0_3 a0_4 a0_5)) ∧ Below w.heap.size w w' := by
 have HH := aA hh; have Hi := aA hi; have Ht := aA ht; have Ha := aA ha; have Hn := aA hn; have Hx := aA hx; clear hh hi ht ha hn hx; have HB := Below.refl w.heap.size w; obtain ⟨r, hr⟩ : ∃ r, r = refMayB h i t a n x a0_1 a0_2 a0_3 a0_4 a0_5 := ⟨_, rfl⟩; rw [← hr]; by_cases h0 : h.toList = []
 ·have e1 : (h.toList == ([] : List UInt8)) = true := beq_iff_eq.mpr h0; have e2 : (h.toList != ([] : List UInt8)) = false := bne_eq_false_iff_eq.mpr h0; have H0 := aA h0; have HRR := aA hr; clear hr; clear h0; go_enter Tryd.func12, Tryd.ntmps12; go_wp2_with (first
  | ((with_reducible refine gate_dst (N := 1) rfl ?_); (with_reducible refine gate_ (.box 29 (.tmp 0)) rfl ?_); refine box_event (N := 1) rfl rfl (cs := #[.int .i64 a0_0, .int .i64 a0_1, .int .i64 a0_2, .int .i64 a0_3, .string a0_4, .string a0_5]) (t := 29) (by first | (go_simp; done) | (go_simp; rfl)) ?_; intro go hg_ wo_ hbo hbl_; have HGo : w.heap.size ≤ go := (by rw [hg_]; exact Nat.le_trans (by first | exact Nat.le_refl _ | exact HB.size) (Nat.le_refl _)); replace HB := below_step (blw HB) hbl_; clear hg_ hbl_; have hqo_0 : wo_.cell? ⟨go, 0, none⟩ = some (.int .i64 a0_0) := (blk_cell hbo 0).trans rfl; have hqo_1 : wo_.cell? ⟨go, 1, none⟩ = some (.int .i64 a0_1) := (blk_cell hbo 1).trans rfl; have hqo_2 : wo_.cell? ⟨go, 2, none⟩ = some (.int .i64 a0_2) := (blk_cell hbo 2).trans rfl; have hqo_3 : wo_.cell? ⟨go, 3, none⟩ = some (.int .i64 a0_3) := (blk_cell hbo 3).trans rfl; have hqo_4 : wo_.cell? ⟨go, 4, none⟩ = some (.string a0_4) := (blk_cell hbo 4).trans rfl; have hqo_5 : wo_.cell? ⟨go, 5, none⟩ = some (.string a0_5) := (blk_cell hbo 5).trans rfl)
  | (go_at_call 25; ((with_reducible refine (treillageref06_has.calls k a0_0 h _ HH.out).mono ?_); rintro e w1 ⟨rfl, hd_⟩; have hb_ := Drawn0.below hd_; clear hd_ hqo_0 hqo_1 hqo_2 hqo_3 hqo_4 hqo_5; replace hbo := blk_below (by exact hbo) hb_; have hqo_0 : w1.cell? ⟨go, 0, none⟩ = some (.int .i64 a0_0) := (blk_cell hbo 0).trans rfl; have hqo_1 : w1.cell? ⟨go, 1, none⟩ = some (.int .i64 a0_1) := (blk_cell hbo 1).trans rfl; have hqo_2 : w1.cell? ⟨go, 2, none⟩ = some (.int .i64 a0_2) := (blk_cell hbo 2).trans rfl; have hqo_3 : w1.cell? ⟨go, 3, none⟩ = some (.int .i64 a0_3) := (blk_cell hbo 3).trans rfl; have hqo_4 : w1.cell? ⟨go, 4, none⟩ = some (.string a0_4) := (blk_cell hbo 4).trans rfl; have hqo_5 : w1.cell? ⟨go, 5, none⟩ = some (.string a0_5) := (blk_cell hbo 5).trans rfl; replace HB := below_step (blw HB) hb_; clear hb_))
  | (go_at_call 26; ((with_reducible refine (treillageref06_in.calls k h 105 _ _ Hi.out).mono ?_); rintro e w2 ⟨rfl, hd_⟩; have hb_ := Drawn0.below hd_; clear hd_ hqo_0 hqo_1 hqo_2 hqo_3 hqo_4 hqo_5; replace hbo := blk_below (by exact hbo) hb_; have hqo_0 : w2.cell? ⟨go, 0, none⟩ = some (.int .i64 a0_0) := (blk_cell hbo 0).trans rfl; have hqo_1 : w2.cell? ⟨go, 1, none⟩ = some (.int .i64 a0_1) := (blk_cell hbo 1).trans rfl; have hqo_2 : w2.cell? ⟨go, 2, none⟩ = some (.int .i64 a0_2) := (blk_cell hbo 2).trans rfl; have hqo_3 : w2.cell? ⟨go, 3, none⟩ = some (.int .i64 a0_3) := (blk_cell hbo 3).trans rfl; have hqo_4 : w2.cell? ⟨go, 4, none⟩ = some (.string a0_4) := (blk_cell hbo 4).trans rfl; have hqo_5 : w2.cell? ⟨go, 5, none⟩ = some (.string a0_5) := (blk_cell hbo 5).trans rfl; replace HB := below_step (blw HB) hb_; clear hb_))
  | (go_at_call 26; ((with_reducible refine (treillageref06_in.calls k h 116 _ _ Ht.out).mono ?_); rintro e w3 ⟨rfl, hd_⟩; have hb_ := Drawn0.below hd_; clear hd_ hqo_0 hqo_1 hqo_2 hqo_3 hqo_4 hqo_5; replace hbo := blk_below (by exact hbo) hb_; have hqo_0 : w3.cell? ⟨go, 0, none⟩ = some (.int .i64 a0_0) := (blk_cell hbo 0).trans rfl; have hqo_1 : w3.cell? ⟨go, 1, none⟩ = some (.int .i64 a0_1) := (blk_cell hbo 1).trans rfl; have hqo_2 : w3.cell? ⟨go, 2, none⟩ = some (.int .i64 a0_2) := (blk_cell hbo 2).trans rfl; have hqo_3 : w3.cell? ⟨go, 3, none⟩ = some (.int .i64 a0_3) := (blk_cell hbo 3).trans rfl; have hqo_4 : w3.cell? ⟨go, 4, none⟩ = some (.string a0_4) := (blk_cell hbo 4).trans rfl; have hqo_5 : w3.cell? ⟨go, 5, none⟩ = some (.string a0_5) := (blk_cell hbo 5).trans rfl; replace HB := below_step (blw HB) hb_; clear hb_))
  | (go_at_call 26; ((with_reducible refine (treillageref06_in.calls k h 97 _ _ Ha.out).mono ?_); rintro e w4 ⟨rfl, hd_⟩; have hb_ := Drawn0.below hd_; clear hd_ hqo_0 hqo_1 hqo_2 hqo_3 hqo_4 hqo_5; replace hbo := blk_below (by exact hbo) hb_; have hqo_0 : w4.cell? ⟨go, 0, none⟩ = some (.int .i64 a0_0) := (blk_cell hbo 0).trans rfl; have hqo_1 : w4.cell? ⟨go, 1, none⟩ = some (.int .i64 a0_1) := (blk_cell hbo 1).trans rfl; have hqo_2 : w4.cell? ⟨go, 2, none⟩ = some (.int .i64 a0_2) := (blk_cell hbo 2).trans rfl; have hqo_3 : w4.cell? ⟨go, 3, none⟩ = some (.int .i64 a0_3) := (blk_cell hbo 3).trans rfl; have hqo_4 : w4.cell? ⟨go, 4, none⟩ = some (.string a0_4) := (blk_cell hbo 4).trans rfl; have hqo_5 : w4.cell? ⟨go, 5, none⟩ = some (.string a0_5) := (blk_cell hbo 5).trans rfl; replace HB := below_step (blw HB) hb_; clear hb_))
  | (go_at_call 26; ((with_reducible refine (treillageref06_in.calls k h 110 _ _ Hn.out).mono ?_); rintro e w5 ⟨rfl, hd_⟩; have hb_ := Drawn0.below hd_; clear hd_ hqo_0 hqo_1 hqo_2 hqo_3 hqo_4 hqo_5; replace hbo := blk_below (by exact hbo) hb_; have hqo_0 : w5.cell? ⟨go, 0, none⟩ = some (.int .i64 a0_0) := (blk_cell hbo 0).trans rfl; have hqo_1 : w5.cell? ⟨go, 1, none⟩ = some (.int .i64 a0_1) := (blk_cell hbo 1).trans rfl; have hqo_2 : w5.cell? ⟨go, 2, none⟩ = some (.int .i64 a0_2) := (blk_cell hbo 2).trans rfl; have hqo_3 : w5.cell? ⟨go, 3, none⟩ = some (.int .i64 a0_3) := (blk_cell hbo 3).trans rfl; have hqo_4 : w5.cell? ⟨go, 4, none⟩ = some (.string a0_4) := (blk_cell hbo 4).trans rfl; have hqo_5 : w5.cell? ⟨go, 5, none⟩ = some (.string a0_5) := (blk_cell hbo 5).trans rfl; replace HB := below_step (blw HB) hb_; clear hb_))
  | (go_at_call 26; ((with_reducible refine (treillageref06_in.calls k h 120 _ _ Hx.out).mono ?_); rintro e w6 ⟨rfl, hd_⟩; have hb_ := Drawn0.below hd_; clear hd_ hqo_0 hqo_1 hqo_2 hqo_3 hqo_4 hqo_5; replace hbo := blk_below (by exact hbo) hb_; have hqo_0 : w6.cell? ⟨go, 0, none⟩ = some (.int .i64 a0_0) := (blk_cell hbo 0).trans rfl; have hqo_1 : w6.cell? ⟨go, 1, none⟩ = some (.int .i64 a0_1) := (blk_cell hbo 1).trans rfl; have hqo_2 : w6.cell? ⟨go, 2, none⟩ = some (.int .i64 a0_2) := (blk_cell hbo 2).trans rfl; have hqo_3 : w6.cell? ⟨go, 3, none⟩ = some (.int .i64 a0_3) := (blk_cell hbo 3).trans rfl; have hqo_4 : w6.cell? ⟨go, 4, none⟩ = some (.string a0_4) := (blk_cell hbo 4).trans rfl; have hqo_5 : w6.cell? ⟨go, 5, none⟩ = some (.string a0_5) := (blk_cell hbo 5).trans rfl; replace HB := below_step (blw HB) hb_; clear hb_)))
  go_ret
  exact ⟨by rw [HRR.out]; simp [refMayB, H0.out, *] <;> omega, HB⟩
 have e1 : (h.toList == ([] : List UInt8)) = false := beq_eq_false_iff_ne.mpr h0; have e2 : (h.toList != ([] : List UInt8)) = true := bne_iff_ne.mpr h0; have H0 := aA h0; have HRR := aA hr; clear hr; clear h0; all_goals (first | (rcases may_int i a0_1 with rfl | ⟨rfl, ib0, id0⟩ | ⟨rfl, ne0, nb0, nd0⟩))
 all_goals (first | (have hz_ := ne0; clear hz_) | (rcases may_int t a0_2 with rfl | ⟨rfl, ib1, id1⟩ | ⟨rfl, ne1, nb1, nd1⟩))
 all_goals (first | (have hz_ := ne0; clear hz_) | (have hz_ := ne1; clear hz_) | (rcases may_int a a0_3 with rfl | ⟨rfl, ib2, id2⟩ | ⟨rfl, ne2, nb2, nd2⟩))
 all_goals (first | (have hz_ := ne0; clear hz_) | (have hz_ := ne1; clear hz_) | (have hz_ := ne2; clear hz_) | (rcases may_str n a0_4 with rfl | ⟨rfl, se3, sf3⟩ | ⟨rfl, ne3, sf3⟩))
 all_goals (first | (have hz_ := ne0; clear hz_) | (have hz_ := ne1; clear hz_) | (have hz_ := ne2; clear hz_) | (have hz_ := ne3; clear hz_) | (rcases may_str x a0_5 with rfl | ⟨rfl, se4, sf4⟩ | ⟨rfl, ne4, sf4⟩))
 all_goals (first | (have hz_ := ne0; clear hz_) | (have hz_ := ne1; clear hz_) | (have hz_ := ne2; clear hz_) | (have hz_ := ne3; clear hz_) | (have hz_ := ne4; clear hz_) | (rcases may_len a0_4 with ⟨s4, d4⟩ | ⟨ne5, d4⟩))
 all_goals
  go_enter Tryd.func12, Tryd.ntmps12; go_wp2_with (first
  | ((with_reducible refine gate_dst (N := 1) rfl ?_); (with_reducible refine gate_ (.box 29 (.tmp 0)) rfl ?_); refine box_event (N := 1) rfl rfl (cs := #[.int .i64 a0_0, .int .i64 a0_1, .int .i64 a0_2, .int .i64 a0_3, .string a0_4, .string a0_5]) (t := 29) (by first | (go_simp; done) | (go_simp; rfl)) ?_; intro go hg_ wo_ hbo hbl_; have HGo : w.heap.size ≤ go := (by rw [hg_]; exact Nat.le_trans (by first | exact Nat.le_refl _ | exact HB.size) (Nat.le_refl _)); replace HB := below_step (blw HB) hbl_; clear hg_ hbl_; have hqo_0 : wo_.cell? ⟨go, 0, none⟩ = some (.int .i64 a0_0) := (blk_cell hbo 0).trans rfl; have hqo_1 : wo_.cell? ⟨go, 1, none⟩ = some (.int .i64 a0_1) := (blk_cell hbo 1).trans rfl; have hqo_2 : wo_.cell? ⟨go, 2, none⟩ = some (.int .i64 a0_2) := (blk_cell hbo 2).trans rfl; have hqo_3 : wo_.cell? ⟨go, 3, none⟩ = some (.int .i64 a0_3) := (blk_cell hbo 3).trans rfl; have hqo_4 : wo_.cell? ⟨go, 4, none⟩ = some (.string a0_4) := (blk_cell hbo 4).trans rfl; have hqo_5 : wo_.cell? ⟨go, 5, none⟩ = some (.string a0_5) := (blk_cell hbo 5).trans rfl)
  | (go_at_call 25; ((with_reducible refine (treillageref06_has.calls k a0_0 h _ HH.out).mono ?_); rintro e w1 ⟨rfl, hd_⟩; have hb_ := Drawn0.below hd_; clear hd_ hqo_0 hqo_1 hqo_2 hqo_3 hqo_4 hqo_5; replace hbo := blk_below (by exact hbo) hb_; have hqo_0 : w1.cell? ⟨go, 0, none⟩ = some (.int .i64 a0_0) := (blk_cell hbo 0).trans rfl; have hqo_1 : w1.cell? ⟨go, 1, none⟩ = some (.int .i64 a0_1) := (blk_cell hbo 1).trans rfl; have hqo_2 : w1.cell? ⟨go, 2, none⟩ = some (.int .i64 a0_2) := (blk_cell hbo 2).trans rfl; have hqo_3 : w1.cell? ⟨go, 3, none⟩ = some (.int .i64 a0_3) := (blk_cell hbo 3).trans rfl; have hqo_4 : w1.cell? ⟨go, 4, none⟩ = some (.string a0_4) := (blk_cell hbo 4).trans rfl; have hqo_5 : w1.cell? ⟨go, 5, none⟩ = some (.string a0_5) := (blk_cell hbo 5).trans rfl; replace HB := below_step (blw HB) hb_; clear hb_))
  | (go_at_call 26; ((with_reducible refine (treillageref06_in.calls k h 105 _ _ Hi.out).mono ?_); rintro e w2 ⟨rfl, hd_⟩; have hb_ := Drawn0.below hd_; clear hd_ hqo_0 hqo_1 hqo_2 hqo_3 hqo_4 hqo_5; replace hbo := blk_below (by exact hbo) hb_; have hqo_0 : w2.cell? ⟨go, 0, none⟩ = some (.int .i64 a0_0) := (blk_cell hbo 0).trans rfl; have hqo_1 : w2.cell? ⟨go, 1, none⟩ = some (.int .i64 a0_1) := (blk_cell hbo 1).trans rfl; have hqo_2 : w2.cell? ⟨go, 2, none⟩ = some (.int .i64 a0_2) := (blk_cell hbo 2).trans rfl; have hqo_3 : w2.cell? ⟨go, 3, none⟩ = some (.int .i64 a0_3) := (blk_cell hbo 3).trans rfl; have hqo_4 : w2.cell? ⟨go, 4, none⟩ = some (.string a0_4) := (blk_cell hbo 4).trans rfl; have hqo_5 : w2.cell? ⟨go, 5, none⟩ = some (.string a0_5) := (blk_cell hbo 5).trans rfl; replace HB := below_step (blw HB) hb_; clear hb_))
  | (go_at_call 26; ((with_reducible refine (treillageref06_in.calls k h 116 _ _ Ht.out).mono ?_); rintro e w3 ⟨rfl, hd_⟩; have hb_ := Drawn0.below hd_; clear hd_ hqo_0 hqo_1 hqo_2 hqo_3 hqo_4 hqo_5; replace hbo := blk_below (by exact hbo) hb_; have hqo_0 : w3.cell? ⟨go, 0, none⟩ = some (.int .i64 a0_0) := (blk_cell hbo 0).trans rfl; have hqo_1 : w3.cell? ⟨go, 1, none⟩ = some (.int .i64 a0_1) := (blk_cell hbo 1).trans rfl; have hqo_2 : w3.cell? ⟨go, 2, none⟩ = some (.int .i64 a0_2) := (blk_cell hbo 2).trans rfl; have hqo_3 : w3.cell? ⟨go, 3, none⟩ = some (.int .i64 a0_3) := (blk_cell hbo 3).trans rfl; have hqo_4 : w3.cell? ⟨go, 4, none⟩ = some (.string a0_4) := (blk_cell hbo 4).trans rfl; have hqo_5 : w3.cell? ⟨go, 5, none⟩ = some (.string a0_5) := (blk_cell hbo 5).trans rfl; replace HB := below_step (blw HB) hb_; clear hb_))
  | (go_at_call 26; ((with_reducible refine (treillageref06_in.calls k h 97 _ _ Ha.out).mono ?_); rintro e w4 ⟨rfl, hd_⟩; have hb_ := Drawn0.below hd_; clear hd_ hqo_0 hqo_1 hqo_2 hqo_3 hqo_4 hqo_5; replace hbo := blk_below (by exact hbo) hb_; have hqo_0 : w4.cell? ⟨go, 0, none⟩ = some (.int .i64 a0_0) := (blk_cell hbo 0).trans rfl; have hqo_1 : w4.cell? ⟨go, 1, none⟩ = some (.int .i64 a0_1) := (blk_cell hbo 1).trans rfl; have hqo_2 : w4.cell? ⟨go, 2, none⟩ = some (.int .i64 a0_2) := (blk_cell hbo 2).trans rfl; have hqo_3 : w4.cell? ⟨go, 3, none⟩ = some (.int .i64 a0_3) := (blk_cell hbo 3).trans rfl; have hqo_4 : w4.cell? ⟨go, 4, none⟩ = some (.string a0_4) := (blk_cell hbo 4).trans rfl; have hqo_5 : w4.cell? ⟨go, 5, none⟩ = some (.string a0_5) := (blk_cell hbo 5).trans rfl; replace HB := below_step (blw HB) hb_; clear hb_))
  | (go_at_call 26; ((with_reducible refine (treillageref06_in.calls k h 110 _ _ Hn.out).mono ?_); rintro e w5 ⟨rfl, hd_⟩; have hb_ := Drawn0.below hd_; clear hd_ hqo_0 hqo_1 hqo_2 hqo_3 hqo_4 hqo_5; replace hbo := blk_below (by exact hbo) hb_; have hqo_0 : w5.cell? ⟨go, 0, none⟩ = some (.int .i64 a0_0) := (blk_cell hbo 0).trans rfl; have hqo_1 : w5.cell? ⟨go, 1, none⟩ = some (.int .i64 a0_1) := (blk_cell hbo 1).trans rfl; have hqo_2 : w5.cell? ⟨go, 2, none⟩ = some (.int .i64 a0_2) := (blk_cell hbo 2).trans rfl; have hqo_3 : w5.cell? ⟨go, 3, none⟩ = some (.int .i64 a0_3) := (blk_cell hbo 3).trans rfl; have hqo_4 : w5.cell? ⟨go, 4, none⟩ = some (.string a0_4) := (blk_cell hbo 4).trans rfl; have hqo_5 : w5.cell? ⟨go, 5, none⟩ = some (.string a0_5) := (blk_cell hbo 5).trans rfl; replace HB := below_step (blw HB) hb_; clear hb_))
  | (go_at_call 26; ((with_reducible refine (treillageref06_in.calls k h 120 _ _ Hx.out).mono ?_); rintro e w6 ⟨rfl, hd_⟩; have hb_ := Drawn0.below hd_; clear hd_ hqo_0 hqo_1 hqo_2 hqo_3 hqo_4 hqo_5; replace hbo := blk_below (by exact hbo) hb_; have hqo_0 : w6.cell? ⟨go, 0, none⟩ = some (.int .i64 a0_0) := (blk_cell hbo 0).trans rfl; have hqo_1 : w6.cell? ⟨go, 1, none⟩ = some (.int .i64 a0_1) := (blk_cell hbo 1).trans rfl; have hqo_2 : w6.cell? ⟨go, 2, none⟩ = some (.int .i64 a0_2) := (blk_cell hbo 2).trans rfl; have hqo_3 : w6.cell? ⟨go, 3, none⟩ = some (.int .i64 a0_3) := (blk_cell hbo 3).trans rfl; have hqo_4 : w6.cell? ⟨go, 4, none⟩ = some (.string a0_4) := (blk_cell hbo 4).trans rfl; have hqo_5 : w6.cell? ⟨go, 5, none⟩ = some (.string a0_5) := (blk_cell hbo 5).trans rfl; replace HB := below_step (blw HB) hb_; clear hb_)))
  go_ret
  exact ⟨by rw [HRR.out]; simp [refMayB, H0.out, *] <;> omega, HB⟩
theorem treillageref06_May.calls (k : Nat) (a0_0 : Int) (a0_1 : Int) (a0_2 : Int) (a0_3 : Int) (a0_4 : ByteArray) (a0_5 : ByteArray) (r : Bool) (w : World) (h : treillageref06_May.f k a0_0 a0_1 a0_2 a0_3 a0_4 a0_5 = some r) :
  Calls Tryd.prog 12 #[.agg #[.int .i64 a0_0, .int .i64 a0_1, .int .i64 a0_2, .int .i64 a0_3, .string a0_4, .string a0_5]] w fun e w' => e = .returned (.bool r) ∧ Below w.heap.size w w' := by
 unfold treillageref06_May.f at h; obtain ⟨h0, hh, h⟩ := Option.bind_eq_some_iff.1 h; obtain ⟨i, hi, h⟩ := Option.bind_eq_some_iff.1 h; obtain ⟨t, ht, h⟩ := Option.bind_eq_some_iff.1 h; obtain ⟨a, ha, h⟩ := Option.bind_eq_some_iff.1 h; obtain ⟨n, hn, h⟩ := Option.bind_eq_some_iff.1 h; obtain ⟨x, hx, h⟩ := Option.bind_eq_some_iff.1 h; have h := Option.some.inj h; subst h; exact ref_may_at k h0 i t a n x a0_0 a0_1 a0_2 a0_3 a0_4 a0_5 w hh hi ht ha hn hx

/-! ### treillageref06_natural: function 48 -/
def treillageref06_natural.f : Nat → Int → Option (ByteArray)
 | 0, _ => none
 | k + 1, a0 => if a0 < 10 then (if 0 ≤ a0 then (if a0 ≤ (IntKind.u64.wrap (a0 + 1)) then (if (IntKind.u64.wrap (a0 + 1)) ≤ 10 then (some ((⟨#[48, 49, 50, 51, 52, 53, 54, 55, 56, 57]⟩ : ByteArray).extract (a0 : Int).toNat ((IntKind.u64.wrap (a0 + 1)) : Int).toNat)) else (none)) else (none)) else (none)) else ((treillageref06_natural.f k (IntKind.u64.wrap (Int.tdiv a0 10))).bind fun t116 => (if 0 ≤ (Int.tmod a0 10) then (if (Int.tmod a0 10) ≤ (IntKind.u64.wrap ((Int.tmod a0 10) + 1)) then (if (IntKind.u64.wrap ((Int.tmod a0 10) + 1)) ≤ 10 then (if t116.size + ((⟨#[48, 49, 50, 51, 52, 53, 54, 55, 56, 57]⟩ : ByteArray).extract ((Int.tmod a0 10) : Int).toNat ((IntKind.u64.wrap ((Int.tmod a0 10) + 1)) : Int).toNat).size ≤ 9223372036854775807 then (some (t116 ++ ((⟨#[48, 49, 50, 51, 52, 53, 54, 55, 56, 57]⟩ : ByteArray).extract ((Int.tmod a0 10) : Int).toNat ((IntKind.u64.wrap ((Int.tmod a0 10) + 1)) : Int).toNat))) else (none)) else (none)) else (none)) else (none)))
theorem treillageref06_natural.mono_l : ∀ k, (∀ y0, LeO (treillageref06_natural.f k y0) (treillageref06_natural.f (k + 1) y0))
 | 0 => fun _ r h => by simp [treillageref06_natural.f] at h
 | k + 1 => by
  have ih0 := treillageref06_natural.mono_l k
  ·intro y0
   unfold treillageref06_natural.f; repeat' first
   | (with_reducible exact ih0 _)
   | (with_reducible exact LeO.refl _)
   | (with_reducible exact LeO.none _)
   | (with_reducible refine LeO.ite ?_ ?_)
   | (with_reducible refine LeO.bind ?_ (fun _ => ?_))
   | exact ih0 _
   | exact LeO.none _
   | refine LeO.ite ?_ ?_
   | refine LeO.bind ?_ (fun _ => ?_)
theorem treillageref06_natural.mono : ∀ a0 k, LeO (treillageref06_natural.f k a0) (treillageref06_natural.f (k + 1) a0) := by
 intro a0 k
 have ih0 := treillageref06_natural.mono_l k; exact ih0 a0
def treillageref06_natural.T3 : Bool × List (List Nat × List Nat) := (true, [([], []), ([0], [0]), ([1], [1]), ([], []), ([3], [3]), ([], []), ([5], [5]), ([6], [6]), ([4, 7], [4, 7]), ([2, 8], [2, 8]), ([9, 2, 0, 1, 2, 3, 4, 5, 6, 7, 8, 9], [9])])
def treillageref06_natural.B3 : List Nat := [0, 1, 3, 0, 8, 0, 32, 96, 248, 511, 1023]
theorem treillageref06_natural.tab3 : rtab .any (opsOf Tryd.f48 3) = treillageref06_natural.T3 := by kernel_rfl
theorem treillageref06_natural.bits3 : waitsOk treillageref06_natural.T3.2 treillageref06_natural.B3 = true := by kernel_rfl
set_option maxHeartbeats 8000000 in
set_option maxRecDepth 100000 in
theorem treillageref06_natural.calls (k : Nat) : ∀ (a0 : Int) (r : ByteArray) (w : World) (h : treillageref06_natural.f k a0 = some r),
  Calls Tryd.prog 48 #[.int .u64 a0] w fun e w' => e = .returned (.string r) ∧ Below w.heap.size w w' := by
 induction k using Nat.strongRecOn with
 | _ k ih =>
 intro a0 r w h
 cases k with
 | zero => exact absurd h (by simp [treillageref06_natural.f])
 | succ k =>
 simp only [treillageref06_natural.f] at h; have HB := aA (Below.refl w.heap.size w); have H : (if a0 < 10 then (if 0 ≤ a0 then (if a0 ≤ (IntKind.u64.wrap (a0 + 1)) then (if (IntKind.u64.wrap (a0 + 1)) ≤ 10 then (some ((⟨#[48, 49, 50, 51, 52, 53, 54, 55, 56, 57]⟩ : ByteArray).extract (a0 : Int).toNat ((IntKind.u64.wrap (a0 + 1)) : Int).toNat)) else (none)) else (none)) else (none)) else ((treillageref06_natural.f k (IntKind.u64.wrap (Int.tdiv a0 10))).bind fun t116 => (if 0 ≤ (Int.tmod a0 10) then (if (Int.tmod a0 10) ≤ (IntKind.u64.wrap ((Int.tmod a0 10) + 1)) then (if (IntKind.u64.wrap ((Int.tmod a0 10) + 1)) ≤ 10 then (if t116.size + ((⟨#[48, 49, 50, 51, 52, 53, 54, 55, 56, 57]⟩ : ByteArray).extract ((Int.tmod a0 10) : Int).toNat ((IntKind.u64.wrap ((Int.tmod a0 10) + 1)) : Int).toNat).size ≤ 9223372036854775807 then (some (t116 ++ ((⟨#[48, 49, 50, 51, 52, 53, 54, 55, 56, 57]⟩ : ByteArray).extract ((Int.tmod a0 10) : Int).toNat ((IntKind.u64.wrap ((Int.tmod a0 10) + 1)) : Int).toNat))) else (none)) else (none)) else (none)) else (none)))) = some r := h; clear h; by_cases c2 : a0 < 10
 ·rw [if_pos c2] at H; have c2b0 : decide (a0 < 10) = true := decide_eq_true c2; clear c2; by_cases c3 : 0 ≤ a0
  rotate_left
  ·rw [if_neg c3] at H; exact absurd H (by simp)
  rw [if_pos c3] at H; have c3b0 := eq_true c3; have c3b1 : decide (0 ≤ a0) = true := decide_eq_true c3; clear c3; by_cases c4 : a0 ≤ (IntKind.u64.wrap (a0 + 1))
  rotate_left
  ·rw [if_neg c4] at H; exact absurd H (by simp)
  rw [if_pos c4] at H; have c4b0 := eq_true c4; have c4b1 : decide (a0 ≤ (IntKind.u64.wrap (a0 + 1))) = true := decide_eq_true c4; by_cases c5 : (IntKind.u64.wrap (a0 + 1)) ≤ 10
  rotate_left
  ·rw [if_neg c5] at H; exact absurd H (by simp)
  rw [if_pos c5] at H; have c5b0 := eq_true c5; have c5b1 : decide ((IntKind.u64.wrap (a0 + 1)) ≤ 10) = true := decide_eq_true c5; obtain rfl := Option.some.inj H; go_enter Tryd.func48, Tryd.ntmps48; go_wp2; go_ret
  exact ⟨by first | rfl | (simp [errW_none, errW_some] <;> rfl) | (simp [*, errW_none, errW_some] <;> rfl), by repeat (first | (with_reducible first | exact HB.out | apply below_alloc | apply pw_below_drewN | apply below_drew1) | exact HB.out)⟩
 ·rw [if_neg c2] at H; have c2b0 : decide (a0 < 10) = false := decide_eq_false c2; clear c2; replace H := Option.bind_eq_some_iff.mp H; obtain ⟨t116, A60, H⟩ := H; replace H : (if 0 ≤ (Int.tmod a0 10) then (if (Int.tmod a0 10) ≤ (IntKind.u64.wrap ((Int.tmod a0 10) + 1)) then (if (IntKind.u64.wrap ((Int.tmod a0 10) + 1)) ≤ 10 then (if t116.size + ((⟨#[48, 49, 50, 51, 52, 53, 54, 55, 56, 57]⟩ : ByteArray).extract ((Int.tmod a0 10) : Int).toNat ((IntKind.u64.wrap ((Int.tmod a0 10) + 1)) : Int).toNat).size ≤ 9223372036854775807 then (some (t116 ++ ((⟨#[48, 49, 50, 51, 52, 53, 54, 55, 56, 57]⟩ : ByteArray).extract ((Int.tmod a0 10) : Int).toNat ((IntKind.u64.wrap ((Int.tmod a0 10) + 1)) : Int).toNat))) else (none)) else (none)) else (none)) else (none)) = some r := H; have A6 := aA A60; clear A60; obtain ⟨ji7, hji7⟩ : ∃ j_ : Int, (Int.tmod a0 10) = j_ := ⟨_, rfl⟩; replace H : (if 0 ≤ (ji7) then (if (ji7) ≤ (IntKind.u64.wrap ((ji7) + 1)) then (if (IntKind.u64.wrap ((ji7) + 1)) ≤ 10 then (if t116.size + ((⟨#[48, 49, 50, 51, 52, 53, 54, 55, 56, 57]⟩ : ByteArray).extract ((ji7) : Int).toNat ((IntKind.u64.wrap ((ji7) + 1)) : Int).toNat).size ≤ 9223372036854775807 then (some (t116 ++ ((⟨#[48, 49, 50, 51, 52, 53, 54, 55, 56, 57]⟩ : ByteArray).extract ((ji7) : Int).toNat ((IntKind.u64.wrap ((ji7) + 1)) : Int).toNat))) else (none)) else (none)) else (none)) else (none)) = some r := by first | (rw [hji7] at H; exact H) | (simp only [hji7] at H ⊢; exact H)
  (try rw [hji7] at A6); by_cases c8 : 0 ≤ (ji7)
  rotate_left
  ·rw [if_neg c8] at H; exact absurd H (by simp)

  rw [if_pos c8] at H; have c8b0 := eq_true c8; have c8b1 : decide (0 ≤ (ji7)) = true := decide_eq_true c8; clear c8; by_cases c9 : (ji7) ≤ (IntKind.u64.wrap ((ji7) + 1))
  rotate_left
  ·rw [if_neg c9] at H; exact absurd H (by simp)
  rw [if_pos c9] at H; have c9b0 := eq_true c9; have c9b1 : decide ((ji7) ≤ (IntKind.u64.wrap ((ji7) + 1))) = true := decide_eq_true c9; by_cases c10 : (IntKind.u64.wrap ((ji7) + 1)) ≤ 10
  rotate_left
  ·rw [if_neg c10] at H; exact absurd H (by simp)
  rw [if_pos c10] at H; have c10b0 := eq_true c10; have c10b1 : decide ((IntKind.u64.wrap ((ji7) + 1)) ≤ 10) = true := decide_eq_true c10; by_cases c11 : t116.size + ((⟨#[48, 49, 50, 51, 52, 53, 54, 55, 56, 57]⟩ : ByteArray).extract ((ji7) : Int).toNat ((IntKind.u64.wrap ((ji7) + 1)) : Int).toNat).size ≤ 9223372036854775807
  rotate_left
  ·rw [if_neg c11] at H; exact absurd H (by simp)
  rw [if_pos c11] at H; have c11b0 := eq_true c11; have c11b1 : decide (t116.size + ((⟨#[48, 49, 50, 51, 52, 53, 54, 55, 56, 57]⟩ : ByteArray).extract ((ji7) : Int).toNat ((IntKind.u64.wrap ((ji7) + 1)) : Int).toNat).size ≤ 9223372036854775807) = true := decide_eq_true c11; try have c11b2 : (9223372036854775807 < t116.size + ((⟨#[48, 49, 50, 51, 52, 53, 54, 55, 56, 57]⟩ : ByteArray).extract ((ji7) : Int).toNat ((IntKind.u64.wrap ((ji7) + 1)) : Int).toNat).size) = False := eq_false (Nat.not_lt.2 c11)
  obtain rfl := Option.some.inj H; go_enter Tryd.func48, Tryd.ntmps48; try go_wp2
  have n0_ := aA (below_drew1 HB.out); clear HB; have HB := n0_; clear n0_; refine start_ (n := 11) (S := fun w' => True) (ds := []) #[false, false, false, false, false, false, false, false, false, false, false] (by kernel_rfl) rfl rfl trivial (fun hHeld => ?_); refine with_tabW treillageref06_natural.tab3 treillageref06_natural.bits3 (fun HT_ HW_ => ?_); generalize w.drew = w12 at HB hHeld ⊢; refine pure_ (i := 0) (N := some 9) (v := ?_) (a' := ?_) #[true, false, false, false, false, false, false, false, false, false, false] rfl rfl (any_of HT_.out (by kernel_rfl)) (fun _ _ _ h => h) (Or.inl ⟨by rfl, ?_⟩) ?_ ?_; rotate_left
  ·intro w'
   go_simp
   with_reducible rfl
  rotate_left
  ·simp only [Act.put, List.setIfInBounds_toArray, List.set_cons_zero, List.set_cons_succ, i64_w, i32_w]; rfl
  refine pure_ (i := 1) (N := some 10) (v := ?_) (a' := ?_) #[true, true, false, false, false, false, false, false, false, false, false] rfl rfl (any_of HT_.out (by kernel_rfl)) (fun _ _ _ h => h) (Or.inl ⟨by rfl, ?_⟩) ?_ ?_; rotate_left
  ·intro w'
   go_simp
   with_reducible rfl
  rotate_left
  ·simp only [Act.put, List.setIfInBounds_toArray, List.set_cons_zero, List.set_cons_succ, i64_w, i32_w]; rfl
  refine pure_ (i := 3) (N := some 12) (v := ?_) (a' := ?_) #[true, true, false, true, false, false, false, false, false, false, false] rfl rfl (any_of HT_.out (by kernel_rfl)) (fun _ _ _ h => h) (Or.inl ⟨by rfl, ?_⟩) ?_ ?_; rotate_left
  ·intro w'
   go_simp
   with_reducible rfl
  rotate_left
  ·simp only [Act.put, List.setIfInBounds_toArray, List.set_cons_zero, List.set_cons_succ, i64_w, i32_w]; rfl
  refine pure_ (i := 4) (N := some 13) (v := ?_) (a' := ?_) #[true, true, false, true, true, false, false, false, false, false, false] rfl rfl (any_of HT_.out (by kernel_rfl)) (fun _ _ _ h => h) (Or.inl ⟨by rfl, ?_⟩) ?_ ?_; rotate_left
  ·intro w'
   go_simp
   with_reducible rfl
  rotate_left
  ·simp only [Act.put, List.setIfInBounds_toArray, List.set_cons_zero, List.set_cons_succ, i64_w, i32_w]; rfl
  refine pure_ (i := 5) (N := some 14) (v := ?_) (a' := ?_) #[true, true, false, true, true, true, false, false, false, false, false] rfl rfl (any_of HT_.out (by kernel_rfl)) (fun _ _ _ h => h) (Or.inl ⟨by rfl, ?_⟩) ?_ ?_; rotate_left
  ·intro w'
   go_simp
   with_reducible rfl
  rotate_left
  ·simp only [Act.put, List.setIfInBounds_toArray, List.set_cons_zero, List.set_cons_succ, i64_w, i32_w]; rfl
  refine pure_ (i := 6) (N := some 15) (v := ?_) (a' := ?_) #[true, true, false, true, true, true, true, false, false, false, false] rfl rfl (any_of HT_.out (by kernel_rfl)) (fun _ _ _ h => h) (Or.inl ⟨by rfl, ?_⟩) ?_ ?_; rotate_left
  ·intro w'
   go_simp
   with_reducible rfl
  rotate_left
  ·simp only [Act.put, List.setIfInBounds_toArray, List.set_cons_zero, List.set_cons_succ, i64_w, i32_w]; rfl
  refine pure_ (i := 7) (N := some 16) (v := ?_) (a' := ?_) #[true, true, false, true, true, true, true, true, false, false, false] rfl rfl (any_of HT_.out (by kernel_rfl)) (fun _ _ _ h => h) (Or.inl ⟨by rfl, ?_⟩) ?_ ?_; rotate_left
  ·intro w'
   go_simp
   with_reducible rfl
  rotate_left
  ·simp only [Act.put, List.setIfInBounds_toArray, List.set_cons_zero, List.set_cons_succ, i64_w, i32_w]; rfl
  refine pure_ (i := 8) (N := some 17) (v := ?_) (a' := ?_) #[true, true, false, true, true, true, true, true, true, false, false] rfl rfl (any_of HT_.out (by kernel_rfl)) (fun _ _ _ h => h) (Or.inl ⟨by rfl, ?_⟩) ?_ ?_; rotate_left
  ·intro w'
   go_simp
   with_reducible rfl
  rotate_left
  ·simp only [Act.put, List.setIfInBounds_toArray, List.set_cons_zero, List.set_cons_succ, i64_w, i32_w]; rfl
  refine one_ (i := 2) (N := some 11) #[true, true, true, true, true, true, true, true, true, false, false] rfl rfl (one_of HT_.out (by kernel_rfl)) (by decide) (fun K hK => ?_); refine goes_ Tryd.func48 (by kernel_rfl) rfl #[.int .u64 (IntKind.u64.wrap (Int.tdiv a0 10))] (by rfl) rfl rfl (by (try simp only [List.map_toArray, List.map_cons, List.map_nil]); first | done | rfl | (simp only [List.length_drop, List.length_take]; rfl)) ?_; with_reducible refine (ih k (by omega) (IntKind.u64.wrap (Int.tdiv a0 10)) t116 _ A6.out).mono ?_
  rintro e w13 ⟨rfl, hb⟩
  refine ⟨_, rfl, ?_⟩; have n0_ := aA (below_step (blw HB.out) hb); clear HB; have HB := n0_; clear n0_; (try clear hb); (try clear hb2); (try clear hk); (try clear hi); refine hK.out _ _ trivial (fun hHeld => ?_); clear hK K; refine norm_ (a' := ?_) ?_ ?_; rotate_left
  ·show Act.put _ (some 11) _ = _
   simp only [Act.put, List.setIfInBounds_toArray, List.set_cons_zero, List.set_cons_succ, i64_w, i32_w]; rfl
  have hcat_ : ¬ 9223372036854775807 < t116.size + ((IntKind.u64.wrap (ji7 + 1)).toNat - ji7.toNat) := (by have hh := c11; rw [ByteArray.size_extract, show (⟨#[48, 49, 50, 51, 52, 53, 54, 55, 56, 57]⟩ : ByteArray).size = 10 from rfl] at hh; omega)
  refine pure_ (i := 9) (N := some 18) (v := ?_) (a' := ?_) #[true, true, true, true, true, true, true, true, true, true, false] rfl rfl (any_of HT_.out (by kernel_rfl)) (fun _ _ _ h => h) (Or.inl ⟨by rfl, ?_⟩) ?_ ?_; rotate_left
  ·intro w'
   go_simp
   with_reducible rfl
  rotate_left
  ·simp only [Act.put, List.setIfInBounds_toArray, List.set_cons_zero, List.set_cons_succ, i64_w, i32_w]; rfl
  refine pure_ (i := 10) (N := some 2) (v := ?_) (a' := ?_) #[true, true, true, true, true, true, true, true, true, true, true] rfl rfl (any_of HT_.out (by kernel_rfl)) (fun _ _ _ h => h) (Or.inl ⟨by rfl, ?_⟩) ?_ ?_; rotate_left
  ·intro w'
   go_simp
   with_reducible rfl
  rotate_left
  ·simp only [Act.put, List.setIfInBounds_toArray, List.set_cons_zero, List.set_cons_succ, i64_w, i32_w]; rfl
  refine done_ (done_of HT_.out (by kernel_rfl)) ?_; try go_wp2
  go_ret
  exact ⟨by first | rfl | (simp [errW_none, errW_some] <;> rfl) | (simp only [← hji7]; first | rfl | (simp [errW_none, errW_some] <;> rfl)) | (simp [*, errW_none, errW_some] <;> rfl), by repeat (first | (with_reducible first | exact HB.out | apply below_alloc | apply pw_below_drewN | apply below_drew1) | exact HB.out)⟩
/-! ### treillageref06_Digits: function 30 -/
def treillageref06_Digits.f (k : Nat) (a0 : Int) : Option (ByteArray) := if a0 < 0 then ((treillageref06_natural.f k (IntKind.u64.wrap ((IntKind.u64.wrap (wrap64 (-(wrap64 (a0 + 1))))) + 1))).bind fun t117 => (if 1 + t117.size ≤ 9223372036854775807 then (some ((⟨#[45]⟩ : ByteArray) ++ t117)) else (none))) else ((treillageref06_natural.f k (IntKind.u64.wrap (a0))).bind fun t118 => (some t118))
theorem treillageref06_Digits.mono : ∀ a0 k, LeO (treillageref06_Digits.f k a0) (treillageref06_Digits.f (k + 1) a0) := by
 intro a0 k
 unfold treillageref06_Digits.f
 repeat' first
   | (with_reducible exact treillageref06_natural.mono _ _)
   | (with_reducible exact LeO.refl _)
   | (with_reducible exact LeO.none _)
   | (with_reducible refine LeO.ite ?_ ?_)
   | (with_reducible refine LeO.bind ?_ (fun _ => ?_))
   | exact treillageref06_natural.mono _ _
   | exact LeO.none _
   | refine LeO.ite ?_ ?_
   | refine LeO.bind ?_ (fun _ => ?_)
set_option maxHeartbeats 8000000 in
set_option maxRecDepth 100000 in
theorem treillageref06_Digits.calls (k : Nat) (a0 : Int) (r : ByteArray) (w : World) (h : treillageref06_Digits.f k a0 = some r) :
  Calls Tryd.prog 30 #[.int .i64 a0] w fun e w' => e = .returned (.string r) ∧ Below w.heap.size w w' := by
 have HB := aA (Below.refl w.heap.size w); have H : (if a0 < 0 then ((treillageref06_natural.f k (IntKind.u64.wrap ((IntKind.u64.wrap (wrap64 (-(wrap64 (a0 + 1))))) + 1))).bind fun t117 => (if 1 + t117.size ≤ 9223372036854775807 then (some ((⟨#[45]⟩ : ByteArray) ++ t117)) else (none))) else ((treillageref06_natural.f k (IntKind.u64.wrap (a0))).bind fun t118 => (some t118))) = some r := h; clear h; by_cases c2 : a0 < 0
 ·rw [if_pos c2] at H; have c2b0 : decide (a0 < 0) = true := decide_eq_true c2; clear c2; replace H := Option.bind_eq_some_iff.mp H; obtain ⟨t117, A30, H⟩ := H; replace H : (if 1 + t117.size ≤ 9223372036854775807 then (some ((⟨#[45]⟩ : ByteArray) ++ t117)) else (none)) = some r := H; have A3 := aA A30; clear A30; by_cases c4 : 1 + t117.size ≤ 9223372036854775807
  rotate_left
  ·rw [if_neg c4] at H; exact absurd H (by simp)
  rw [if_pos c4] at H; have c4b0 := eq_true c4; have c4b1 : decide (1 + t117.size ≤ 9223372036854775807) = true := decide_eq_true c4; try have c4b2 : (9223372036854775807 < 1 + t117.size) = False := eq_false (Nat.not_lt.2 c4)
  obtain rfl := Option.some.inj H; go_enter Tryd.func30, Tryd.ntmps30; go_wp2_with (first | ((with_reducible refine gate_callee (f := 48) rfl ?_); refine goesL_ (some 10) rfl rfl Tryd.func48 (by kernel_rfl) rfl #[.int .u64 (IntKind.u64.wrap ((IntKind.u64.wrap (wrap64 (-(wrap64 (a0 + 1))))) + 1))] rfl (by (try simp only [List.map_toArray, List.map_cons, List.map_nil]); first | done | rfl | (simp only [List.length_drop, List.length_take]; rfl)) ?_; (with_reducible refine (treillageref06_natural.calls k (IntKind.u64.wrap ((IntKind.u64.wrap (wrap64 (-(wrap64 (a0 + 1))))) + 1)) t117 _ A3.out).mono ?_); rintro e w5 ⟨rfl, hb⟩; refine ⟨_, rfl, ?_⟩; have n0_ := aA (below_step (blw HB.out) hb); clear HB; have HB := n0_; clear n0_; (try clear hb); (try clear hb2); (try clear hk); (try clear hi)))
  go_ret
  exact ⟨by first | rfl | (simp [errW_none, errW_some] <;> rfl) | (simp [*, errW_none, errW_some] <;> rfl), by repeat (first | (with_reducible first | exact HB.out | apply below_alloc | apply pw_below_drewN | apply below_drew1) | exact HB.out)⟩
 ·rw [if_neg c2] at H; have c2b0 : decide (a0 < 0) = false := decide_eq_false c2; clear c2; replace H := Option.bind_eq_some_iff.mp H; obtain ⟨t118, A60, H⟩ := H; replace H : (some t118) = some r := H; have A6 := aA A60; clear A60; obtain rfl := Option.some.inj H; go_enter Tryd.func30, Tryd.ntmps30; go_wp2_with (first | ((with_reducible refine gate_callee (f := 48) rfl ?_); refine goesL_ (some 14) rfl rfl Tryd.func48 (by kernel_rfl) rfl #[.int .u64 (IntKind.u64.wrap (a0))] rfl (by (try simp only [List.map_toArray, List.map_cons, List.map_nil]); first | done | rfl | (simp only [List.length_drop, List.length_take]; rfl)) ?_; (with_reducible refine (treillageref06_natural.calls k (IntKind.u64.wrap (a0)) t118 _ A6.out).mono ?_); rintro e w7 ⟨rfl, hb⟩; refine ⟨_, rfl, ?_⟩; have n0_ := aA (below_step (blw HB.out) hb); clear HB; have HB := n0_; clear n0_; (try clear hb); (try clear hb2); (try clear hk); (try clear hi)))
  go_ret
  exact ⟨by first | rfl | (simp [errW_none, errW_some] <;> rfl) | (simp [*, errW_none, errW_some] <;> rfl), by repeat (first | (with_reducible first | exact HB.out | apply below_alloc | apply pw_below_drewN | apply below_drew1) | exact HB.out)⟩

end Go.Proofs.YtooefecjkgdpbaaDoor.PA
