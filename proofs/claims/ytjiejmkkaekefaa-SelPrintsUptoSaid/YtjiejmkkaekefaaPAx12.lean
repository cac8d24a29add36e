-- Written by wip/hprint/hprint.py (a program of this session, over the print): not typed by hand
import Derived.Test.YtjiejmkkaekefaaPAx0
import Derived.Test.YtjiejmkkaekefaaPAx11
namespace Go.Proofs.Ytjiejmkkaekefaa.PA
open Go.RowKit Go.Proofs.YtjiejmkkaekefaaW.PrintWords Go.Proofs.YtjiejmkkaekefaaW.PrintLast Go.Proofs.YtjiejmkkaekefaaW.PrintMore
attribute [local go_sem] max2_int min2_int max_two min_two max_three min_three max_four min_four   -- for this text's walks alone
open Go.Proofs.YtjiejmkkaekefaaH
set_option linter.unusedVariables false
set_option linter.unusedSimpArgs false

/-! ### treillageref09_name: function 47 -/
mutual
def treillageref09_name.j1 : Nat → ByteArray → Int → Int → Option (ByteArray × Int × Bool)
 | 0, _, _, _ => none
 | k + 1, x0, x1, x7 => if x7 = x1 then (some ((⟨#[]⟩ : ByteArray), x1, false)) else (if x7 = (wrap64 (x1 + 20)) then (if x7 < (x0.size : Int) then (if 0 ≤ x7 then (if x7 ≤ (wrap64 (x7 + 1)) then (if (wrap64 (x7 + 1)) ≤ (x0.size : Int) then (if 1 + (x0.extract (x7 : Int).toNat ((wrap64 (x7 + 1)) : Int).toNat).size ≤ 9223372036854775807 then ((treillageref02_Name.f k ((⟨#[97]⟩ : ByteArray) ++ (x0.extract (x7 : Int).toNat ((wrap64 (x7 + 1)) : Int).toNat))).bind fun t368 => (if t368 = true then (some ((⟨#[]⟩ : ByteArray), x7, false)) else (if 0 ≤ x1 then (if x1 ≤ x7 then (if x7 ≤ (x0.size : Int) then (some (x0.extract (x1 : Int).toNat (x7 : Int).toNat, x7, true)) else (none)) else (none)) else (none)))) else (none)) else (none)) else (none)) else (none)) else (if 0 ≤ x1 then (if x1 ≤ x7 then (if x7 ≤ (x0.size : Int) then (some (x0.extract (x1 : Int).toNat (x7 : Int).toNat, x7, true)) else (none)) else (none)) else (none))) else (if 0 ≤ x1 then (if x1 ≤ x7 then (if x7 ≤ (x0.size : Int) then (some (x0.extract (x1 : Int).toNat (x7 : Int).toNat, x7, true)) else (none)) else (none)) else (none)))
def treillageref09_name.l0 : Nat → ByteArray → Int → Int → Option (ByteArray × Int × Bool)
 | 0, _, _, _ => none
 | k + 1, x0, x1, x7 => if x7 < (x0.size : Int) then (if 0 ≤ x1 then (if x1 ≤ (wrap64 (x7 + 1)) then (if (wrap64 (x7 + 1)) ≤ (x0.size : Int) then ((treillageref02_Name.f k (x0.extract (x1 : Int).toNat ((wrap64 (x7 + 1)) : Int).toNat)).bind fun t367 => (if t367 = true then (treillageref09_name.l0 k x0 x1 (wrap64 (x7 + 1))) else (treillageref09_name.j1 k x0 x1 x7))) else (none)) else (none)) else (none)) else (treillageref09_name.j1 k x0 x1 x7)
end
def treillageref09_name.f (k : Nat) (a0 : ByteArray) (a1 : Int) : Option (ByteArray × Int × Bool) := treillageref09_name.l0 k a0 a1 a1
set_option maxHeartbeats 8000000 in
set_option maxRecDepth 100000 in
theorem treillageref09_name.calls (k : Nat) (a0 : ByteArray) (a1 : Int) (r1 : ByteArray) (r2 : Int) (r3 : Bool) (w : World) (h : treillageref09_name.f k a0 a1 = some (r1, r2, r3)) :
  Calls Try.prog 47 #[.string a0, .int .i64 a1] w fun e w' => e = .returned (.tuple #[.string r1, .int .i64 r2, .bool r3]) ∧ Drawn0 w w' := by
 have H : (treillageref09_name.l0 k a0 a1 a1) = some (r1, r2, r3) := h; clear h; have HC3 := aA H; clear H; go_enter Try.func47, Try.ntmps47; go_upto_block 0 with (fail)
 go_cut [7] (fun v7 wc => ∃ (kq : Nat) (x7_2 : Int), v7 = .int .i64 x7_2 ∧ Aside0 (treillageref09_name.j1 kq a0 a1 x7_2 = some (r1, r2, r3)) ∧ Aside0 (kq ≤ k) ∧ Drawn0 w wc)
 case first =>
  have H := HC3.out; clear HC3; have H' := aA H; clear H; go_wp2; go_loopg [7] k (fun kq v7 w' => ∃ (x7_1 : Int), v7 = .int .i64 x7_1 ∧ Aside0 (treillageref09_name.l0 kq a0 a1 x7_1 = some (r1, r2, r3)) ∧ Aside0 (kq ≤ k) ∧ Drawn0 w w')
  case atStart => exact ⟨(a1), (by first | rfl | (simp; done) | (simp [*]; done)), H', ⟨zr _⟩, by repeat (first | exact Drawn0.refl _ | apply Drawn0.step)⟩
  case round =>
   clear H'; try clear p2
   obtain ⟨x7_1, rfl, HA, HK1, ⟨m1, rfl⟩⟩ := hrel; cases gk with
   | zero => exact absurd HA.out (by simp [treillageref09_name.l0])
   | succ k1 =>
    have H := HA.out; clear HA; simp only [treillageref09_name.l0] at H; by_cases c4 : x7_1 < (a0.size : Int)
    ·rw [if_pos c4] at H; have c4b0 : decide (x7_1 < (a0.size : Int)) = true := zM c4; clear c4; (first | rw [c4b0] | rw [c4b1] | (simp only [i64_w, i32_w]; rw [c4b0]) | skip)
     by_cases c5 : 0 ≤ a1
     rotate_left
     ·rw [if_neg c5] at H; exact absurd H (by simp)
     rw [if_pos c5] at H; have c5b0 := eq_true c5; have c5b1 : decide (0 ≤ a1) = true := zM c5; clear c5; by_cases c6 : a1 ≤ (wrap64 (x7_1 + 1))
     rotate_left
     ·rw [if_neg c6] at H; exact absurd H (by simp)
     rw [if_pos c6] at H; have c6b0 := eq_true c6; have c6b1 : decide (a1 ≤ (wrap64 (x7_1 + 1))) = true := zM c6; by_cases c7 : (wrap64 (x7_1 + 1)) ≤ (a0.size : Int)
     rotate_left
     ·rw [if_neg c7] at H; exact absurd H (by simp)
     rw [if_pos c7] at H; have c7b0 := eq_true c7; have c7b1 : decide ((wrap64 (x7_1 + 1)) ≤ (a0.size : Int)) = true := zM c7; replace H := Option.bind_eq_some_iff.mp H; obtain ⟨t367, A80, H⟩ := H; replace H : (if t367 = true then (treillageref09_name.l0 k1 a0 a1 (wrap64 (x7_1 + 1))) else (treillageref09_name.j1 k1 a0 a1 x7_1)) = some (r1, r2, r3) := H; have A8 := aA A80; clear A80; by_cases c9 : t367 = true
     ·subst c9; have H1 : (treillageref09_name.l0 k1 a0 a1 (wrap64 (x7_1 + 1))) = some (r1, r2, r3) := by rw [if_pos rfl] at H; exact H
      clear H; have H := H1; clear H1; have H' := aA H; clear H; go_wp2_with (first | (go_at_call 18; (with_reducible refine (treillageref02_Name.calls k1 (a0.extract (a1 : Int).toNat ((wrap64 (x7_1 + 1)) : Int).toNat) true _ A8.out).mono ?_); rintro e w' ⟨rfl, ⟨nd, rfl⟩⟩))
      go_roundg k1
      case measure => have := HK1.out; omega
      case rel => exact ⟨(wrap64 (x7_1 + 1)), (by first | rfl | (simp; done) | (simp [*]; done)), H', ⟨by have := HK1.out; omega⟩, by repeat (first | exact Drawn0.refl _ | apply Drawn0.step)⟩
     ·replace c9 := Bool.eq_false_iff.mpr c9; subst c9; have H1 : (treillageref09_name.j1 k1 a0 a1 x7_1) = some (r1, r2, r3) := by rw [if_neg (show ¬ (false = true) by decide)] at H; exact H
      clear H; have H := H1; clear H1; have H' := aA H; clear H; go_wp2_with (first | (go_at_call 18; (with_reducible refine (treillageref02_Name.calls k1 (a0.extract (a1 : Int).toNat ((wrap64 (x7_1 + 1)) : Int).toNat) false _ A8.out).mono ?_); rintro e w' ⟨rfl, ⟨nd, rfl⟩⟩))
      go_meet
      case rel => exact ⟨_, (x7_1), (by first | rfl | (simp; done) | (simp [*]; done)), H', ⟨by have := HK1.out; first | omega | exact zr _⟩, by repeat (first | exact Drawn0.refl _ | apply Drawn0.step)⟩
    ·rw [if_neg c4] at H; have c4b0 : decide (x7_1 < (a0.size : Int)) = false := zN c4; clear c4; (first | rw [c4b0] | rw [c4b1] | (simp only [i64_w, i32_w]; rw [c4b0]) | skip)
     have H' := aA H; clear H; go_wp2; go_meet
     case rel => exact ⟨_, (x7_1), (by first | rfl | (simp; done) | (simp [*]; done)), H', ⟨by have := HK1.out; first | omega | exact zr _⟩, by repeat (first | exact Drawn0.refl _ | apply Drawn0.step)⟩
 case rest =>
  clear HC3; try clear p2
  try clear c4
  try clear c4b0
  try clear c4b1
  try clear c5
  try clear c5b0
  try clear c5b1
  try clear c6
  try clear c6b0
  try clear c6b1
  try clear p6
  try clear c7
  try clear c7b0
  try clear c7b1
  try clear c9
  try clear p2
  obtain ⟨kq, x7_2, rfl, HA, HJ2, ⟨mc2, rfl⟩⟩ := hcut; cases kq with
  | zero => exact absurd HA.out (by simp [treillageref09_name.j1])
  | succ kj2 =>
   have H := HA.out; clear HA; simp only [treillageref09_name.j1] at H; by_cases c10 : x7_2 = a1
   ·rw [if_pos c10] at H; have c10b0 : (x7_2 == a1) = true := beq_iff_eq.mpr c10; have c10b1 : (x7_2 != a1) = false := bne_eq_false_iff_eq.mpr c10; clear c10; simp only [Option.some.injEq, Prod.mk.injEq] at H; obtain ⟨rfl, rfl, rfl⟩ := H; go_wp2; go_ret3
    exact ⟨by first | rfl | (simp; done) | (simp [*]; done), by repeat (first | exact Drawn0.refl _ | apply Drawn0.step)⟩
   ·rw [if_neg c10] at H; have c10b0 : (x7_2 == a1) = false := beq_eq_false_iff_ne.mpr c10; have c10b1 : (x7_2 != a1) = true := bne_iff_ne.mpr c10; by_cases c11 : x7_2 = (wrap64 (a1 + 20))
    ·rw [if_pos c11] at H; have c11b0 : (x7_2 == (wrap64 (a1 + 20))) = true := beq_iff_eq.mpr c11; have c11b1 : (x7_2 != (wrap64 (a1 + 20))) = false := bne_eq_false_iff_eq.mpr c11; clear c11; by_cases c12 : x7_2 < (a0.size : Int)
     ·rw [if_pos c12] at H; have c12b0 : decide (x7_2 < (a0.size : Int)) = true := zM c12; clear c12; by_cases c13 : 0 ≤ x7_2
      rotate_left
      ·rw [if_neg c13] at H; exact absurd H (by simp)
      rw [if_pos c13] at H; have c13b0 := eq_true c13; have c13b1 : decide (0 ≤ x7_2) = true := zM c13; clear c13; by_cases c14 : x7_2 ≤ (wrap64 (x7_2 + 1))
      rotate_left
      ·rw [if_neg c14] at H; exact absurd H (by simp)
      rw [if_pos c14] at H; have c14b0 := eq_true c14; have c14b1 : decide (x7_2 ≤ (wrap64 (x7_2 + 1))) = true := zM c14; by_cases c15 : (wrap64 (x7_2 + 1)) ≤ (a0.size : Int)
      rotate_left
      ·rw [if_neg c15] at H; exact absurd H (by simp)
      rw [if_pos c15] at H; have c15b0 := eq_true c15; have c15b1 : decide ((wrap64 (x7_2 + 1)) ≤ (a0.size : Int)) = true := zM c15; by_cases c16 : 1 + (a0.extract (x7_2 : Int).toNat ((wrap64 (x7_2 + 1)) : Int).toNat).size ≤ 9223372036854775807
      rotate_left
      ·rw [if_neg c16] at H; exact absurd H (by simp)
      rw [if_pos c16] at H; have c16b0 := eq_true c16; have c16b1 : decide (1 + (a0.extract (x7_2 : Int).toNat ((wrap64 (x7_2 + 1)) : Int).toNat).size ≤ 9223372036854775807) = true := zM c16; try have c16b2 : (9223372036854775807 < 1 + (a0.extract (x7_2 : Int).toNat ((wrap64 (x7_2 + 1)) : Int).toNat).size) = False := eq_false (Nat.not_lt.2 c16); try have c16t : (9223372036854775807 < 1 + (((wrap64 (x7_2 + 1))).toNat - (x7_2).toNat)) = False := eq_false (Nat.not_lt.2 (by have hh := c16; rw [ByteArray.size_extract] at hh; have hm : min (((wrap64 (x7_2 + 1)) : Int).toNat) a0.size = ((wrap64 (x7_2 + 1)) : Int).toNat := Nat.min_eq_left (by omega); rw [hm] at hh; exact hh))
      replace H := Option.bind_eq_some_iff.mp H; obtain ⟨t368, A170, H⟩ := H; replace H : (if t368 = true then (some ((⟨#[]⟩ : ByteArray), x7_2, false)) else (if 0 ≤ a1 then (if a1 ≤ x7_2 then (if x7_2 ≤ (a0.size : Int) then (some (a0.extract (a1 : Int).toNat (x7_2 : Int).toNat, x7_2, true)) else (none)) else (none)) else (none))) = some (r1, r2, r3) := H; have A17 := aA A170; clear A170; by_cases c18 : t368 = true
      ·subst c18; have H1 : (some ((⟨#[]⟩ : ByteArray), x7_2, false)) = some (r1, r2, r3) := by rw [if_pos rfl] at H; exact H
       clear H; have H := H1; clear H1; simp only [Option.some.injEq, Prod.mk.injEq] at H; obtain ⟨rfl, rfl, rfl⟩ := H; go_wp2_with (first | (go_at_call 18; (with_reducible refine (treillageref02_Name.calls kj2 ((⟨#[97]⟩ : ByteArray) ++ (a0.extract (x7_2 : Int).toNat ((wrap64 (x7_2 + 1)) : Int).toNat)) true _ A17.out).mono ?_); rintro e w' ⟨rfl, ⟨nd, rfl⟩⟩))
       go_ret3
       exact ⟨by first | rfl | (simp; done) | (simp [*]; done), by repeat (first | exact Drawn0.refl _ | apply Drawn0.step)⟩
      ·replace c18 := Bool.eq_false_iff.mpr c18; subst c18; have H1 : (if 0 ≤ a1 then (if a1 ≤ x7_2 then (if x7_2 ≤ (a0.size : Int) then (some (a0.extract (a1 : Int).toNat (x7_2 : Int).toNat, x7_2, true)) else (none)) else (none)) else (none)) = some (r1, r2, r3) := by rw [if_neg (show ¬ (false = true) by decide)] at H; exact H
       clear H; have H := H1; clear H1; by_cases c19 : 0 ≤ a1
       rotate_left
       ·rw [if_neg c19] at H; exact absurd H (by simp)
       rw [if_pos c19] at H; have c19b0 := eq_true c19; have c19b1 : decide (0 ≤ a1) = true := zM c19; clear c19; by_cases c20 : a1 ≤ x7_2
       rotate_left
       ·rw [if_neg c20] at H; exact absurd H (by simp)
       rw [if_pos c20] at H; have c20b0 := eq_true c20; have c20b1 : decide (a1 ≤ x7_2) = true := zM c20; clear c20; by_cases c21 : x7_2 ≤ (a0.size : Int)
       rotate_left
       ·rw [if_neg c21] at H; exact absurd H (by simp)
       rw [if_pos c21] at H; have c21b0 := eq_true c21; have c21b1 : decide (x7_2 ≤ (a0.size : Int)) = true := zM c21; clear c21; simp only [Option.some.injEq, Prod.mk.injEq] at H; obtain ⟨rfl, rfl, rfl⟩ := H; go_wp2_with (first | (go_at_call 18; (with_reducible refine (treillageref02_Name.calls kj2 ((⟨#[97]⟩ : ByteArray) ++ (a0.extract (x7_2 : Int).toNat ((wrap64 (x7_2 + 1)) : Int).toNat)) false _ A17.out).mono ?_); rintro e w' ⟨rfl, ⟨nd, rfl⟩⟩))
       go_ret3
       exact ⟨by first | rfl | (simp; done) | (simp [*]; done), by repeat (first | exact Drawn0.refl _ | apply Drawn0.step)⟩
     ·rw [if_neg c12] at H; have c12b0 : decide (x7_2 < (a0.size : Int)) = false := zN c12; clear c12; by_cases c22 : 0 ≤ a1
      rotate_left
      ·rw [if_neg c22] at H; exact absurd H (by simp)
      rw [if_pos c22] at H; have c22b0 := eq_true c22; have c22b1 : decide (0 ≤ a1) = true := zM c22; clear c22; by_cases c23 : a1 ≤ x7_2
      rotate_left
      ·rw [if_neg c23] at H; exact absurd H (by simp)
      rw [if_pos c23] at H; have c23b0 := eq_true c23; have c23b1 : decide (a1 ≤ x7_2) = true := zM c23; clear c23; by_cases c24 : x7_2 ≤ (a0.size : Int)
      rotate_left
      ·rw [if_neg c24] at H; exact absurd H (by simp)
      rw [if_pos c24] at H; have c24b0 := eq_true c24; have c24b1 : decide (x7_2 ≤ (a0.size : Int)) = true := zM c24; clear c24; simp only [Option.some.injEq, Prod.mk.injEq] at H; obtain ⟨rfl, rfl, rfl⟩ := H; go_wp2; go_ret3
      exact ⟨by first | rfl | (simp; done) | (simp [*]; done), by repeat (first | exact Drawn0.refl _ | apply Drawn0.step)⟩
    ·rw [if_neg c11] at H; have c11b0 : (x7_2 == (wrap64 (a1 + 20))) = false := beq_eq_false_iff_ne.mpr c11; have c11b1 : (x7_2 != (wrap64 (a1 + 20))) = true := bne_iff_ne.mpr c11; by_cases c25 : 0 ≤ a1
     rotate_left
     ·rw [if_neg c25] at H; exact absurd H (by simp)

     rw [if_pos c25] at H; have c25b0 := eq_true c25; have c25b1 : decide (0 ≤ a1) = true := zM c25; clear c25; by_cases c26 : a1 ≤ x7_2
     rotate_left
     ·rw [if_neg c26] at H; exact absurd H (by simp)
     rw [if_pos c26] at H; have c26b0 := eq_true c26; have c26b1 : decide (a1 ≤ x7_2) = true := zM c26; clear c26; by_cases c27 : x7_2 ≤ (a0.size : Int)
     rotate_left
     ·rw [if_neg c27] at H; exact absurd H (by simp)
     rw [if_pos c27] at H; have c27b0 := eq_true c27; have c27b1 : decide (x7_2 ≤ (a0.size : Int)) = true := zM c27; clear c27; simp only [Option.some.injEq, Prod.mk.injEq] at H; obtain ⟨rfl, rfl, rfl⟩ := H; go_wp2; go_ret3
     exact ⟨by first | rfl | (simp; done) | (simp [*]; done), by repeat (first | exact Drawn0.refl _ | apply Drawn0.step)⟩
/-! ### treillageref09_value: function 54 -/
mutual
def treillageref09_value.j0 : Nat → ByteArray → Int → Bool → Option (ByteArray × Int × Bool)
 | 0, _, _, _ => none
 | k + 1, x0, x1, x17 => if x17 = true then ((treillageref09_name.f k x0 x1).bind fun bt369 => (some (bt369.1, bt369.2.1, bt369.2.2))) else (treillageref09_value.l0 k x0 x1 (wrap64 (x1 + 1)))
def treillageref09_value.l0 : Nat → ByteArray → Int → Int → Option (ByteArray × Int × Bool)
 | 0, _, _, _ => none
 | k + 1, x0, x1, x7 => if x7 < (x0.size : Int) then (if 0 ≤ x7 then (treillageref09_value.j2 k x0 x1 x7 ((bt x0 x7) != 34)) else (none)) else (treillageref09_value.j2 k x0 x1 x7 false)
def treillageref09_value.j2 : Nat → ByteArray → Int → Int → Bool → Option (ByteArray × Int × Bool)
 | 0, _, _, _, _ => none
 | k + 1, x0, x1, x7, x35 => if x35 = true then (if (wrap64 (x7 - x1)) > 60 then (some ((⟨#[]⟩ : ByteArray), x7, false)) else (treillageref09_value.l0 k x0 x1 (wrap64 (x7 + 1)))) else (if x7 = (x0.size : Int) then (some ((⟨#[]⟩ : ByteArray), x7, false)) else (if 0 ≤ (wrap64 (x1 + 1)) then (if (wrap64 (x1 + 1)) ≤ x7 then (if x7 ≤ (x0.size : Int) then (some (x0.extract ((wrap64 (x1 + 1)) : Int).toNat (x7 : Int).toNat, wrap64 (x7 + 1), true)) else (none)) else (none)) else (none)))
end
def treillageref09_value.f (k : Nat) (a0 : ByteArray) (a1 : Int) : Option (ByteArray × Int × Bool) := if a1 ≥ (a0.size : Int) then (treillageref09_value.j0 k a0 a1 true) else (if 0 ≤ a1 then (if a1 < (a0.size : Int) then (treillageref09_value.j0 k a0 a1 ((bt a0 a1) != 34)) else (none)) else (none))
set_option maxHeartbeats 8000000 in
set_option maxRecDepth 100000 in
theorem treillageref09_value.calls (k : Nat) (a0 : ByteArray) (a1 : Int) (r1 : ByteArray) (r2 : Int) (r3 : Bool) (w : World) (h : treillageref09_value.f k a0 a1 = some (r1, r2, r3)) :
  Calls Try.prog 54 #[.string a0, .int .i64 a1] w fun e w' => e = .returned (.tuple #[.string r1, .int .i64 r2, .bool r3]) ∧ Drawn0 w w' := by
 have H : (if a1 ≥ (a0.size : Int) then (treillageref09_value.j0 k a0 a1 true) else (if 0 ≤ a1 then (if a1 < (a0.size : Int) then (treillageref09_value.j0 k a0 a1 ((bt a0 a1) != 34)) else (none)) else (none))) = some (r1, r2, r3) := h; clear h; have HC3 := aA H; clear H; go_enter Try.func54, Try.ntmps54; go_upto_region 1 with (fail)
 go_cut [17] (fun v17 wc => ∃ (kq : Nat) (x17_2 : Bool), v17 = .bool x17_2 ∧ Aside0 (treillageref09_value.j0 kq a0 a1 x17_2 = some (r1, r2, r3)) ∧ Aside0 (kq ≤ k) ∧ Drawn0 w wc)
 case first =>
  have H := HC3.out; clear HC3; by_cases c4 : a1 ≥ (a0.size : Int)
  ·rw [if_pos c4] at H; have c4b0 : decide ((a0.size : Int) ≤ a1) = true := zM c4; clear c4; (first | rw [c4b0] | rw [c4b1] | (simp only [i64_w, i32_w]; rw [c4b0]) | skip)
   have H' := aA H; clear H; go_wp2; go_meet
   case rel => exact ⟨_, (true), (by first | rfl | (simp; done) | (simp [*]; done)), H', ⟨by first | omega | exact zr _⟩, by repeat (first | exact Drawn0.refl _ | apply Drawn0.step)⟩
  ·rw [if_neg c4] at H; have c4b0 : decide ((a0.size : Int) ≤ a1) = false := zN c4; clear c4; (first | rw [c4b0] | rw [c4b1] | (simp only [i64_w, i32_w]; rw [c4b0]) | skip)
   by_cases c5 : 0 ≤ a1
   rotate_left
   ·rw [if_neg c5] at H; exact absurd H (by simp)
   rw [if_pos c5] at H; have c5b0 : decide (0 ≤ a1) = true := zM c5; clear c5; by_cases c6 : a1 < (a0.size : Int)
   rotate_left
   ·rw [if_neg c6] at H; exact absurd H (by simp)
   rw [if_pos c6] at H; have c6b0 : decide (a1 < (a0.size : Int)) = true := zM c6; clear c6; have H' := aA H; clear H; have p7 : 0 ≤ (a1 : Int) := zk (by first | (with_reducible assumption) | assumption); have q7 : a1 < (a0.size : Int) := zk (by first | (with_reducible assumption) | assumption); have hx7 := bt_at a0 a1; replace p7 := eq_true p7; replace q7 := eq_true q7; go_wp2; go_meet
   case rel => exact ⟨_, (((bt a0 a1) != 34)), (by first | rfl | (simp; done) | (simp [*]; done)), H', ⟨by first | omega | exact zr _⟩, by repeat (first | exact Drawn0.refl _ | apply Drawn0.step)⟩
 case rest =>
  clear HC3; try clear p2
  try clear c4
  try clear c4b0
  try clear c4b1
  try clear c5
  try clear c5b0
  try clear c6
  try clear c6b0
  try clear p7
  try clear q7
  try clear hx7
  try clear p7
  try clear q7
  obtain ⟨kq, x17_2, rfl, HA, HJ2, ⟨mc2, rfl⟩⟩ := hcut; cases kq with
  | zero => exact absurd HA.out (by simp [treillageref09_value.j0])
  | succ kj2 =>
   have H := HA.out; clear HA; simp only [treillageref09_value.j0] at H; by_cases c8 : x17_2 = true
   ·subst c8; have H1 : ((treillageref09_name.f kj2 a0 a1).bind fun bt369 => (some (bt369.1, bt369.2.1, bt369.2.2))) = some (r1, r2, r3) := by rw [if_pos rfl] at H; exact H
    clear H; have H := H1; clear H1; replace H := Option.bind_eq_some_iff.mp H; obtain ⟨⟨t369, t370, t371⟩, A90, H⟩ := H; replace H : (some (t369, t370, t371)) = some (r1, r2, r3) := H; have A9 := aA A90; clear A90; simp only [Option.some.injEq, Prod.mk.injEq] at H; obtain ⟨rfl, rfl, rfl⟩ := H; go_wp2_with (first | ((with_reducible refine gate_callee (f := 47) rfl ?_); refine goesL_ (some 20) rfl rfl Try.func47 (by kernel_rfl) rfl #[.string a0, .int .i64 a1] rfl (by (try simp only [List.map_toArray, List.map_cons, List.map_nil]); first | done | rfl | (simp only [List.length_drop, List.length_take]; rfl)) ?_; (with_reducible refine (treillageref09_name.calls kj2 a0 a1 t369 t370 t371 _ A9.out).mono ?_); rintro e w' ⟨rfl, ⟨nd, rfl⟩⟩; refine ⟨_, rfl, ?_⟩))
    go_ret3
    exact ⟨by first | rfl | (simp; done) | (simp [*]; done), by repeat (first | exact Drawn0.refl _ | apply Drawn0.step)⟩
   ·replace c8 := Bool.eq_false_iff.mpr c8; subst c8; have H1 : (treillageref09_value.l0 kj2 a0 a1 (wrap64 (a1 + 1))) = some (r1, r2, r3) := by rw [if_neg (show ¬ (false = true) by decide)] at H; exact H
    clear H; have H := H1; clear H1; have H' := aA H; clear H; go_wp2; go_loopg [7] kj2 (fun kq v7 w' => ∃ (x7_2 : Int), v7 = .int .i64 x7_2 ∧ Aside0 (treillageref09_value.l0 kq a0 a1 x7_2 = some (r1, r2, r3)) ∧ Aside0 (kq ≤ kj2) ∧ Drawn0 w w')
    case atStart => exact ⟨(wrap64 (a1 + 1)), (by first | rfl | (simp; done) | (simp [*]; done)), H', ⟨zr _⟩, by repeat (first | exact Drawn0.refl _ | apply Drawn0.step)⟩
    case round =>
     clear H'; try clear c2
     try clear p2
     try clear c4
     try clear c4b0
     try clear c4b1
     try clear c5
     try clear c5b0
     try clear c6
     try clear c6b0
     try clear p6
     try clear p7
     try clear q7
     try clear hx7
     try clear c8
     try clear p2
     try clear p7
     try clear q7
     obtain ⟨x7_2, rfl, HA, HK2, ⟨m2, rfl⟩⟩ := hrel; cases gk with
     | zero => exact absurd HA.out (by simp [treillageref09_value.l0])
     | succ k2 =>
      have H := HA.out; clear HA; simp only [treillageref09_value.l0] at H; have HC10 := aA H; clear H; go_upto_region 4 with (fail)
      go_cut [35] (fun v35 wc => ∃ (kq : Nat) (x35_9 : Bool), v35 = .bool x35_9 ∧ Aside0 (treillageref09_value.j2 kq a0 a1 x7_2 x35_9 = some (r1, r2, r3)) ∧ Aside0 (kq ≤ k2) ∧ Drawn0 w wc)
      case first =>
       have H := HC10.out; clear HC10; by_cases c11 : x7_2 < (a0.size : Int)
       ·rw [if_pos c11] at H; have c11b0 : decide (x7_2 < (a0.size : Int)) = true := zM c11; clear c11; (first | rw [c11b0] | rw [c11b1] | (simp only [i64_w, i32_w]; rw [c11b0]) | skip)
        by_cases c12 : 0 ≤ x7_2
        rotate_left
        ·rw [if_neg c12] at H; exact absurd H (by simp)
        rw [if_pos c12] at H; have c12b0 : decide (0 ≤ x7_2) = true := zM c12; clear c12; have H' := aA H; clear H; have p13 : 0 ≤ (x7_2 : Int) := zk (by first | (with_reducible assumption) | assumption); have q13 : x7_2 < (a0.size : Int) := zk (by first | (with_reducible assumption) | assumption); have hx13 := bt_at a0 x7_2; replace p13 := eq_true p13; replace q13 := eq_true q13; go_wp2; go_meet
        case rel => exact ⟨_, (((bt a0 x7_2) != 34)), (by first | rfl | (simp; done) | (simp [*]; done)), H', ⟨by have := HJ2.out; have := HK2.out; first | omega | exact zr _⟩, by repeat (first | exact Drawn0.refl _ | apply Drawn0.step)⟩
       ·rw [if_neg c11] at H; have c11b0 : decide (x7_2 < (a0.size : Int)) = false := zN c11; clear c11; (first | rw [c11b0] | rw [c11b1] | (simp only [i64_w, i32_w]; rw [c11b0]) | skip)
        have H' := aA H; clear H; go_wp2; go_meet
        case rel => exact ⟨_, (false), (by first | rfl | (simp; done) | (simp [*]; done)), H', ⟨by have := HJ2.out; have := HK2.out; first | omega | exact zr _⟩, by repeat (first | exact Drawn0.refl _ | apply Drawn0.step)⟩
      case rest =>
       clear HC10; try clear c1
       try clear p1
       try clear q1
       try clear hx1
       try clear c2
       try clear p2
       try clear c4
       try clear c4b0
       try clear c4b1
       try clear c5
       try clear c5b0
       try clear c6
       try clear c6b0
       try clear p6
       try clear p7
       try clear q7
       try clear hx7
       try clear c8
       try clear c11
       try clear c11b0
       try clear c11b1
       try clear c12
       try clear c12b0
       try clear p13
       try clear q13
       try clear hx13
       try clear p13
       try clear p2
       try clear p6
       try clear p7
       try clear q13
       try clear q7
       obtain ⟨kq, x35_9, rfl, HA, HJ9, ⟨mc9, rfl⟩⟩ := hcut; cases kq with
       | zero => exact absurd HA.out (by simp [treillageref09_value.j2])
       | succ kj9 =>
        have H := HA.out; clear HA; simp only [treillageref09_value.j2] at H; by_cases c14 : x35_9 = true
        ·subst c14; have H1 : (if (wrap64 (x7_2 - a1)) > 60 then (some ((⟨#[]⟩ : ByteArray), x7_2, false)) else (treillageref09_value.l0 kj9 a0 a1 (wrap64 (x7_2 + 1)))) = some (r1, r2, r3) := by rw [if_pos rfl] at H; exact H
         clear H; have H := H1; clear H1; by_cases c15 : (wrap64 (x7_2 - a1)) > 60
         ·rw [if_pos c15] at H; have c15b0 : decide (60 < (wrap64 (x7_2 - a1))) = true := zM c15; clear c15; simp only [Option.some.injEq, Prod.mk.injEq] at H; obtain ⟨rfl, rfl, rfl⟩ := H; go_wp2; go_ret3
          exact ⟨by first | rfl | (simp; done) | (simp [*]; done), by repeat (first | exact Drawn0.refl _ | apply Drawn0.step)⟩
         ·rw [if_neg c15] at H; have c15b0 : decide (60 < (wrap64 (x7_2 - a1))) = false := zN c15; clear c15; have H' := aA H; clear H; go_wp2; go_roundg kj9
          case measure => have := HJ2.out; have := HK2.out; have := HJ9.out; omega
          case rel => exact ⟨(wrap64 (x7_2 + 1)), (by first | rfl | (simp; done) | (simp [*]; done)), H', ⟨by have := HJ2.out; have := HK2.out; have := HJ9.out; omega⟩, by repeat (first | exact Drawn0.refl _ | apply Drawn0.step)⟩
        ·replace c14 := Bool.eq_false_iff.mpr c14; subst c14; have H1 : (if x7_2 = (a0.size : Int) then (some ((⟨#[]⟩ : ByteArray), x7_2, false)) else (if 0 ≤ (wrap64 (a1 + 1)) then (if (wrap64 (a1 + 1)) ≤ x7_2 then (if x7_2 ≤ (a0.size : Int) then (some (a0.extract ((wrap64 (a1 + 1)) : Int).toNat (x7_2 : Int).toNat, wrap64 (x7_2 + 1), true)) else (none)) else (none)) else (none))) = some (r1, r2, r3) := by rw [if_neg (show ¬ (false = true) by decide)] at H; exact H
         clear H; have H := H1; clear H1; by_cases c16 : x7_2 = (a0.size : Int)
         ·rw [if_pos c16] at H; have c16b0 : (x7_2 == (a0.size : Int)) = true := beq_iff_eq.mpr c16; have c16b1 : (x7_2 != (a0.size : Int)) = false := bne_eq_false_iff_eq.mpr c16; clear c16; simp only [Option.some.injEq, Prod.mk.injEq] at H; obtain ⟨rfl, rfl, rfl⟩ := H; go_wp2; go_ret3
          exact ⟨by first | rfl | (simp; done) | (simp [*]; done), by repeat (first | exact Drawn0.refl _ | apply Drawn0.step)⟩
         ·rw [if_neg c16] at H; have c16b0 : (x7_2 == (a0.size : Int)) = false := beq_eq_false_iff_ne.mpr c16; have c16b1 : (x7_2 != (a0.size : Int)) = true := bne_iff_ne.mpr c16; obtain ⟨ji17, hji17⟩ : ∃ j_ : Int, (wrap64 (a1 + 1)) = j_ := ⟨_, rfl⟩; replace H : (if 0 ≤ (ji17) then (if (ji17) ≤ x7_2 then (if x7_2 ≤ (a0.size : Int) then (some (a0.extract ((ji17) : Int).toNat (x7_2 : Int).toNat, wrap64 (x7_2 + 1), true)) else (none)) else (none)) else (none)) = some (r1, r2, r3) := by first | (rw [hji17] at H; exact H) | (simp only [hji17] at H ⊢; exact H)
          have hji17w : (IntKind.i64.wrap (a1 + 1)) = ji17 := (i64_w _).trans hji17; by_cases c18 : 0 ≤ (ji17)
          rotate_left
          ·rw [if_neg c18] at H; exact absurd H (by simp)

          rw [if_pos c18] at H; have c18b0 := eq_true c18; have c18b1 : decide (0 ≤ (ji17)) = true := zM c18; clear c18; by_cases c19 : (ji17) ≤ x7_2
          rotate_left
          ·rw [if_neg c19] at H; exact absurd H (by simp)
          rw [if_pos c19] at H; have c19b0 := eq_true c19; have c19b1 : decide ((ji17) ≤ x7_2) = true := zM c19; clear c19; by_cases c20 : x7_2 ≤ (a0.size : Int)
          rotate_left
          ·rw [if_neg c20] at H; exact absurd H (by simp)
          rw [if_pos c20] at H; have c20b0 := eq_true c20; have c20b1 : decide (x7_2 ≤ (a0.size : Int)) = true := zM c20; clear c20; simp only [Option.some.injEq, Prod.mk.injEq] at H; obtain ⟨rfl, rfl, rfl⟩ := H; go_wp2; go_ret3
          exact ⟨by first | rfl | (simp; done) | (simp only [← hji17] <;> (first | rfl | simp)) | (simp [*]; done), by repeat (first | exact Drawn0.refl _ | apply Drawn0.step)⟩
end Go.Proofs.Ytjiejmkkaekefaa.PA
