-- Written by wip/hprint/hprint.py (a program of this session, over the print): not typed by hand
import Derived.Test.YtjiejmkkaekefaaPAx0
import Derived.Test.YtjiejmkkaekefaaPAx14
import Derived.Test.YtjiejmkkaekefaaPAx15
import Derived.Test.YtjiejmkkaekefaaPAx17
namespace Go.Proofs.Ytjiejmkkaekefaa.PA
open Go.RowKit Go.Proofs.YtjiejmkkaekefaaW.PrintWords Go.Proofs.YtjiejmkkaekefaaW.PrintLast Go.Proofs.YtjiejmkkaekefaaW.PrintMore
attribute [local go_sem] max2_int min2_int max_two min_two max_three min_three max_four min_four   -- for this text's walks alone
open Go.Proofs.YtjiejmkkaekefaaH
set_option linter.unusedVariables false
set_option linter.unusedSimpArgs false

/-! ### treillageref09_Print: function 17 -/
mutual
def treillageref09_Print.l0 : Nat → List (List (S61)) → ByteArray → Int → Option (ByteArray × Int)
 | 0, _, _, _ => none
 | k + 1, x0, x4, x5 => if x5 < (x0.length : Int) then (if x5 > 0 then (if x4.size + 2 ≤ 9223372036854775807 then (treillageref09_Print.j1 k x0 (x4 ++ (⟨#[44, 32]⟩ : ByteArray)) x5) else (none)) else (treillageref09_Print.j1 k x0 x4 x5)) else ((treillageref09_Parse.f k x4).bind fun bt518 => (if bt518.2.2 = 0 then ((treillageref09_Same.f k x0 bt518.1).bind fun t523 => (if t523 = true then (some (x4, 0)) else (some ((⟨#[]⟩ : ByteArray), 1)))) else (some ((⟨#[]⟩ : ByteArray), 1))))
def treillageref09_Print.j1 : Nat → List (List (S61)) → ByteArray → Int → Option (ByteArray × Int)
 | 0, _, _, _ => none
 | k + 1, x0, x4, x5 => treillageref09_Print.l1 k x0 x4 x5 0
def treillageref09_Print.l1 : Nat → List (List (S61)) → ByteArray → Int → Int → Option (ByteArray × Int)
 | 0, _, _, _, _ => none
 | k + 1, x0, x4, x5, x6 => if 0 ≤ x5 then (if x5 < (x0.length : Int) then (if x6 < ((rd_L13 x0 x5).length : Int) then (if x6 > 0 then (if 0 ≤ x6 then (treillageref09_Print.j3 k x0 x4 x5 x6 ((rd_T61 (rd_L13 x0 x5) x6).f1)) else (none)) else (treillageref09_Print.j3 k x0 x4 x5 x6 false)) else (treillageref09_Print.l0 k x0 x4 (wrap64 (x5 + 1)))) else (none)) else (none)
def treillageref09_Print.j4 : Nat → List (List (S61)) → ByteArray → Int → Int → Option (ByteArray × Int)
 | 0, _, _, _, _ => none
 | k + 1, x0, x4, x5, x6 => if 0 ≤ x5 then (if x5 < (x0.length : Int) then (if 0 ≤ x6 then (if x6 < ((rd_L13 x0 x5).length : Int) then (if (((rd_T61 (rd_L13 x0 x5) x6).f0).length : Int) = 0 then (if x4.size + 1 ≤ 9223372036854775807 then (treillageref09_Print.j5 k x0 (x4 ++ (⟨#[42]⟩ : ByteArray)) x5 x6) else (none)) else (treillageref09_Print.j5 k x0 x4 x5 x6)) else (none)) else (none)) else (none)) else (none)
def treillageref09_Print.j5 : Nat → List (List (S61)) → ByteArray → Int → Int → Option (ByteArray × Int)
 | 0, _, _, _, _ => none
 | k + 1, x0, x4, x5, x6 => treillageref09_Print.l2 k x0 x4 x5 x6 0
def treillageref09_Print.l2 : Nat → List (List (S61)) → ByteArray → Int → Int → Int → Option (ByteArray × Int)
 | 0, _, _, _, _, _ => none
 | k + 1, x0, x4, x5, x6, x7 => if 0 ≤ x5 then (if x5 < (x0.length : Int) then (if 0 ≤ x6 then (if x6 < ((rd_L13 x0 x5).length : Int) then (if x7 < (((rd_T61 (rd_L13 x0 x5) x6).f0).length : Int) then (if 0 ≤ x7 then ((treillageref09_print.f ((rd_T62 ((rd_T61 (rd_L13 x0 x5) x6).f0) x7).f0) ((rd_T62 ((rd_T61 (rd_L13 x0 x5) x6).f0) x7).f1) ((rd_T62 ((rd_T61 (rd_L13 x0 x5) x6).f0) x7).f2)).bind fun t517 => (if x4.size + t517.size ≤ 9223372036854775807 then (treillageref09_Print.l2 k x0 (x4 ++ t517) x5 x6 (wrap64 (x7 + 1))) else (none))) else (none)) else (treillageref09_Print.l1 k x0 x4 x5 (wrap64 (x6 + 1)))) else (none)) else (none)) else (none)) else (none)
def treillageref09_Print.j3 : Nat → List (List (S61)) → ByteArray → Int → Int → Bool → Option (ByteArray × Int)
 | 0, _, _, _, _, _ => none
 | k + 1, x0, x4, x5, x6, x30 => if x30 = true then (if x4.size + 3 ≤ 9223372036854775807 then (treillageref09_Print.j4 k x0 (x4 ++ (⟨#[32, 62, 32]⟩ : ByteArray)) x5 x6) else (none)) else (if x6 > 0 then (if x4.size + 1 ≤ 9223372036854775807 then (treillageref09_Print.j4 k x0 (x4 ++ (⟨#[32]⟩ : ByteArray)) x5 x6) else (none)) else (treillageref09_Print.j4 k x0 x4 x5 x6))
end
def treillageref09_Print.f (k : Nat) (l0 : List (List (S61))) : Option (ByteArray × Int) := treillageref09_Print.l0 k l0 (⟨#[]⟩ : ByteArray) 0
set_option maxHeartbeats 8000000 in
set_option maxRecDepth 100000 in
theorem treillageref09_Print.calls (k : Nat) (A0 : Option Addr) (c0 : Nat) (l0 : List (List (S61))) (r1 : ByteArray) (r2 : Int) (w : World) (hr0 : Kd.C (Kd.slice 61 k61) w A0 l0.length l0) (hc0 : l0.length ≤ c0) (h : treillageref09_Print.f k l0 = some (r1, r2)) :
  Calls Try.prog 17 #[.slice A0 l0.length c0] w fun e w' => e = .returned (.tuple #[.string r1, .int .i64 r2]) ∧ Below w.heap.size w w' := by
 have hu62 := Try.underlying62; have HR0 := aA hr0; have HC0 := aA hc0; clear hr0 hc0; have HB := aA (Below.refl w.heap.size w); have H : (treillageref09_Print.l0 k l0 (⟨#[]⟩ : ByteArray) 0) = some (r1, r2) := h; clear h; have H' := aA H; clear H; go_enter Try.func17, Try.ntmps17; go_wp2; go_loopg [4, 5] k (fun kq v4 v5 w' => ∃ (Je : ByteArray) (Ja : Int), v4 = .string Je ∧ v5 = .int .i64 Ja ∧ Aside0 (treillageref09_Print.l0 kq l0 Je Ja = some (r1, r2)) ∧ Aside0 (kq ≤ k) ∧ Aside0 (Below w.heap.size w w'))
 case atStart => exact ⟨((⟨#[]⟩ : ByteArray)), (0), (by first | rfl | (simp; done) | (simp [*]; done)), (by first | rfl | (simp; done) | (simp [*]; done)), H', ⟨zr _⟩, ⟨by repeat (first | (with_reducible first | exact HB.out | apply zv | apply zw | apply zx) | exact HB.out)⟩⟩
 case round =>
  clear H'; try clear c1
  obtain ⟨Je, Ja, rfl, rfl, HA, HK1, HB⟩ := hrel; cases gk with
  | zero => exact absurd HA.out (by simp [treillageref09_Print.l0])
  | succ k1 =>
   have H := HA.out; clear HA; simp only [treillageref09_Print.l0] at H; by_cases c2 : Ja < (l0.length : Int)
   ·rw [if_pos c2] at H; have c2b0 : decide (Ja < (l0.length : Int)) = true := zM c2; clear c2; have HC3 := aA H; clear H; go_upto_if 18 with (fail)
    go_cut [4] (fun v4 wc => ∃ (kq : Nat) (Jn : ByteArray), v4 = .string Jn ∧ Aside0 (treillageref09_Print.j1 kq l0 Jn Ja = some (r1, r2)) ∧ Aside0 (kq ≤ k1) ∧ Aside0 (Below w.heap.size w wc))
    case first =>
     have H := HC3.out; clear HC3; by_cases c4 : Ja > 0
     ·rw [if_pos c4] at H; have c4b0 : decide (0 < Ja) = true := zM c4; clear c4; (first | rw [c4b0] | rw [c4b1] | (simp only [i64_w, i32_w]; rw [c4b0]) | skip)
      by_cases c5 : Je.size + 2 ≤ 9223372036854775807
      rotate_left
      ·rw [if_neg c5] at H; exact absurd H (by simp)
      rw [if_pos c5] at H; have c5b0 := eq_true c5; have c5b1 : decide (Je.size + 2 ≤ 9223372036854775807) = true := zM c5; try have c5b2 : (9223372036854775807 < Je.size + 2) = False := eq_false (Nat.not_lt.2 c5)
      have H' := aA H; clear H; go_wp2; go_meet
      case rel => exact ⟨_, (Je ++ (⟨#[44, 32]⟩ : ByteArray)), (by first | rfl | (simp; done) | (simp [*]; done)), H', ⟨by have := HK1.out; first | omega | exact zr _⟩, ⟨by repeat (first | (with_reducible first | exact HB.out | apply zv | apply zw | apply zx) | exact HB.out)⟩⟩
     ·rw [if_neg c4] at H; have c4b0 : decide (0 < Ja) = false := zN c4; clear c4; (first | rw [c4b0] | rw [c4b1] | (simp only [i64_w, i32_w]; rw [c4b0]) | skip)
      have H' := aA H; clear H; go_wp2; go_meet
      case rel => exact ⟨_, (Je), (by first | rfl | (simp; done) | (simp [*]; done)), H', ⟨by have := HK1.out; first | omega | exact zr _⟩, ⟨by repeat (first | (with_reducible first | exact HB.out | apply zv | apply zw | apply zx) | exact HB.out)⟩⟩
    case rest =>
     clear HC3; try clear c1
     try clear c2
     try clear c2b0
     try clear p2
     try clear c4
     try clear c4b0
     try clear c4b1
     try clear c5
     try clear c5b0
     try clear c5b1
     try clear c5b2
     obtain ⟨kq, Jn, rfl, HA, HJ2, HB⟩ := hcut; cases kq with
     | zero => exact absurd HA.out (by simp [treillageref09_Print.j1])
     | succ kj2 =>
      have H := HA.out; clear HA; simp only [treillageref09_Print.j1] at H; have H' := aA H; clear H; go_wp2; go_loopg [4, 6] kj2 (fun kq v4 v6 w' => ∃ (Jc : ByteArray) (Jb : Int), v4 = .string Jc ∧ v6 = .int .i64 Jb ∧ Aside0 (treillageref09_Print.l1 kq l0 Jc Ja Jb = some (r1, r2)) ∧ Aside0 (kq ≤ kj2) ∧ Aside0 (Below w.heap.size w w'))
      case atStart => exact ⟨(Jn), (0), (by first | rfl | (simp; done) | (simp [*]; done)), (by first | rfl | (simp; done) | (simp [*]; done)), H', ⟨zr _⟩, ⟨by repeat (first | (with_reducible first | exact HB.out | apply zv | apply zw | apply zx) | exact HB.out)⟩⟩
      case round =>
       clear H'; try clear c1
       try clear c2
       try clear c2b0
       try clear p2
       try clear c4
       try clear c4b0
       try clear c4b1
       try clear c5
       try clear c5b0
       try clear c5b1
       try clear c5b2
       try clear p2
       obtain ⟨Jc, Jb, rfl, rfl, HA, HK3, HB⟩ := hrel; cases gk with
       | zero => exact absurd HA.out (by simp [treillageref09_Print.l1])
       | succ k3 =>
        have H := HA.out; clear HA; simp only [treillageref09_Print.l1] at H; by_cases c6 : 0 ≤ Ja
        rotate_left
        ·rw [if_neg c6] at H; exact absurd H (by simp)
        rw [if_pos c6] at H; have c6b0 : decide (0 ≤ Ja) = true := zM c6; clear c6; by_cases c7 : Ja < (l0.length : Int)
        rotate_left
        ·rw [if_neg c7] at H; exact absurd H (by simp)
        rw [if_pos c7] at H; have c7b0 : decide (Ja < (l0.length : Int)) = true := zM c7; clear c7; by_cases c8 : Jb < ((rd_L13 l0 Ja).length : Int)
        ·rw [if_pos c8] at H; have c8b0 : decide (Jb < ((rd_L13 l0 Ja).length : Int)) = true := zM c8; clear c8; have HC9 := aA H; clear H; have p507 : 0 ≤ (Ja : Int) := zk (by first | (with_reducible assumption) | assumption); have q507 : Ja < (l0.length : Int) := zk (by first | (with_reducible assumption) | assumption); obtain ⟨ad507, A507_0, c507_0, e507, hx507_0, hl507_0, hi507_0⟩ := at_L13 HR0.out Ja p507 q507; cases e507
         replace hx507_0 := (HB.out.cell (zc w _ hx507_0)).trans hx507_0; have HR507_0 := aA hi507_0; have HC507_0 := aA hl507_0; clear hi507_0 hl507_0; replace p507 := eq_true p507; replace q507 := eq_true q507; go_upto_block 4 with (fail)
         go_cut [4] (fun v4 wc => ∃ (kq : Nat) (Ji : ByteArray), v4 = .string Ji ∧ Aside0 (treillageref09_Print.j4 kq l0 Ji Ja Jb = some (r1, r2)) ∧ Aside0 (kq ≤ k3) ∧ Aside0 (Below w.heap.size w wc))
         case first =>
          have H := HC9.out; clear HC9; have HC10 := aA H; clear H; go_upto_region 10 with (fail)
          go_cut [30] (fun v30 wc => ∃ (kq : Nat) (Jl : Bool), v30 = .bool Jl ∧ Aside0 (treillageref09_Print.j3 kq l0 Jc Ja Jb Jl = some (r1, r2)) ∧ Aside0 (kq ≤ k3) ∧ Aside0 (Below w.heap.size w wc))
          case first =>
           have H := HC10.out; clear HC10; by_cases c11 : Jb > 0
           ·rw [if_pos c11] at H; have c11b0 : decide (0 < Jb) = true := zM c11; clear c11; (first | rw [c11b0] | rw [c11b1] | (simp only [i64_w, i32_w]; rw [c11b0]) | skip)
            by_cases c12 : 0 ≤ Jb
            rotate_left
            ·rw [if_neg c12] at H; exact absurd H (by simp)
            rw [if_pos c12] at H; have c12b0 : decide (0 ≤ Jb) = true := zM c12; clear c12; have H' := aA H; clear H; have p508 : 0 ≤ (Ja : Int) := zk (by first | (with_reducible assumption) | assumption); have q508 : Ja < (l0.length : Int) := zk (by first | (with_reducible assumption) | assumption); obtain ⟨ad508, A508_0, c508_0, e508, hx508_0, hl508_0, hi508_0⟩ := at_L13 HR0.out Ja p508 q508; obtain rfl : ad507 = ad508 := (by injection e508); replace hx508_0 := (HB.out.cell (zc w _ hx508_0)).trans hx508_0; have HR508_0 := aA hi508_0; have HC508_0 := aA hl508_0; clear hi508_0 hl508_0; replace p508 := eq_true p508; replace q508 := eq_true q508; have p509 : 0 ≤ (Jb : Int) := zk (by first | (with_reducible assumption) | assumption); have q509 : Jb < ((rd_L13 l0 Ja).length : Int) := zk (by first | (with_reducible assumption) | assumption); obtain ⟨ad509, A509_0, c509_0, e509, hx509_0, hx509_1, hl509_0, hi509_0⟩ := at_T61 HR508_0.out Jb p509 q509; cases e509
            replace hx509_0 := (HB.out.cell (zc w _ hx509_0)).trans hx509_0; replace hx509_1 := (HB.out.cell (zc w _ hx509_1)).trans hx509_1; have HR509_0 := aA hi509_0; have HC509_0 := aA hl509_0; clear hi509_0 hl509_0; replace p509 := eq_true p509; replace q509 := eq_true q509; (try (have eu_ := Option.some.inj (hx507_0.symm.trans hx508_0); injection eu_ with eu1_ eu2_ eu3_; (try subst eu1_); (try cases eu1_); (try subst eu3_))); go_wp2; go_meet
            case rel => exact ⟨_, ((rd_T61 (rd_L13 l0 Ja) Jb).f1), (by first | rfl | (simp; done) | (simp [*]; done)), H', ⟨by have := HK1.out; have := HJ2.out; have := HK3.out; first | omega | exact zr _⟩, ⟨by repeat (first | (with_reducible first | exact HB.out | apply zv | apply zw | apply zx) | exact HB.out)⟩⟩
           ·rw [if_neg c11] at H; have c11b0 : decide (0 < Jb) = false := zN c11; clear c11; (first | rw [c11b0] | rw [c11b1] | (simp only [i64_w, i32_w]; rw [c11b0]) | skip)
            have H' := aA H; clear H; go_wp2; go_meet
            case rel => exact ⟨_, (false), (by first | rfl | (simp; done) | (simp [*]; done)), H', ⟨by have := HK1.out; have := HJ2.out; have := HK3.out; first | omega | exact zr _⟩, ⟨by repeat (first | (with_reducible first | exact HB.out | apply zv | apply zw | apply zx) | exact HB.out)⟩⟩
          case rest =>
           clear HC10; try clear c1
           try clear c2
           try clear c2b0
           try clear p2
           try clear c4
           try clear c4b0
           try clear c4b1
           try clear c5
           try clear c5b0
           try clear c5b1
           try clear c5b2
           try clear p5
           try clear q5
           try clear hx5
           try clear c6
           try clear c6b0
           try clear c7
           try clear c7b0
           try clear c8
           try clear c8b0
           try clear c11
           try clear c11b0
           try clear c11b1
           try clear c12
           try clear c12b0
           try clear hx507_0
           try clear hx508_0
           try clear hx509_0
           try clear hx509_1
           try clear p2
           try clear p507
           try clear p508
           try clear p509
           try clear q507
           try clear q508
           try clear q509
           obtain ⟨kq, Jl, rfl, HA, HJ9, HB⟩ := hcut; cases kq with
           | zero => exact absurd HA.out (by simp [treillageref09_Print.j3])
           | succ kj9 =>
            have H := HA.out; clear HA; simp only [treillageref09_Print.j3] at H; by_cases c13 : Jl = true
            ·subst c13; have H1 : (if Jc.size + 3 ≤ 9223372036854775807 then (treillageref09_Print.j4 kj9 l0 (Jc ++ (⟨#[32, 62, 32]⟩ : ByteArray)) Ja Jb) else (none)) = some (r1, r2) := by rw [if_pos rfl] at H; exact H
             clear H; have H := H1; clear H1; by_cases c14 : Jc.size + 3 ≤ 9223372036854775807
             rotate_left
             ·rw [if_neg c14] at H; exact absurd H (by simp)
             rw [if_pos c14] at H; have c14b0 := eq_true c14; have c14b1 : decide (Jc.size + 3 ≤ 9223372036854775807) = true := zM c14; try have c14b2 : (9223372036854775807 < Jc.size + 3) = False := eq_false (Nat.not_lt.2 c14)
             have H' := aA H; clear H; go_wp2; go_meet
             case rel => exact ⟨_, (Jc ++ (⟨#[32, 62, 32]⟩ : ByteArray)), (by first | rfl | (simp; done) | (simp [*]; done)), H', ⟨by have := HK1.out; have := HJ2.out; have := HK3.out; have := HJ9.out; first | omega | exact zr _⟩, ⟨by repeat (first | (with_reducible first | exact HB.out | apply zv | apply zw | apply zx) | exact HB.out)⟩⟩
            ·replace c13 := Bool.eq_false_iff.mpr c13; subst c13; have H1 : (if Jb > 0 then (if Jc.size + 1 ≤ 9223372036854775807 then (treillageref09_Print.j4 kj9 l0 (Jc ++ (⟨#[32]⟩ : ByteArray)) Ja Jb) else (none)) else (treillageref09_Print.j4 kj9 l0 Jc Ja Jb)) = some (r1, r2) := by rw [if_neg (show ¬ (false = true) by decide)] at H; exact H
             clear H; have H := H1; clear H1; by_cases c15 : Jb > 0
             ·rw [if_pos c15] at H; have c15b0 : decide (0 < Jb) = true := zM c15; clear c15; by_cases c16 : Jc.size + 1 ≤ 9223372036854775807
              rotate_left
              ·rw [if_neg c16] at H; exact absurd H (by simp)
              rw [if_pos c16] at H; have c16b0 := eq_true c16; have c16b1 : decide (Jc.size + 1 ≤ 9223372036854775807) = true := zM c16; try have c16b2 : (9223372036854775807 < Jc.size + 1) = False := eq_false (Nat.not_lt.2 c16)
              have H' := aA H; clear H; go_wp2; go_meet
              case rel => exact ⟨_, (Jc ++ (⟨#[32]⟩ : ByteArray)), (by first | rfl | (simp; done) | (simp [*]; done)), H', ⟨by have := HK1.out; have := HJ2.out; have := HK3.out; have := HJ9.out; first | omega | exact zr _⟩, ⟨by repeat (first | (with_reducible first | exact HB.out | apply zv | apply zw | apply zx) | exact HB.out)⟩⟩
             ·rw [if_neg c15] at H; have c15b0 : decide (0 < Jb) = false := zN c15; clear c15; have H' := aA H; clear H; go_wp2; go_meet
              case rel => exact ⟨_, (Jc), (by first | rfl | (simp; done) | (simp [*]; done)), H', ⟨by have := HK1.out; have := HJ2.out; have := HK3.out; have := HJ9.out; first | omega | exact zr _⟩, ⟨by repeat (first | (with_reducible first | exact HB.out | apply zv | apply zw | apply zx) | exact HB.out)⟩⟩
         case rest =>
          clear HC9; try clear c1
          try clear c2
          try clear c2b0
          try clear p2
          try clear c4
          try clear c4b0
          try clear c4b1
          try clear c5
          try clear c5b0
          try clear c5b1
          try clear c5b2
          try clear p5
          try clear q5
          try clear hx5
          try clear c6
          try clear c6b0
          try clear c7
          try clear c7b0
          try clear c8
          try clear c8b0
          try clear c11
          try clear c11b0
          try clear c11b1
          try clear c12
          try clear c12b0
          try clear c13
          try clear c14
          try clear c14b0
          try clear c14b1
          try clear c14b2
          try clear c15
          try clear c15b0
          try clear c16
          try clear c16b0
          try clear c16b1
          try clear c16b2
          try clear hx507_0
          try clear hx508_0
          try clear hx509_0
          try clear hx509_1
          try clear p2
          try clear p5
          try clear p507
          try clear p508
          try clear p509
          try clear q5
          try clear q507
          try clear q508
          try clear q509
          obtain ⟨kq, Ji, rfl, HA, HJ8, HB⟩ := hcut; cases kq with
          | zero => exact absurd HA.out (by simp [treillageref09_Print.j4])
          | succ kj8 =>
           have H := HA.out; clear HA; simp only [treillageref09_Print.j4] at H; by_cases c17 : 0 ≤ Ja
           rotate_left
           ·rw [if_neg c17] at H; exact absurd H (by simp)
           rw [if_pos c17] at H; have c17b0 : decide (0 ≤ Ja) = true := zM c17; clear c17; by_cases c18 : Ja < (l0.length : Int)
           rotate_left
           ·rw [if_neg c18] at H; exact absurd H (by simp)
           rw [if_pos c18] at H; have c18b0 : decide (Ja < (l0.length : Int)) = true := zM c18; clear c18; by_cases c19 : 0 ≤ Jb
           rotate_left
           ·rw [if_neg c19] at H; exact absurd H (by simp)
           rw [if_pos c19] at H; have c19b0 : decide (0 ≤ Jb) = true := zM c19; clear c19; by_cases c20 : Jb < ((rd_L13 l0 Ja).length : Int)
           rotate_left
           ·rw [if_neg c20] at H; exact absurd H (by simp)
           rw [if_pos c20] at H; have c20b0 : decide (Jb < ((rd_L13 l0 Ja).length : Int)) = true := zM c20; clear c20; have HC21 := aA H; clear H; have p510 : 0 ≤ (Ja : Int) := zk (by first | (with_reducible assumption) | assumption); have q510 : Ja < (l0.length : Int) := zk (by first | (with_reducible assumption) | assumption); obtain ⟨ad510, A510_0, c510_0, e510, hx510_0, hl510_0, hi510_0⟩ := at_L13 HR0.out Ja p510 q510; obtain rfl : ad507 = ad510 := (by injection e510); replace hx510_0 := (HB.out.cell (zc w _ hx510_0)).trans hx510_0; have HR510_0 := aA hi510_0; have HC510_0 := aA hl510_0; clear hi510_0 hl510_0; replace p510 := eq_true p510; replace q510 := eq_true q510; have p511 : 0 ≤ (Jb : Int) := zk (by first | (with_reducible assumption) | assumption); have q511 : Jb < ((rd_L13 l0 Ja).length : Int) := zk (by first | (with_reducible assumption) | assumption); obtain ⟨ad511, A511_0, c511_0, e511, hx511_0, hx511_1, hl511_0, hi511_0⟩ := at_T61 HR510_0.out Jb p511 q511; cases e511
           replace hx511_0 := (HB.out.cell (zc w _ hx511_0)).trans hx511_0; replace hx511_1 := (HB.out.cell (zc w _ hx511_1)).trans hx511_1; have HR511_0 := aA hi511_0; have HC511_0 := aA hl511_0; clear hi511_0 hl511_0; replace p511 := eq_true p511; replace q511 := eq_true q511; go_upto_if 59 with (fail)
           go_cut [4] (fun v4 wc => ∃ (kq : Nat) (Jm : ByteArray), v4 = .string Jm ∧ Aside0 (treillageref09_Print.j5 kq l0 Jm Ja Jb = some (r1, r2)) ∧ Aside0 (kq ≤ kj8) ∧ Aside0 (Below w.heap.size w wc))
           case first =>
            have H := HC21.out; clear HC21; by_cases c22 : (((rd_T61 (rd_L13 l0 Ja) Jb).f0).length : Int) = 0
            ·rw [if_pos c22] at H; have c22b0 : ((((rd_T61 (rd_L13 l0 Ja) Jb).f0).length : Int) == 0) = true := beq_iff_eq.mpr c22; have c22b1 : ((((rd_T61 (rd_L13 l0 Ja) Jb).f0).length : Int) != 0) = false := bne_eq_false_iff_eq.mpr c22; clear c22; (first | rw [c22b0] | rw [c22b1] | (simp only [i64_w, i32_w]; rw [c22b0]) | skip)
             by_cases c23 : Ji.size + 1 ≤ 9223372036854775807
             rotate_left
             ·rw [if_neg c23] at H; exact absurd H (by simp)
             rw [if_pos c23] at H; have c23b0 := eq_true c23; have c23b1 : decide (Ji.size + 1 ≤ 9223372036854775807) = true := zM c23; try have c23b2 : (9223372036854775807 < Ji.size + 1) = False := eq_false (Nat.not_lt.2 c23)
             have H' := aA H; clear H; go_wp2; go_meet
             case rel => exact ⟨_, (Ji ++ (⟨#[42]⟩ : ByteArray)), (by first | rfl | (simp; done) | (simp [*]; done)), H', ⟨by have := HK1.out; have := HJ2.out; have := HK3.out; have := HJ8.out; first | omega | exact zr _⟩, ⟨by repeat (first | (with_reducible first | exact HB.out | apply zv | apply zw | apply zx) | exact HB.out)⟩⟩
            ·rw [if_neg c22] at H; have c22b0 : ((((rd_T61 (rd_L13 l0 Ja) Jb).f0).length : Int) == 0) = false := beq_eq_false_iff_ne.mpr c22; have c22b1 : ((((rd_T61 (rd_L13 l0 Ja) Jb).f0).length : Int) != 0) = true := bne_iff_ne.mpr c22; have c22b2 : ¬ (((rd_T61 (rd_L13 l0 Ja) Jb).f0) = []) := fun h_ => c22 (by rw [h_]; rfl)
             (first | rw [c22b0] | rw [c22b1] | (simp only [i64_w, i32_w]; rw [c22b0]) | skip)
             have H' := aA H; clear H; go_wp2; go_meet
             case rel => exact ⟨_, (Ji), (by first | rfl | (simp; done) | (simp [*]; done)), H', ⟨by have := HK1.out; have := HJ2.out; have := HK3.out; have := HJ8.out; first | omega | exact zr _⟩, ⟨by repeat (first | (with_reducible first | exact HB.out | apply zv | apply zw | apply zx) | exact HB.out)⟩⟩
           case rest =>
            clear HC21; try clear c1
            try clear c2
            try clear c2b0
            try clear p2
            try clear c4
            try clear c4b0
            try clear c4b1
            try clear c5
            try clear c5b0
            try clear c5b1
            try clear c5b2
            try clear p5
            try clear q5
            try clear hx5
            try clear c6
            try clear c6b0
            try clear c7
            try clear c7b0
            try clear c8
            try clear c8b0
            try clear c11
            try clear c11b0
            try clear c11b1
            try clear c12
            try clear c12b0
            try clear c13
            try clear c14
            try clear c14b0
            try clear c14b1
            try clear c14b2
            try clear c15
            try clear c15b0
            try clear c16
            try clear c16b0
            try clear c16b1
            try clear c16b2
            try clear c17
            try clear c17b0
            try clear c18
            try clear c18b0
            try clear c19
            try clear c19b0
            try clear c20
            try clear c20b0
            try clear c22
            try clear c22b0
            try clear c22b1
            try clear c22b2
            try clear c23
            try clear c23b0
            try clear c23b1
            try clear c23b2
            try clear hx507_0
            try clear hx508_0
            try clear hx509_0
            try clear hx509_1
            try clear hx510_0
            try clear hx511_0
            try clear hx511_1
            try clear p2
            try clear p5
            try clear p507
            try clear p508
            try clear p509
            try clear p510
            try clear p511
            try clear q5
            try clear q507
            try clear q508
            try clear q509
            try clear q510
            try clear q511
            obtain ⟨kq, Jm, rfl, HA, HJ20, HB⟩ := hcut; cases kq with
            | zero => exact absurd HA.out (by simp [treillageref09_Print.j5])
            | succ kj20 =>
             have H := HA.out; clear HA; simp only [treillageref09_Print.j5] at H; have H' := aA H; clear H; go_wp2; go_loopg [4, 7] kj20 (fun kq v4 v7 w' => ∃ (Jg : ByteArray) (Jd : Int), v4 = .string Jg ∧ v7 = .int .i64 Jd ∧ Aside0 (treillageref09_Print.l2 kq l0 Jg Ja Jb Jd = some (r1, r2)) ∧ Aside0 (kq ≤ kj20) ∧ Aside0 (Below w.heap.size w w'))
             case atStart => exact ⟨(Jm), (0), (by first | rfl | (simp; done) | (simp [*]; done)), (by first | rfl | (simp; done) | (simp [*]; done)), H', ⟨zr _⟩, ⟨by repeat (first | (with_reducible first | exact HB.out | apply zv | apply zw | apply zx) | exact HB.out)⟩⟩
             case round =>
              clear H'; try clear c1
              try clear c2
              try clear c2b0
              try clear p2
              try clear c4
              try clear c4b0
              try clear c4b1
              try clear c5
              try clear c5b0
              try clear c5b1
              try clear c5b2
              try clear p5
              try clear q5
              try clear hx5
              try clear c6
              try clear c6b0
              try clear c7
              try clear c7b0
              try clear c8
              try clear c8b0
              try clear c11
              try clear c11b0
              try clear c11b1
              try clear c12
              try clear c12b0
              try clear c13
              try clear c14
              try clear c14b0
              try clear c14b1
              try clear c14b2
              try clear c15
              try clear c15b0
              try clear c16
              try clear c16b0
              try clear c16b1
              try clear c16b2
              try clear c17
              try clear c17b0
              try clear c18
              try clear c18b0
              try clear c19
              try clear c19b0
              try clear c20
              try clear c20b0
              try clear c22
              try clear c22b0
              try clear c22b1
              try clear c22b2
              try clear c23
              try clear c23b0
              try clear c23b1
              try clear c23b2
              try clear hx507_0
              try clear hx508_0
              try clear hx509_0
              try clear hx509_1
              try clear hx510_0
              try clear hx511_0
              try clear hx511_1
              try clear p2
              try clear p5
              try clear p507
              try clear p508
              try clear p509
              try clear p510
              try clear p511
              try clear q5
              try clear q507
              try clear q508
              try clear q509
              try clear q510
              try clear q511
              obtain ⟨Jg, Jd, rfl, rfl, HA, HK6, HB⟩ := hrel; cases gk with
              | zero => exact absurd HA.out (by simp [treillageref09_Print.l2])
              | succ k6 =>
               have H := HA.out; clear HA; simp only [treillageref09_Print.l2] at H; by_cases c24 : 0 ≤ Ja
               rotate_left
               ·rw [if_neg c24] at H; exact absurd H (by simp)
               rw [if_pos c24] at H; have c24b0 : decide (0 ≤ Ja) = true := zM c24; clear c24; by_cases c25 : Ja < (l0.length : Int)
               rotate_left
               ·rw [if_neg c25] at H; exact absurd H (by simp)
               rw [if_pos c25] at H; have c25b0 : decide (Ja < (l0.length : Int)) = true := zM c25; clear c25; by_cases c26 : 0 ≤ Jb
               rotate_left
               ·rw [if_neg c26] at H; exact absurd H (by simp)
               rw [if_pos c26] at H; have c26b0 : decide (0 ≤ Jb) = true := zM c26; clear c26; by_cases c27 : Jb < ((rd_L13 l0 Ja).length : Int)
               rotate_left
               ·rw [if_neg c27] at H; exact absurd H (by simp)
               rw [if_pos c27] at H; have c27b0 : decide (Jb < ((rd_L13 l0 Ja).length : Int)) = true := zM c27; clear c27; by_cases c28 : Jd < (((rd_T61 (rd_L13 l0 Ja) Jb).f0).length : Int)
               ·rw [if_pos c28] at H; have c28b0 : decide (Jd < (((rd_T61 (rd_L13 l0 Ja) Jb).f0).length : Int)) = true := zM c28; clear c28; by_cases c29 : 0 ≤ Jd
                rotate_left
                ·rw [if_neg c29] at H; exact absurd H (by simp)
                rw [if_pos c29] at H; have c29b0 : decide (0 ≤ Jd) = true := zM c29; clear c29; replace H := Option.bind_eq_some_iff.mp H; obtain ⟨Jj, A300, H⟩ := H; replace H : (if Jg.size + Jj.size ≤ 9223372036854775807 then (treillageref09_Print.l2 k6 l0 (Jg ++ Jj) Ja Jb (wrap64 (Jd + 1))) else (none)) = some (r1, r2) := H; have A30 := aA A300; clear A300; by_cases c31 : Jg.size + Jj.size ≤ 9223372036854775807
                rotate_left
                ·rw [if_neg c31] at H; exact absurd H (by simp)
                rw [if_pos c31] at H; have c31b0 := eq_true c31; have c31b1 : decide (Jg.size + Jj.size ≤ 9223372036854775807) = true := zM c31; try have c31b2 : (9223372036854775807 < Jg.size + Jj.size) = False := eq_false (Nat.not_lt.2 c31)
                have H' := aA H; clear H; have p512 : 0 ≤ (Ja : Int) := zk (by first | (with_reducible assumption) | assumption); have q512 : Ja < (l0.length : Int) := zk (by first | (with_reducible assumption) | assumption); obtain ⟨ad512, A512_0, c512_0, e512, hx512_0, hl512_0, hi512_0⟩ := at_L13 HR0.out Ja p512 q512; obtain rfl : ad507 = ad512 := (by injection e512); replace hx512_0 := (HB.out.cell (zc w _ hx512_0)).trans hx512_0; have HR512_0 := aA hi512_0; have HC512_0 := aA hl512_0; clear hi512_0 hl512_0; replace p512 := eq_true p512; replace q512 := eq_true q512; have p513 : 0 ≤ (Jb : Int) := zk (by first | (with_reducible assumption) | assumption); have q513 : Jb < ((rd_L13 l0 Ja).length : Int) := zk (by first | (with_reducible assumption) | assumption); obtain ⟨ad513, A513_0, c513_0, e513, hx513_0, hx513_1, hl513_0, hi513_0⟩ := at_T61 HR512_0.out Jb p513 q513; cases e513
                replace hx513_0 := (HB.out.cell (zc w _ hx513_0)).trans hx513_0; replace hx513_1 := (HB.out.cell (zc w _ hx513_1)).trans hx513_1; have HR513_0 := aA hi513_0; have HC513_0 := aA hl513_0; clear hi513_0 hl513_0; replace p513 := eq_true p513; replace q513 := eq_true q513; have p514 : 0 ≤ (Ja : Int) := zk (by first | (with_reducible assumption) | assumption); have q514 : Ja < (l0.length : Int) := zk (by first | (with_reducible assumption) | assumption); obtain ⟨ad514, A514_0, c514_0, e514, hx514_0, hl514_0, hi514_0⟩ := at_L13 HR0.out Ja p514 q514; obtain rfl : ad507 = ad514 := (by injection e514); replace hx514_0 := (HB.out.cell (zc w _ hx514_0)).trans hx514_0; have HR514_0 := aA hi514_0; have HC514_0 := aA hl514_0; clear hi514_0 hl514_0; replace p514 := eq_true p514; replace q514 := eq_true q514; have ea_ := Option.some.inj (hx512_0.symm.trans hx514_0); injection ea_ with ea_ en_ ec_; subst ea_; subst ec_; clear en_; have p515 : 0 ≤ (Jb : Int) := zk (by first | (with_reducible assumption) | assumption); have q515 : Jb < ((rd_L13 l0 Ja).length : Int) := zk (by first | (with_reducible assumption) | assumption); obtain ⟨ad515, A515_0, c515_0, e515, hx515_0, hx515_1, hl515_0, hi515_0⟩ := at_T61 HR514_0.out Jb p515 q515; cases e515
                replace hx515_0 := (HB.out.cell (zc w _ hx515_0)).trans hx515_0; replace hx515_1 := (HB.out.cell (zc w _ hx515_1)).trans hx515_1; have HR515_0 := aA hi515_0; have HC515_0 := aA hl515_0; clear hi515_0 hl515_0; replace p515 := eq_true p515; replace q515 := eq_true q515; have p516 : 0 ≤ (Jd : Int) := zk (by first | (with_reducible assumption) | assumption); have q516 : Jd < (((rd_T61 (rd_L13 l0 Ja) Jb).f0).length : Int) := zk (by first | (with_reducible assumption) | assumption); obtain ⟨ad516, e516, hx516_0, hx516_1, hx516_2⟩ := at_T62 HR515_0.out Jd p516 q516; cases e516
                replace hx516_0 := (HB.out.cell (zc w _ hx516_0)).trans hx516_0; replace hx516_1 := (HB.out.cell (zc w _ hx516_1)).trans hx516_1; replace hx516_2 := (HB.out.cell (zc w _ hx516_2)).trans hx516_2; replace p516 := eq_true p516; replace q516 := eq_true q516; (try (have eu_ := Option.some.inj (hx507_0.symm.trans hx510_0); injection eu_ with eu1_ eu2_ eu3_; (try subst eu1_); (try cases eu1_); (try subst eu3_))); (try (have eu_ := Option.some.inj (hx507_0.symm.trans hx512_0); injection eu_ with eu1_ eu2_ eu3_; (try subst eu1_); (try cases eu1_); (try subst eu3_))); (try (have eu_ := Option.some.inj (hx510_0.symm.trans hx512_0); injection eu_ with eu1_ eu2_ eu3_; (try subst eu1_); (try cases eu1_); (try subst eu3_))); (try (have eu_ := Option.some.inj (hx507_0.symm.trans hx514_0); injection eu_ with eu1_ eu2_ eu3_; (try subst eu1_); (try cases eu1_); (try subst eu3_))); (try (have eu_ := Option.some.inj (hx510_0.symm.trans hx514_0); injection eu_ with eu1_ eu2_ eu3_; (try subst eu1_); (try cases eu1_); (try subst eu3_))); (try (have eu_ := Option.some.inj (hx512_0.symm.trans hx514_0); injection eu_ with eu1_ eu2_ eu3_; (try subst eu1_); (try cases eu1_); (try subst eu3_))); (try (have eu_ := Option.some.inj (hx511_0.symm.trans hx513_0); injection eu_ with eu1_ eu2_ eu3_; (try subst eu1_); (try cases eu1_); (try subst eu3_))); (try (have eu_ := Option.some.inj (hx511_0.symm.trans hx515_0); injection eu_ with eu1_ eu2_ eu3_; (try subst eu1_); (try cases eu1_); (try subst eu3_))); (try (have eu_ := Option.some.inj (hx513_0.symm.trans hx515_0); injection eu_ with eu1_ eu2_ eu3_; (try subst eu1_); (try cases eu1_); (try subst eu3_))); (try (have eu_ := Option.some.inj (hx511_1.symm.trans hx513_1); injection eu_ with eu1_ eu2_ eu3_; (try subst eu1_); (try cases eu1_); (try subst eu3_))); (try (have eu_ := Option.some.inj (hx511_1.symm.trans hx515_1); injection eu_ with eu1_ eu2_ eu3_; (try subst eu1_); (try cases eu1_); (try subst eu3_))); (try (have eu_ := Option.some.inj (hx513_1.symm.trans hx515_1); injection eu_ with eu1_ eu2_ eu3_; (try subst eu1_); (try cases eu1_); (try subst eu3_))); go_wp2_with (first | ((with_reducible refine gate_callee (f := 29) rfl ?_); refine goesL_ (some 87) rfl rfl Try.func29 (by kernel_rfl) rfl #[.agg #[.int .i64 ((rd_T62 ((rd_T61 (rd_L13 l0 Ja) Jb).f0) Jd).f0), .string ((rd_T62 ((rd_T61 (rd_L13 l0 Ja) Jb).f0) Jd).f1), .string ((rd_T62 ((rd_T61 (rd_L13 l0 Ja) Jb).f0) Jd).f2)]] rfl (by (try simp only [List.map_toArray, List.map_cons, List.map_nil]); first | done | rfl | (simp only [List.length_drop, List.length_take]; rfl)) ?_; (with_reducible refine (treillageref09_print.calls ((rd_T62 ((rd_T61 (rd_L13 l0 Ja) Jb).f0) Jd).f0) ((rd_T62 ((rd_T61 (rd_L13 l0 Ja) Jb).f0) Jd).f1) ((rd_T62 ((rd_T61 (rd_L13 l0 Ja) Jb).f0) Jd).f2) Jj _ A30.out).mono ?_); rintro e w32 ⟨rfl, hb⟩; refine ⟨_, rfl, ?_⟩; have n0_ := aA (zt (blw HB.out) hb); clear HB; have HB := n0_; clear n0_; (try clear hb); (try clear hb2); (try clear hk); (try clear hi)))
                go_roundg k6
                case measure => have := HK1.out; have := HJ2.out; have := HK3.out; have := HJ8.out; have := HJ20.out; have := HK6.out; omega
                case rel => exact ⟨(Jg ++ Jj), (wrap64 (Jd + 1)), (by first | rfl | (simp; done) | (simp [*]; done)), (by first | rfl | (simp; done) | (simp [*]; done)), H', ⟨by have := HK1.out; have := HJ2.out; have := HK3.out; have := HJ8.out; have := HJ20.out; have := HK6.out; omega⟩, ⟨by repeat (first | (with_reducible first | exact HB.out | apply zv | apply zw | apply zx) | exact HB.out)⟩⟩
               ·rw [if_neg c28] at H; have c28b0 : decide (Jd < (((rd_T61 (rd_L13 l0 Ja) Jb).f0).length : Int)) = false := zN c28; clear c28; have H' := aA H; clear H; have p512 : 0 ≤ (Ja : Int) := zk (by first | (with_reducible assumption) | assumption); have q512 : Ja < (l0.length : Int) := zk (by first | (with_reducible assumption) | assumption); obtain ⟨ad512, A512_0, c512_0, e512, hx512_0, hl512_0, hi512_0⟩ := at_L13 HR0.out Ja p512 q512; obtain rfl : ad507 = ad512 := (by injection e512); replace hx512_0 := (HB.out.cell (zc w _ hx512_0)).trans hx512_0; have HR512_0 := aA hi512_0; have HC512_0 := aA hl512_0; clear hi512_0 hl512_0; replace p512 := eq_true p512; replace q512 := eq_true q512; have p513 : 0 ≤ (Jb : Int) := zk (by first | (with_reducible assumption) | assumption); have q513 : Jb < ((rd_L13 l0 Ja).length : Int) := zk (by first | (with_reducible assumption) | assumption); obtain ⟨ad513, A513_0, c513_0, e513, hx513_0, hx513_1, hl513_0, hi513_0⟩ := at_T61 HR512_0.out Jb p513 q513; cases e513
                replace hx513_0 := (HB.out.cell (zc w _ hx513_0)).trans hx513_0; replace hx513_1 := (HB.out.cell (zc w _ hx513_1)).trans hx513_1; have HR513_0 := aA hi513_0; have HC513_0 := aA hl513_0; clear hi513_0 hl513_0; replace p513 := eq_true p513; replace q513 := eq_true q513; go_wp2; go_roundg k6
                case measure => have := HK1.out; have := HJ2.out; have := HK3.out; have := HJ8.out; have := HJ20.out; have := HK6.out; omega
                case rel => exact ⟨(Jg), (wrap64 (Jb + 1)), (by first | rfl | (simp; done) | (simp [*]; done)), (by first | rfl | (simp; done) | (simp [*]; done)), H', ⟨by have := HK1.out; have := HJ2.out; have := HK3.out; have := HJ8.out; have := HJ20.out; have := HK6.out; omega⟩, ⟨by repeat (first | (with_reducible first | exact HB.out | apply zv | apply zw | apply zx) | exact HB.out)⟩⟩
        ·rw [if_neg c8] at H; have c8b0 : decide (Jb < ((rd_L13 l0 Ja).length : Int)) = false := zN c8; clear c8; have H' := aA H; clear H; have p507 : 0 ≤ (Ja : Int) := zk (by first | (with_reducible assumption) | assumption); have q507 : Ja < (l0.length : Int) := zk (by first | (with_reducible assumption) | assumption); obtain ⟨ad507, A507_0, c507_0, e507, hx507_0, hl507_0, hi507_0⟩ := at_L13 HR0.out Ja p507 q507; cases e507
         replace hx507_0 := (HB.out.cell (zc w _ hx507_0)).trans hx507_0; have HR507_0 := aA hi507_0; have HC507_0 := aA hl507_0; clear hi507_0 hl507_0; replace p507 := eq_true p507; replace q507 := eq_true q507; go_wp2; go_roundg k3
         case measure => have := HK1.out; have := HJ2.out; have := HK3.out; omega
         case rel => exact ⟨(Jc), (wrap64 (Ja + 1)), (by first | rfl | (simp; done) | (simp [*]; done)), (by first | rfl | (simp; done) | (simp [*]; done)), H', ⟨by have := HK1.out; have := HJ2.out; have := HK3.out; omega⟩, ⟨by repeat (first | (with_reducible first | exact HB.out | apply zv | apply zw | apply zx) | exact HB.out)⟩⟩
   ·rw [if_neg c2] at H; have c2b0 : decide (Ja < (l0.length : Int)) = false := zN c2; clear c2; replace H := Option.bind_eq_some_iff.mp H; obtain ⟨⟨Jk, Jp, Jh⟩, A330, H⟩ := H; replace H : (if Jh = 0 then ((treillageref09_Same.f k1 l0 Jk).bind fun Jo => (if Jo = true then (some (Je, 0)) else (some ((⟨#[]⟩ : ByteArray), 1)))) else (some ((⟨#[]⟩ : ByteArray), 1))) = some (r1, r2) := H; have A33 := aA A330; clear A330; by_cases c34 : Jh = 0
    ·rw [if_pos c34] at H; have c34b0 : (Jh == 0) = true := beq_iff_eq.mpr c34; have c34b1 : (Jh != 0) = false := bne_eq_false_iff_eq.mpr c34; clear c34; replace H := Option.bind_eq_some_iff.mp H; obtain ⟨Jo, A350, H⟩ := H; replace H : (if Jo = true then (some (Je, 0)) else (some ((⟨#[]⟩ : ByteArray), 1))) = some (r1, r2) := H; have A35 := aA A350; clear A350; by_cases c36 : Jo = true
     ·subst c36; have H1 : (some (Je, 0)) = some (r1, r2) := by rw [if_pos rfl] at H; exact H
      clear H; have H := H1; clear H1; simp only [Option.some.injEq, Prod.mk.injEq] at H; obtain ⟨rfl, rfl⟩ := H; go_wp2_with (first | ((with_reducible refine gate_callee (f := 12) rfl ?_); refine goesL_ (some 91) rfl rfl Try.func12 (by kernel_rfl) rfl #[.string Je] rfl (by (try simp only [List.map_toArray, List.map_cons, List.map_nil]); first | done | rfl | (simp only [List.length_drop, List.length_take]; rfl)) ?_; (with_reducible refine (treillageref09_Parse.calls k1 Je Jk Jp Jh _ A33.out).mono ?_); rintro e w37 ⟨v521, rfl, ho0, hb⟩; refine ⟨_, rfl, ?_⟩; have n0_ := aA (Kd.R_lower ho0 (zG (blw HB.out))); have n1_ := aA (zt (blw HB.out) hb); clear HB; have Jf := n0_; have HB := n1_; clear n0_ n1_; (try clear hb); (try clear hb2); (try clear hk); (try clear hi); (try clear ho0); obtain ⟨Ao38, co38, eo38⟩ := zL Jf.out; subst eo38) | (go_at_call 13; (with_reducible refine (treillageref09_Same.calls k1 _ _ l0 _ _ Jk true _ ?side1 ?side2 ?side3 ?side4 A35.out).mono ?_); (case side1 => repeat (first | exact (Kd.C_below HR0.out HB.out) | (with_reducible refine Kd.C_alloc ?_ _) | (with_reducible refine Kd.C_drewN ?_ _) | (with_reducible refine Kd.C_drew ?_))); (case side2 => exact HC0.out); (case side3 => repeat (first | exact (zF Jf.out).2.2 | (with_reducible refine Kd.C_alloc ?_ _) | (with_reducible refine Kd.C_drewN ?_ _) | (with_reducible refine Kd.C_drew ?_))); (case side4 => exact (zF Jf.out).2.1); rintro e w' ⟨rfl, ⟨nd, rfl⟩⟩))
      go_ret2
      exact ⟨by first | rfl | (simp [errW_none, errW_some] <;> rfl) | (simp [*, errW_none, errW_some] <;> rfl), by repeat (first | (with_reducible first | exact HB.out | apply zv | apply zw | apply zx) | exact HB.out)⟩
     ·replace c36 := Bool.eq_false_iff.mpr c36; subst c36; have H1 : (some ((⟨#[]⟩ : ByteArray), 1)) = some (r1, r2) := by rw [if_neg (show ¬ (false = true) by decide)] at H; exact H
      clear H; have H := H1; clear H1; simp only [Option.some.injEq, Prod.mk.injEq] at H; obtain ⟨rfl, rfl⟩ := H; go_wp2_with (first | ((with_reducible refine gate_callee (f := 12) rfl ?_); refine goesL_ (some 91) rfl rfl Try.func12 (by kernel_rfl) rfl #[.string Je] rfl (by (try simp only [List.map_toArray, List.map_cons, List.map_nil]); first | done | rfl | (simp only [List.length_drop, List.length_take]; rfl)) ?_; (with_reducible refine (treillageref09_Parse.calls k1 Je Jk Jp Jh _ A33.out).mono ?_); rintro e w39 ⟨v521, rfl, ho0, hb⟩; refine ⟨_, rfl, ?_⟩; have n0_ := aA (Kd.R_lower ho0 (zG (blw HB.out))); have n1_ := aA (zt (blw HB.out) hb); clear HB; have Jf := n0_; have HB := n1_; clear n0_ n1_; (try clear hb); (try clear hb2); (try clear hk); (try clear hi); (try clear ho0); obtain ⟨Ao40, co40, eo40⟩ := zL Jf.out; subst eo40) | (go_at_call 13; (with_reducible refine (treillageref09_Same.calls k1 _ _ l0 _ _ Jk false _ ?side1 ?side2 ?side3 ?side4 A35.out).mono ?_); (case side1 => repeat (first | exact (Kd.C_below HR0.out HB.out) | (with_reducible refine Kd.C_alloc ?_ _) | (with_reducible refine Kd.C_drewN ?_ _) | (with_reducible refine Kd.C_drew ?_))); (case side2 => exact HC0.out); (case side3 => repeat (first | exact (zF Jf.out).2.2 | (with_reducible refine Kd.C_alloc ?_ _) | (with_reducible refine Kd.C_drewN ?_ _) | (with_reducible refine Kd.C_drew ?_))); (case side4 => exact (zF Jf.out).2.1); rintro e w' ⟨rfl, ⟨nd, rfl⟩⟩))
      go_ret2
      exact ⟨by first | rfl | (simp [errW_none, errW_some] <;> rfl) | (simp [*, errW_none, errW_some] <;> rfl), by repeat (first | (with_reducible first | exact HB.out | apply zv | apply zw | apply zx) | exact HB.out)⟩
    ·rw [if_neg c34] at H; have c34b0 : (Jh == 0) = false := beq_eq_false_iff_ne.mpr c34; have c34b1 : (Jh != 0) = true := bne_iff_ne.mpr c34; simp only [Option.some.injEq, Prod.mk.injEq] at H; obtain ⟨rfl, rfl⟩ := H; go_wp2_with (first | ((with_reducible refine gate_callee (f := 12) rfl ?_); refine goesL_ (some 91) rfl rfl Try.func12 (by kernel_rfl) rfl #[.string Je] rfl (by (try simp only [List.map_toArray, List.map_cons, List.map_nil]); first | done | rfl | (simp only [List.length_drop, List.length_take]; rfl)) ?_; (with_reducible refine (treillageref09_Parse.calls k1 Je Jk Jp Jh _ A33.out).mono ?_); rintro e w41 ⟨v521, rfl, ho0, hb⟩; refine ⟨_, rfl, ?_⟩; have n0_ := aA (Kd.R_lower ho0 (zG (blw HB.out))); have n1_ := aA (zt (blw HB.out) hb); clear HB; have Jf := n0_; have HB := n1_; clear n0_ n1_; (try clear hb); (try clear hb2); (try clear hk); (try clear hi); (try clear ho0)))
     go_ret2
     exact ⟨by first | rfl | (simp [errW_none, errW_some] <;> rfl) | (simp [*, errW_none, errW_some] <;> rfl), by repeat (first | (with_reducible first | exact HB.out | apply zv | apply zw | apply zx) | exact HB.out)⟩

end Go.Proofs.Ytjiejmkkaekefaa.PA
