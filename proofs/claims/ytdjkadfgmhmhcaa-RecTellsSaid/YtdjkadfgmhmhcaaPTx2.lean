-- Written by wip/hprint/hprint.py (a program of this session, over the print): not typed by hand
import Derived.Test.YtdjkadfgmhmhcaaPTx0
namespace Go.Proofs.Ytdjkadfgmhmhcaa.PT
open Go.RowKit Go.Proofs.YtdjkadfgmhmhcaaW.PrintWords Go.Proofs.YtdjkadfgmhmhcaaW.PrintLast Go.Proofs.YtdjkadfgmhmhcaaW.PrintMore
attribute [local go_sem] max2_int min2_int max_two min_two max_three min_three max_four min_four   -- for this text's walks alone
open Go.Proofs.YtdjkadfgmhmhcaaH
set_option linter.unusedVariables false
set_option linter.unusedSimpArgs false

/-! ### rec_Text: function 20 -/
mutual
def rec_Text.j0 : Nat → List Int → Int → Bool → Option (ByteArray × Bool)
 | 0, _, _, _ => none
 | k + 1, x0, x1, x24 => if x24 = true then (some ((⟨#[]⟩ : ByteArray), false)) else (if 0 ≤ (wrap64 ((x0.length : Int) * 8)) then (if (wrap64 ((x0.length : Int) * 8) : Int).toNat ≤ 281474976710656 then ((some (List.replicate (wrap64 ((x0.length : Int) * 8) : Int).toNat 0 : List Int)).bind fun y101 => (rec_Text.l0 k x0 x1 y101 (y101.length : Int) 0)) else (none)) else (none))
def rec_Text.l0 : Nat → List Int → Int → List Int → Int → Int → Option (ByteArray × Bool)
 | 0, _, _, _, _, _ => none
 | k + 1, x0, x1, x6, x30, x31 => if x31 < x30 then (if 0 ≤ (x31 / 8) then (if (x31 / 8) < (x0.length : Int) then (if 0 ≤ (wrap64 ((Go.bits .and .i64 x31 7) * 8)) then (if 0 ≤ x31 then (if x31 < (x6.length : Int) then ((some (x6.set (x31 : Int).toNat ((shr .u64 (rd x0 (x31 / 8)) (wrap64 ((Go.bits .and .i64 x31 7) * 8))) % 256) : List Int)).bind fun y105 => (if x31 ≥ x1 then (if (rd y105 x31) = 0 then (rec_Text.l0 k x0 x1 y105 x30 (wrap64 (x31 + 1))) else (some ((⟨#[]⟩ : ByteArray), false))) else (rec_Text.l0 k x0 x1 y105 x30 (wrap64 (x31 + 1))))) else (none)) else (none)) else (none)) else (none)) else (none)) else (if 0 ≤ x1 then (if x1 ≤ (x6.length : Int) then (some (strOfNums (x6.take (x1 : Int).toNat), true)) else (none)) else (none))
end
def rec_Text.f (k : Nat) (l0 : List Int) (a1 : Int) : Option (ByteArray × Bool) := if a1 < 0 then (rec_Text.j0 k l0 a1 true) else (if a1 > (wrap64 (8 * (l0.length : Int))) then (rec_Text.j0 k l0 a1 true) else (rec_Text.j0 k l0 a1 (decide (a1 ≤ (wrap64 (8 * (wrap64 ((l0.length : Int) - 1))))))))
theorem rec_Text.mono_l : ∀ k, (∀ y0 y1 y2, LeO (rec_Text.j0 k y0 y1 y2) (rec_Text.j0 (k + 1) y0 y1 y2)) ∧ (∀ y0 y1 y2 y3 y4, LeO (rec_Text.l0 k y0 y1 y2 y3 y4) (rec_Text.l0 (k + 1) y0 y1 y2 y3 y4))
 | 0 => ⟨fun _ _ _ r h => by simp [rec_Text.j0] at h, fun _ _ _ _ _ r h => by simp [rec_Text.l0] at h⟩
 | k + 1 => by
  obtain ⟨ih0, ih1⟩ := rec_Text.mono_l k; refine ⟨?_, ?_⟩
  ·intro y0 y1 y2
   unfold rec_Text.j0; repeat' first
   | (with_reducible exact ih0 _ _ _)
   | (with_reducible exact ih1 _ _ _ _ _)
   | (with_reducible exact LeO.refl _)
   | (with_reducible exact LeO.none _)
   | (with_reducible refine LeO.ite ?_ ?_)
   | (with_reducible refine LeO.bind ?_ (fun _ => ?_))
   | exact ih0 _ _ _
   | exact ih1 _ _ _ _ _
   | exact LeO.none _
   | refine LeO.ite ?_ ?_
   | refine LeO.bind ?_ (fun _ => ?_)
  ·intro y0 y1 y2 y3 y4
   unfold rec_Text.l0; repeat' first
   | (with_reducible exact ih0 _ _ _)
   | (with_reducible exact ih1 _ _ _ _ _)
   | (with_reducible exact LeO.refl _)
   | (with_reducible exact LeO.none _)
   | (with_reducible refine LeO.ite ?_ ?_)
   | (with_reducible refine LeO.bind ?_ (fun _ => ?_))
   | exact ih0 _ _ _
   | exact ih1 _ _ _ _ _
   | exact LeO.none _
   | refine LeO.ite ?_ ?_
   | refine LeO.bind ?_ (fun _ => ?_)
theorem rec_Text.mono : ∀ a0 a1 k, LeO (rec_Text.f k a0 a1) (rec_Text.f (k + 1) a0 a1) := by
 intro a0 a1 k
 obtain ⟨ih0, ih1⟩ := rec_Text.mono_l k; unfold rec_Text.f
 repeat' first
   | (with_reducible exact ih0 _ _ _)
   | (with_reducible exact ih1 _ _ _ _ _)
   | (with_reducible exact LeO.refl _)
   | (with_reducible exact LeO.none _)
   | (with_reducible refine LeO.ite ?_ ?_)
   | (with_reducible refine LeO.bind ?_ (fun _ => ?_))
   | exact ih0 _ _ _
   | exact ih1 _ _ _ _ _
   | exact LeO.none _
   | refine LeO.ite ?_ ?_
   | refine LeO.bind ?_ (fun _ => ?_)
set_option maxHeartbeats 8000000 in
set_option maxRecDepth 100000 in
theorem rec_Text.calls (k : Nat) (A0 : Option Addr) (c0 : Nat) (l0 : List Int) (a1 : Int) (r1 : ByteArray) (r2 : Bool) (w : World) (hr0 : Kd.C (Kd.int .u64) w A0 l0.length l0) (hc0 : l0.length ≤ c0) (h : rec_Text.f k l0 a1 = some (r1, r2)) :
  Calls Try.prog 20 #[.slice A0 l0.length c0, .int .i64 a1] w fun e w' => e = .returned (.tuple #[.string r1, .bool r2]) ∧ Below w.heap.size w w' := by
 have HR0 := aA hr0; have HC0 := aA hc0; clear hr0 hc0; have HB := aA (Below.refl w.heap.size w); have H : (if a1 < 0 then (rec_Text.j0 k l0 a1 true) else (if a1 > (wrap64 (8 * (l0.length : Int))) then (rec_Text.j0 k l0 a1 true) else (rec_Text.j0 k l0 a1 (decide (a1 ≤ (wrap64 (8 * (wrap64 ((l0.length : Int) - 1))))))))) = some (r1, r2) := h; clear h; have HC3 := aA H; clear H; go_enter Try.func20, Try.ntmps20; go_upto_region 1 with (fail)
 go_cut [24] (fun v24 wc => ∃ (kq : Nat) (x24_2 : Bool), v24 = .bool x24_2 ∧ Aside0 (rec_Text.j0 kq l0 a1 x24_2 = some (r1, r2)) ∧ Aside0 (kq ≤ k) ∧ Aside0 (Below w.heap.size w wc))
 case first =>
  have H := HC3.out; clear HC3; by_cases c4 : a1 < 0
  ·rw [if_pos c4] at H; have c4b0 : decide (a1 < 0) = true := decide_eq_true c4; clear c4; (first | rw [c4b0] | rw [c4b1] | (simp only [i64_w, i32_w]; rw [c4b0]) | skip)
   have H' := aA H; clear H; go_wp2; go_meet
   case rel => exact ⟨_, (true), (by first | rfl | (simp; done) | (simp [*]; done)), H', ⟨by first | omega | exact Nat.le_refl _⟩, ⟨by repeat (first | (with_reducible first | exact HB.out | apply below_alloc | apply pw_below_drewN | apply below_drew1) | exact HB.out)⟩⟩
  ·rw [if_neg c4] at H; have c4b0 : decide (a1 < 0) = false := decide_eq_false c4; clear c4; (first | rw [c4b0] | rw [c4b1] | (simp only [i64_w, i32_w]; rw [c4b0]) | skip)
   by_cases c5 : a1 > (wrap64 (8 * (l0.length : Int)))
   ·rw [if_pos c5] at H; have c5b0 : decide ((wrap64 (8 * (l0.length : Int))) < a1) = true := decide_eq_true c5; clear c5; have H' := aA H; clear H; go_wp2; go_meet
    case rel => exact ⟨_, (true), (by first | rfl | (simp; done) | (simp [*]; done)), H', ⟨by first | omega | exact Nat.le_refl _⟩, ⟨by repeat (first | (with_reducible first | exact HB.out | apply below_alloc | apply pw_below_drewN | apply below_drew1) | exact HB.out)⟩⟩
   ·rw [if_neg c5] at H; have c5b0 : decide ((wrap64 (8 * (l0.length : Int))) < a1) = false := decide_eq_false c5; clear c5; have H' := aA H; clear H; go_wp2; go_meet
    case rel => exact ⟨_, (decide (a1 ≤ (wrap64 (8 * (wrap64 ((l0.length : Int) - 1)))))), (by first | rfl | (simp; done) | (simp [*]; done)), H', ⟨by first | omega | exact Nat.le_refl _⟩, ⟨by repeat (first | (with_reducible first | exact HB.out | apply below_alloc | apply pw_below_drewN | apply below_drew1) | exact HB.out)⟩⟩
 case rest =>
  clear HC3; try clear c2
  try clear p2
  try clear c4
  try clear c4b0
  try clear c4b1
  try clear c5
  try clear c5b0
  obtain ⟨kq, x24_2, rfl, HA, HJ2, HB⟩ := hcut; cases kq with
  | zero => exact absurd HA.out (by simp [rec_Text.j0])
  | succ kj2 =>
   have H := HA.out; clear HA; simp only [rec_Text.j0] at H; by_cases c6 : x24_2 = true
   ·subst c6; have H1 : (some ((⟨#[]⟩ : ByteArray), false)) = some (r1, r2) := by rw [if_pos rfl] at H; exact H
    clear H; have H := H1; clear H1; simp only [Option.some.injEq, Prod.mk.injEq] at H; obtain ⟨rfl, rfl⟩ := H; go_wp2; go_ret2
    exact ⟨by first | rfl | (simp [errW_none, errW_some] <;> rfl) | (simp [*, errW_none, errW_some] <;> rfl), by repeat (first | (with_reducible first | exact HB.out | apply below_alloc | apply pw_below_drewN | apply below_drew1) | exact HB.out)⟩
   ·replace c6 := Bool.eq_false_iff.mpr c6; subst c6; have H1 : (if 0 ≤ (wrap64 ((l0.length : Int) * 8)) then (if (wrap64 ((l0.length : Int) * 8) : Int).toNat ≤ 281474976710656 then ((some (List.replicate (wrap64 ((l0.length : Int) * 8) : Int).toNat 0 : List Int)).bind fun y101 => (rec_Text.l0 kj2 l0 a1 y101 (y101.length : Int) 0)) else (none)) else (none)) = some (r1, r2) := by rw [if_neg (show ¬ (false = true) by decide)] at H; exact H
    clear H; have H := H1; clear H1; obtain ⟨ji7, hji7⟩ : ∃ j_ : Int, (wrap64 ((l0.length : Int) * 8)) = j_ := ⟨_, rfl⟩; replace H : (if 0 ≤ (ji7) then (if (ji7 : Int).toNat ≤ 281474976710656 then ((some (List.replicate (ji7 : Int).toNat 0 : List Int)).bind fun y101 => (rec_Text.l0 kj2 l0 a1 y101 (y101.length : Int) 0)) else (none)) else (none)) = some (r1, r2) := by first | (rw [hji7] at H; exact H) | (simp only [hji7] at H ⊢; exact H)
    have hji7w : (IntKind.i64.wrap ((l0.length : Int) * 8)) = ji7 := (i64_w _).trans hji7; by_cases c8 : 0 ≤ (ji7)
    rotate_left
    ·rw [if_neg c8] at H; exact absurd H (by simp)

    rw [if_pos c8] at H; have c8b0 := eq_true c8; have c8b1 : decide (0 ≤ (ji7)) = true := decide_eq_true c8; clear c8; by_cases c9 : (ji7 : Int).toNat ≤ 281474976710656
    rotate_left
    ·rw [if_neg c9] at H; exact absurd H (by simp)
    rw [if_pos c9] at H; have c9b0 := eq_true c9; have c9b1 : decide ((ji7 : Int).toNat ≤ 281474976710656) = true := decide_eq_true c9; clear c9; obtain ⟨y101, hy101⟩ : ∃ y_ : List Int, y_ = (List.replicate (ji7 : Int).toNat 0) := ⟨_, rfl⟩; replace H : (rec_Text.l0 kj2 l0 a1 y101 (y101.length : Int) 0) = some (r1, r2) := by first | (rw [hy101]; with_reducible exact H) | (have H2_ := (Option.bind_some _ _).symm.trans H; rw [hy101]; with_reducible exact H2_) | (have H2_ := (Option.bind_some _ _).symm.trans H; with_reducible exact H2_) | with_reducible exact H | (rw [hy101]; exact H) | exact H
    have Ny101 := aA hy101; clear hy101; have H' := aA H; clear H; go_wp2_with (first | ((with_reducible refine gate_dst (N := 28) rfl ?_); (try (refine gate_guard (by rfl) ?_; dsimp only)); refine Kd.R_make (Kd.int .u8) _ 5 rfl (N := 28) rfl 69 _ _ rfl ji7 rfl rfl Try.underlying69 (.int .u8 0) 1 info5 rfl (by decide) (by omega) 0 (ok := fun _ => True) (okp := fun _ => True) rfl (fun _ hk => hk) trivial (of_decide_eq_true (by first | (with_reducible assumption) | assumption)) (Nat.le_trans (Nat.mul_le_mul_right _ (of_decide_eq_true (by first | (with_reducible assumption) | assumption) : ji7.toNat ≤ 281474976710656)) (by omega)) (Below.refl _ _) (Nat.le_refl _) ?_; intro v102 w10 ho11 hb hg_ hnew_; clear hg_ hnew_; (first | rw [← Ny101.out] at ho11 | (simp only [Int.reduceToNat] at ho11; rw [← Ny101.out] at ho11)); have n0_ := aA (Kd.R_lower ho11 (below_size (blw HB.out))); have n1_ := aA (below_step (blw HB.out) hb); clear HB; have HO103 := n0_; have HB := n1_; clear n0_ n1_ hb ho11; obtain ⟨Ao12, co12, eo12⟩ := Kd.R_slice HO103.out; subst eo12))
    go_loopg [31] kj2 (fun kq v31 w' => ∃ (x6_2 : List Int) (x31_2 : Int), v31 = .int .i64 x31_2 ∧ Aside0 (rec_Text.l0 kq l0 a1 x6_2 (y101.length : Int) x31_2 = some (r1, r2)) ∧ Aside0 (kq ≤ kj2) ∧ Aside0 (Kd.R (Kd.int .u8) 5 w' w.heap.size (fun _ => True) (.slice Ao12 y101.length co12) x6_2) ∧ Aside0 (Below w.heap.size w w'))
    case atStart => exact ⟨(y101), (0), (by first | rfl | (simp; done) | (simp [*]; done)), H', ⟨Nat.le_refl _⟩, ⟨by (with_reducible repeat (first | apply Kd.R_alloc | apply Kd.R_drewN | apply Kd.R_drew)); exact HO103.out⟩, ⟨by repeat (first | (with_reducible first | exact HB.out | apply below_alloc | apply pw_below_drewN | apply below_drew1) | exact HB.out)⟩⟩
    case round =>
     clear H'; try clear c2
     try clear p2
     try clear c4
     try clear c4b0
     try clear c4b1
     try clear c5
     try clear c5b0
     try clear c6
     try clear p6
     try clear c8
     try clear c8b0
     try clear c8b1
     try clear c9
     try clear c9b0
     try clear c9b1
     try clear p2
     obtain ⟨x6_2, x31_2, rfl, HA, HK2, HO_6, HB⟩ := hrel; have hl6_2 := (Kd.R_reads' HO_6.out).1; rw [hl6_2] at HO_6; (try simp only [hl6_2]); cases gk with
     | zero => exact absurd HA.out (by simp [rec_Text.l0])
     | succ k2 =>
      have H := HA.out; clear HA; simp only [rec_Text.l0] at H; by_cases c13 : x31_2 < (y101.length : Int)
      ·rw [if_pos c13] at H; have c13b0 : decide (x31_2 < (y101.length : Int)) = true := decide_eq_true c13; (try simp only [hl6_2] at c13b0); clear c13; obtain ⟨ji14, hji14⟩ : ∃ j_ : Int, (x31_2 / 8) = j_ := ⟨_, rfl⟩; replace H : (if 0 ≤ (ji14) then (if (ji14) < (l0.length : Int) then (if 0 ≤ (wrap64 ((Go.bits .and .i64 x31_2 7) * 8)) then (if 0 ≤ x31_2 then (if x31_2 < (x6_2.length : Int) then ((some (x6_2.set (x31_2 : Int).toNat ((shr .u64 (rd l0 (ji14)) (wrap64 ((Go.bits .and .i64 x31_2 7) * 8))) % 256) : List Int)).bind fun y105 => (if x31_2 ≥ a1 then (if (rd y105 x31_2) = 0 then (rec_Text.l0 k2 l0 a1 y105 (y101.length : Int) (wrap64 (x31_2 + 1))) else (some ((⟨#[]⟩ : ByteArray), false))) else (rec_Text.l0 k2 l0 a1 y105 (y101.length : Int) (wrap64 (x31_2 + 1))))) else (none)) else (none)) else (none)) else (none)) else (none)) = some (r1, r2) := by first | (rw [hji14] at H; exact H) | (simp only [hji14] at H ⊢; exact H)
       by_cases c15 : 0 ≤ (ji14)
       rotate_left
       ·rw [if_neg c15] at H; exact absurd H (by simp)
       rw [if_pos c15] at H; have c15b0 : decide (0 ≤ (ji14)) = true := decide_eq_true c15; clear c15; by_cases c16 : (ji14) < (l0.length : Int)
       rotate_left
       ·rw [if_neg c16] at H; exact absurd H (by simp)
       rw [if_pos c16] at H; have c16b0 : decide ((ji14) < (l0.length : Int)) = true := decide_eq_true c16; clear c16; obtain ⟨ji17, hji17⟩ : ∃ j_ : Int, (wrap64 ((Go.bits .and .i64 x31_2 7) * 8)) = j_ := ⟨_, rfl⟩; replace H : (if 0 ≤ (ji17) then (if 0 ≤ x31_2 then (if x31_2 < (x6_2.length : Int) then ((some (x6_2.set (x31_2 : Int).toNat ((shr .u64 (rd l0 (ji14)) (ji17)) % 256) : List Int)).bind fun y105 => (if x31_2 ≥ a1 then (if (rd y105 x31_2) = 0 then (rec_Text.l0 k2 l0 a1 y105 (y101.length : Int) (wrap64 (x31_2 + 1))) else (some ((⟨#[]⟩ : ByteArray), false))) else (rec_Text.l0 k2 l0 a1 y105 (y101.length : Int) (wrap64 (x31_2 + 1))))) else (none)) else (none)) else (none)) = some (r1, r2) := by first | (rw [hji17] at H; exact H) | (simp only [hji17] at H ⊢; exact H)
       have hji17w : (IntKind.i64.wrap ((Go.bits .and .i64 x31_2 7) * 8)) = ji17 := (i64_w _).trans hji17; by_cases c18 : 0 ≤ (ji17)
       rotate_left
       ·rw [if_neg c18] at H; exact absurd H (by simp)
       rw [if_pos c18] at H; have c18b0 := eq_true c18; have c18b1 : decide (0 ≤ (ji17)) = true := decide_eq_true c18; clear c18; obtain ⟨ji19, hji19⟩ : ∃ j_ : Int, (shr .u64 (rd l0 (ji14)) (ji17)) = j_ := ⟨_, rfl⟩; replace H : (if 0 ≤ x31_2 then (if x31_2 < (x6_2.length : Int) then ((some (x6_2.set (x31_2 : Int).toNat ((ji19) % 256) : List Int)).bind fun y105 => (if x31_2 ≥ a1 then (if (rd y105 x31_2) = 0 then (rec_Text.l0 k2 l0 a1 y105 (y101.length : Int) (wrap64 (x31_2 + 1))) else (some ((⟨#[]⟩ : ByteArray), false))) else (rec_Text.l0 k2 l0 a1 y105 (y101.length : Int) (wrap64 (x31_2 + 1))))) else (none)) else (none)) = some (r1, r2) := by first | (rw [hji19] at H; exact H) | (simp only [hji19] at H ⊢; exact H)
       have hji19_ : ((rd l0 (ji14)) / 2 ^ min (ji17).toNat 64) = ji19 := hji19; have hji19z : (ji17) ≤ 64 → ((rd l0 (ji14)) / 2 ^ (ji17).toNat) = ji19 := shr_small hji19; by_cases c20 : 0 ≤ x31_2
       rotate_left
       ·rw [if_neg c20] at H; exact absurd H (by simp)
       rw [if_pos c20] at H; have c20b0 : decide (0 ≤ x31_2) = true := decide_eq_true c20; clear c20; by_cases c21 : x31_2 < (x6_2.length : Int)
       rotate_left
       ·rw [if_neg c21] at H; exact absurd H (by simp)
       rw [if_pos c21] at H; have c21b0 : decide (x31_2 < (x6_2.length : Int)) = true := decide_eq_true c21; clear c21; obtain ⟨y105, hy105⟩ : ∃ y_ : List Int, y_ = (x6_2.set (x31_2 : Int).toNat ((ji19) % 256)) := ⟨_, rfl⟩; replace H : (if x31_2 ≥ a1 then (if (rd y105 x31_2) = 0 then (rec_Text.l0 k2 l0 a1 y105 (y101.length : Int) (wrap64 (x31_2 + 1))) else (some ((⟨#[]⟩ : ByteArray), false))) else (rec_Text.l0 k2 l0 a1 y105 (y101.length : Int) (wrap64 (x31_2 + 1)))) = some (r1, r2) := by first | (rw [hy105]; with_reducible exact H) | (have H2_ := (Option.bind_some _ _).symm.trans H; rw [hy105]; with_reducible exact H2_) | (have H2_ := (Option.bind_some _ _).symm.trans H; with_reducible exact H2_) | with_reducible exact H | (rw [hy105]; exact H) | exact H
       have Ny105 := aA hy105; clear hy105; by_cases c23 : x31_2 ≥ a1
       ·rw [if_pos c23] at H; have c23b0 : decide (a1 ≤ x31_2) = true := decide_eq_true c23; clear c23; by_cases c24 : (rd y105 x31_2) = 0
        ·rw [if_pos c24] at H; have c24b0 : ((rd y105 x31_2) == 0) = true := beq_iff_eq.mpr c24; have c24b1 : ((rd y105 x31_2) != 0) = false := bne_eq_false_iff_eq.mpr c24; clear c24; have H' := aA H; clear H; have p104 : 0 ≤ ((ji14) : Int) := of_decide_eq_true (by first | (with_reducible assumption) | assumption); have q104 : (ji14) < (l0.length : Int) := of_decide_eq_true (by first | (with_reducible assumption) | assumption); obtain ⟨ad104, e104, hx104_0⟩ := Kd.at_int HR0.out (ji14) p104 q104; cases e104
         replace hx104_0 := (HB.out.cell (World.block_lt_of_cell? w _ hx104_0)).trans hx104_0; replace p104 := eq_true p104; replace q104 := eq_true q104; have p22 : 0 ≤ (x31_2 : Int) := of_decide_eq_true (by first | (with_reducible assumption) | assumption); have q22 : (x31_2 : Int) < ((x6_2.length : Int) : Int) := of_decide_eq_true (by first | (with_reducible assumption) | assumption); obtain ⟨go22, co22, eo22, gb22, gl22, cl22, HG22⟩ := Kd.R_form HO_6.out (by omega); (first | cases eo22 | (injection eo22 with ea_ en_ ec_; (first | subst ea_ | (injection ea_ with ea_; subst ea_)); subst ec_; clear en_))
         have GB22 := aA gb22; have GG22 := aA HG22; clear gb22 gl22 HG22; obtain ⟨hx22_0, hf22_0⟩ := Kd.R_celln 0 HO_6.out (x31_2 : Int) p22 q22; replace p22 := eq_true p22; replace q22 := eq_true q22; have HP25 := Kd.R_putg HO_6.out (x31_2 : Int) ((ji19) % 256); go_wp2_with (first | ((with_reducible refine gate_store (t := 5) (p := 46) rfl ?_); refine store_event (t := 5) (p := 46) (v := ?vo_w26) (w1 := (wr.setCell ⟨go22, (x31_2 : Int).toNat, none⟩ (.int .u8 ((ji19) % 256)))) ?hg ?ho ?hn ?hr ?_; (case ho => rfl); (case hg => rfl); (case hn => rfl); (case hr => first | (go_simp; done) | (go_simp; rfl)); intro w26 hw; have hg : wr.grownBy w26 (some go22) := (by rw [hw]; exact HP25.2); have hp_ : Kd.R (Kd.int .u8) 5 w26 w.heap.size (fun _ => True) (.slice (some ⟨go22, 0, none⟩) x6_2.length co12) y105 := (by rw [hw, Ny105.out]; exact HP25.1); clear HP25; have n0_ := aA (hp_); have n1_ := aA ((by rw [hw]; exact below_set (HB.out) GB22.out : Below w.heap.size w w26)); clear HO_6 HB; have HO_6 := n0_; have HB := n1_; clear n0_ n1_ hg hw hp_; have p106 : 0 ≤ (x31_2 : Int) := of_decide_eq_true (by first | (with_reducible assumption) | assumption); have q106 : x31_2 < (y105.length : Int) := (by have h_ : (x31_2 : Int) < ((x6_2.length : Int) : Int) := of_decide_eq_true (by first | (with_reducible assumption) | assumption); first | (have e_ := (Kd.R_reads' HO_6.out).1; omega) | simpa only [Ny105.out, List.length_set] using h_); have ql106 : ((x31_2 : Int) < ((x6_2.length : Int) : Int)) = True := eq_true (of_decide_eq_true (by first | (with_reducible assumption) | assumption)); obtain ⟨ad106, e106, hx106_0⟩ := Kd.at_int (Kd.R_reads' HO_6.out).2.2 x31_2 p106 q106; obtain rfl : (⟨go22, 0, none⟩ : Addr) = ad106 := (by injection e106); (first | simp only [add_plain] at hx106_0 | simp only [add_at] at hx106_0 | simp only [Addr.add, Nat.zero_add] at hx106_0 | skip); replace p106 := eq_true p106; replace q106 := eq_true q106))
         (try simp only [← hl6_2]); go_roundg k2
         case measure => have := HJ2.out; have := HK2.out; omega
         case rel => exact ⟨(y105), (wrap64 (x31_2 + 1)), (by first | rfl | (simp; done) | (simp [*]; done)), H', ⟨by have := HJ2.out; have := HK2.out; omega⟩, ⟨by (try simp only [hl6_2]); (with_reducible repeat (first | apply Kd.R_alloc | apply Kd.R_drewN | apply Kd.R_drew)); exact HO_6.out⟩, ⟨by repeat (first | (with_reducible first | exact HB.out | apply below_alloc | apply pw_below_drewN | apply below_drew1) | exact HB.out)⟩⟩
        ·rw [if_neg c24] at H; have c24b0 : ((rd y105 x31_2) == 0) = false := beq_eq_false_iff_ne.mpr c24; have c24b1 : ((rd y105 x31_2) != 0) = true := bne_iff_ne.mpr c24; simp only [Option.some.injEq, Prod.mk.injEq] at H; obtain ⟨rfl, rfl⟩ := H; have p104 : 0 ≤ ((ji14) : Int) := of_decide_eq_true (by first | (with_reducible assumption) | assumption); have q104 : (ji14) < (l0.length : Int) := of_decide_eq_true (by first | (with_reducible assumption) | assumption); obtain ⟨ad104, e104, hx104_0⟩ := Kd.at_int HR0.out (ji14) p104 q104; cases e104
         replace hx104_0 := (HB.out.cell (World.block_lt_of_cell? w _ hx104_0)).trans hx104_0; replace p104 := eq_true p104; replace q104 := eq_true q104; have p22 : 0 ≤ (x31_2 : Int) := of_decide_eq_true (by first | (with_reducible assumption) | assumption); have q22 : (x31_2 : Int) < ((x6_2.length : Int) : Int) := of_decide_eq_true (by first | (with_reducible assumption) | assumption); obtain ⟨go22, co22, eo22, gb22, gl22, cl22, HG22⟩ := Kd.R_form HO_6.out (by omega); (first | cases eo22 | (injection eo22 with ea_ en_ ec_; (first | subst ea_ | (injection ea_ with ea_; subst ea_)); subst ec_; clear en_))
         have GB22 := aA gb22; have GG22 := aA HG22; clear gb22 gl22 HG22; obtain ⟨hx22_0, hf22_0⟩ := Kd.R_celln 0 HO_6.out (x31_2 : Int) p22 q22; replace p22 := eq_true p22; replace q22 := eq_true q22; have HP27 := Kd.R_putg HO_6.out (x31_2 : Int) ((ji19) % 256); go_wp2_with (first | ((with_reducible refine gate_store (t := 5) (p := 46) rfl ?_); refine store_event (t := 5) (p := 46) (v := ?vo_w28) (w1 := (wr.setCell ⟨go22, (x31_2 : Int).toNat, none⟩ (.int .u8 ((ji19) % 256)))) ?hg ?ho ?hn ?hr ?_; (case ho => rfl); (case hg => rfl); (case hn => rfl); (case hr => first | (go_simp; done) | (go_simp; rfl)); intro w28 hw; have hg : wr.grownBy w28 (some go22) := (by rw [hw]; exact HP27.2); have hp_ : Kd.R (Kd.int .u8) 5 w28 w.heap.size (fun _ => True) (.slice (some ⟨go22, 0, none⟩) x6_2.length co12) y105 := (by rw [hw, Ny105.out]; exact HP27.1); clear HP27; have n0_ := aA (hp_); have n1_ := aA ((by rw [hw]; exact below_set (HB.out) GB22.out : Below w.heap.size w w28)); clear HO_6 HB; have HO_6 := n0_; have HB := n1_; clear n0_ n1_ hg hw hp_; have p106 : 0 ≤ (x31_2 : Int) := of_decide_eq_true (by first | (with_reducible assumption) | assumption); have q106 : x31_2 < (y105.length : Int) := (by have h_ : (x31_2 : Int) < ((x6_2.length : Int) : Int) := of_decide_eq_true (by first | (with_reducible assumption) | assumption); first | (have e_ := (Kd.R_reads' HO_6.out).1; omega) | simpa only [Ny105.out, List.length_set] using h_); have ql106 : ((x31_2 : Int) < ((x6_2.length : Int) : Int)) = True := eq_true (of_decide_eq_true (by first | (with_reducible assumption) | assumption)); obtain ⟨ad106, e106, hx106_0⟩ := Kd.at_int (Kd.R_reads' HO_6.out).2.2 x31_2 p106 q106; obtain rfl : (⟨go22, 0, none⟩ : Addr) = ad106 := (by injection e106); (first | simp only [add_plain] at hx106_0 | simp only [add_at] at hx106_0 | simp only [Addr.add, Nat.zero_add] at hx106_0 | skip); replace p106 := eq_true p106; replace q106 := eq_true q106))
         go_ret2
         exact ⟨by first | rfl | (simp [errW_none, errW_some] <;> rfl) | (simp only [← hji7, ← hji14, ← hji17, ← hji19]; first | rfl | (simp [errW_none, errW_some] <;> rfl)) | (simp [*, errW_none, errW_some] <;> rfl), by repeat (first | (with_reducible first | exact HB.out | apply below_alloc | apply pw_below_drewN | apply below_drew1) | exact HB.out)⟩
       ·rw [if_neg c23] at H; have c23b0 : decide (a1 ≤ x31_2) = false := decide_eq_false c23; clear c23; have H' := aA H; clear H; have p104 : 0 ≤ ((ji14) : Int) := of_decide_eq_true (by first | (with_reducible assumption) | assumption); have q104 : (ji14) < (l0.length : Int) := of_decide_eq_true (by first | (with_reducible assumption) | assumption); obtain ⟨ad104, e104, hx104_0⟩ := Kd.at_int HR0.out (ji14) p104 q104; cases e104
        replace hx104_0 := (HB.out.cell (World.block_lt_of_cell? w _ hx104_0)).trans hx104_0; replace p104 := eq_true p104; replace q104 := eq_true q104; have p22 : 0 ≤ (x31_2 : Int) := of_decide_eq_true (by first | (with_reducible assumption) | assumption); have q22 : (x31_2 : Int) < ((x6_2.length : Int) : Int) := of_decide_eq_true (by first | (with_reducible assumption) | assumption); obtain ⟨go22, co22, eo22, gb22, gl22, cl22, HG22⟩ := Kd.R_form HO_6.out (by omega); (first | cases eo22 | (injection eo22 with ea_ en_ ec_; (first | subst ea_ | (injection ea_ with ea_; subst ea_)); subst ec_; clear en_))
        have GB22 := aA gb22; have GG22 := aA HG22; clear gb22 gl22 HG22; obtain ⟨hx22_0, hf22_0⟩ := Kd.R_celln 0 HO_6.out (x31_2 : Int) p22 q22; replace p22 := eq_true p22; replace q22 := eq_true q22; have HP29 := Kd.R_putg HO_6.out (x31_2 : Int) ((ji19) % 256); go_wp2_with (first | ((with_reducible refine gate_store (t := 5) (p := 46) rfl ?_); refine store_event (t := 5) (p := 46) (v := ?vo_w30) (w1 := (wr.setCell ⟨go22, (x31_2 : Int).toNat, none⟩ (.int .u8 ((ji19) % 256)))) ?hg ?ho ?hn ?hr ?_; (case ho => rfl); (case hg => rfl); (case hn => rfl); (case hr => first | (go_simp; done) | (go_simp; rfl)); intro w30 hw; have hg : wr.grownBy w30 (some go22) := (by rw [hw]; exact HP29.2); have hp_ : Kd.R (Kd.int .u8) 5 w30 w.heap.size (fun _ => True) (.slice (some ⟨go22, 0, none⟩) x6_2.length co12) y105 := (by rw [hw, Ny105.out]; exact HP29.1); clear HP29; have n0_ := aA (hp_); have n1_ := aA ((by rw [hw]; exact below_set (HB.out) GB22.out : Below w.heap.size w w30)); clear HO_6 HB; have HO_6 := n0_; have HB := n1_; clear n0_ n1_ hg hw hp_))
        (try simp only [← hl6_2]); go_roundg k2
        case measure => have := HJ2.out; have := HK2.out; omega
        case rel => exact ⟨(y105), (wrap64 (x31_2 + 1)), (by first | rfl | (simp; done) | (simp [*]; done)), H', ⟨by have := HJ2.out; have := HK2.out; omega⟩, ⟨by (try simp only [hl6_2]); (with_reducible repeat (first | apply Kd.R_alloc | apply Kd.R_drewN | apply Kd.R_drew)); exact HO_6.out⟩, ⟨by repeat (first | (with_reducible first | exact HB.out | apply below_alloc | apply pw_below_drewN | apply below_drew1) | exact HB.out)⟩⟩
      ·rw [if_neg c13] at H; have c13b0 : decide (x31_2 < (y101.length : Int)) = false := decide_eq_false c13; (try simp only [hl6_2] at c13b0); clear c13; by_cases c31 : 0 ≤ a1
       rotate_left
       ·rw [if_neg c31] at H; exact absurd H (by simp)
       rw [if_pos c31] at H; have c31b0 := eq_true c31; have c31b1 : decide (0 ≤ a1) = true := decide_eq_true c31; clear c31; by_cases c32 : a1 ≤ (x6_2.length : Int)
       rotate_left
       ·rw [if_neg c32] at H; exact absurd H (by simp)
       rw [if_pos c32] at H; have c32b0 := eq_true c32; have c32b1 : decide (a1 ≤ (x6_2.length : Int)) = true := decide_eq_true c32; clear c32; obtain ⟨y107, hy107⟩ : ∃ y_ : List Int, y_ = (x6_2.take (a1 : Int).toNat) := ⟨_, rfl⟩; replace H : (some (strOfNums y107, true)) = some (r1, r2) := by first | (rw [hy107]; with_reducible exact H) | (have H2_ := (Option.bind_some _ _).symm.trans H; rw [hy107]; with_reducible exact H2_) | (have H2_ := (Option.bind_some _ _).symm.trans H; with_reducible exact H2_) | with_reducible exact H | (rw [hy107]; exact H) | exact H
       have Ny107 := aA hy107; clear hy107; simp only [Option.some.injEq, Prod.mk.injEq] at H; obtain ⟨rfl, rfl⟩ := H; have q33 : (a1 : Int) ≤ ((x6_2.length : Int) : Int) := of_decide_eq_true (by first | (with_reducible assumption) | assumption); obtain ⟨i033, hi033, _, hsz33, _⟩ := info_parts info5; have hroom33 : x6_2.length ≤ co12 := (Kd.R_reads' HO_6.out).2.1; have hC33 : Kd.C (Kd.int .u8) _ Ao12 x6_2.length x6_2 := (Kd.R_reads' HO_6.out).2.2; have hcut33 := cut_to (P := Try.prog) 69 5 .i64 Try.underlying69 hi033 Ao12 x6_2.length co12 a1 (of_decide_eq_true (by first | (with_reducible assumption) | assumption)) q33 hroom33; have hr33 := Kd.C_take (m := (a1 : Int).toNat) hC33 (by omega); have hy33 : y107.length = (a1 : Int).toNat := (by rw [Ny107.out, List.length_take]; omega); rw [← Ny107.out] at hr33; rw [← hy33] at hcut33; have HR110 := aA hr33; have HC110 := aA (show y107.length ≤ co12 from by omega); clear hr33 hC33 hroom33 hi033 hsz33; have KY33 := aA hy33; clear hy33; have KL33 := aA (show (a1 : Int).toNat ≤ x6_2.length from by omega); replace q33 := eq_true q33; have hcv34 := Kd.C_string (P := Try.prog) (A := Ao12) (c := co12) Try.underlying69 Try.underlying5 Try.underlying9 (by repeat (first | (with_reducible exact HR110.out) | (with_reducible refine Kd.C_alloc ?_ _) | (with_reducible refine Kd.C_drewN ?_ _) | (with_reducible refine Kd.C_drew ?_) | exact HR110.out)); go_wp2; go_ret2
       exact ⟨by first | rfl | (simp [errW_none, errW_some] <;> rfl) | (simp only [← hji7]; first | rfl | (simp [errW_none, errW_some] <;> rfl)) | (simp [*, errW_none, errW_some] <;> rfl), by repeat (first | (with_reducible first | exact HB.out | apply below_alloc | apply pw_below_drewN | apply below_drew1) | exact HB.out)⟩
/-! ### treillagelaw11_bounded: function 9 -/
def treillagelaw11_bounded.l0 : Nat → Int → Int → Int → ByteArray → ByteArray → List ByteArray → Int → Int → Option (Bool)
 | 0, _, _, _, _, _, _, _, _ => none
 | k + 1, x3, x112000, x112001, x112002, x112003, x112004, x112005, x112006 => if x3 < (x112004.length : Int) then (if 0 ≤ x3 then (if ((rdOf ByteArray.empty x112004 x3).size : Int) > 100 then (some false) else (treillagelaw11_bounded.l0 k (wrap64 (x3 + 1)) x112000 x112001 x112002 x112003 x112004 x112005 x112006)) else (none)) else (if (x112002.size : Int) ≤ 100 then (if (x112003.size : Int) ≤ 100 then (some (decide ((x112004.length : Int) ≤ 30))) else (some false)) else (some false))
def treillagelaw11_bounded.f (k : Nat) (a0_0 : Int) (a0_1 : Int) (a0_2 : ByteArray) (a0_3 : ByteArray) (l0_4 : List ByteArray) (a0_5 : Int) (a0_6 : Int) : Option (Bool) := treillagelaw11_bounded.l0 k 0 a0_0 a0_1 a0_2 a0_3 l0_4 a0_5 a0_6
theorem treillagelaw11_bounded.mono_l : ∀ k, (∀ y0 y1 y2 y3 y4 y5 y6 y7, LeO (treillagelaw11_bounded.l0 k y0 y1 y2 y3 y4 y5 y6 y7) (treillagelaw11_bounded.l0 (k + 1) y0 y1 y2 y3 y4 y5 y6 y7))
 | 0 => fun _ _ _ _ _ _ _ _ r h => by simp [treillagelaw11_bounded.l0] at h
 | k + 1 => by
  have ih0 := treillagelaw11_bounded.mono_l k
  ·intro y0 y1 y2 y3 y4 y5 y6 y7
   unfold treillagelaw11_bounded.l0; repeat' first
   | (with_reducible exact ih0 _ _ _ _ _ _ _ _)
   | (with_reducible exact LeO.refl _)
   | (with_reducible exact LeO.none _)
   | (with_reducible refine LeO.ite ?_ ?_)
   | (with_reducible refine LeO.bind ?_ (fun _ => ?_))
   | exact ih0 _ _ _ _ _ _ _ _
   | exact LeO.none _
   | refine LeO.ite ?_ ?_
   | refine LeO.bind ?_ (fun _ => ?_)
theorem treillagelaw11_bounded.mono : ∀ a0 a1 a2 a3 a4 a5 a6 k, LeO (treillagelaw11_bounded.f k a0 a1 a2 a3 a4 a5 a6) (treillagelaw11_bounded.f (k + 1) a0 a1 a2 a3 a4 a5 a6) := by
 intro a0 a1 a2 a3 a4 a5 a6 k
 have ih0 := treillagelaw11_bounded.mono_l k; unfold treillagelaw11_bounded.f
 repeat' first
   | (with_reducible exact ih0 _ _ _ _ _ _ _ _)
   | (with_reducible exact LeO.refl _)
   | (with_reducible exact LeO.none _)
   | (with_reducible refine LeO.ite ?_ ?_)
   | (with_reducible refine LeO.bind ?_ (fun _ => ?_))
   | exact ih0 _ _ _ _ _ _ _ _
   | exact LeO.none _
   | refine LeO.ite ?_ ?_
   | refine LeO.bind ?_ (fun _ => ?_)
set_option maxHeartbeats 8000000 in
set_option maxRecDepth 100000 in
theorem treillagelaw11_bounded.calls (k : Nat) (a0_0 : Int) (a0_1 : Int) (a0_2 : ByteArray) (a0_3 : ByteArray) (A0_4 : Option Addr) (c0_4 : Nat) (l0_4 : List ByteArray) (a0_5 : Int) (a0_6 : Int) (r : Bool) (w : World) (hr0_4 : Kd.C Kd.string w A0_4 l0_4.length l0_4) (hc0_4 : l0_4.length ≤ c0_4) (h : treillagelaw11_bounded.f k a0_0 a0_1 a0_2 a0_3 l0_4 a0_5 a0_6 = some r) :
  Calls Try.prog 9 #[.agg #[.int .i64 a0_0, .int .i64 a0_1, .string a0_2, .string a0_3, .slice A0_4 l0_4.length c0_4, .int .u64 a0_5, .int .i64 a0_6]] w fun e w' => e = .returned (.bool r) ∧ Below w.heap.size w w' := by
 have hu27 := Try.underlying27; have HR0_4 := aA hr0_4; have HC0_4 := aA hc0_4; clear hr0_4 hc0_4; have HB := aA (Below.refl w.heap.size w); have H : (treillagelaw11_bounded.l0 k 0 a0_0 a0_1 a0_2 a0_3 l0_4 a0_5 a0_6) = some r := h; clear h; have H' := aA H; clear H; go_enter Try.func9, Try.ntmps9; go_wp2_with (first | ((with_reducible refine gate_dst (N := 1) rfl ?_); (try (refine gate_guard (by rfl) ?_; dsimp only)); refine box_event ?hg (N := 1) ?hd (cs := #[.int .i64 a0_0, .int .i64 a0_1, .string a0_2, .string a0_3, .slice A0_4 l0_4.length c0_4, .int .u64 a0_5, .int .i64 a0_6]) (t := 27) ?hr ?_; (case hd => rfl); (case hg => rfl); (case hr => first | (go_simp; done) | (go_simp; rfl)); intro gb111 hg w2 hbox hb; have n0_ := aA (below_step (blw HB.out) hb); have n1_ := aA (hbox); have n2_ := aA ((by rw [hg]; exact (below_size (blw HB.out)) : w.heap.size ≤ gb111)); have n3_ := aA ((by rw [hg]; exact (below_size (blw HB.out)) : w.heap.size ≤ gb111)); clear HB; have HB := n0_; have BK111 := n1_; have GW111 := n2_; have GE111 := n3_; clear n0_ n1_ n2_ n3_ hb hbox hg))
 go_loopg [3] k (fun kq v3 w' => ∃ (x3_1 : Int), v3 = .int .i64 x3_1 ∧ Aside0 (treillagelaw11_bounded.l0 kq x3_1 a0_0 a0_1 a0_2 a0_3 l0_4 a0_5 a0_6 = some r) ∧ Aside0 (kq ≤ k) ∧ Aside0 (w'.heap[gb111]? = some (.cells #[.int .i64 a0_0, .int .i64 a0_1, .string a0_2, .string a0_3, (.slice A0_4 l0_4.length c0_4), .int .u64 a0_5, .int .i64 a0_6] 27 (0, 0))) ∧ Aside0 (Below w.heap.size w w'))
 case atStart => exact ⟨(0), (by first | rfl | (simp; done) | (simp [*]; done)), H', ⟨Nat.le_refl _⟩, ⟨by (with_reducible repeat (first | refine blk_drewN ?_ _ | refine blk_drew ?_ | refine blk_alloc ?_ _)); exact BK111.out⟩, ⟨by repeat (first | (with_reducible first | exact HB.out | apply below_alloc | apply pw_below_drewN | apply below_drew1 | refine below_set ?_ GE111.out) | exact HB.out)⟩⟩
 case round =>
  clear H'; try clear p2
  obtain ⟨x3_1, rfl, HA, HK1, BK111, HB⟩ := hrel; cases gk with
  | zero => exact absurd HA.out (by simp [treillagelaw11_bounded.l0])
  | succ k1 =>
   have H := HA.out; clear HA; simp only [treillagelaw11_bounded.l0] at H; by_cases c3 : x3_1 < (l0_4.length : Int)
   ·rw [if_pos c3] at H; have c3b0 : decide (x3_1 < (l0_4.length : Int)) = true := decide_eq_true c3; clear c3; by_cases c4 : 0 ≤ x3_1
    rotate_left
    ·rw [if_neg c4] at H; exact absurd H (by simp)
    rw [if_pos c4] at H; have c4b0 : decide (0 ≤ x3_1) = true := decide_eq_true c4; clear c4; by_cases c5 : ((rdOf ByteArray.empty l0_4 x3_1).size : Int) > 100
    ·rw [if_pos c5] at H; have c5b0 : decide (100 < ((rdOf ByteArray.empty l0_4 x3_1).size : Int)) = true := decide_eq_true c5; have c5b1 : decide (100 < (rdOf ByteArray.empty l0_4 x3_1).size) = true := decide_eq_true (by omega); clear c5; obtain rfl := Option.some.inj H; have hcz6_0 : wr.cell? ⟨gb111, 0, none⟩ = some (.int .i64 a0_0) := (blk_cell BK111.out 0).trans rfl; have hcz6_1 : wr.cell? ⟨gb111, 1, none⟩ = some (.int .i64 a0_1) := (blk_cell BK111.out 1).trans rfl; have hcz6_2 : wr.cell? ⟨gb111, 2, none⟩ = some (.string a0_2) := (blk_cell BK111.out 2).trans rfl; have hcz6_3 : wr.cell? ⟨gb111, 3, none⟩ = some (.string a0_3) := (blk_cell BK111.out 3).trans rfl; have hcz6_4 : wr.cell? ⟨gb111, 4, none⟩ = some (.slice A0_4 l0_4.length c0_4) := (blk_cell BK111.out 4).trans rfl; have hcz6_5 : wr.cell? ⟨gb111, 5, none⟩ = some (.int .u64 a0_5) := (blk_cell BK111.out 5).trans rfl; have hcz6_6 : wr.cell? ⟨gb111, 6, none⟩ = some (.int .i64 a0_6) := (blk_cell BK111.out 6).trans rfl; have hfz6_0 := blk_frozen BK111.out 0; have hfz6_1 := blk_frozen BK111.out 1; have hfz6_2 := blk_frozen BK111.out 2; have hfz6_3 := blk_frozen BK111.out 3; have hfz6_4 := blk_frozen BK111.out 4; have hfz6_5 := blk_frozen BK111.out 5; have hfz6_6 := blk_frozen BK111.out 6; have p112 : 0 ≤ (x3_1 : Int) := of_decide_eq_true (by first | (with_reducible assumption) | assumption); have q112 : x3_1 < (l0_4.length : Int) := of_decide_eq_true (by first | (with_reducible assumption) | assumption); obtain ⟨ad112, e112, hx112_0⟩ := Kd.at_string HR0_4.out x3_1 p112 q112; cases e112
     replace hx112_0 := (HB.out.cell (World.block_lt_of_cell? w _ hx112_0)).trans hx112_0; replace p112 := eq_true p112; replace q112 := eq_true q112; go_wp2; go_ret
     exact ⟨by first | rfl | (simp [errW_none, errW_some] <;> rfl) | (simp [*, errW_none, errW_some] <;> rfl), by repeat (first | (with_reducible first | exact HB.out | apply below_alloc | apply pw_below_drewN | apply below_drew1 | refine below_set ?_ GE111.out) | exact HB.out)⟩
    ·rw [if_neg c5] at H; have c5b0 : decide (100 < ((rdOf ByteArray.empty l0_4 x3_1).size : Int)) = false := decide_eq_false c5; have c5b1 : decide (100 < (rdOf ByteArray.empty l0_4 x3_1).size) = false := decide_eq_false (by omega); clear c5; have H' := aA H; clear H; have hcz7_0 : wr.cell? ⟨gb111, 0, none⟩ = some (.int .i64 a0_0) := (blk_cell BK111.out 0).trans rfl; have hcz7_1 : wr.cell? ⟨gb111, 1, none⟩ = some (.int .i64 a0_1) := (blk_cell BK111.out 1).trans rfl; have hcz7_2 : wr.cell? ⟨gb111, 2, none⟩ = some (.string a0_2) := (blk_cell BK111.out 2).trans rfl; have hcz7_3 : wr.cell? ⟨gb111, 3, none⟩ = some (.string a0_3) := (blk_cell BK111.out 3).trans rfl; have hcz7_4 : wr.cell? ⟨gb111, 4, none⟩ = some (.slice A0_4 l0_4.length c0_4) := (blk_cell BK111.out 4).trans rfl; have hcz7_5 : wr.cell? ⟨gb111, 5, none⟩ = some (.int .u64 a0_5) := (blk_cell BK111.out 5).trans rfl; have hcz7_6 : wr.cell? ⟨gb111, 6, none⟩ = some (.int .i64 a0_6) := (blk_cell BK111.out 6).trans rfl; have hfz7_0 := blk_frozen BK111.out 0; have hfz7_1 := blk_frozen BK111.out 1; have hfz7_2 := blk_frozen BK111.out 2; have hfz7_3 := blk_frozen BK111.out 3; have hfz7_4 := blk_frozen BK111.out 4; have hfz7_5 := blk_frozen BK111.out 5; have hfz7_6 := blk_frozen BK111.out 6; have p112 : 0 ≤ (x3_1 : Int) := of_decide_eq_true (by first | (with_reducible assumption) | assumption); have q112 : x3_1 < (l0_4.length : Int) := of_decide_eq_true (by first | (with_reducible assumption) | assumption); obtain ⟨ad112, e112, hx112_0⟩ := Kd.at_string HR0_4.out x3_1 p112 q112; cases e112
     replace hx112_0 := (HB.out.cell (World.block_lt_of_cell? w _ hx112_0)).trans hx112_0; replace p112 := eq_true p112; replace q112 := eq_true q112; go_wp2; go_roundg k1
     case measure => have := HK1.out; omega
     case rel => exact ⟨(wrap64 (x3_1 + 1)), (by first | rfl | (simp; done) | (simp [*]; done)), H', ⟨by have := HK1.out; omega⟩, ⟨by (with_reducible repeat (first | refine blk_drewN ?_ _ | refine blk_drew ?_ | refine blk_alloc ?_ _)); exact BK111.out⟩, ⟨by repeat (first | (with_reducible first | exact HB.out | apply below_alloc | apply pw_below_drewN | apply below_drew1 | refine below_set ?_ GE111.out) | exact HB.out)⟩⟩
   ·rw [if_neg c3] at H; have c3b0 : decide (x3_1 < (l0_4.length : Int)) = false := decide_eq_false c3; clear c3; by_cases c8 : (a0_2.size : Int) ≤ 100
    ·rw [if_pos c8] at H; have c8b0 : decide ((a0_2.size : Int) ≤ 100) = true := decide_eq_true c8; have c8b1 : decide (a0_2.size ≤ 100) = true := decide_eq_true (by omega); clear c8; by_cases c9 : (a0_3.size : Int) ≤ 100
     ·rw [if_pos c9] at H; have c9b0 : decide ((a0_3.size : Int) ≤ 100) = true := decide_eq_true c9; have c9b1 : decide (a0_3.size ≤ 100) = true := decide_eq_true (by omega); clear c9; obtain rfl := Option.some.inj H; have hcz10_0 : wr.cell? ⟨gb111, 0, none⟩ = some (.int .i64 a0_0) := (blk_cell BK111.out 0).trans rfl; have hcz10_1 : wr.cell? ⟨gb111, 1, none⟩ = some (.int .i64 a0_1) := (blk_cell BK111.out 1).trans rfl; have hcz10_2 : wr.cell? ⟨gb111, 2, none⟩ = some (.string a0_2) := (blk_cell BK111.out 2).trans rfl; have hcz10_3 : wr.cell? ⟨gb111, 3, none⟩ = some (.string a0_3) := (blk_cell BK111.out 3).trans rfl; have hcz10_4 : wr.cell? ⟨gb111, 4, none⟩ = some (.slice A0_4 l0_4.length c0_4) := (blk_cell BK111.out 4).trans rfl; have hcz10_5 : wr.cell? ⟨gb111, 5, none⟩ = some (.int .u64 a0_5) := (blk_cell BK111.out 5).trans rfl; have hcz10_6 : wr.cell? ⟨gb111, 6, none⟩ = some (.int .i64 a0_6) := (blk_cell BK111.out 6).trans rfl; have hfz10_0 := blk_frozen BK111.out 0; have hfz10_1 := blk_frozen BK111.out 1; have hfz10_2 := blk_frozen BK111.out 2; have hfz10_3 := blk_frozen BK111.out 3; have hfz10_4 := blk_frozen BK111.out 4; have hfz10_5 := blk_frozen BK111.out 5; have hfz10_6 := blk_frozen BK111.out 6; go_wp2; go_ret
      exact ⟨by first | rfl | (simp [errW_none, errW_some] <;> rfl) | (simp [*, errW_none, errW_some] <;> rfl), by repeat (first | (with_reducible first | exact HB.out | apply below_alloc | apply pw_below_drewN | apply below_drew1 | refine below_set ?_ GE111.out) | exact HB.out)⟩
     ·rw [if_neg c9] at H; have c9b0 : decide ((a0_3.size : Int) ≤ 100) = false := decide_eq_false c9; have c9b1 : decide (a0_3.size ≤ 100) = false := decide_eq_false (by omega); clear c9; obtain rfl := Option.some.inj H; have hcz11_0 : wr.cell? ⟨gb111, 0, none⟩ = some (.int .i64 a0_0) := (blk_cell BK111.out 0).trans rfl; have hcz11_1 : wr.cell? ⟨gb111, 1, none⟩ = some (.int .i64 a0_1) := (blk_cell BK111.out 1).trans rfl; have hcz11_2 : wr.cell? ⟨gb111, 2, none⟩ = some (.string a0_2) := (blk_cell BK111.out 2).trans rfl; have hcz11_3 : wr.cell? ⟨gb111, 3, none⟩ = some (.string a0_3) := (blk_cell BK111.out 3).trans rfl; have hcz11_4 : wr.cell? ⟨gb111, 4, none⟩ = some (.slice A0_4 l0_4.length c0_4) := (blk_cell BK111.out 4).trans rfl; have hcz11_5 : wr.cell? ⟨gb111, 5, none⟩ = some (.int .u64 a0_5) := (blk_cell BK111.out 5).trans rfl; have hcz11_6 : wr.cell? ⟨gb111, 6, none⟩ = some (.int .i64 a0_6) := (blk_cell BK111.out 6).trans rfl; have hfz11_0 := blk_frozen BK111.out 0; have hfz11_1 := blk_frozen BK111.out 1; have hfz11_2 := blk_frozen BK111.out 2; have hfz11_3 := blk_frozen BK111.out 3; have hfz11_4 := blk_frozen BK111.out 4; have hfz11_5 := blk_frozen BK111.out 5; have hfz11_6 := blk_frozen BK111.out 6; go_wp2; go_ret
      exact ⟨by first | rfl | (simp [errW_none, errW_some] <;> rfl) | (simp [*, errW_none, errW_some] <;> rfl), by repeat (first | (with_reducible first | exact HB.out | apply below_alloc | apply pw_below_drewN | apply below_drew1 | refine below_set ?_ GE111.out) | exact HB.out)⟩
    ·rw [if_neg c8] at H; have c8b0 : decide ((a0_2.size : Int) ≤ 100) = false := decide_eq_false c8; have c8b1 : decide (a0_2.size ≤ 100) = false := decide_eq_false (by omega); clear c8; obtain rfl := Option.some.inj H; have hcz12_0 : wr.cell? ⟨gb111, 0, none⟩ = some (.int .i64 a0_0) := (blk_cell BK111.out 0).trans rfl; have hcz12_1 : wr.cell? ⟨gb111, 1, none⟩ = some (.int .i64 a0_1) := (blk_cell BK111.out 1).trans rfl; have hcz12_2 : wr.cell? ⟨gb111, 2, none⟩ = some (.string a0_2) := (blk_cell BK111.out 2).trans rfl; have hcz12_3 : wr.cell? ⟨gb111, 3, none⟩ = some (.string a0_3) := (blk_cell BK111.out 3).trans rfl; have hcz12_4 : wr.cell? ⟨gb111, 4, none⟩ = some (.slice A0_4 l0_4.length c0_4) := (blk_cell BK111.out 4).trans rfl; have hcz12_5 : wr.cell? ⟨gb111, 5, none⟩ = some (.int .u64 a0_5) := (blk_cell BK111.out 5).trans rfl; have hcz12_6 : wr.cell? ⟨gb111, 6, none⟩ = some (.int .i64 a0_6) := (blk_cell BK111.out 6).trans rfl; have hfz12_0 := blk_frozen BK111.out 0; have hfz12_1 := blk_frozen BK111.out 1; have hfz12_2 := blk_frozen BK111.out 2; have hfz12_3 := blk_frozen BK111.out 3; have hfz12_4 := blk_frozen BK111.out 4; have hfz12_5 := blk_frozen BK111.out 5; have hfz12_6 := blk_frozen BK111.out 6; go_wp2; go_ret
     exact ⟨by first | rfl | (simp [errW_none, errW_some] <;> rfl) | (simp [*, errW_none, errW_some] <;> rfl), by repeat (first | (with_reducible first | exact HB.out | apply below_alloc | apply pw_below_drewN | apply below_drew1 | refine below_set ?_ GE111.out) | exact HB.out)⟩

-- NOT PRINTED: function 38 (slices_IndexFunc_string_string)

-- NOT PRINTED: function 35 (slices_ContainsFunc_string_string)

/-- Is a text longer than it may be? -/
def textLong (s : ByteArray) : Bool := decide ((60 : Int) < (s.size : Int))
theorem rec_long_walk (s : ByteArray) (w : World) : Calls Try.prog 34 #[.string s] w fun e w' => e = .returned (.bool (textLong s)) ∧ w' = w := by
 go_enter Try.func34, Try.ntmps34; go_wp2; go_ret
 exact ⟨rfl, rfl⟩
theorem any_take_succ {l : List ByteArray} {k : Nat} (h : k < l.length) : (l.take (k + 1)).any textLong = ((l.take k).any textLong || textLong (rdOf ByteArray.empty l k)) := by
 unfold rdOf; rw [List.take_add_one, List.any_append, List.getElem?_eq_getElem h, Int.toNat_natCast, List.getD_eq_getElem?_getD, List.getElem?_eq_getElem h]; simp
theorem rdOf_mem {l : List ByteArray} {k : Nat} (h : k < l.length) : rdOf ByteArray.empty l k ∈ l := by
 unfold rdOf; rw [Int.toNat_natCast, List.getD_eq_getElem?_getD, List.getElem?_eq_getElem h]; exact List.getElem_mem h
theorem rec_index_walk (A : Option Addr) (c : Nat) (l : List ByteArray) (w : World) (hr : Kd.C Kd.string w A l.length l) :
  Calls Try.prog 38 #[.slice A l.length c, .func (.func 34) #[] #[]] w fun e w' => ∃ i : Int, e = .returned (.int .i64 i) ∧ decide (0 ≤ i) = l.any textLong ∧ w' = w := by
 have HR := aA hr; have hm := HR.out.2.1; clear hr; go_enter Try.func38, Try.ntmps38; go_wp2; go_loopw [8] (fun v wr => ∃ k : Nat, k ≤ l.length ∧ v = .int .i64 k ∧ (l.take k).any textLong = false ∧ wr = w) (fun v _ => l.length - (intOf v).toNat)
 case atStart => exact ⟨0, Nat.zero_le _, rfl, rfl, rfl⟩
 case round =>
  obtain ⟨k, hk, rfl, hall, rfl⟩ := hrel; have Hall := aA hall; clear hall; by_cases hlt : k < l.length
  ·obtain ⟨ad, rfl, hx⟩ := Kd.at_string HR.out (k : Int) (by omega) (by omega); rw [Int.toNat_natCast] at hx; obtain ⟨x, hxe⟩ : ∃ x, x = rdOf ByteArray.empty l k := ⟨_, rfl⟩; rw [← hxe] at hx; have Hx := aA hxe; clear hxe; have hlt' : (k : Int) < (l.length : Int) := by omega
   by_cases hp : textLong x = true
   ·go_wp2_with (go_at_call 34; refine (rec_long_walk x _).mono ?_; rintro e w' ⟨rfl, rfl⟩)
    go_ret
    have ha : l.any textLong = true := List.any_eq_true.2 ⟨x, by rw [Hx.out]; exact rdOf_mem hlt, hp⟩; exact ⟨_, rfl, by rw [ha]; exact decide_eq_true (by omega), rfl⟩
   ·have hp2 : textLong x = false := by simpa using hp
    clear hp; go_wp2_with (go_at_call 34; refine (rec_long_walk x _).mono ?_; rintro e w' ⟨rfl, rfl⟩)
    go_roundw
    case rel => exact ⟨k + 1, by omega, by go_num, by rw [any_take_succ hlt, Hall.out, ← Hx.out, hp2]; rfl, (by first | rfl | trivial)⟩
    case measure => simp [intOf]; omega
  ·have hkl : ¬ (k : Int) < (l.length : Int) := by omega
   go_wp2; go_ret
   have ha : l.any textLong = false := by rw [← Hall.out, List.take_of_length_le (by omega)]
   exact ⟨_, rfl, by rw [ha]; exact decide_eq_false (by omega), rfl⟩
theorem rec_contains_walk (A : Option Addr) (c : Nat) (l : List ByteArray) (w : World) (hr : Kd.C Kd.string w A l.length l) :
  Calls Try.prog 35 #[.slice A l.length c, .func (.func 34) #[] #[]] w fun e w' => e = .returned (.bool (l.any textLong)) ∧ w' = w := by
 go_enter Try.func35, Try.ntmps35; go_wp2_with (go_at_call 38; refine (rec_index_walk A c l _ hr).mono ?_; rintro e w' ⟨i, rfl, hi, rfl⟩)
 go_ret
 exact ⟨by rw [← hi]; rfl, rfl⟩
theorem and_one_i64 (n : Nat) (hn : n ≤ 9223372036854775807) : Go.bits .and .i64 (n : Int) 1 = ((n % 2 : Nat) : Int) := by
 show IntKind.i64.wrap ((BitVec.ofInt 64 (n : Int) &&& BitVec.ofInt 64 1).toNat : Int) = _
 rw [BitVec.ofInt_natCast, show BitVec.ofInt 64 1 = BitVec.ofNat 64 1 from rfl, BitVec.toNat_and, BitVec.toNat_ofNat, BitVec.toNat_ofNat, Nat.mod_eq_of_lt (show n < 2 ^ 64 by omega), show (1 : Nat) % 2 ^ 64 = 2 ^ 1 - 1 from rfl, Nat.and_two_pow_sub_one_eq_mod]; rw [IntKind.wrap_i64]; omega
def recMay (k p : Int) (n x : ByteArray) (l : List ByteArray) (z : Int) : Bool :=
 decide (0 ≤ k ∧ k ≤ 3) && decide (-1 ≤ p ∧ p < 60) && decide (n.size ≤ 20) && decide (x.size ≤ 60) && !(l.any textLong) && decide (l.length % 2 = 0) && decide (l.length ≤ 16) && decide (0 ≤ z ∧ z ≤ 200)
def rec_May.f (a0_0 : Int) (a0_1 : Int) (a0_2 : ByteArray) (a0_3 : ByteArray) (l0_4 : List ByteArray) (a0_5 : Int) (a0_6 : Int) : Option Bool := some (recMay a0_0 a0_1 a0_2 a0_3 l0_4 a0_6)
set_option maxHeartbeats 3200000 in
set_option maxRecDepth 100000 in
theorem rec_May.calls (a0_0 : Int) (a0_1 : Int) (a0_2 : ByteArray) (a0_3 : ByteArray) (A0_4 : Option Addr) (c0_4 : Nat) (l0_4 : List ByteArray) (a0_5 : Int) (a0_6 : Int) (r : Bool) (w : World) (hr0_4 : Kd.C Kd.string w A0_4 l0_4.length l0_4) (hc0_4 : l0_4.length ≤ c0_4) (h : rec_May.f a0_0 a0_1 a0_2 a0_3 l0_4 a0_5 a0_6 = some r) :
  Calls Try.prog 16 #[.agg #[.int .i64 a0_0, .int .i64 a0_1, .string a0_2, .string a0_3, .slice A0_4 l0_4.length c0_4, .int .u64 a0_5, .int .i64 a0_6]] w fun e w' => e = .returned (.bool r) ∧ Below w.heap.size w w' := by
 have hu := Try.underlying27; have hu2 := Try.underlying25; have HR := aA hr0_4; have hm := HR.out.2.1; have HM := aA hm; have hr := Option.some.inj h; clear hr0_4 h hm; subst hr; have hb := and_one_i64 l0_4.length HM.out; have HB := Below.refl w.heap.size w; have Hb := aA hb; clear hb; by_cases b1 : a0_0 < 0 ∨ 3 < a0_0 ∨ a0_1 < -1 ∨ 60 ≤ a0_1
 ·have hv : recMay a0_0 a0_1 a0_2 a0_3 l0_4 a0_6 = false := by simp only [recMay, Bool.and_eq_false_iff, decide_eq_false_iff_not]; omega
  rw [hv]; clear hv; have hv := b1; by_cases h1 : a0_0 < 0
  ·clear b1 hv; go_enter Try.func16, Try.ntmps16; go_wp2_with (first | ((with_reducible refine gate_dst (N := 1) rfl ?_); (with_reducible refine gate_ (.box 27 (.tmp 0)) rfl ?_); refine box_event (N := 1) rfl rfl (cs := #[.int .i64 a0_0, .int .i64 a0_1, .string a0_2, .string a0_3, .slice A0_4 l0_4.length c0_4, .int .u64 a0_5, .int .i64 a0_6]) (t := 27) (by first | (go_simp; done) | (go_simp; rfl)) ?_; intro ga hg_ wa_ hba hbl_; have HGa : w.heap.size ≤ ga := (by rw [hg_]; exact Nat.le_trans (by first | exact Nat.le_refl _ | exact HB.size) (Nat.le_refl _)); replace HB := below_step (blw HB) hbl_; clear hg_ hbl_; have hqa_0 : wa_.cell? ⟨ga, 0, none⟩ = some (.int .i64 a0_0) := (blk_cell hba 0).trans rfl; have hqa_1 : wa_.cell? ⟨ga, 1, none⟩ = some (.int .i64 a0_1) := (blk_cell hba 1).trans rfl; have hqa_2 : wa_.cell? ⟨ga, 2, none⟩ = some (.string a0_2) := (blk_cell hba 2).trans rfl; have hqa_3 : wa_.cell? ⟨ga, 3, none⟩ = some (.string a0_3) := (blk_cell hba 3).trans rfl; have hqa_4 : wa_.cell? ⟨ga, 4, none⟩ = some (.slice A0_4 l0_4.length c0_4) := (blk_cell hba 4).trans rfl; have hqa_5 : wa_.cell? ⟨ga, 5, none⟩ = some (.int .u64 a0_5) := (blk_cell hba 5).trans rfl; have hqa_6 : wa_.cell? ⟨ga, 6, none⟩ = some (.int .i64 a0_6) := (blk_cell hba 6).trans rfl) | (go_at_call 34; refine (rec_long_walk _ _).mono ?_; rintro e wl ⟨rfl, rfl⟩) | (go_at_call 35; refine (rec_contains_walk A0_4 c0_4 l0_4 _ (Kd.C_below HR.out HB)).mono ?_; rintro e wl ⟨rfl, rfl⟩))
   go_ret
   exact ⟨rfl, HB⟩
  ·by_cases h2 : 3 < a0_0
   ·clear b1 hv; go_enter Try.func16, Try.ntmps16; go_wp2_with (first | ((with_reducible refine gate_dst (N := 1) rfl ?_); (with_reducible refine gate_ (.box 27 (.tmp 0)) rfl ?_); refine box_event (N := 1) rfl rfl (cs := #[.int .i64 a0_0, .int .i64 a0_1, .string a0_2, .string a0_3, .slice A0_4 l0_4.length c0_4, .int .u64 a0_5, .int .i64 a0_6]) (t := 27) (by first | (go_simp; done) | (go_simp; rfl)) ?_; intro ga hg_ wa_ hba hbl_; have HGa : w.heap.size ≤ ga := (by rw [hg_]; exact Nat.le_trans (by first | exact Nat.le_refl _ | exact HB.size) (Nat.le_refl _)); replace HB := below_step (blw HB) hbl_; clear hg_ hbl_; have hqa_0 : wa_.cell? ⟨ga, 0, none⟩ = some (.int .i64 a0_0) := (blk_cell hba 0).trans rfl; have hqa_1 : wa_.cell? ⟨ga, 1, none⟩ = some (.int .i64 a0_1) := (blk_cell hba 1).trans rfl; have hqa_2 : wa_.cell? ⟨ga, 2, none⟩ = some (.string a0_2) := (blk_cell hba 2).trans rfl; have hqa_3 : wa_.cell? ⟨ga, 3, none⟩ = some (.string a0_3) := (blk_cell hba 3).trans rfl; have hqa_4 : wa_.cell? ⟨ga, 4, none⟩ = some (.slice A0_4 l0_4.length c0_4) := (blk_cell hba 4).trans rfl; have hqa_5 : wa_.cell? ⟨ga, 5, none⟩ = some (.int .u64 a0_5) := (blk_cell hba 5).trans rfl; have hqa_6 : wa_.cell? ⟨ga, 6, none⟩ = some (.int .i64 a0_6) := (blk_cell hba 6).trans rfl) | (go_at_call 34; refine (rec_long_walk _ _).mono ?_; rintro e wl ⟨rfl, rfl⟩) | (go_at_call 35; refine (rec_contains_walk A0_4 c0_4 l0_4 _ (Kd.C_below HR.out HB)).mono ?_; rintro e wl ⟨rfl, rfl⟩))
    go_ret
    exact ⟨rfl, HB⟩
   ·by_cases h3 : a0_1 < -1
    ·clear b1 hv; go_enter Try.func16, Try.ntmps16; go_wp2_with (first | ((with_reducible refine gate_dst (N := 1) rfl ?_); (with_reducible refine gate_ (.box 27 (.tmp 0)) rfl ?_); refine box_event (N := 1) rfl rfl (cs := #[.int .i64 a0_0, .int .i64 a0_1, .string a0_2, .string a0_3, .slice A0_4 l0_4.length c0_4, .int .u64 a0_5, .int .i64 a0_6]) (t := 27) (by first | (go_simp; done) | (go_simp; rfl)) ?_; intro ga hg_ wa_ hba hbl_; have HGa : w.heap.size ≤ ga := (by rw [hg_]; exact Nat.le_trans (by first | exact Nat.le_refl _ | exact HB.size) (Nat.le_refl _)); replace HB := below_step (blw HB) hbl_; clear hg_ hbl_; have hqa_0 : wa_.cell? ⟨ga, 0, none⟩ = some (.int .i64 a0_0) := (blk_cell hba 0).trans rfl; have hqa_1 : wa_.cell? ⟨ga, 1, none⟩ = some (.int .i64 a0_1) := (blk_cell hba 1).trans rfl; have hqa_2 : wa_.cell? ⟨ga, 2, none⟩ = some (.string a0_2) := (blk_cell hba 2).trans rfl; have hqa_3 : wa_.cell? ⟨ga, 3, none⟩ = some (.string a0_3) := (blk_cell hba 3).trans rfl; have hqa_4 : wa_.cell? ⟨ga, 4, none⟩ = some (.slice A0_4 l0_4.length c0_4) := (blk_cell hba 4).trans rfl; have hqa_5 : wa_.cell? ⟨ga, 5, none⟩ = some (.int .u64 a0_5) := (blk_cell hba 5).trans rfl; have hqa_6 : wa_.cell? ⟨ga, 6, none⟩ = some (.int .i64 a0_6) := (blk_cell hba 6).trans rfl) | (go_at_call 34; refine (rec_long_walk _ _).mono ?_; rintro e wl ⟨rfl, rfl⟩) | (go_at_call 35; refine (rec_contains_walk A0_4 c0_4 l0_4 _ (Kd.C_below HR.out HB)).mono ?_; rintro e wl ⟨rfl, rfl⟩))
     go_ret
     exact ⟨rfl, HB⟩
    ·have h4 : 60 ≤ a0_1 := by omega
     clear b1 hv; go_enter Try.func16, Try.ntmps16; go_wp2_with (first | ((with_reducible refine gate_dst (N := 1) rfl ?_); (with_reducible refine gate_ (.box 27 (.tmp 0)) rfl ?_); refine box_event (N := 1) rfl rfl (cs := #[.int .i64 a0_0, .int .i64 a0_1, .string a0_2, .string a0_3, .slice A0_4 l0_4.length c0_4, .int .u64 a0_5, .int .i64 a0_6]) (t := 27) (by first | (go_simp; done) | (go_simp; rfl)) ?_; intro ga hg_ wa_ hba hbl_; have HGa : w.heap.size ≤ ga := (by rw [hg_]; exact Nat.le_trans (by first | exact Nat.le_refl _ | exact HB.size) (Nat.le_refl _)); replace HB := below_step (blw HB) hbl_; clear hg_ hbl_; have hqa_0 : wa_.cell? ⟨ga, 0, none⟩ = some (.int .i64 a0_0) := (blk_cell hba 0).trans rfl; have hqa_1 : wa_.cell? ⟨ga, 1, none⟩ = some (.int .i64 a0_1) := (blk_cell hba 1).trans rfl; have hqa_2 : wa_.cell? ⟨ga, 2, none⟩ = some (.string a0_2) := (blk_cell hba 2).trans rfl; have hqa_3 : wa_.cell? ⟨ga, 3, none⟩ = some (.string a0_3) := (blk_cell hba 3).trans rfl; have hqa_4 : wa_.cell? ⟨ga, 4, none⟩ = some (.slice A0_4 l0_4.length c0_4) := (blk_cell hba 4).trans rfl; have hqa_5 : wa_.cell? ⟨ga, 5, none⟩ = some (.int .u64 a0_5) := (blk_cell hba 5).trans rfl; have hqa_6 : wa_.cell? ⟨ga, 6, none⟩ = some (.int .i64 a0_6) := (blk_cell hba 6).trans rfl) | (go_at_call 34; refine (rec_long_walk _ _).mono ?_; rintro e wl ⟨rfl, rfl⟩) | (go_at_call 35; refine (rec_contains_walk A0_4 c0_4 l0_4 _ (Kd.C_below HR.out HB)).mono ?_; rintro e wl ⟨rfl, rfl⟩))
     go_ret
     exact ⟨rfl, HB⟩
 ·have h1 : ¬ a0_0 < 0 := by omega
  have h2 : ¬ 3 < a0_0 := by omega
  have h3 : ¬ a0_1 < -1 := by omega
  have h4 : ¬ 60 ≤ a0_1 := by omega
  by_cases h5 : (20 : Int) < (a0_2.size : Int)
  ·have hv : recMay a0_0 a0_1 a0_2 a0_3 l0_4 a0_6 = false := by simp only [recMay, Bool.and_eq_false_iff, decide_eq_false_iff_not]; omega
   rw [hv]; clear hv b1; go_enter Try.func16, Try.ntmps16; go_wp2_with (first | ((with_reducible refine gate_dst (N := 1) rfl ?_); (with_reducible refine gate_ (.box 27 (.tmp 0)) rfl ?_); refine box_event (N := 1) rfl rfl (cs := #[.int .i64 a0_0, .int .i64 a0_1, .string a0_2, .string a0_3, .slice A0_4 l0_4.length c0_4, .int .u64 a0_5, .int .i64 a0_6]) (t := 27) (by first | (go_simp; done) | (go_simp; rfl)) ?_; intro ga hg_ wa_ hba hbl_; have HGa : w.heap.size ≤ ga := (by rw [hg_]; exact Nat.le_trans (by first | exact Nat.le_refl _ | exact HB.size) (Nat.le_refl _)); replace HB := below_step (blw HB) hbl_; clear hg_ hbl_; have hqa_0 : wa_.cell? ⟨ga, 0, none⟩ = some (.int .i64 a0_0) := (blk_cell hba 0).trans rfl; have hqa_1 : wa_.cell? ⟨ga, 1, none⟩ = some (.int .i64 a0_1) := (blk_cell hba 1).trans rfl; have hqa_2 : wa_.cell? ⟨ga, 2, none⟩ = some (.string a0_2) := (blk_cell hba 2).trans rfl; have hqa_3 : wa_.cell? ⟨ga, 3, none⟩ = some (.string a0_3) := (blk_cell hba 3).trans rfl; have hqa_4 : wa_.cell? ⟨ga, 4, none⟩ = some (.slice A0_4 l0_4.length c0_4) := (blk_cell hba 4).trans rfl; have hqa_5 : wa_.cell? ⟨ga, 5, none⟩ = some (.int .u64 a0_5) := (blk_cell hba 5).trans rfl; have hqa_6 : wa_.cell? ⟨ga, 6, none⟩ = some (.int .i64 a0_6) := (blk_cell hba 6).trans rfl) | (go_at_call 34; refine (rec_long_walk _ _).mono ?_; rintro e wl ⟨rfl, rfl⟩) | (go_at_call 35; refine (rec_contains_walk A0_4 c0_4 l0_4 _ (Kd.C_below HR.out HB)).mono ?_; rintro e wl ⟨rfl, rfl⟩))
   go_ret
   exact ⟨rfl, HB⟩
  ·by_cases h6 : textLong a0_3 = true
   ·have h6' := of_decide_eq_true h6; have hv : recMay a0_0 a0_1 a0_2 a0_3 l0_4 a0_6 = false := by simp only [recMay, Bool.and_eq_false_iff, decide_eq_false_iff_not]; omega
    rw [hv]; clear hv b1 h6'; go_enter Try.func16, Try.ntmps16; go_wp2_with (first | ((with_reducible refine gate_dst (N := 1) rfl ?_); (with_reducible refine gate_ (.box 27 (.tmp 0)) rfl ?_); refine box_event (N := 1) rfl rfl (cs := #[.int .i64 a0_0, .int .i64 a0_1, .string a0_2, .string a0_3, .slice A0_4 l0_4.length c0_4, .int .u64 a0_5, .int .i64 a0_6]) (t := 27) (by first | (go_simp; done) | (go_simp; rfl)) ?_; intro ga hg_ wa_ hba hbl_; have HGa : w.heap.size ≤ ga := (by rw [hg_]; exact Nat.le_trans (by first | exact Nat.le_refl _ | exact HB.size) (Nat.le_refl _)); replace HB := below_step (blw HB) hbl_; clear hg_ hbl_; have hqa_0 : wa_.cell? ⟨ga, 0, none⟩ = some (.int .i64 a0_0) := (blk_cell hba 0).trans rfl; have hqa_1 : wa_.cell? ⟨ga, 1, none⟩ = some (.int .i64 a0_1) := (blk_cell hba 1).trans rfl; have hqa_2 : wa_.cell? ⟨ga, 2, none⟩ = some (.string a0_2) := (blk_cell hba 2).trans rfl; have hqa_3 : wa_.cell? ⟨ga, 3, none⟩ = some (.string a0_3) := (blk_cell hba 3).trans rfl; have hqa_4 : wa_.cell? ⟨ga, 4, none⟩ = some (.slice A0_4 l0_4.length c0_4) := (blk_cell hba 4).trans rfl; have hqa_5 : wa_.cell? ⟨ga, 5, none⟩ = some (.int .u64 a0_5) := (blk_cell hba 5).trans rfl; have hqa_6 : wa_.cell? ⟨ga, 6, none⟩ = some (.int .i64 a0_6) := (blk_cell hba 6).trans rfl) | (go_at_call 34; refine (rec_long_walk _ _).mono ?_; rintro e wl ⟨rfl, rfl⟩) | (go_at_call 35; refine (rec_contains_walk A0_4 c0_4 l0_4 _ (Kd.C_below HR.out HB)).mono ?_; rintro e wl ⟨rfl, rfl⟩))
    go_ret
    exact ⟨rfl, HB⟩
   ·have h6b : textLong a0_3 = false := by simpa using h6
    have h6' := of_decide_eq_false h6b; have H6 := aA h6'; clear h6 h6'; by_cases h7 : l0_4.any textLong = true
    ·have hv : recMay a0_0 a0_1 a0_2 a0_3 l0_4 a0_6 = false := by simp [recMay, h7]
     rw [hv]; clear hv b1; go_enter Try.func16, Try.ntmps16; go_wp2_with (first | ((with_reducible refine gate_dst (N := 1) rfl ?_); (with_reducible refine gate_ (.box 27 (.tmp 0)) rfl ?_); refine box_event (N := 1) rfl rfl (cs := #[.int .i64 a0_0, .int .i64 a0_1, .string a0_2, .string a0_3, .slice A0_4 l0_4.length c0_4, .int .u64 a0_5, .int .i64 a0_6]) (t := 27) (by first | (go_simp; done) | (go_simp; rfl)) ?_; intro ga hg_ wa_ hba hbl_; have HGa : w.heap.size ≤ ga := (by rw [hg_]; exact Nat.le_trans (by first | exact Nat.le_refl _ | exact HB.size) (Nat.le_refl _)); replace HB := below_step (blw HB) hbl_; clear hg_ hbl_; have hqa_0 : wa_.cell? ⟨ga, 0, none⟩ = some (.int .i64 a0_0) := (blk_cell hba 0).trans rfl; have hqa_1 : wa_.cell? ⟨ga, 1, none⟩ = some (.int .i64 a0_1) := (blk_cell hba 1).trans rfl; have hqa_2 : wa_.cell? ⟨ga, 2, none⟩ = some (.string a0_2) := (blk_cell hba 2).trans rfl; have hqa_3 : wa_.cell? ⟨ga, 3, none⟩ = some (.string a0_3) := (blk_cell hba 3).trans rfl; have hqa_4 : wa_.cell? ⟨ga, 4, none⟩ = some (.slice A0_4 l0_4.length c0_4) := (blk_cell hba 4).trans rfl; have hqa_5 : wa_.cell? ⟨ga, 5, none⟩ = some (.int .u64 a0_5) := (blk_cell hba 5).trans rfl; have hqa_6 : wa_.cell? ⟨ga, 6, none⟩ = some (.int .i64 a0_6) := (blk_cell hba 6).trans rfl) | (go_at_call 34; refine (rec_long_walk _ _).mono ?_; rintro e wl ⟨rfl, rfl⟩) | (go_at_call 35; refine (rec_contains_walk A0_4 c0_4 l0_4 _ (Kd.C_below HR.out HB)).mono ?_; rintro e wl ⟨rfl, rfl⟩))
     go_ret
     exact ⟨rfl, HB⟩
    ·have h7b : l0_4.any textLong = false := by simpa using h7
     clear h7; by_cases h8 : l0_4.length % 2 = 1
     ·have hb1 : (Go.bits .and .i64 (l0_4.length : Int) 1 == 1) = true := by rw [Hb.out, h8]; rfl
      have hv : recMay a0_0 a0_1 a0_2 a0_3 l0_4 a0_6 = false := by simp [recMay, h8]
      rw [hv]; clear hv b1 h8; go_enter Try.func16, Try.ntmps16; go_wp2_with (first | ((with_reducible refine gate_dst (N := 1) rfl ?_); (with_reducible refine gate_ (.box 27 (.tmp 0)) rfl ?_); refine box_event (N := 1) rfl rfl (cs := #[.int .i64 a0_0, .int .i64 a0_1, .string a0_2, .string a0_3, .slice A0_4 l0_4.length c0_4, .int .u64 a0_5, .int .i64 a0_6]) (t := 27) (by first | (go_simp; done) | (go_simp; rfl)) ?_; intro ga hg_ wa_ hba hbl_; have HGa : w.heap.size ≤ ga := (by rw [hg_]; exact Nat.le_trans (by first | exact Nat.le_refl _ | exact HB.size) (Nat.le_refl _)); replace HB := below_step (blw HB) hbl_; clear hg_ hbl_; have hqa_0 : wa_.cell? ⟨ga, 0, none⟩ = some (.int .i64 a0_0) := (blk_cell hba 0).trans rfl; have hqa_1 : wa_.cell? ⟨ga, 1, none⟩ = some (.int .i64 a0_1) := (blk_cell hba 1).trans rfl; have hqa_2 : wa_.cell? ⟨ga, 2, none⟩ = some (.string a0_2) := (blk_cell hba 2).trans rfl; have hqa_3 : wa_.cell? ⟨ga, 3, none⟩ = some (.string a0_3) := (blk_cell hba 3).trans rfl; have hqa_4 : wa_.cell? ⟨ga, 4, none⟩ = some (.slice A0_4 l0_4.length c0_4) := (blk_cell hba 4).trans rfl; have hqa_5 : wa_.cell? ⟨ga, 5, none⟩ = some (.int .u64 a0_5) := (blk_cell hba 5).trans rfl; have hqa_6 : wa_.cell? ⟨ga, 6, none⟩ = some (.int .i64 a0_6) := (blk_cell hba 6).trans rfl) | (go_at_call 34; refine (rec_long_walk _ _).mono ?_; rintro e wl ⟨rfl, rfl⟩) | (go_at_call 35; refine (rec_contains_walk A0_4 c0_4 l0_4 _ (Kd.C_below HR.out HB)).mono ?_; rintro e wl ⟨rfl, rfl⟩))
      go_ret
      exact ⟨rfl, HB⟩
     ·have h8' : l0_4.length % 2 = 0 := by omega
      have hb1 : (Go.bits .and .i64 (l0_4.length : Int) 1 == 1) = false := by rw [Hb.out, h8']; rfl
      have H8 := aA h8'; clear h8 h8'; by_cases h9 : (16 : Int) < (l0_4.length : Int)
      ·have hv : recMay a0_0 a0_1 a0_2 a0_3 l0_4 a0_6 = false := by simp only [recMay, Bool.and_eq_false_iff, decide_eq_false_iff_not]; omega
       rw [hv]; clear hv b1; go_enter Try.func16, Try.ntmps16; go_wp2_with (first | ((with_reducible refine gate_dst (N := 1) rfl ?_); (with_reducible refine gate_ (.box 27 (.tmp 0)) rfl ?_); refine box_event (N := 1) rfl rfl (cs := #[.int .i64 a0_0, .int .i64 a0_1, .string a0_2, .string a0_3, .slice A0_4 l0_4.length c0_4, .int .u64 a0_5, .int .i64 a0_6]) (t := 27) (by first | (go_simp; done) | (go_simp; rfl)) ?_; intro ga hg_ wa_ hba hbl_; have HGa : w.heap.size ≤ ga := (by rw [hg_]; exact Nat.le_trans (by first | exact Nat.le_refl _ | exact HB.size) (Nat.le_refl _)); replace HB := below_step (blw HB) hbl_; clear hg_ hbl_; have hqa_0 : wa_.cell? ⟨ga, 0, none⟩ = some (.int .i64 a0_0) := (blk_cell hba 0).trans rfl; have hqa_1 : wa_.cell? ⟨ga, 1, none⟩ = some (.int .i64 a0_1) := (blk_cell hba 1).trans rfl; have hqa_2 : wa_.cell? ⟨ga, 2, none⟩ = some (.string a0_2) := (blk_cell hba 2).trans rfl; have hqa_3 : wa_.cell? ⟨ga, 3, none⟩ = some (.string a0_3) := (blk_cell hba 3).trans rfl; have hqa_4 : wa_.cell? ⟨ga, 4, none⟩ = some (.slice A0_4 l0_4.length c0_4) := (blk_cell hba 4).trans rfl; have hqa_5 : wa_.cell? ⟨ga, 5, none⟩ = some (.int .u64 a0_5) := (blk_cell hba 5).trans rfl; have hqa_6 : wa_.cell? ⟨ga, 6, none⟩ = some (.int .i64 a0_6) := (blk_cell hba 6).trans rfl) | (go_at_call 34; refine (rec_long_walk _ _).mono ?_; rintro e wl ⟨rfl, rfl⟩) | (go_at_call 35; refine (rec_contains_walk A0_4 c0_4 l0_4 _ (Kd.C_below HR.out HB)).mono ?_; rintro e wl ⟨rfl, rfl⟩))
       go_ret
       exact ⟨rfl, HB⟩
      ·have hv : recMay a0_0 a0_1 a0_2 a0_3 l0_4 a0_6 = decide (0 ≤ a0_6 ∧ a0_6 ≤ 200) := by
        have e6 := H6.out; have e8 := H8.out; simp only [recMay, h7b]; rw [decide_eq_true (show 0 ≤ a0_0 ∧ a0_0 ≤ 3 by omega), decide_eq_true (show -1 ≤ a0_1 ∧ a0_1 < 60 by omega), decide_eq_true (show a0_2.size ≤ 20 by omega), decide_eq_true (show a0_3.size ≤ 60 by omega), decide_eq_true e8, decide_eq_true (show l0_4.length ≤ 16 by omega)]; rfl
       rw [hv]; clear hv b1; by_cases h10 : 0 ≤ a0_6
       ·have e10 : decide (0 ≤ a0_6 ∧ a0_6 ≤ 200) = decide (a0_6 ≤ 200) := by rw [decide_eq_decide]; omega
        rw [e10]; clear e10; go_enter Try.func16, Try.ntmps16; go_wp2_with (first | ((with_reducible refine gate_dst (N := 1) rfl ?_); (with_reducible refine gate_ (.box 27 (.tmp 0)) rfl ?_); refine box_event (N := 1) rfl rfl (cs := #[.int .i64 a0_0, .int .i64 a0_1, .string a0_2, .string a0_3, .slice A0_4 l0_4.length c0_4, .int .u64 a0_5, .int .i64 a0_6]) (t := 27) (by first | (go_simp; done) | (go_simp; rfl)) ?_; intro ga hg_ wa_ hba hbl_; have HGa : w.heap.size ≤ ga := (by rw [hg_]; exact Nat.le_trans (by first | exact Nat.le_refl _ | exact HB.size) (Nat.le_refl _)); replace HB := below_step (blw HB) hbl_; clear hg_ hbl_; have hqa_0 : wa_.cell? ⟨ga, 0, none⟩ = some (.int .i64 a0_0) := (blk_cell hba 0).trans rfl; have hqa_1 : wa_.cell? ⟨ga, 1, none⟩ = some (.int .i64 a0_1) := (blk_cell hba 1).trans rfl; have hqa_2 : wa_.cell? ⟨ga, 2, none⟩ = some (.string a0_2) := (blk_cell hba 2).trans rfl; have hqa_3 : wa_.cell? ⟨ga, 3, none⟩ = some (.string a0_3) := (blk_cell hba 3).trans rfl; have hqa_4 : wa_.cell? ⟨ga, 4, none⟩ = some (.slice A0_4 l0_4.length c0_4) := (blk_cell hba 4).trans rfl; have hqa_5 : wa_.cell? ⟨ga, 5, none⟩ = some (.int .u64 a0_5) := (blk_cell hba 5).trans rfl; have hqa_6 : wa_.cell? ⟨ga, 6, none⟩ = some (.int .i64 a0_6) := (blk_cell hba 6).trans rfl) | (go_at_call 34; refine (rec_long_walk _ _).mono ?_; rintro e wl ⟨rfl, rfl⟩) | (go_at_call 35; refine (rec_contains_walk A0_4 c0_4 l0_4 _ (Kd.C_below HR.out HB)).mono ?_; rintro e wl ⟨rfl, rfl⟩))
        go_ret
        exact ⟨rfl, HB⟩
       ·have e10 : decide (0 ≤ a0_6 ∧ a0_6 ≤ 200) = false := by rw [decide_eq_false_iff_not]; omega
        rw [e10]; clear e10; go_enter Try.func16, Try.ntmps16; go_wp2_with (first | ((with_reducible refine gate_dst (N := 1) rfl ?_); (with_reducible refine gate_ (.box 27 (.tmp 0)) rfl ?_); refine box_event (N := 1) rfl rfl (cs := #[.int .i64 a0_0, .int .i64 a0_1, .string a0_2, .string a0_3, .slice A0_4 l0_4.length c0_4, .int .u64 a0_5, .int .i64 a0_6]) (t := 27) (by first | (go_simp; done) | (go_simp; rfl)) ?_; intro ga hg_ wa_ hba hbl_; have HGa : w.heap.size ≤ ga := (by rw [hg_]; exact Nat.le_trans (by first | exact Nat.le_refl _ | exact HB.size) (Nat.le_refl _)); replace HB := below_step (blw HB) hbl_; clear hg_ hbl_; have hqa_0 : wa_.cell? ⟨ga, 0, none⟩ = some (.int .i64 a0_0) := (blk_cell hba 0).trans rfl; have hqa_1 : wa_.cell? ⟨ga, 1, none⟩ = some (.int .i64 a0_1) := (blk_cell hba 1).trans rfl; have hqa_2 : wa_.cell? ⟨ga, 2, none⟩ = some (.string a0_2) := (blk_cell hba 2).trans rfl; have hqa_3 : wa_.cell? ⟨ga, 3, none⟩ = some (.string a0_3) := (blk_cell hba 3).trans rfl; have hqa_4 : wa_.cell? ⟨ga, 4, none⟩ = some (.slice A0_4 l0_4.length c0_4) := (blk_cell hba 4).trans rfl; have hqa_5 : wa_.cell? ⟨ga, 5, none⟩ = some (.int .u64 a0_5) := (blk_cell hba 5).trans rfl; have hqa_6 : wa_.cell? ⟨ga, 6, none⟩ = some (.int .i64 a0_6) := (blk_cell hba 6).trans rfl) | (go_at_call 34; refine (rec_long_walk _ _).mono ?_; rintro e wl ⟨rfl, rfl⟩) | (go_at_call 35; refine (rec_contains_walk A0_4 c0_4 l0_4 _ (Kd.C_below HR.out HB)).mono ?_; rintro e wl ⟨rfl, rfl⟩))
        go_ret
        exact ⟨rfl, HB⟩

end Go.Proofs.Ytdjkadfgmhmhcaa.PT
