-- Written by wip/hprint/hprint.py (a program of this session, over the print): not typed by hand
import Derived.Test.YtjiejmkkaekefaaPAx0
import Derived.Test.YtjiejmkkaekefaaPAx8
import Derived.Test.YtjiejmkkaekefaaPAx10
import Derived.Test.YtjiejmkkaekefaaPAx11
import Derived.Test.YtjiejmkkaekefaaPAx15
import Derived.Test.YtjiejmkkaekefaaPAx31
namespace Go.Proofs.Ytjiejmkkaekefaa.PA
open Go.RowKit Go.Proofs.YtjiejmkkaekefaaW.PrintWords Go.Proofs.YtjiejmkkaekefaaW.PrintLast Go.Proofs.YtjiejmkkaekefaaW.PrintMore
attribute [local go_sem] max2_int min2_int max_two min_two max_three min_three max_four min_four   -- for this text's walks alone
open Go.Proofs.YtjiejmkkaekefaaH
set_option linter.unusedVariables false
set_option linter.unusedSimpArgs false

/-! ### treillagelaw09_SelBlanks: function 7 -/
mutual
def treillagelaw09_SelBlanks.j0 : Nat → Int → List (List (S46)) → Bool → Option (Bool)
 | 0, _, _, _ => none
 | k + 1, x1, x5, x33 => if x33 = true then ((treillagelaw09_shown.f k).bind fun t593 => (some t593)) else ((some (([(⟨#[32]⟩ : ByteArray), (⟨#[9]⟩ : ByteArray), (⟨#[10, 12]⟩ : ByteArray), (⟨#[13, 32]⟩ : ByteArray), (⟨#[32, 32]⟩ : ByteArray)] : List ByteArray) : List ByteArray)).bind fun y594 => (if 0 ≤ (Int.tmod x1 5) then (if (Int.tmod x1 5) < (y594.length : Int) then ((sel_Print.f k x5).bind fun bt598 => (treillagelaw09_SelBlanks.l0 k x5 (rdOf ByteArray.empty y594 (Int.tmod x1 5)) bt598.1 bt598.2 (⟨#[]⟩ : ByteArray) false 0)) else (none)) else (none)))
def treillagelaw09_SelBlanks.l0 : Nat → List (List (S46)) → ByteArray → ByteArray → Int → ByteArray → Bool → Int → Option (Bool)
 | 0, _, _, _, _, _, _, _ => none
 | k + 1, x5, x8, x9, x10, x11, x12, x13 => if x13 < (x9.size : Int) then (if 0 ≤ x13 then (if (bt x9 x13) = 34 then (if (bt x9 x13) = 44 then (if x12 = true then (if x11.size + x8.size ≤ 9223372036854775807 then (if x13 ≤ (wrap64 (x13 + 1)) then (if (wrap64 (x13 + 1)) ≤ (x9.size : Int) then (if (x11 ++ x8).size + (x9.extract (x13 : Int).toNat ((wrap64 (x13 + 1)) : Int).toNat).size ≤ 9223372036854775807 then (if ((x11 ++ x8) ++ (x9.extract (x13 : Int).toNat ((wrap64 (x13 + 1)) : Int).toNat)).size + x8.size ≤ 9223372036854775807 then (treillagelaw09_SelBlanks.l0 k x5 x8 x9 x10 (((x11 ++ x8) ++ (x9.extract (x13 : Int).toNat ((wrap64 (x13 + 1)) : Int).toNat)) ++ x8) false (wrap64 (x13 + 1))) else (none)) else (none)) else (none)) else (none)) else (none)) else (if x13 ≤ (wrap64 (x13 + 1)) then (if (wrap64 (x13 + 1)) ≤ (x9.size : Int) then (if x11.size + (x9.extract (x13 : Int).toNat ((wrap64 (x13 + 1)) : Int).toNat).size ≤ 9223372036854775807 then (treillagelaw09_SelBlanks.l0 k x5 x8 x9 x10 (x11 ++ (x9.extract (x13 : Int).toNat ((wrap64 (x13 + 1)) : Int).toNat)) true (wrap64 (x13 + 1))) else (none)) else (none)) else (none))) else (if (bt x9 x13) = 62 then (if x12 = true then (if x11.size + x8.size ≤ 9223372036854775807 then (if x13 ≤ (wrap64 (x13 + 1)) then (if (wrap64 (x13 + 1)) ≤ (x9.size : Int) then (if (x11 ++ x8).size + (x9.extract (x13 : Int).toNat ((wrap64 (x13 + 1)) : Int).toNat).size ≤ 9223372036854775807 then (if ((x11 ++ x8) ++ (x9.extract (x13 : Int).toNat ((wrap64 (x13 + 1)) : Int).toNat)).size + x8.size ≤ 9223372036854775807 then (treillagelaw09_SelBlanks.l0 k x5 x8 x9 x10 (((x11 ++ x8) ++ (x9.extract (x13 : Int).toNat ((wrap64 (x13 + 1)) : Int).toNat)) ++ x8) false (wrap64 (x13 + 1))) else (none)) else (none)) else (none)) else (none)) else (none)) else (if x13 ≤ (wrap64 (x13 + 1)) then (if (wrap64 (x13 + 1)) ≤ (x9.size : Int) then (if x11.size + (x9.extract (x13 : Int).toNat ((wrap64 (x13 + 1)) : Int).toNat).size ≤ 9223372036854775807 then (treillagelaw09_SelBlanks.l0 k x5 x8 x9 x10 (x11 ++ (x9.extract (x13 : Int).toNat ((wrap64 (x13 + 1)) : Int).toNat)) true (wrap64 (x13 + 1))) else (none)) else (none)) else (none))) else (if x13 ≤ (wrap64 (x13 + 1)) then (if (wrap64 (x13 + 1)) ≤ (x9.size : Int) then (if x11.size + (x9.extract (x13 : Int).toNat ((wrap64 (x13 + 1)) : Int).toNat).size ≤ 9223372036854775807 then (treillagelaw09_SelBlanks.l0 k x5 x8 x9 x10 (x11 ++ (x9.extract (x13 : Int).toNat ((wrap64 (x13 + 1)) : Int).toNat)) (!x12) (wrap64 (x13 + 1))) else (none)) else (none)) else (none)))) else (if (bt x9 x13) = 44 then (if x12 = true then (if x13 ≤ (wrap64 (x13 + 1)) then (if (wrap64 (x13 + 1)) ≤ (x9.size : Int) then (if x11.size + (x9.extract (x13 : Int).toNat ((wrap64 (x13 + 1)) : Int).toNat).size ≤ 9223372036854775807 then (treillagelaw09_SelBlanks.l0 k x5 x8 x9 x10 (x11 ++ (x9.extract (x13 : Int).toNat ((wrap64 (x13 + 1)) : Int).toNat)) x12 (wrap64 (x13 + 1))) else (none)) else (none)) else (none)) else (if x11.size + x8.size ≤ 9223372036854775807 then (if x13 ≤ (wrap64 (x13 + 1)) then (if (wrap64 (x13 + 1)) ≤ (x9.size : Int) then (if (x11 ++ x8).size + (x9.extract (x13 : Int).toNat ((wrap64 (x13 + 1)) : Int).toNat).size ≤ 9223372036854775807 then (if ((x11 ++ x8) ++ (x9.extract (x13 : Int).toNat ((wrap64 (x13 + 1)) : Int).toNat)).size + x8.size ≤ 9223372036854775807 then (treillagelaw09_SelBlanks.l0 k x5 x8 x9 x10 (((x11 ++ x8) ++ (x9.extract (x13 : Int).toNat ((wrap64 (x13 + 1)) : Int).toNat)) ++ x8) x12 (wrap64 (x13 + 1))) else (none)) else (none)) else (none)) else (none)) else (none))) else (if (bt x9 x13) = 62 then (if x12 = true then (if x13 ≤ (wrap64 (x13 + 1)) then (if (wrap64 (x13 + 1)) ≤ (x9.size : Int) then (if x11.size + (x9.extract (x13 : Int).toNat ((wrap64 (x13 + 1)) : Int).toNat).size ≤ 9223372036854775807 then (treillagelaw09_SelBlanks.l0 k x5 x8 x9 x10 (x11 ++ (x9.extract (x13 : Int).toNat ((wrap64 (x13 + 1)) : Int).toNat)) x12 (wrap64 (x13 + 1))) else (none)) else (none)) else (none)) else (if x11.size + x8.size ≤ 9223372036854775807 then (if x13 ≤ (wrap64 (x13 + 1)) then (if (wrap64 (x13 + 1)) ≤ (x9.size : Int) then (if (x11 ++ x8).size + (x9.extract (x13 : Int).toNat ((wrap64 (x13 + 1)) : Int).toNat).size ≤ 9223372036854775807 then (if ((x11 ++ x8) ++ (x9.extract (x13 : Int).toNat ((wrap64 (x13 + 1)) : Int).toNat)).size + x8.size ≤ 9223372036854775807 then (treillagelaw09_SelBlanks.l0 k x5 x8 x9 x10 (((x11 ++ x8) ++ (x9.extract (x13 : Int).toNat ((wrap64 (x13 + 1)) : Int).toNat)) ++ x8) x12 (wrap64 (x13 + 1))) else (none)) else (none)) else (none)) else (none)) else (none))) else (if x13 ≤ (wrap64 (x13 + 1)) then (if (wrap64 (x13 + 1)) ≤ (x9.size : Int) then (if x11.size + (x9.extract (x13 : Int).toNat ((wrap64 (x13 + 1)) : Int).toNat).size ≤ 9223372036854775807 then (treillagelaw09_SelBlanks.l0 k x5 x8 x9 x10 (x11 ++ (x9.extract (x13 : Int).toNat ((wrap64 (x13 + 1)) : Int).toNat)) x12 (wrap64 (x13 + 1))) else (none)) else (none)) else (none))))) else (none)) else (if x8.size + x11.size ≤ 9223372036854775807 then (if (x8 ++ x11).size + x8.size ≤ 9223372036854775807 then ((sel_Parse.f k ((x8 ++ x11) ++ x8)).bind fun bt600 => (if x10 = 0 then (if bt600.2.2 = 0 then ((treillagelaw09_its.f k x5).bind fun t605 => ((treillagelaw09_its.f k bt600.1).bind fun t608 => ((treillageref09_Same.f k t605 t608).bind fun t611 => (some t611)))) else (some false)) else (some false))) else (none)) else (none))
end
def treillagelaw09_SelBlanks.f (k : Nat) (a0 : ByteArray) (a1 : Int) : Option (Bool) := (sel_Parse.f k a0).bind fun bt587 => (if (a0.size : Int) > 150 then (treillagelaw09_SelBlanks.j0 k a1 bt587.1 true) else (if bt587.2.2 = 0 then ((treillagelaw09_shown.f k).bind fun t592 => (treillagelaw09_SelBlanks.j0 k a1 bt587.1 (!t592))) else (treillagelaw09_SelBlanks.j0 k a1 bt587.1 true)))
theorem treillagelaw09_SelBlanks.mono_l : ∀ k, (∀ y0 y1 y2, LeO (treillagelaw09_SelBlanks.j0 k y0 y1 y2) (treillagelaw09_SelBlanks.j0 (k + 1) y0 y1 y2)) ∧ (∀ y0 y1 y2 y3 y4 y5 y6, LeO (treillagelaw09_SelBlanks.l0 k y0 y1 y2 y3 y4 y5 y6) (treillagelaw09_SelBlanks.l0 (k + 1) y0 y1 y2 y3 y4 y5 y6))
 | 0 => ⟨fun _ _ _ r h => by simp [treillagelaw09_SelBlanks.j0] at h, fun _ _ _ _ _ _ _ r h => by simp [treillagelaw09_SelBlanks.l0] at h⟩
 | k + 1 => by
  obtain ⟨ih0, ih1⟩ := treillagelaw09_SelBlanks.mono_l k; refine ⟨?_, ?_⟩
  ·intro y0 y1 y2
   unfold treillagelaw09_SelBlanks.j0; repeat' first
   | (with_reducible exact ih0 _ _ _)
   | (with_reducible exact ih1 _ _ _ _ _ _ _)
   | (with_reducible exact sel_Parse.mono _ _)
   | (with_reducible exact sel_Print.mono _ _)
   | (with_reducible exact treillagelaw09_its.mono _ _)
   | (with_reducible exact treillagelaw09_shown.mono _)
   | (with_reducible exact treillageref09_Same.mono _ _ _)
   | (with_reducible exact LeO.refl _)
   | (with_reducible exact LeO.none _)
   | (with_reducible refine LeO.ite ?_ ?_)
   | (with_reducible refine LeO.exB (fun _ => ?_))
   | (with_reducible refine LeO.bind ?_ (fun _ => ?_))
   | exact ih0 _ _ _
   | exact ih1 _ _ _ _ _ _ _
   | exact sel_Parse.mono _ _
   | exact sel_Print.mono _ _
   | exact treillagelaw09_its.mono _ _
   | exact treillagelaw09_shown.mono _
   | exact treillageref09_Same.mono _ _ _
   | exact LeO.none _
   | refine LeO.ite ?_ ?_
   | refine LeO.bind ?_ (fun _ => ?_)
  ·intro y0 y1 y2 y3 y4 y5 y6
   unfold treillagelaw09_SelBlanks.l0; repeat' first
   | (with_reducible exact ih0 _ _ _)
   | (with_reducible exact ih1 _ _ _ _ _ _ _)
   | (with_reducible exact sel_Parse.mono _ _)
   | (with_reducible exact sel_Print.mono _ _)
   | (with_reducible exact treillagelaw09_its.mono _ _)
   | (with_reducible exact treillagelaw09_shown.mono _)
   | (with_reducible exact treillageref09_Same.mono _ _ _)
   | (with_reducible exact LeO.refl _)
   | (with_reducible exact LeO.none _)
   | (with_reducible refine LeO.ite ?_ ?_)
   | (with_reducible refine LeO.exB (fun _ => ?_))
   | (with_reducible refine LeO.bind ?_ (fun _ => ?_))
   | exact ih0 _ _ _
   | exact ih1 _ _ _ _ _ _ _
   | exact sel_Parse.mono _ _
   | exact sel_Print.mono _ _
   | exact treillagelaw09_its.mono _ _
   | exact treillagelaw09_shown.mono _
   | exact treillageref09_Same.mono _ _ _
   | exact LeO.none _
   | refine LeO.ite ?_ ?_
   | refine LeO.bind ?_ (fun _ => ?_)
theorem treillagelaw09_SelBlanks.mono : ∀ a0 a1 k, LeO (treillagelaw09_SelBlanks.f k a0 a1) (treillagelaw09_SelBlanks.f (k + 1) a0 a1) := by
 intro a0 a1 k
 obtain ⟨ih0, ih1⟩ := treillagelaw09_SelBlanks.mono_l k; unfold treillagelaw09_SelBlanks.f
 repeat' first
   | (with_reducible exact ih0 _ _ _)
   | (with_reducible exact ih1 _ _ _ _ _ _ _)
   | (with_reducible exact sel_Parse.mono _ _)
   | (with_reducible exact sel_Print.mono _ _)
   | (with_reducible exact treillagelaw09_its.mono _ _)
   | (with_reducible exact treillagelaw09_shown.mono _)
   | (with_reducible exact treillageref09_Same.mono _ _ _)
   | (with_reducible exact LeO.refl _)
   | (with_reducible exact LeO.none _)
   | (with_reducible refine LeO.ite ?_ ?_)
   | (with_reducible refine LeO.exB (fun _ => ?_))
   | (with_reducible refine LeO.bind ?_ (fun _ => ?_))
   | exact ih0 _ _ _
   | exact ih1 _ _ _ _ _ _ _
   | exact sel_Parse.mono _ _
   | exact sel_Print.mono _ _
   | exact treillagelaw09_its.mono _ _
   | exact treillagelaw09_shown.mono _
   | exact treillageref09_Same.mono _ _ _
   | exact LeO.none _
   | refine LeO.ite ?_ ?_
   | refine LeO.bind ?_ (fun _ => ?_)
set_option maxHeartbeats 8000000 in
set_option maxRecDepth 100000 in
theorem treillagelaw09_SelBlanks.calls1 (k : Nat) (a0 : ByteArray) (a1 : Int) (r : Bool) (w : World) (h : treillagelaw09_SelBlanks.f k a0 a1 = some r) (hr_ : r = true) :
  Calls Try.prog 7 #[.string a0, .int .u8 a1] w fun e w' => e = .returned (.bool r) ∧ Below w.heap.size w w' := by
 have HB := aA (Below.refl w.heap.size w); have H : ((sel_Parse.f k a0).bind fun Jt => (if (a0.size : Int) > 150 then (treillagelaw09_SelBlanks.j0 k a1 Jt.1 true) else (if Jt.2.2 = 0 then ((treillagelaw09_shown.f k).bind fun Jn => (treillagelaw09_SelBlanks.j0 k a1 Jt.1 (!Jn))) else (treillagelaw09_SelBlanks.j0 k a1 Jt.1 true)))) = some r := h; clear h; replace H := Option.bind_eq_some_iff.mp H; obtain ⟨⟨Jf, t588, Jo⟩, A30, H⟩ := H; replace H : (if (a0.size : Int) > 150 then (treillagelaw09_SelBlanks.j0 k a1 Jf true) else (if Jo = 0 then ((treillagelaw09_shown.f k).bind fun Jn => (treillagelaw09_SelBlanks.j0 k a1 Jf (!Jn))) else (treillagelaw09_SelBlanks.j0 k a1 Jf true))) = some r := H; have A3 := aA A30; clear A30; have HC4 := aA H; clear H; go_enter Try.func7, Try.ntmps7; go_upto_region 2 with (first | ((with_reducible refine gate_callee (f := 11) rfl ?_); refine goesL_ (some 19) rfl rfl Try.func11 (by kernel_rfl) rfl #[.string a0] rfl (by (try simp only [List.map_toArray, List.map_cons, List.map_nil]); first | done | rfl | (simp only [List.length_drop, List.length_take]; rfl)) ?_; (with_reducible refine (sel_Parse.calls k a0 Jf t588 Jo _ A3.out).mono ?_); rintro e w5 ⟨v590, rfl, ho0, hb⟩; refine ⟨_, rfl, ?_⟩; have n0_ := aA (Kd.R_lower ho0 (below_size (blw HB.out))); have n1_ := aA (below_step (blw HB.out) hb); clear HB; have Jm := n0_; have HB := n1_; clear n0_ n1_; (try clear hb); (try clear hb2); (try clear hk); (try clear hi); (try clear ho0)))
 (try simp only [Act.put, List.setIfInBounds_toArray, List.set_cons_zero, List.set_cons_succ]); go_cut [33] (fun v33 wc => ∃ (kq : Nat) (Ju : Bool), v33 = .bool Ju ∧ Aside0 (treillagelaw09_SelBlanks.j0 kq a1 Jf Ju = some r) ∧ Aside0 (kq ≤ k) ∧ Aside0 (Kd.R (Kd.slice 46 k46) 42 wc w.heap.size (fun _ => True) v590 Jf) ∧ Aside0 (Below w.heap.size w wc))
 case first =>
  have H := HC4.out; clear HC4; by_cases c6 : (a0.size : Int) > 150
  ·rw [if_pos c6] at H; have c6b0 : decide (150 < (a0.size : Int)) = true := decide_eq_true c6; have c6b1 : decide (150 < a0.size) = true := decide_eq_true (by omega); clear c6; (first | rw [c6b0] | rw [c6b1] | (simp only [i64_w, i32_w]; rw [c6b0]) | skip)
   have H' := aA H; clear H; go_wp2; go_meet
   case rel => exact ⟨_, (true), (by first | rfl | (simp; done) | (simp [*]; done)), H', ⟨by first | omega | exact Nat.le_refl _⟩, ⟨by (with_reducible repeat (first | apply Kd.R_alloc | apply Kd.R_drewN | apply Kd.R_drew)); exact Jm.out⟩, ⟨by repeat (first | (with_reducible first | exact HB.out | apply below_alloc | apply pw_below_drewN | apply below_drew1) | exact HB.out)⟩⟩
  ·rw [if_neg c6] at H; have c6b0 : decide (150 < (a0.size : Int)) = false := decide_eq_false c6; have c6b1 : decide (150 < a0.size) = false := decide_eq_false (by omega); clear c6; (first | rw [c6b0] | rw [c6b1] | (simp only [i64_w, i32_w]; rw [c6b0]) | skip)
   by_cases c7 : Jo = 0
   ·rw [if_pos c7] at H; have c7b0 : (Jo == 0) = true := beq_iff_eq.mpr c7; have c7b1 : (Jo != 0) = false := bne_eq_false_iff_eq.mpr c7; clear c7; replace H := Option.bind_eq_some_iff.mp H; obtain ⟨Jn, A80, H⟩ := H; replace H : (treillagelaw09_SelBlanks.j0 k a1 Jf (!Jn)) = some r := H; have A8 := aA A80; clear A80; have H' := aA H; clear H; go_wp2_with (first | (go_at_call 10; (with_reducible refine (treillagelaw09_shown.calls k  Jn _ A8.out).mono ?_); rintro e w9 ⟨rfl, hb⟩; have n0_ := aA (Kd.R_below (rlu Jm.out) hb); have n1_ := aA (below_step (blw HB.out) hb); clear Jm HB; have Jm := n0_; have HB := n1_; clear n0_ n1_; (try clear hb); (try clear hb2); (try clear hk); (try clear hi)))
    go_meet
    case rel => exact ⟨_, (!Jn), (by first | rfl | (simp; done) | (simp [*]; done)), H', ⟨by first | omega | exact Nat.le_refl _⟩, ⟨by (with_reducible repeat (first | apply Kd.R_alloc | apply Kd.R_drewN | apply Kd.R_drew)); exact Jm.out⟩, ⟨by repeat (first | (with_reducible first | exact HB.out | apply below_alloc | apply pw_below_drewN | apply below_drew1) | exact HB.out)⟩⟩
   ·rw [if_neg c7] at H; have c7b0 : (Jo == 0) = false := beq_eq_false_iff_ne.mpr c7; have c7b1 : (Jo != 0) = true := bne_iff_ne.mpr c7; have H' := aA H; clear H; go_wp2; go_meet
    case rel => exact ⟨_, (true), (by first | rfl | (simp; done) | (simp [*]; done)), H', ⟨by first | omega | exact Nat.le_refl _⟩, ⟨by (with_reducible repeat (first | apply Kd.R_alloc | apply Kd.R_drewN | apply Kd.R_drew)); exact Jm.out⟩, ⟨by repeat (first | (with_reducible first | exact HB.out | apply below_alloc | apply pw_below_drewN | apply below_drew1) | exact HB.out)⟩⟩
 case rest =>
  clear HC4; try clear c1
  try clear p2
  try clear c6
  try clear c6b0
  try clear c6b1
  try clear c7
  try clear c7b0
  try clear c7b1
  obtain ⟨kq, Ju, rfl, HA, HJ3, Je, HB⟩ := hcut; cases kq with
  | zero => exact absurd HA.out (by simp [treillagelaw09_SelBlanks.j0])
  | succ kj3 =>
   have H := HA.out; clear HA; simp only [treillagelaw09_SelBlanks.j0] at H; by_cases c10 : Ju = true
   ·subst c10; have H1 : ((treillagelaw09_shown.f kj3).bind fun Jv => (some Jv)) = some r := by rw [if_pos rfl] at H; exact H
    clear H; have H := H1; clear H1; replace H := Option.bind_eq_some_iff.mp H; obtain ⟨Jv, A110, H⟩ := H; replace H : (some Jv) = some r := H; have A11 := aA A110; clear A110; obtain rfl := Option.some.inj H; go_wp2_with (first | ((with_reducible refine gate_callee (f := 10) rfl ?_); refine goesL_ (some 34) rfl rfl Try.func10 (by kernel_rfl) rfl #[] rfl (by (try simp only [List.map_toArray, List.map_cons, List.map_nil]); first | done | rfl | (simp only [List.length_drop, List.length_take]; rfl)) ?_; (with_reducible refine (treillagelaw09_shown.calls kj3  Jv _ A11.out).mono ?_); rintro e w12 ⟨rfl, hb⟩; refine ⟨_, rfl, ?_⟩; have n0_ := aA (Kd.R_below (rlu Je.out) hb); have n1_ := aA (below_step (blw HB.out) hb); clear Je HB; have Je := n0_; have HB := n1_; clear n0_ n1_; (try clear hb); (try clear hb2); (try clear hk); (try clear hi)))
    go_ret
    exact ⟨by first | rfl | (simp [errW_none, errW_some] <;> rfl) | (simp [*, errW_none, errW_some] <;> rfl), by repeat (first | (with_reducible first | exact HB.out | apply below_alloc | apply pw_below_drewN | apply below_drew1) | exact HB.out)⟩
   ·replace c10 := Bool.eq_false_iff.mpr c10; subst c10; have H1 : ((some (([(⟨#[32]⟩ : ByteArray), (⟨#[9]⟩ : ByteArray), (⟨#[10, 12]⟩ : ByteArray), (⟨#[13, 32]⟩ : ByteArray), (⟨#[32, 32]⟩ : ByteArray)] : List ByteArray) : List ByteArray)).bind fun Jd => (if 0 ≤ (Int.tmod a1 5) then (if (Int.tmod a1 5) < (Jd.length : Int) then ((sel_Print.f kj3 Jf).bind fun Jj => (treillagelaw09_SelBlanks.l0 kj3 Jf (rdOf ByteArray.empty Jd (Int.tmod a1 5)) Jj.1 Jj.2 (⟨#[]⟩ : ByteArray) false 0)) else (none)) else (none))) = some r := by rw [if_neg (show ¬ (false = true) by decide)] at H; exact H
    clear H; have H := H1; clear H1; obtain ⟨Jd, hy594⟩ : ∃ y_ : List ByteArray, y_ = (([(⟨#[32]⟩ : ByteArray), (⟨#[9]⟩ : ByteArray), (⟨#[10, 12]⟩ : ByteArray), (⟨#[13, 32]⟩ : ByteArray), (⟨#[32, 32]⟩ : ByteArray)] : List ByteArray)) := ⟨_, rfl⟩; replace H : (if 0 ≤ (Int.tmod a1 5) then (if (Int.tmod a1 5) < (Jd.length : Int) then ((sel_Print.f kj3 Jf).bind fun Jj => (treillagelaw09_SelBlanks.l0 kj3 Jf (rdOf ByteArray.empty Jd (Int.tmod a1 5)) Jj.1 Jj.2 (⟨#[]⟩ : ByteArray) false 0)) else (none)) else (none)) = some r := by first | (rw [hy594]; with_reducible exact H) | (have H2_ := (Option.bind_some _ _).symm.trans H; rw [hy594]; with_reducible exact H2_) | (have H2_ := (Option.bind_some _ _).symm.trans H; with_reducible exact H2_) | with_reducible exact H | (rw [hy594]; exact H) | exact H
    have Ny594 := aA hy594; clear hy594; obtain ⟨ji13, hji13⟩ : ∃ j_ : Int, (Int.tmod a1 5) = j_ := ⟨_, rfl⟩; replace H : (if 0 ≤ (ji13) then (if (ji13) < (Jd.length : Int) then ((sel_Print.f kj3 Jf).bind fun Jj => (treillagelaw09_SelBlanks.l0 kj3 Jf (rdOf ByteArray.empty Jd (ji13)) Jj.1 Jj.2 (⟨#[]⟩ : ByteArray) false 0)) else (none)) else (none)) = some r := by first | (rw [hji13] at H; exact H) | (simp only [hji13] at H ⊢; exact H)
    by_cases c14 : 0 ≤ (ji13)
    rotate_left
    ·rw [if_neg c14] at H; exact absurd H (by simp)

    rw [if_pos c14] at H; have c14b0 : decide (0 ≤ (ji13)) = true := decide_eq_true c14; clear c14; by_cases c15 : (ji13) < (Jd.length : Int)
    rotate_left
    ·rw [if_neg c15] at H; exact absurd H (by simp)
    rw [if_pos c15] at H; have c15b0 : decide ((ji13) < (Jd.length : Int)) = true := decide_eq_true c15; clear c15; replace H := Option.bind_eq_some_iff.mp H; obtain ⟨⟨Jb, Jg⟩, A160, H⟩ := H; replace H : (treillagelaw09_SelBlanks.l0 kj3 Jf (rdOf ByteArray.empty Jd (ji13)) Jb Jg (⟨#[]⟩ : ByteArray) false 0) = some r := H; have A16 := aA A160; clear A160; have H' := aA H; clear H; go_wp2_with (first | ((with_reducible refine gate_dst (N := 35) rfl ?_); refine Kd.R_lit Kd.string _ 9 ?hg (N := 35) ?hd (xs := ([(⟨#[32]⟩ : ByteArray), (⟨#[9]⟩ : ByteArray), (⟨#[10, 12]⟩ : ByteArray), (⟨#[13, 32]⟩ : ByteArray), (⟨#[32, 32]⟩ : ByteArray)] : List ByteArray)) (inner := [.string (⟨#[32]⟩ : ByteArray), .string (⟨#[9]⟩ : ByteArray), .string (⟨#[10, 12]⟩ : ByteArray), .string (⟨#[13, 32]⟩ : ByteArray), .string (⟨#[32, 32]⟩ : ByteArray)]) (ok := fun _ => True) (okp := fun _ => True) ?hr ?hp (fun _ hk => hk) trivial (Below.refl _ _) (Nat.le_refl _) (by simp) ?_; (case hd => rfl); (case hg => rfl); (case hr => first | (go_simp; done) | (go_simp; rfl)); (case hp => exact (Reps.one (show Kd.M Kd.string _ _ _ (⟨#[32]⟩ : ByteArray) [.string (⟨#[32]⟩ : ByteArray)] from rfl) (Reps.one (show Kd.M Kd.string _ _ _ (⟨#[9]⟩ : ByteArray) [.string (⟨#[9]⟩ : ByteArray)] from rfl) (Reps.one (show Kd.M Kd.string _ _ _ (⟨#[10, 12]⟩ : ByteArray) [.string (⟨#[10, 12]⟩ : ByteArray)] from rfl) (Reps.one (show Kd.M Kd.string _ _ _ (⟨#[13, 32]⟩ : ByteArray) [.string (⟨#[13, 32]⟩ : ByteArray)] from rfl) (Reps.one (show Kd.M Kd.string _ _ _ (⟨#[32, 32]⟩ : ByteArray) [.string (⟨#[32, 32]⟩ : ByteArray)] from rfl) (Reps.none _ _))))))); intro v595 w17 ho18 hb hg_ hnew_; clear hg_ hnew_; (first | rw [← Ny594.out] at ho18 | (simp only [Int.reduceToNat] at ho18; rw [← Ny594.out] at ho18)); have n0_ := aA (Kd.R_below (rlu Je.out) hb); have n1_ := aA (Kd.R_lower ho18 (below_size (blw HB.out))); have n2_ := aA (below_step (blw HB.out) hb); clear Je HB; have Je := n0_; have Jr := n1_; have HB := n2_; clear n0_ n1_ n2_ hb ho18; obtain ⟨Ao19, co19, eo19⟩ := Kd.R_slice Jr.out; subst eo19; have p597 : 0 ≤ ((ji13) : Int) := of_decide_eq_true (by first | (with_reducible assumption) | assumption); have q597 : (ji13) < (Jd.length : Int) := of_decide_eq_true (by first | (with_reducible assumption) | assumption); obtain ⟨ad597, e597, hx597_0⟩ := Kd.at_string (Kd.R_reads' Jr.out).2.2 (ji13) p597 q597; cases e597; replace p597 := eq_true p597; replace q597 := eq_true q597; obtain ⟨Jy, Jz, eo20⟩ := Kd.R_slice Je.out; subst eo20) | ((with_reducible refine gate_callee (f := 16) rfl ?_); refine goesL_ (some 42) rfl rfl Try.func16 (by kernel_rfl) rfl #[.slice Jy Jf.length Jz] rfl (by (try simp only [List.map_toArray, List.map_cons, List.map_nil]); first | done | rfl | (simp only [List.length_drop, List.length_take]; rfl)) ?_; (with_reducible refine (sel_Print.calls kj3 _ _ Jf Jb Jg _ ?side1 ?side2 A16.out).mono ?_); (case side1 => repeat (first | exact (Kd.R_reads' Je.out).2.2 | (with_reducible refine Kd.C_alloc ?_ _) | (with_reducible refine Kd.C_drewN ?_ _) | (with_reducible refine Kd.C_drew ?_))); (case side2 => exact (Kd.R_reads' Je.out).2.1); rintro e w21 ⟨rfl, hb⟩; refine ⟨_, rfl, ?_⟩; have n0_ := aA (Kd.R_below (rlu Je.out) hb); have n1_ := aA (Kd.R_below (rlu Jr.out) hb); have n2_ := aA (below_step (blw HB.out) hb); clear Je Jr HB; have Je := n0_; have Jr := n1_; have HB := n2_; clear n0_ n1_ n2_; (try clear hb); (try clear hb2); (try clear hk); (try clear hi)))
    go_loopg [11, 12, 13] kj3 (fun kq v11 v12 v13 w' => ∃ (Jc : ByteArray) (Jh : Bool) (Ja : Int), v11 = .string Jc ∧ v12 = .bool Jh ∧ v13 = .int .i64 Ja ∧ Aside0 (treillagelaw09_SelBlanks.l0 kq Jf (rdOf ByteArray.empty Jd (ji13)) Jb Jg Jc Jh Ja = some r) ∧ Aside0 (kq ≤ kj3) ∧ Aside0 (Kd.R (Kd.slice 46 k46) 42 w' w.heap.size (fun _ => True) (.slice Jy Jf.length Jz) Jf) ∧ Aside0 (Below w.heap.size w w'))
    case atStart => exact ⟨((⟨#[]⟩ : ByteArray)), (false), (0), (by first | rfl | (simp; done) | (simp [*]; done)), (by first | rfl | (simp; done) | (simp [*]; done)), (by first | rfl | (simp; done) | (simp [*]; done)), H', ⟨Nat.le_refl _⟩, ⟨by (with_reducible repeat (first | apply Kd.R_alloc | apply Kd.R_drewN | apply Kd.R_drew)); exact Je.out⟩, ⟨by repeat (first | (with_reducible first | exact HB.out | apply below_alloc | apply pw_below_drewN | apply below_drew1) | exact HB.out)⟩⟩
    case round =>
     clear H'; try clear c1
     try clear p2
     try clear p5
     try clear q5
     try clear hx5
     try clear c6
     try clear c6b0
     try clear c6b1
     try clear c7
     try clear c7b0
     try clear c7b1
     try clear c10
     try clear c11
     try clear c14
     try clear c14b0
     try clear c15
     try clear c15b0
     try clear c16
     try clear hx597_0
     try clear p2
     try clear p597
     try clear q597
     obtain ⟨Jc, Jh, Ja, rfl, rfl, rfl, HA, HK2, Je, HB⟩ := hrel; cases gk with
     | zero => exact absurd HA.out (by simp [treillagelaw09_SelBlanks.l0])
     | succ k2 =>
      have H := HA.out; clear HA; simp only [treillagelaw09_SelBlanks.l0] at H; by_cases c22 : Ja < (Jb.size : Int)
      ·rw [if_pos c22] at H; have c22b0 : decide (Ja < (Jb.size : Int)) = true := decide_eq_true c22; clear c22; by_cases c23 : 0 ≤ Ja
       rotate_left
       ·rw [if_neg c23] at H; exact absurd H (by simp)
       rw [if_pos c23] at H; have c23b0 : decide (0 ≤ Ja) = true := decide_eq_true c23; clear c23; by_cases c25 : (bt Jb Ja) = 34
       ·rw [if_pos c25] at H; have c25b0 : ((bt Jb Ja) == 34) = true := beq_iff_eq.mpr c25; have c25b1 : ((bt Jb Ja) != 34) = false := bne_eq_false_iff_eq.mpr c25; clear c25; by_cases c27 : (bt Jb Ja) = 44
        ·rw [if_pos c27] at H; have c27b0 : ((bt Jb Ja) == 44) = true := beq_iff_eq.mpr c27; have c27b1 : ((bt Jb Ja) != 44) = false := bne_eq_false_iff_eq.mpr c27; clear c27; by_cases c28 : Jh = true
         ·subst c28; have H1 : (if Jc.size + (rdOf ByteArray.empty Jd (ji13)).size ≤ 9223372036854775807 then (if Ja ≤ (wrap64 (Ja + 1)) then (if (wrap64 (Ja + 1)) ≤ (Jb.size : Int) then (if (Jc ++ (rdOf ByteArray.empty Jd (ji13))).size + (Jb.extract (Ja : Int).toNat ((wrap64 (Ja + 1)) : Int).toNat).size ≤ 9223372036854775807 then (if ((Jc ++ (rdOf ByteArray.empty Jd (ji13))) ++ (Jb.extract (Ja : Int).toNat ((wrap64 (Ja + 1)) : Int).toNat)).size + (rdOf ByteArray.empty Jd (ji13)).size ≤ 9223372036854775807 then (treillagelaw09_SelBlanks.l0 k2 Jf (rdOf ByteArray.empty Jd (ji13)) Jb Jg (((Jc ++ (rdOf ByteArray.empty Jd (ji13))) ++ (Jb.extract (Ja : Int).toNat ((wrap64 (Ja + 1)) : Int).toNat)) ++ (rdOf ByteArray.empty Jd (ji13))) false (wrap64 (Ja + 1))) else (none)) else (none)) else (none)) else (none)) else (none)) = some r := by rw [if_pos rfl] at H; exact H
          clear H; have H := H1; clear H1; by_cases c29 : Jc.size + (rdOf ByteArray.empty Jd (ji13)).size ≤ 9223372036854775807
          rotate_left
          ·rw [if_neg c29] at H; exact absurd H (by simp)
          rw [if_pos c29] at H; have c29b0 := eq_true c29; have c29b1 : decide (Jc.size + (rdOf ByteArray.empty Jd (ji13)).size ≤ 9223372036854775807) = true := decide_eq_true c29; try have c29b2 : (9223372036854775807 < Jc.size + (rdOf ByteArray.empty Jd (ji13)).size) = False := eq_false (Nat.not_lt.2 c29)
          have c30b0 := eq_true (of_decide_eq_true (by first | (with_reducible assumption) | assumption) : 0 ≤ Ja); by_cases c31 : Ja ≤ (wrap64 (Ja + 1))
          rotate_left
          ·rw [if_neg c31] at H; exact absurd H (by simp)
          rw [if_pos c31] at H; have c31b0 := eq_true c31; have c31b1 : decide (Ja ≤ (wrap64 (Ja + 1))) = true := decide_eq_true c31; by_cases c32 : (wrap64 (Ja + 1)) ≤ (Jb.size : Int)
          rotate_left
          ·rw [if_neg c32] at H; exact absurd H (by simp)
          rw [if_pos c32] at H; have c32b0 := eq_true c32; have c32b1 : decide ((wrap64 (Ja + 1)) ≤ (Jb.size : Int)) = true := decide_eq_true c32; by_cases c33 : (Jc ++ (rdOf ByteArray.empty Jd (ji13))).size + (Jb.extract (Ja : Int).toNat ((wrap64 (Ja + 1)) : Int).toNat).size ≤ 9223372036854775807
          rotate_left
          ·rw [if_neg c33] at H; exact absurd H (by simp)
          rw [if_pos c33] at H; have c33b0 := eq_true c33; have c33b1 : decide ((Jc ++ (rdOf ByteArray.empty Jd (ji13))).size + (Jb.extract (Ja : Int).toNat ((wrap64 (Ja + 1)) : Int).toNat).size ≤ 9223372036854775807) = true := decide_eq_true c33; try have c33b2 : (9223372036854775807 < (Jc ++ (rdOf ByteArray.empty Jd (ji13))).size + (Jb.extract (Ja : Int).toNat ((wrap64 (Ja + 1)) : Int).toNat).size) = False := eq_false (Nat.not_lt.2 c33); try have c33s : (9223372036854775807 < Jc.size + rdOf ByteArray.empty Jd (ji13).size + Jb.extract (Ja : Int).toNat ((wrap64 (Ja + 1)) : Int).toNat.size) = False := eq_false (Nat.not_lt.2 (by have hh := c33; simp only [ByteArray.size_append] at hh; exact hh))
          by_cases c34 : ((Jc ++ (rdOf ByteArray.empty Jd (ji13))) ++ (Jb.extract (Ja : Int).toNat ((wrap64 (Ja + 1)) : Int).toNat)).size + (rdOf ByteArray.empty Jd (ji13)).size ≤ 9223372036854775807
          rotate_left
          ·rw [if_neg c34] at H; exact absurd H (by simp)
          rw [if_pos c34] at H; have c34b0 := eq_true c34; have c34b1 : decide (((Jc ++ (rdOf ByteArray.empty Jd (ji13))) ++ (Jb.extract (Ja : Int).toNat ((wrap64 (Ja + 1)) : Int).toNat)).size + (rdOf ByteArray.empty Jd (ji13)).size ≤ 9223372036854775807) = true := decide_eq_true c34; try have c34b2 : (9223372036854775807 < ((Jc ++ (rdOf ByteArray.empty Jd (ji13))) ++ (Jb.extract (Ja : Int).toNat ((wrap64 (Ja + 1)) : Int).toNat)).size + (rdOf ByteArray.empty Jd (ji13)).size) = False := eq_false (Nat.not_lt.2 c34); try have c34s : (9223372036854775807 < Jc.size + rdOf ByteArray.empty Jd (ji13).size + Jb.extract (Ja : Int).toNat ((wrap64 (Ja + 1)) : Int).toNat.size + rdOf ByteArray.empty Jd (ji13).size) = False := eq_false (Nat.not_lt.2 (by have hh := c34; simp only [ByteArray.size_append] at hh; exact hh))
          have H' := aA H; clear H; have p24 : 0 ≤ (Ja : Int) := of_decide_eq_true (by first | (with_reducible assumption) | assumption); have q24 : Ja < (Jb.size : Int) := of_decide_eq_true (by first | (with_reducible assumption) | assumption); have hx24 := bt_at Jb Ja; replace p24 := eq_true p24; replace q24 := eq_true q24; have p26 : 0 ≤ (Ja : Int) := of_decide_eq_true (by first | (with_reducible assumption) | assumption); have q26 : Ja < (Jb.size : Int) := of_decide_eq_true (by first | (with_reducible assumption) | assumption); have hx26 := bt_at Jb Ja; replace p26 := eq_true p26; replace q26 := eq_true q26; go_wp2; go_roundg k2
          case measure => have := HJ3.out; have := HK2.out; omega
          case rel => exact ⟨(((Jc ++ (rdOf ByteArray.empty Jd (ji13))) ++ (Jb.extract (Ja : Int).toNat ((wrap64 (Ja + 1)) : Int).toNat)) ++ (rdOf ByteArray.empty Jd (ji13))), (false), (wrap64 (Ja + 1)), (by first | rfl | (simp; done) | (simp only [← hji13] <;> (first | rfl | simp)) | (simp [*]; done)), (by first | rfl | (simp; done) | (simp [*]; done)), (by first | rfl | (simp; done) | (simp [*]; done)), H', ⟨by have := HJ3.out; have := HK2.out; omega⟩, ⟨by (with_reducible repeat (first | apply Kd.R_alloc | apply Kd.R_drewN | apply Kd.R_drew)); exact Je.out⟩, ⟨by repeat (first | (with_reducible first | exact HB.out | apply below_alloc | apply pw_below_drewN | apply below_drew1) | exact HB.out)⟩⟩
         ·replace c28 := Bool.eq_false_iff.mpr c28; subst c28; have H1 : (if Ja ≤ (wrap64 (Ja + 1)) then (if (wrap64 (Ja + 1)) ≤ (Jb.size : Int) then (if Jc.size + (Jb.extract (Ja : Int).toNat ((wrap64 (Ja + 1)) : Int).toNat).size ≤ 9223372036854775807 then (treillagelaw09_SelBlanks.l0 k2 Jf (rdOf ByteArray.empty Jd (ji13)) Jb Jg (Jc ++ (Jb.extract (Ja : Int).toNat ((wrap64 (Ja + 1)) : Int).toNat)) true (wrap64 (Ja + 1))) else (none)) else (none)) else (none)) = some r := by rw [if_neg (show ¬ (false = true) by decide)] at H; exact H
          clear H; have H := H1; clear H1; have c35b0 := eq_true (of_decide_eq_true (by first | (with_reducible assumption) | assumption) : 0 ≤ Ja); by_cases c36 : Ja ≤ (wrap64 (Ja + 1))
          rotate_left
          ·rw [if_neg c36] at H; exact absurd H (by simp)
          rw [if_pos c36] at H; have c36b0 := eq_true c36; have c36b1 : decide (Ja ≤ (wrap64 (Ja + 1))) = true := decide_eq_true c36; by_cases c37 : (wrap64 (Ja + 1)) ≤ (Jb.size : Int)
          rotate_left
          ·rw [if_neg c37] at H; exact absurd H (by simp)
          rw [if_pos c37] at H; have c37b0 := eq_true c37; have c37b1 : decide ((wrap64 (Ja + 1)) ≤ (Jb.size : Int)) = true := decide_eq_true c37; by_cases c38 : Jc.size + (Jb.extract (Ja : Int).toNat ((wrap64 (Ja + 1)) : Int).toNat).size ≤ 9223372036854775807
          rotate_left
          ·rw [if_neg c38] at H; exact absurd H (by simp)
          rw [if_pos c38] at H; have c38b0 := eq_true c38; have c38b1 : decide (Jc.size + (Jb.extract (Ja : Int).toNat ((wrap64 (Ja + 1)) : Int).toNat).size ≤ 9223372036854775807) = true := decide_eq_true c38; try have c38b2 : (9223372036854775807 < Jc.size + (Jb.extract (Ja : Int).toNat ((wrap64 (Ja + 1)) : Int).toNat).size) = False := eq_false (Nat.not_lt.2 c38)
          have H' := aA H; clear H; have p24 : 0 ≤ (Ja : Int) := of_decide_eq_true (by first | (with_reducible assumption) | assumption); have q24 : Ja < (Jb.size : Int) := of_decide_eq_true (by first | (with_reducible assumption) | assumption); have hx24 := bt_at Jb Ja; replace p24 := eq_true p24; replace q24 := eq_true q24; have p26 : 0 ≤ (Ja : Int) := of_decide_eq_true (by first | (with_reducible assumption) | assumption); have q26 : Ja < (Jb.size : Int) := of_decide_eq_true (by first | (with_reducible assumption) | assumption); have hx26 := bt_at Jb Ja; replace p26 := eq_true p26; replace q26 := eq_true q26; go_wp2; go_roundg k2
          case measure => have := HJ3.out; have := HK2.out; omega
          case rel => exact ⟨(Jc ++ (Jb.extract (Ja : Int).toNat ((wrap64 (Ja + 1)) : Int).toNat)), (true), (wrap64 (Ja + 1)), (by first | rfl | (simp; done) | (simp [*]; done)), (by first | rfl | (simp; done) | (simp [*]; done)), (by first | rfl | (simp; done) | (simp [*]; done)), H', ⟨by have := HJ3.out; have := HK2.out; omega⟩, ⟨by (with_reducible repeat (first | apply Kd.R_alloc | apply Kd.R_drewN | apply Kd.R_drew)); exact Je.out⟩, ⟨by repeat (first | (with_reducible first | exact HB.out | apply below_alloc | apply pw_below_drewN | apply below_drew1) | exact HB.out)⟩⟩
        ·rw [if_neg c27] at H; have c27b0 : ((bt Jb Ja) == 44) = false := beq_eq_false_iff_ne.mpr c27; have c27b1 : ((bt Jb Ja) != 44) = true := bne_iff_ne.mpr c27; by_cases c40 : (bt Jb Ja) = 62
         ·rw [if_pos c40] at H; have c40b0 : ((bt Jb Ja) == 62) = true := beq_iff_eq.mpr c40; have c40b1 : ((bt Jb Ja) != 62) = false := bne_eq_false_iff_eq.mpr c40; clear c40; by_cases c41 : Jh = true
          ·subst c41; have H1 : (if Jc.size + (rdOf ByteArray.empty Jd (ji13)).size ≤ 9223372036854775807 then (if Ja ≤ (wrap64 (Ja + 1)) then (if (wrap64 (Ja + 1)) ≤ (Jb.size : Int) then (if (Jc ++ (rdOf ByteArray.empty Jd (ji13))).size + (Jb.extract (Ja : Int).toNat ((wrap64 (Ja + 1)) : Int).toNat).size ≤ 9223372036854775807 then (if ((Jc ++ (rdOf ByteArray.empty Jd (ji13))) ++ (Jb.extract (Ja : Int).toNat ((wrap64 (Ja + 1)) : Int).toNat)).size + (rdOf ByteArray.empty Jd (ji13)).size ≤ 9223372036854775807 then (treillagelaw09_SelBlanks.l0 k2 Jf (rdOf ByteArray.empty Jd (ji13)) Jb Jg (((Jc ++ (rdOf ByteArray.empty Jd (ji13))) ++ (Jb.extract (Ja : Int).toNat ((wrap64 (Ja + 1)) : Int).toNat)) ++ (rdOf ByteArray.empty Jd (ji13))) false (wrap64 (Ja + 1))) else (none)) else (none)) else (none)) else (none)) else (none)) = some r := by rw [if_pos rfl] at H; exact H
           clear H; have H := H1; clear H1; by_cases c42 : Jc.size + (rdOf ByteArray.empty Jd (ji13)).size ≤ 9223372036854775807
           rotate_left
           ·rw [if_neg c42] at H; exact absurd H (by simp)
           rw [if_pos c42] at H; have c42b0 := eq_true c42; have c42b1 : decide (Jc.size + (rdOf ByteArray.empty Jd (ji13)).size ≤ 9223372036854775807) = true := decide_eq_true c42; try have c42b2 : (9223372036854775807 < Jc.size + (rdOf ByteArray.empty Jd (ji13)).size) = False := eq_false (Nat.not_lt.2 c42)
           have c43b0 := eq_true (of_decide_eq_true (by first | (with_reducible assumption) | assumption) : 0 ≤ Ja); by_cases c44 : Ja ≤ (wrap64 (Ja + 1))
           rotate_left
           ·rw [if_neg c44] at H; exact absurd H (by simp)
           rw [if_pos c44] at H; have c44b0 := eq_true c44; have c44b1 : decide (Ja ≤ (wrap64 (Ja + 1))) = true := decide_eq_true c44; by_cases c45 : (wrap64 (Ja + 1)) ≤ (Jb.size : Int)
           rotate_left
           ·rw [if_neg c45] at H; exact absurd H (by simp)
           rw [if_pos c45] at H; have c45b0 := eq_true c45; have c45b1 : decide ((wrap64 (Ja + 1)) ≤ (Jb.size : Int)) = true := decide_eq_true c45; by_cases c46 : (Jc ++ (rdOf ByteArray.empty Jd (ji13))).size + (Jb.extract (Ja : Int).toNat ((wrap64 (Ja + 1)) : Int).toNat).size ≤ 9223372036854775807
           rotate_left
           ·rw [if_neg c46] at H; exact absurd H (by simp)
           rw [if_pos c46] at H; have c46b0 := eq_true c46; have c46b1 : decide ((Jc ++ (rdOf ByteArray.empty Jd (ji13))).size + (Jb.extract (Ja : Int).toNat ((wrap64 (Ja + 1)) : Int).toNat).size ≤ 9223372036854775807) = true := decide_eq_true c46; try have c46b2 : (9223372036854775807 < (Jc ++ (rdOf ByteArray.empty Jd (ji13))).size + (Jb.extract (Ja : Int).toNat ((wrap64 (Ja + 1)) : Int).toNat).size) = False := eq_false (Nat.not_lt.2 c46); try have c46s : (9223372036854775807 < Jc.size + rdOf ByteArray.empty Jd (ji13).size + Jb.extract (Ja : Int).toNat ((wrap64 (Ja + 1)) : Int).toNat.size) = False := eq_false (Nat.not_lt.2 (by have hh := c46; simp only [ByteArray.size_append] at hh; exact hh))
           by_cases c47 : ((Jc ++ (rdOf ByteArray.empty Jd (ji13))) ++ (Jb.extract (Ja : Int).toNat ((wrap64 (Ja + 1)) : Int).toNat)).size + (rdOf ByteArray.empty Jd (ji13)).size ≤ 9223372036854775807
           rotate_left
           ·rw [if_neg c47] at H; exact absurd H (by simp)
           rw [if_pos c47] at H; have c47b0 := eq_true c47; have c47b1 : decide (((Jc ++ (rdOf ByteArray.empty Jd (ji13))) ++ (Jb.extract (Ja : Int).toNat ((wrap64 (Ja + 1)) : Int).toNat)).size + (rdOf ByteArray.empty Jd (ji13)).size ≤ 9223372036854775807) = true := decide_eq_true c47; try have c47b2 : (9223372036854775807 < ((Jc ++ (rdOf ByteArray.empty Jd (ji13))) ++ (Jb.extract (Ja : Int).toNat ((wrap64 (Ja + 1)) : Int).toNat)).size + (rdOf ByteArray.empty Jd (ji13)).size) = False := eq_false (Nat.not_lt.2 c47); try have c47s : (9223372036854775807 < Jc.size + rdOf ByteArray.empty Jd (ji13).size + Jb.extract (Ja : Int).toNat ((wrap64 (Ja + 1)) : Int).toNat.size + rdOf ByteArray.empty Jd (ji13).size) = False := eq_false (Nat.not_lt.2 (by have hh := c47; simp only [ByteArray.size_append] at hh; exact hh))
           have H' := aA H; clear H; have p24 : 0 ≤ (Ja : Int) := of_decide_eq_true (by first | (with_reducible assumption) | assumption); have q24 : Ja < (Jb.size : Int) := of_decide_eq_true (by first | (with_reducible assumption) | assumption); have hx24 := bt_at Jb Ja; replace p24 := eq_true p24; replace q24 := eq_true q24; have p26 : 0 ≤ (Ja : Int) := of_decide_eq_true (by first | (with_reducible assumption) | assumption); have q26 : Ja < (Jb.size : Int) := of_decide_eq_true (by first | (with_reducible assumption) | assumption); have hx26 := bt_at Jb Ja; replace p26 := eq_true p26; replace q26 := eq_true q26; have p39 : 0 ≤ (Ja : Int) := of_decide_eq_true (by first | (with_reducible assumption) | assumption); have q39 : Ja < (Jb.size : Int) := of_decide_eq_true (by first | (with_reducible assumption) | assumption); have hx39 := bt_at Jb Ja; replace p39 := eq_true p39; replace q39 := eq_true q39; go_wp2; go_roundg k2
           case measure => have := HJ3.out; have := HK2.out; omega
           case rel => exact ⟨(((Jc ++ (rdOf ByteArray.empty Jd (ji13))) ++ (Jb.extract (Ja : Int).toNat ((wrap64 (Ja + 1)) : Int).toNat)) ++ (rdOf ByteArray.empty Jd (ji13))), (false), (wrap64 (Ja + 1)), (by first | rfl | (simp; done) | (simp only [← hji13] <;> (first | rfl | simp)) | (simp [*]; done)), (by first | rfl | (simp; done) | (simp [*]; done)), (by first | rfl | (simp; done) | (simp [*]; done)), H', ⟨by have := HJ3.out; have := HK2.out; omega⟩, ⟨by (with_reducible repeat (first | apply Kd.R_alloc | apply Kd.R_drewN | apply Kd.R_drew)); exact Je.out⟩, ⟨by repeat (first | (with_reducible first | exact HB.out | apply below_alloc | apply pw_below_drewN | apply below_drew1) | exact HB.out)⟩⟩
          ·replace c41 := Bool.eq_false_iff.mpr c41; subst c41; have H1 : (if Ja ≤ (wrap64 (Ja + 1)) then (if (wrap64 (Ja + 1)) ≤ (Jb.size : Int) then (if Jc.size + (Jb.extract (Ja : Int).toNat ((wrap64 (Ja + 1)) : Int).toNat).size ≤ 9223372036854775807 then (treillagelaw09_SelBlanks.l0 k2 Jf (rdOf ByteArray.empty Jd (ji13)) Jb Jg (Jc ++ (Jb.extract (Ja : Int).toNat ((wrap64 (Ja + 1)) : Int).toNat)) true (wrap64 (Ja + 1))) else (none)) else (none)) else (none)) = some r := by rw [if_neg (show ¬ (false = true) by decide)] at H; exact H
           clear H; have H := H1; clear H1; have c48b0 := eq_true (of_decide_eq_true (by first | (with_reducible assumption) | assumption) : 0 ≤ Ja); by_cases c49 : Ja ≤ (wrap64 (Ja + 1))
           rotate_left
           ·rw [if_neg c49] at H; exact absurd H (by simp)
           rw [if_pos c49] at H; have c49b0 := eq_true c49; have c49b1 : decide (Ja ≤ (wrap64 (Ja + 1))) = true := decide_eq_true c49; by_cases c50 : (wrap64 (Ja + 1)) ≤ (Jb.size : Int)
           rotate_left
           ·rw [if_neg c50] at H; exact absurd H (by simp)
           rw [if_pos c50] at H; have c50b0 := eq_true c50; have c50b1 : decide ((wrap64 (Ja + 1)) ≤ (Jb.size : Int)) = true := decide_eq_true c50; by_cases c51 : Jc.size + (Jb.extract (Ja : Int).toNat ((wrap64 (Ja + 1)) : Int).toNat).size ≤ 9223372036854775807
           rotate_left
           ·rw [if_neg c51] at H; exact absurd H (by simp)
           rw [if_pos c51] at H; have c51b0 := eq_true c51; have c51b1 : decide (Jc.size + (Jb.extract (Ja : Int).toNat ((wrap64 (Ja + 1)) : Int).toNat).size ≤ 9223372036854775807) = true := decide_eq_true c51; try have c51b2 : (9223372036854775807 < Jc.size + (Jb.extract (Ja : Int).toNat ((wrap64 (Ja + 1)) : Int).toNat).size) = False := eq_false (Nat.not_lt.2 c51)
           have H' := aA H; clear H; have p24 : 0 ≤ (Ja : Int) := of_decide_eq_true (by first | (with_reducible assumption) | assumption); have q24 : Ja < (Jb.size : Int) := of_decide_eq_true (by first | (with_reducible assumption) | assumption); have hx24 := bt_at Jb Ja; replace p24 := eq_true p24; replace q24 := eq_true q24; have p26 : 0 ≤ (Ja : Int) := of_decide_eq_true (by first | (with_reducible assumption) | assumption); have q26 : Ja < (Jb.size : Int) := of_decide_eq_true (by first | (with_reducible assumption) | assumption); have hx26 := bt_at Jb Ja; replace p26 := eq_true p26; replace q26 := eq_true q26; have p39 : 0 ≤ (Ja : Int) := of_decide_eq_true (by first | (with_reducible assumption) | assumption); have q39 : Ja < (Jb.size : Int) := of_decide_eq_true (by first | (with_reducible assumption) | assumption); have hx39 := bt_at Jb Ja; replace p39 := eq_true p39; replace q39 := eq_true q39; go_wp2; go_roundg k2
           case measure => have := HJ3.out; have := HK2.out; omega
           case rel => exact ⟨(Jc ++ (Jb.extract (Ja : Int).toNat ((wrap64 (Ja + 1)) : Int).toNat)), (true), (wrap64 (Ja + 1)), (by first | rfl | (simp; done) | (simp [*]; done)), (by first | rfl | (simp; done) | (simp [*]; done)), (by first | rfl | (simp; done) | (simp [*]; done)), H', ⟨by have := HJ3.out; have := HK2.out; omega⟩, ⟨by (with_reducible repeat (first | apply Kd.R_alloc | apply Kd.R_drewN | apply Kd.R_drew)); exact Je.out⟩, ⟨by repeat (first | (with_reducible first | exact HB.out | apply below_alloc | apply pw_below_drewN | apply below_drew1) | exact HB.out)⟩⟩
         ·rw [if_neg c40] at H; have c40b0 : ((bt Jb Ja) == 62) = false := beq_eq_false_iff_ne.mpr c40; have c40b1 : ((bt Jb Ja) != 62) = true := bne_iff_ne.mpr c40; have c52b0 := eq_true (of_decide_eq_true (by first | (with_reducible assumption) | assumption) : 0 ≤ Ja); by_cases c53 : Ja ≤ (wrap64 (Ja + 1))
          rotate_left
          ·rw [if_neg c53] at H; exact absurd H (by simp)
          rw [if_pos c53] at H; have c53b0 := eq_true c53; have c53b1 : decide (Ja ≤ (wrap64 (Ja + 1))) = true := decide_eq_true c53; by_cases c54 : (wrap64 (Ja + 1)) ≤ (Jb.size : Int)
          rotate_left
          ·rw [if_neg c54] at H; exact absurd H (by simp)
          rw [if_pos c54] at H; have c54b0 := eq_true c54; have c54b1 : decide ((wrap64 (Ja + 1)) ≤ (Jb.size : Int)) = true := decide_eq_true c54; by_cases c55 : Jc.size + (Jb.extract (Ja : Int).toNat ((wrap64 (Ja + 1)) : Int).toNat).size ≤ 9223372036854775807
          rotate_left
          ·rw [if_neg c55] at H; exact absurd H (by simp)
          rw [if_pos c55] at H; have c55b0 := eq_true c55; have c55b1 : decide (Jc.size + (Jb.extract (Ja : Int).toNat ((wrap64 (Ja + 1)) : Int).toNat).size ≤ 9223372036854775807) = true := decide_eq_true c55; try have c55b2 : (9223372036854775807 < Jc.size + (Jb.extract (Ja : Int).toNat ((wrap64 (Ja + 1)) : Int).toNat).size) = False := eq_false (Nat.not_lt.2 c55)
          have H' := aA H; clear H; have p24 : 0 ≤ (Ja : Int) := of_decide_eq_true (by first | (with_reducible assumption) | assumption); have q24 : Ja < (Jb.size : Int) := of_decide_eq_true (by first | (with_reducible assumption) | assumption); have hx24 := bt_at Jb Ja; replace p24 := eq_true p24; replace q24 := eq_true q24; have p26 : 0 ≤ (Ja : Int) := of_decide_eq_true (by first | (with_reducible assumption) | assumption); have q26 : Ja < (Jb.size : Int) := of_decide_eq_true (by first | (with_reducible assumption) | assumption); have hx26 := bt_at Jb Ja; replace p26 := eq_true p26; replace q26 := eq_true q26; have p39 : 0 ≤ (Ja : Int) := of_decide_eq_true (by first | (with_reducible assumption) | assumption); have q39 : Ja < (Jb.size : Int) := of_decide_eq_true (by first | (with_reducible assumption) | assumption); have hx39 := bt_at Jb Ja; replace p39 := eq_true p39; replace q39 := eq_true q39; go_wp2; go_roundg k2
          case measure => have := HJ3.out; have := HK2.out; omega
          case rel => exact ⟨(Jc ++ (Jb.extract (Ja : Int).toNat ((wrap64 (Ja + 1)) : Int).toNat)), (!Jh), (wrap64 (Ja + 1)), (by first | rfl | (simp; done) | (simp [*]; done)), (by first | rfl | (simp; done) | (simp [*]; done)), (by first | rfl | (simp; done) | (simp [*]; done)), H', ⟨by have := HJ3.out; have := HK2.out; omega⟩, ⟨by (with_reducible repeat (first | apply Kd.R_alloc | apply Kd.R_drewN | apply Kd.R_drew)); exact Je.out⟩, ⟨by repeat (first | (with_reducible first | exact HB.out | apply below_alloc | apply pw_below_drewN | apply below_drew1) | exact HB.out)⟩⟩
       ·rw [if_neg c25] at H; have c25b0 : ((bt Jb Ja) == 34) = false := beq_eq_false_iff_ne.mpr c25; have c25b1 : ((bt Jb Ja) != 34) = true := bne_iff_ne.mpr c25; by_cases c57 : (bt Jb Ja) = 44
        ·rw [if_pos c57] at H; have c57b0 : ((bt Jb Ja) == 44) = true := beq_iff_eq.mpr c57; have c57b1 : ((bt Jb Ja) != 44) = false := bne_eq_false_iff_eq.mpr c57; clear c57; by_cases c58 : Jh = true
         ·subst c58; have H1 : (if Ja ≤ (wrap64 (Ja + 1)) then (if (wrap64 (Ja + 1)) ≤ (Jb.size : Int) then (if Jc.size + (Jb.extract (Ja : Int).toNat ((wrap64 (Ja + 1)) : Int).toNat).size ≤ 9223372036854775807 then (treillagelaw09_SelBlanks.l0 k2 Jf (rdOf ByteArray.empty Jd (ji13)) Jb Jg (Jc ++ (Jb.extract (Ja : Int).toNat ((wrap64 (Ja + 1)) : Int).toNat)) true (wrap64 (Ja + 1))) else (none)) else (none)) else (none)) = some r := by rw [if_pos rfl] at H; exact H
          clear H; have H := H1; clear H1; have c59b0 := eq_true (of_decide_eq_true (by first | (with_reducible assumption) | assumption) : 0 ≤ Ja); by_cases c60 : Ja ≤ (wrap64 (Ja + 1))
          rotate_left
          ·rw [if_neg c60] at H; exact absurd H (by simp)
          rw [if_pos c60] at H; have c60b0 := eq_true c60; have c60b1 : decide (Ja ≤ (wrap64 (Ja + 1))) = true := decide_eq_true c60; by_cases c61 : (wrap64 (Ja + 1)) ≤ (Jb.size : Int)
          rotate_left
          ·rw [if_neg c61] at H; exact absurd H (by simp)
          rw [if_pos c61] at H; have c61b0 := eq_true c61; have c61b1 : decide ((wrap64 (Ja + 1)) ≤ (Jb.size : Int)) = true := decide_eq_true c61; by_cases c62 : Jc.size + (Jb.extract (Ja : Int).toNat ((wrap64 (Ja + 1)) : Int).toNat).size ≤ 9223372036854775807
          rotate_left
          ·rw [if_neg c62] at H; exact absurd H (by simp)
          rw [if_pos c62] at H; have c62b0 := eq_true c62; have c62b1 : decide (Jc.size + (Jb.extract (Ja : Int).toNat ((wrap64 (Ja + 1)) : Int).toNat).size ≤ 9223372036854775807) = true := decide_eq_true c62; try have c62b2 : (9223372036854775807 < Jc.size + (Jb.extract (Ja : Int).toNat ((wrap64 (Ja + 1)) : Int).toNat).size) = False := eq_false (Nat.not_lt.2 c62)
          have H' := aA H; clear H; have p24 : 0 ≤ (Ja : Int) := of_decide_eq_true (by first | (with_reducible assumption) | assumption); have q24 : Ja < (Jb.size : Int) := of_decide_eq_true (by first | (with_reducible assumption) | assumption); have hx24 := bt_at Jb Ja; replace p24 := eq_true p24; replace q24 := eq_true q24; have p56 : 0 ≤ (Ja : Int) := of_decide_eq_true (by first | (with_reducible assumption) | assumption); have q56 : Ja < (Jb.size : Int) := of_decide_eq_true (by first | (with_reducible assumption) | assumption); have hx56 := bt_at Jb Ja; replace p56 := eq_true p56; replace q56 := eq_true q56; go_wp2; go_roundg k2
          case measure => have := HJ3.out; have := HK2.out; omega
          case rel => exact ⟨(Jc ++ (Jb.extract (Ja : Int).toNat ((wrap64 (Ja + 1)) : Int).toNat)), (true), (wrap64 (Ja + 1)), (by first | rfl | (simp; done) | (simp [*]; done)), (by first | rfl | (simp; done) | (simp [*]; done)), (by first | rfl | (simp; done) | (simp [*]; done)), H', ⟨by have := HJ3.out; have := HK2.out; omega⟩, ⟨by (with_reducible repeat (first | apply Kd.R_alloc | apply Kd.R_drewN | apply Kd.R_drew)); exact Je.out⟩, ⟨by repeat (first | (with_reducible first | exact HB.out | apply below_alloc | apply pw_below_drewN | apply below_drew1) | exact HB.out)⟩⟩
         ·replace c58 := Bool.eq_false_iff.mpr c58; subst c58; have H1 : (if Jc.size + (rdOf ByteArray.empty Jd (ji13)).size ≤ 9223372036854775807 then (if Ja ≤ (wrap64 (Ja + 1)) then (if (wrap64 (Ja + 1)) ≤ (Jb.size : Int) then (if (Jc ++ (rdOf ByteArray.empty Jd (ji13))).size + (Jb.extract (Ja : Int).toNat ((wrap64 (Ja + 1)) : Int).toNat).size ≤ 9223372036854775807 then (if ((Jc ++ (rdOf ByteArray.empty Jd (ji13))) ++ (Jb.extract (Ja : Int).toNat ((wrap64 (Ja + 1)) : Int).toNat)).size + (rdOf ByteArray.empty Jd (ji13)).size ≤ 9223372036854775807 then (treillagelaw09_SelBlanks.l0 k2 Jf (rdOf ByteArray.empty Jd (ji13)) Jb Jg (((Jc ++ (rdOf ByteArray.empty Jd (ji13))) ++ (Jb.extract (Ja : Int).toNat ((wrap64 (Ja + 1)) : Int).toNat)) ++ (rdOf ByteArray.empty Jd (ji13))) false (wrap64 (Ja + 1))) else (none)) else (none)) else (none)) else (none)) else (none)) = some r := by rw [if_neg (show ¬ (false = true) by decide)] at H; exact H
          clear H; have H := H1; clear H1; by_cases c63 : Jc.size + (rdOf ByteArray.empty Jd (ji13)).size ≤ 9223372036854775807
          rotate_left
          ·rw [if_neg c63] at H; exact absurd H (by simp)
          rw [if_pos c63] at H; have c63b0 := eq_true c63; have c63b1 : decide (Jc.size + (rdOf ByteArray.empty Jd (ji13)).size ≤ 9223372036854775807) = true := decide_eq_true c63; try have c63b2 : (9223372036854775807 < Jc.size + (rdOf ByteArray.empty Jd (ji13)).size) = False := eq_false (Nat.not_lt.2 c63)
          have c64b0 := eq_true (of_decide_eq_true (by first | (with_reducible assumption) | assumption) : 0 ≤ Ja); by_cases c65 : Ja ≤ (wrap64 (Ja + 1))
          rotate_left
          ·rw [if_neg c65] at H; exact absurd H (by simp)
          rw [if_pos c65] at H; have c65b0 := eq_true c65; have c65b1 : decide (Ja ≤ (wrap64 (Ja + 1))) = true := decide_eq_true c65; by_cases c66 : (wrap64 (Ja + 1)) ≤ (Jb.size : Int)
          rotate_left
          ·rw [if_neg c66] at H; exact absurd H (by simp)
          rw [if_pos c66] at H; have c66b0 := eq_true c66; have c66b1 : decide ((wrap64 (Ja + 1)) ≤ (Jb.size : Int)) = true := decide_eq_true c66; by_cases c67 : (Jc ++ (rdOf ByteArray.empty Jd (ji13))).size + (Jb.extract (Ja : Int).toNat ((wrap64 (Ja + 1)) : Int).toNat).size ≤ 9223372036854775807
          rotate_left
          ·rw [if_neg c67] at H; exact absurd H (by simp)
          rw [if_pos c67] at H; have c67b0 := eq_true c67; have c67b1 : decide ((Jc ++ (rdOf ByteArray.empty Jd (ji13))).size + (Jb.extract (Ja : Int).toNat ((wrap64 (Ja + 1)) : Int).toNat).size ≤ 9223372036854775807) = true := decide_eq_true c67; try have c67b2 : (9223372036854775807 < (Jc ++ (rdOf ByteArray.empty Jd (ji13))).size + (Jb.extract (Ja : Int).toNat ((wrap64 (Ja + 1)) : Int).toNat).size) = False := eq_false (Nat.not_lt.2 c67); try have c67s : (9223372036854775807 < Jc.size + rdOf ByteArray.empty Jd (ji13).size + Jb.extract (Ja : Int).toNat ((wrap64 (Ja + 1)) : Int).toNat.size) = False := eq_false (Nat.not_lt.2 (by have hh := c67; simp only [ByteArray.size_append] at hh; exact hh))
          by_cases c68 : ((Jc ++ (rdOf ByteArray.empty Jd (ji13))) ++ (Jb.extract (Ja : Int).toNat ((wrap64 (Ja + 1)) : Int).toNat)).size + (rdOf ByteArray.empty Jd (ji13)).size ≤ 9223372036854775807
          rotate_left
          ·rw [if_neg c68] at H; exact absurd H (by simp)
          rw [if_pos c68] at H; have c68b0 := eq_true c68; have c68b1 : decide (((Jc ++ (rdOf ByteArray.empty Jd (ji13))) ++ (Jb.extract (Ja : Int).toNat ((wrap64 (Ja + 1)) : Int).toNat)).size + (rdOf ByteArray.empty Jd (ji13)).size ≤ 9223372036854775807) = true := decide_eq_true c68; try have c68b2 : (9223372036854775807 < ((Jc ++ (rdOf ByteArray.empty Jd (ji13))) ++ (Jb.extract (Ja : Int).toNat ((wrap64 (Ja + 1)) : Int).toNat)).size + (rdOf ByteArray.empty Jd (ji13)).size) = False := eq_false (Nat.not_lt.2 c68); try have c68s : (9223372036854775807 < Jc.size + rdOf ByteArray.empty Jd (ji13).size + Jb.extract (Ja : Int).toNat ((wrap64 (Ja + 1)) : Int).toNat.size + rdOf ByteArray.empty Jd (ji13).size) = False := eq_false (Nat.not_lt.2 (by have hh := c68; simp only [ByteArray.size_append] at hh; exact hh))
          have H' := aA H; clear H; have p24 : 0 ≤ (Ja : Int) := of_decide_eq_true (by first | (with_reducible assumption) | assumption); have q24 : Ja < (Jb.size : Int) := of_decide_eq_true (by first | (with_reducible assumption) | assumption); have hx24 := bt_at Jb Ja; replace p24 := eq_true p24; replace q24 := eq_true q24; have p56 : 0 ≤ (Ja : Int) := of_decide_eq_true (by first | (with_reducible assumption) | assumption); have q56 : Ja < (Jb.size : Int) := of_decide_eq_true (by first | (with_reducible assumption) | assumption); have hx56 := bt_at Jb Ja; replace p56 := eq_true p56; replace q56 := eq_true q56; go_wp2; go_roundg k2
          case measure => have := HJ3.out; have := HK2.out; omega
          case rel => exact ⟨(((Jc ++ (rdOf ByteArray.empty Jd (ji13))) ++ (Jb.extract (Ja : Int).toNat ((wrap64 (Ja + 1)) : Int).toNat)) ++ (rdOf ByteArray.empty Jd (ji13))), (false), (wrap64 (Ja + 1)), (by first | rfl | (simp; done) | (simp only [← hji13] <;> (first | rfl | simp)) | (simp [*]; done)), (by first | rfl | (simp; done) | (simp [*]; done)), (by first | rfl | (simp; done) | (simp [*]; done)), H', ⟨by have := HJ3.out; have := HK2.out; omega⟩, ⟨by (with_reducible repeat (first | apply Kd.R_alloc | apply Kd.R_drewN | apply Kd.R_drew)); exact Je.out⟩, ⟨by repeat (first | (with_reducible first | exact HB.out | apply below_alloc | apply pw_below_drewN | apply below_drew1) | exact HB.out)⟩⟩
        ·rw [if_neg c57] at H; have c57b0 : ((bt Jb Ja) == 44) = false := beq_eq_false_iff_ne.mpr c57; have c57b1 : ((bt Jb Ja) != 44) = true := bne_iff_ne.mpr c57; by_cases c70 : (bt Jb Ja) = 62
         ·rw [if_pos c70] at H; have c70b0 : ((bt Jb Ja) == 62) = true := beq_iff_eq.mpr c70; have c70b1 : ((bt Jb Ja) != 62) = false := bne_eq_false_iff_eq.mpr c70; clear c70; by_cases c71 : Jh = true
          ·subst c71; have H1 : (if Ja ≤ (wrap64 (Ja + 1)) then (if (wrap64 (Ja + 1)) ≤ (Jb.size : Int) then (if Jc.size + (Jb.extract (Ja : Int).toNat ((wrap64 (Ja + 1)) : Int).toNat).size ≤ 9223372036854775807 then (treillagelaw09_SelBlanks.l0 k2 Jf (rdOf ByteArray.empty Jd (ji13)) Jb Jg (Jc ++ (Jb.extract (Ja : Int).toNat ((wrap64 (Ja + 1)) : Int).toNat)) true (wrap64 (Ja + 1))) else (none)) else (none)) else (none)) = some r := by rw [if_pos rfl] at H; exact H
           clear H; have H := H1; clear H1; have c72b0 := eq_true (of_decide_eq_true (by first | (with_reducible assumption) | assumption) : 0 ≤ Ja); by_cases c73 : Ja ≤ (wrap64 (Ja + 1))
           rotate_left
           ·rw [if_neg c73] at H; exact absurd H (by simp)
           rw [if_pos c73] at H; have c73b0 := eq_true c73; have c73b1 : decide (Ja ≤ (wrap64 (Ja + 1))) = true := decide_eq_true c73; by_cases c74 : (wrap64 (Ja + 1)) ≤ (Jb.size : Int)
           rotate_left
           ·rw [if_neg c74] at H; exact absurd H (by simp)
           rw [if_pos c74] at H; have c74b0 := eq_true c74; have c74b1 : decide ((wrap64 (Ja + 1)) ≤ (Jb.size : Int)) = true := decide_eq_true c74; by_cases c75 : Jc.size + (Jb.extract (Ja : Int).toNat ((wrap64 (Ja + 1)) : Int).toNat).size ≤ 9223372036854775807
           rotate_left
           ·rw [if_neg c75] at H; exact absurd H (by simp)
           rw [if_pos c75] at H; have c75b0 := eq_true c75; have c75b1 : decide (Jc.size + (Jb.extract (Ja : Int).toNat ((wrap64 (Ja + 1)) : Int).toNat).size ≤ 9223372036854775807) = true := decide_eq_true c75; try have c75b2 : (9223372036854775807 < Jc.size + (Jb.extract (Ja : Int).toNat ((wrap64 (Ja + 1)) : Int).toNat).size) = False := eq_false (Nat.not_lt.2 c75)
           have H' := aA H; clear H; have p24 : 0 ≤ (Ja : Int) := of_decide_eq_true (by first | (with_reducible assumption) | assumption); have q24 : Ja < (Jb.size : Int) := of_decide_eq_true (by first | (with_reducible assumption) | assumption); have hx24 := bt_at Jb Ja; replace p24 := eq_true p24; replace q24 := eq_true q24; have p56 : 0 ≤ (Ja : Int) := of_decide_eq_true (by first | (with_reducible assumption) | assumption); have q56 : Ja < (Jb.size : Int) := of_decide_eq_true (by first | (with_reducible assumption) | assumption); have hx56 := bt_at Jb Ja; replace p56 := eq_true p56; replace q56 := eq_true q56; have p69 : 0 ≤ (Ja : Int) := of_decide_eq_true (by first | (with_reducible assumption) | assumption); have q69 : Ja < (Jb.size : Int) := of_decide_eq_true (by first | (with_reducible assumption) | assumption); have hx69 := bt_at Jb Ja; replace p69 := eq_true p69; replace q69 := eq_true q69; go_wp2; go_roundg k2
           case measure => have := HJ3.out; have := HK2.out; omega
           case rel => exact ⟨(Jc ++ (Jb.extract (Ja : Int).toNat ((wrap64 (Ja + 1)) : Int).toNat)), (true), (wrap64 (Ja + 1)), (by first | rfl | (simp; done) | (simp [*]; done)), (by first | rfl | (simp; done) | (simp [*]; done)), (by first | rfl | (simp; done) | (simp [*]; done)), H', ⟨by have := HJ3.out; have := HK2.out; omega⟩, ⟨by (with_reducible repeat (first | apply Kd.R_alloc | apply Kd.R_drewN | apply Kd.R_drew)); exact Je.out⟩, ⟨by repeat (first | (with_reducible first | exact HB.out | apply below_alloc | apply pw_below_drewN | apply below_drew1) | exact HB.out)⟩⟩
          ·replace c71 := Bool.eq_false_iff.mpr c71; subst c71; have H1 : (if Jc.size + (rdOf ByteArray.empty Jd (ji13)).size ≤ 9223372036854775807 then (if Ja ≤ (wrap64 (Ja + 1)) then (if (wrap64 (Ja + 1)) ≤ (Jb.size : Int) then (if (Jc ++ (rdOf ByteArray.empty Jd (ji13))).size + (Jb.extract (Ja : Int).toNat ((wrap64 (Ja + 1)) : Int).toNat).size ≤ 9223372036854775807 then (if ((Jc ++ (rdOf ByteArray.empty Jd (ji13))) ++ (Jb.extract (Ja : Int).toNat ((wrap64 (Ja + 1)) : Int).toNat)).size + (rdOf ByteArray.empty Jd (ji13)).size ≤ 9223372036854775807 then (treillagelaw09_SelBlanks.l0 k2 Jf (rdOf ByteArray.empty Jd (ji13)) Jb Jg (((Jc ++ (rdOf ByteArray.empty Jd (ji13))) ++ (Jb.extract (Ja : Int).toNat ((wrap64 (Ja + 1)) : Int).toNat)) ++ (rdOf ByteArray.empty Jd (ji13))) false (wrap64 (Ja + 1))) else (none)) else (none)) else (none)) else (none)) else (none)) = some r := by rw [if_neg (show ¬ (false = true) by decide)] at H; exact H
           clear H; have H := H1; clear H1; by_cases c76 : Jc.size + (rdOf ByteArray.empty Jd (ji13)).size ≤ 9223372036854775807
           rotate_left
           ·rw [if_neg c76] at H; exact absurd H (by simp)
           rw [if_pos c76] at H; have c76b0 := eq_true c76; have c76b1 : decide (Jc.size + (rdOf ByteArray.empty Jd (ji13)).size ≤ 9223372036854775807) = true := decide_eq_true c76; try have c76b2 : (9223372036854775807 < Jc.size + (rdOf ByteArray.empty Jd (ji13)).size) = False := eq_false (Nat.not_lt.2 c76)
           have c77b0 := eq_true (of_decide_eq_true (by first | (with_reducible assumption) | assumption) : 0 ≤ Ja); by_cases c78 : Ja ≤ (wrap64 (Ja + 1))
           rotate_left
           ·rw [if_neg c78] at H; exact absurd H (by simp)
           rw [if_pos c78] at H; have c78b0 := eq_true c78; have c78b1 : decide (Ja ≤ (wrap64 (Ja + 1))) = true := decide_eq_true c78; by_cases c79 : (wrap64 (Ja + 1)) ≤ (Jb.size : Int)
           rotate_left
           ·rw [if_neg c79] at H; exact absurd H (by simp)
           rw [if_pos c79] at H; have c79b0 := eq_true c79; have c79b1 : decide ((wrap64 (Ja + 1)) ≤ (Jb.size : Int)) = true := decide_eq_true c79; by_cases c80 : (Jc ++ (rdOf ByteArray.empty Jd (ji13))).size + (Jb.extract (Ja : Int).toNat ((wrap64 (Ja + 1)) : Int).toNat).size ≤ 9223372036854775807
           rotate_left
           ·rw [if_neg c80] at H; exact absurd H (by simp)
           rw [if_pos c80] at H; have c80b0 := eq_true c80; have c80b1 : decide ((Jc ++ (rdOf ByteArray.empty Jd (ji13))).size + (Jb.extract (Ja : Int).toNat ((wrap64 (Ja + 1)) : Int).toNat).size ≤ 9223372036854775807) = true := decide_eq_true c80; try have c80b2 : (9223372036854775807 < (Jc ++ (rdOf ByteArray.empty Jd (ji13))).size + (Jb.extract (Ja : Int).toNat ((wrap64 (Ja + 1)) : Int).toNat).size) = False := eq_false (Nat.not_lt.2 c80); try have c80s : (9223372036854775807 < Jc.size + rdOf ByteArray.empty Jd (ji13).size + Jb.extract (Ja : Int).toNat ((wrap64 (Ja + 1)) : Int).toNat.size) = False := eq_false (Nat.not_lt.2 (by have hh := c80; simp only [ByteArray.size_append] at hh; exact hh))
           by_cases c81 : ((Jc ++ (rdOf ByteArray.empty Jd (ji13))) ++ (Jb.extract (Ja : Int).toNat ((wrap64 (Ja + 1)) : Int).toNat)).size + (rdOf ByteArray.empty Jd (ji13)).size ≤ 9223372036854775807
           rotate_left
           ·rw [if_neg c81] at H; exact absurd H (by simp)
           rw [if_pos c81] at H; have c81b0 := eq_true c81; have c81b1 : decide (((Jc ++ (rdOf ByteArray.empty Jd (ji13))) ++ (Jb.extract (Ja : Int).toNat ((wrap64 (Ja + 1)) : Int).toNat)).size + (rdOf ByteArray.empty Jd (ji13)).size ≤ 9223372036854775807) = true := decide_eq_true c81; try have c81b2 : (9223372036854775807 < ((Jc ++ (rdOf ByteArray.empty Jd (ji13))) ++ (Jb.extract (Ja : Int).toNat ((wrap64 (Ja + 1)) : Int).toNat)).size + (rdOf ByteArray.empty Jd (ji13)).size) = False := eq_false (Nat.not_lt.2 c81); try have c81s : (9223372036854775807 < Jc.size + rdOf ByteArray.empty Jd (ji13).size + Jb.extract (Ja : Int).toNat ((wrap64 (Ja + 1)) : Int).toNat.size + rdOf ByteArray.empty Jd (ji13).size) = False := eq_false (Nat.not_lt.2 (by have hh := c81; simp only [ByteArray.size_append] at hh; exact hh))
           have H' := aA H; clear H; have p24 : 0 ≤ (Ja : Int) := of_decide_eq_true (by first | (with_reducible assumption) | assumption); have q24 : Ja < (Jb.size : Int) := of_decide_eq_true (by first | (with_reducible assumption) | assumption); have hx24 := bt_at Jb Ja; replace p24 := eq_true p24; replace q24 := eq_true q24; have p56 : 0 ≤ (Ja : Int) := of_decide_eq_true (by first | (with_reducible assumption) | assumption); have q56 : Ja < (Jb.size : Int) := of_decide_eq_true (by first | (with_reducible assumption) | assumption); have hx56 := bt_at Jb Ja; replace p56 := eq_true p56; replace q56 := eq_true q56; have p69 : 0 ≤ (Ja : Int) := of_decide_eq_true (by first | (with_reducible assumption) | assumption); have q69 : Ja < (Jb.size : Int) := of_decide_eq_true (by first | (with_reducible assumption) | assumption); have hx69 := bt_at Jb Ja; replace p69 := eq_true p69; replace q69 := eq_true q69; go_wp2; go_roundg k2
           case measure => have := HJ3.out; have := HK2.out; omega
           case rel => exact ⟨(((Jc ++ (rdOf ByteArray.empty Jd (ji13))) ++ (Jb.extract (Ja : Int).toNat ((wrap64 (Ja + 1)) : Int).toNat)) ++ (rdOf ByteArray.empty Jd (ji13))), (false), (wrap64 (Ja + 1)), (by first | rfl | (simp; done) | (simp only [← hji13] <;> (first | rfl | simp)) | (simp [*]; done)), (by first | rfl | (simp; done) | (simp [*]; done)), (by first | rfl | (simp; done) | (simp [*]; done)), H', ⟨by have := HJ3.out; have := HK2.out; omega⟩, ⟨by (with_reducible repeat (first | apply Kd.R_alloc | apply Kd.R_drewN | apply Kd.R_drew)); exact Je.out⟩, ⟨by repeat (first | (with_reducible first | exact HB.out | apply below_alloc | apply pw_below_drewN | apply below_drew1) | exact HB.out)⟩⟩
         ·rw [if_neg c70] at H; have c70b0 : ((bt Jb Ja) == 62) = false := beq_eq_false_iff_ne.mpr c70; have c70b1 : ((bt Jb Ja) != 62) = true := bne_iff_ne.mpr c70; have c82b0 := eq_true (of_decide_eq_true (by first | (with_reducible assumption) | assumption) : 0 ≤ Ja); by_cases c83 : Ja ≤ (wrap64 (Ja + 1))
          rotate_left
          ·rw [if_neg c83] at H; exact absurd H (by simp)
          rw [if_pos c83] at H; have c83b0 := eq_true c83; have c83b1 : decide (Ja ≤ (wrap64 (Ja + 1))) = true := decide_eq_true c83; by_cases c84 : (wrap64 (Ja + 1)) ≤ (Jb.size : Int)
          rotate_left
          ·rw [if_neg c84] at H; exact absurd H (by simp)
          rw [if_pos c84] at H; have c84b0 := eq_true c84; have c84b1 : decide ((wrap64 (Ja + 1)) ≤ (Jb.size : Int)) = true := decide_eq_true c84; by_cases c85 : Jc.size + (Jb.extract (Ja : Int).toNat ((wrap64 (Ja + 1)) : Int).toNat).size ≤ 9223372036854775807
          rotate_left
          ·rw [if_neg c85] at H; exact absurd H (by simp)
          rw [if_pos c85] at H; have c85b0 := eq_true c85; have c85b1 : decide (Jc.size + (Jb.extract (Ja : Int).toNat ((wrap64 (Ja + 1)) : Int).toNat).size ≤ 9223372036854775807) = true := decide_eq_true c85; try have c85b2 : (9223372036854775807 < Jc.size + (Jb.extract (Ja : Int).toNat ((wrap64 (Ja + 1)) : Int).toNat).size) = False := eq_false (Nat.not_lt.2 c85)
          have H' := aA H; clear H; have p24 : 0 ≤ (Ja : Int) := of_decide_eq_true (by first | (with_reducible assumption) | assumption); have q24 : Ja < (Jb.size : Int) := of_decide_eq_true (by first | (with_reducible assumption) | assumption); have hx24 := bt_at Jb Ja; replace p24 := eq_true p24; replace q24 := eq_true q24; have p56 : 0 ≤ (Ja : Int) := of_decide_eq_true (by first | (with_reducible assumption) | assumption); have q56 : Ja < (Jb.size : Int) := of_decide_eq_true (by first | (with_reducible assumption) | assumption); have hx56 := bt_at Jb Ja; replace p56 := eq_true p56; replace q56 := eq_true q56; have p69 : 0 ≤ (Ja : Int) := of_decide_eq_true (by first | (with_reducible assumption) | assumption); have q69 : Ja < (Jb.size : Int) := of_decide_eq_true (by first | (with_reducible assumption) | assumption); have hx69 := bt_at Jb Ja; replace p69 := eq_true p69; replace q69 := eq_true q69; go_wp2; go_roundg k2
          case measure => have := HJ3.out; have := HK2.out; omega
          case rel => exact ⟨(Jc ++ (Jb.extract (Ja : Int).toNat ((wrap64 (Ja + 1)) : Int).toNat)), (Jh), (wrap64 (Ja + 1)), (by first | rfl | (simp; done) | (simp [*]; done)), (by first | rfl | (simp; done) | (simp [*]; done)), (by first | rfl | (simp; done) | (simp [*]; done)), H', ⟨by have := HJ3.out; have := HK2.out; omega⟩, ⟨by (with_reducible repeat (first | apply Kd.R_alloc | apply Kd.R_drewN | apply Kd.R_drew)); exact Je.out⟩, ⟨by repeat (first | (with_reducible first | exact HB.out | apply below_alloc | apply pw_below_drewN | apply below_drew1) | exact HB.out)⟩⟩
      ·rw [if_neg c22] at H; have c22b0 : decide (Ja < (Jb.size : Int)) = false := decide_eq_false c22; clear c22; by_cases c86 : (rdOf ByteArray.empty Jd (ji13)).size + Jc.size ≤ 9223372036854775807
       rotate_left
       ·rw [if_neg c86] at H; exact absurd H (by simp)
       rw [if_pos c86] at H; have c86b0 := eq_true c86; have c86b1 : decide ((rdOf ByteArray.empty Jd (ji13)).size + Jc.size ≤ 9223372036854775807) = true := decide_eq_true c86; try have c86b2 : (9223372036854775807 < (rdOf ByteArray.empty Jd (ji13)).size + Jc.size) = False := eq_false (Nat.not_lt.2 c86)
       by_cases c87 : ((rdOf ByteArray.empty Jd (ji13)) ++ Jc).size + (rdOf ByteArray.empty Jd (ji13)).size ≤ 9223372036854775807
       rotate_left
       ·rw [if_neg c87] at H; exact absurd H (by simp)
       rw [if_pos c87] at H; have c87b0 := eq_true c87; have c87b1 : decide (((rdOf ByteArray.empty Jd (ji13)) ++ Jc).size + (rdOf ByteArray.empty Jd (ji13)).size ≤ 9223372036854775807) = true := decide_eq_true c87; try have c87b2 : (9223372036854775807 < ((rdOf ByteArray.empty Jd (ji13)) ++ Jc).size + (rdOf ByteArray.empty Jd (ji13)).size) = False := eq_false (Nat.not_lt.2 c87); try have c87s : (9223372036854775807 < rdOf ByteArray.empty Jd (ji13).size + Jc.size + rdOf ByteArray.empty Jd (ji13).size) = False := eq_false (Nat.not_lt.2 (by have hh := c87; simp only [ByteArray.size_append] at hh; exact hh))
       replace H := Option.bind_eq_some_iff.mp H; obtain ⟨⟨Jw, t601, Jp⟩, A880, H⟩ := H; replace H : (if Jg = 0 then (if Jp = 0 then ((treillagelaw09_its.f k2 Jf).bind fun Js => ((treillagelaw09_its.f k2 Jw).bind fun Jq => ((treillageref09_Same.f k2 Js Jq).bind fun Jl => (some Jl)))) else (some false)) else (some false)) = some r := H; have A88 := aA A880; clear A880; by_cases c89 : Jg = 0
       ·rw [if_pos c89] at H; have c89b0 : (Jg == 0) = true := beq_iff_eq.mpr c89; have c89b1 : (Jg != 0) = false := bne_eq_false_iff_eq.mpr c89; clear c89; by_cases c90 : Jp = 0
        ·rw [if_pos c90] at H; have c90b0 : (Jp == 0) = true := beq_iff_eq.mpr c90; have c90b1 : (Jp != 0) = false := bne_eq_false_iff_eq.mpr c90; clear c90; replace H := Option.bind_eq_some_iff.mp H; obtain ⟨Js, A910, H⟩ := H; replace H : ((treillagelaw09_its.f k2 Jw).bind fun Jq => ((treillageref09_Same.f k2 Js Jq).bind fun Jl => (some Jl))) = some r := H; have A91 := aA A910; clear A910; replace H := Option.bind_eq_some_iff.mp H; obtain ⟨Jq, A920, H⟩ := H; replace H : ((treillageref09_Same.f k2 Js Jq).bind fun Jl => (some Jl)) = some r := H; have A92 := aA A920; clear A920; replace H := Option.bind_eq_some_iff.mp H; obtain ⟨Jl, A930, H⟩ := H; replace H : (some Jl) = some r := H; have A93 := aA A930; clear A930; obtain rfl := Option.some.inj H; go_wp2_with (first | ((with_reducible refine gate_callee (f := 11) rfl ?_); refine goesL_ (some 95) rfl rfl Try.func11 (by kernel_rfl) rfl #[.string (((rdOf ByteArray.empty Jd (ji13)) ++ Jc) ++ (rdOf ByteArray.empty Jd (ji13)))] rfl (by (try simp only [List.map_toArray, List.map_cons, List.map_nil]); first | done | (simp only [hji13]; rfl) | rfl | (simp only [List.length_drop, List.length_take]; rfl)) ?_; (with_reducible refine (sel_Parse.calls k2 (((rdOf ByteArray.empty Jd (ji13)) ++ Jc) ++ (rdOf ByteArray.empty Jd (ji13))) Jw t601 Jp _ A88.out).mono ?_); rintro e w94 ⟨v603, rfl, ho0, hb⟩; refine ⟨_, rfl, ?_⟩; have n0_ := aA (Kd.R_elder' (rlu Je.out) (Kd.R_base ho0) hb); have n1_ := aA (Kd.R_lower (Kd.R_new' ho0 (Kd.R_lt (rlu Je.out))) (below_size (blw HB.out))); have n2_ := aA (below_step (blw HB.out) hb); clear Je HB; have Je := n0_; have Ji := n1_; have HB := n2_; clear n0_ n1_ n2_; (try clear hb); (try clear hb2); (try clear hk); (try clear hi); (try clear ho0)) | (go_at_call 14; (with_reducible refine (treillagelaw09_its.calls k2 _ _ Jf Js _ ?side1 ?side2 A91.out).mono ?_); (case side1 => repeat (first | exact (Kd.R_reads' Je.out).2.2 | (with_reducible refine Kd.C_alloc ?_ _) | (with_reducible refine Kd.C_drewN ?_ _) | (with_reducible refine Kd.C_drew ?_))); (case side2 => exact (Kd.R_reads' Je.out).2.1); rintro e w95 ⟨v606, rfl, ho0, hb⟩; have n0_ := aA (Kd.R_below (rlu Je.out) hb); have n1_ := aA (Kd.R_below (rlu Ji.out) hb); have n2_ := aA (Kd.R_lower ho0 (below_size (blw HB.out))); have n3_ := aA (below_step (blw HB.out) hb); clear Je Ji HB; have Je := n0_; have Ji := n1_; have Jk := n2_; have HB := n3_; clear n0_ n1_ n2_ n3_; (try clear hb); (try clear hb2); (try clear hk); (try clear hi); (try clear ho0); obtain ⟨Ao96, co96, eo96⟩ := Kd.R_slice Ji.out; subst eo96) | (go_at_call 14; (with_reducible refine (treillagelaw09_its.calls k2 _ _ Jw Jq _ ?side1 ?side2 A92.out).mono ?_); (case side1 => repeat (first | exact (Kd.R_reads' Ji.out).2.2 | (with_reducible refine Kd.C_alloc ?_ _) | (with_reducible refine Kd.C_drewN ?_ _) | (with_reducible refine Kd.C_drew ?_))); (case side2 => exact (Kd.R_reads' Ji.out).2.1); rintro e w97 ⟨v609, rfl, ho0, hb⟩; have n0_ := aA (Kd.R_below (rlu Je.out) hb); have n1_ := aA (Kd.R_below (rlu Ji.out) hb); have n2_ := aA (Kd.R_elder' (rlu Jk.out) (Kd.R_base ho0) hb); have n3_ := aA (Kd.R_lower (Kd.R_new' ho0 (Kd.R_lt (rlu Jk.out))) (below_size (blw HB.out))); have n4_ := aA (below_step (blw HB.out) hb); clear Je Ji Jk HB; have Je := n0_; have Ji := n1_; have Jk := n2_; have Jx := n3_; have HB := n4_; clear n0_ n1_ n2_ n3_ n4_; (try clear hb); (try clear hb2); (try clear hk); (try clear hi); (try clear ho0); obtain ⟨Ao98, co98, eo98⟩ := Kd.R_slice Jk.out; subst eo98; obtain ⟨Ao99, co99, eo99⟩ := Kd.R_slice Jx.out; subst eo99) | (go_at_call 13; (with_reducible refine (treillageref09_Same.calls k2 _ _ Js _ _ Jq Jl _ ?side1 ?side2 ?side3 ?side4 A93.out).mono ?_); (case side1 => repeat (first | exact (Kd.R_reads' Jk.out).2.2 | (with_reducible refine Kd.C_alloc ?_ _) | (with_reducible refine Kd.C_drewN ?_ _) | (with_reducible refine Kd.C_drew ?_))); (case side2 => exact (Kd.R_reads' Jk.out).2.1); (case side3 => repeat (first | exact (Kd.R_reads' Jx.out).2.2 | (with_reducible refine Kd.C_alloc ?_ _) | (with_reducible refine Kd.C_drewN ?_ _) | (with_reducible refine Kd.C_drew ?_))); (case side4 => exact (Kd.R_reads' Jx.out).2.1); rintro e w' ⟨rfl, ⟨nd, rfl⟩⟩))
         go_ret
         exact ⟨by first | rfl | (simp [errW_none, errW_some] <;> rfl) | (simp only [← hji13]; first | rfl | (simp [errW_none, errW_some] <;> rfl)) | (simp [*, errW_none, errW_some] <;> rfl), by repeat (first | (with_reducible first | exact HB.out | apply below_alloc | apply pw_below_drewN | apply below_drew1) | exact HB.out)⟩
        ·rw [if_neg c90] at H; have c90b0 : (Jp == 0) = false := beq_eq_false_iff_ne.mpr c90; have c90b1 : (Jp != 0) = true := bne_iff_ne.mpr c90; exact absurd ((Option.some.inj H).trans hr_) (by decide)
       ·rw [if_neg c89] at H; have c89b0 : (Jg == 0) = false := beq_eq_false_iff_ne.mpr c89; have c89b1 : (Jg != 0) = true := bne_iff_ne.mpr c89; exact absurd ((Option.some.inj H).trans hr_) (by decide)
/-- THE ONE PURE STATEMENT of treillagelaw09_SelBlanks: yours. -/
theorem treillagelaw09_SelBlanks.calls (k : Nat) (a0 : ByteArray) (a1 : Int) (r : Bool) (w : World) (h : treillagelaw09_SelBlanks.f k a0 a1 = some true) :
  Calls Try.prog 7 #[.string a0, .int .u8 a1] w fun e w' => e = .returned (.bool true) ∧ Below w.heap.size w w' := treillagelaw09_SelBlanks.calls1 k a0 a1 true w h rfl
def treillagelaw09_SelBlanks.Pure : Prop := ∀ (a0 : ByteArray) (a1 : Int), a0.size ≤ 140737488351232 → (Lit.int .u8 a1).wf = true → ∃ k, treillagelaw09_SelBlanks.f k a0 a1 = some true
theorem treillagelaw09_SelBlanks.walk (P : treillagelaw09_SelBlanks.Pure) (a0 : ByteArray) (a1 : Int) (w : World) (w0 : a0.size ≤ 140737488351232) (w1 : (Lit.int .u8 a1).wf = true) :
  Calls Try.prog 7 #[.string a0, .int .u8 a1] w fun e w' => e = .returned (.bool true) ∧ Below w.heap.size w w' := by
 obtain ⟨k, h⟩ := P a0 a1 w0 w1; refine (treillagelaw09_SelBlanks.calls k a0 a1 true w h).mono ?_; rintro e w' ⟨rfl, hd⟩
 exact ⟨rfl, hd⟩

end Go.Proofs.Ytjiejmkkaekefaa.PA
