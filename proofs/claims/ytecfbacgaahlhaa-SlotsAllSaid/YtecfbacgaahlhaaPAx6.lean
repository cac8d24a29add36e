-- Written by wip/hprint/hprint.py (a program of this session, over the print): not typed by hand
import Derived.Test.YtecfbacgaahlhaaPAx0
import Derived.Test.YtecfbacgaahlhaaPAx1
import Derived.Test.YtecfbacgaahlhaaPAx2
import Derived.Test.YtecfbacgaahlhaaPAx3
import Derived.Test.YtecfbacgaahlhaaPAx4
namespace Go.Proofs.Ytecfbacgaahlhaa.PA
open Go.RowKit Go.Proofs.YtecfbacgaahlhaaW.PrintWords Go.Proofs.YtecfbacgaahlhaaW.PrintLast Go.Proofs.YtecfbacgaahlhaaW.PrintMore
attribute [local go_sem] max2_int min2_int max_two min_two max_three min_three max_four min_four   -- for this text's walks alone
open Go.Proofs.YtecfbacgaahlhaaH
set_option linter.unusedVariables false
set_option linter.unusedSimpArgs false

/-! ### treillagelaw03_SlotsAll: function 5 -/
mutual
def treillagelaw03_SlotsAll.j0 : Nat → Int → List Int → Bool → Option (Bool)
 | 0, _, _, _ => none
 | k + 1, x0, x1, x22 => if x22 = true then ((treillagelaw03_shown.f).bind fun t213 => (some t213)) else ((slots_New.f (Int.tmod (wrap64 (x0)) 30)).bind fun bt214 => (if bt214.2.2.2 = 0 then (treillagelaw03_SlotsAll.l0 k x0 x1 0 bt214.1 bt214.2.1 bt214.2.2.1) else (some false)))
def treillagelaw03_SlotsAll.l0 : Nat → Int → List Int → Int → List Int → List Bool → List Int → Option (Bool)
 | 0, _, _, _, _, _, _ => none
 | k + 1, x0, x1, x7, x225000, x225001, x225002 => if x7 < (x1.length : Int) then ((slots_All.f x225000 x225001 x225002).bind fun t225 => (if 0 ≤ x7 then (if (Int.tmod (rd x1 x7) 4) > 0 then (treillagelaw03_SlotsAll.j2 k x0 x1 x7 t225 true x225000 x225001 x225002) else (treillagelaw03_SlotsAll.j2 k x0 x1 x7 t225 ((t225.length : Int) == 0) x225000 x225001 x225002)) else (none))) else ((slots_All.f x225000 x225001 x225002).bind fun t264 => (treillagelaw03_SlotsAll.l1 k x0 t264 0 x225000 x225001 x225002))
def treillagelaw03_SlotsAll.j2 : Nat → Int → List Int → Int → List Int → Bool → List Int → List Bool → List Int → Option (Bool)
 | 0, _, _, _, _, _, _, _, _ => none
 | k + 1, x0, x1, x7, x8, x51, x225000, x225001, x225002 => if x51 = true then ((slots_Take.f x225000 x225001 x225002).bind fun bt229 => (treillagelaw03_SlotsAll.l0 k x0 x1 (wrap64 (x7 + 1)) bt229.1 bt229.2.1 bt229.2.2.1)) else (if 0 ≤ x7 then (if x7 < (x1.length : Int) then (if (x8.length : Int) = 0 then (none) else (if 0 ≤ (Int.tmod (wrap64 (IntKind.u16.wrap (Int.tdiv (rd x1 x7) 4))) (x8.length : Int)) then (if (Int.tmod (wrap64 (IntKind.u16.wrap (Int.tdiv (rd x1 x7) 4))) (x8.length : Int)) < (x8.length : Int) then ((slots_Give.f x225000 x225001 x225002 (rd x8 (Int.tmod (wrap64 (IntKind.u16.wrap (Int.tdiv (rd x1 x7) 4))) (x8.length : Int)))).bind fun bt242 => ((slots_Give.f bt242.1 bt242.2.1 bt242.2.2.1 (rd x8 (Int.tmod (wrap64 (IntKind.u16.wrap (Int.tdiv (rd x1 x7) 4))) (x8.length : Int)))).bind fun bt253 => (if bt242.2.2.2 = 0 then (if bt253.2.2.2 = 30 then (treillagelaw03_SlotsAll.l0 k x0 x1 (wrap64 (x7 + 1)) bt242.1 bt242.2.1 bt242.2.2.1) else (some false)) else (some false)))) else (none)) else (none))) else (none)) else (none))
def treillagelaw03_SlotsAll.l1 : Nat → Int → List Int → Int → List Int → List Bool → List Int → Option (Bool)
 | 0, _, _, _, _, _, _ => none
 | k + 1, x0, x14, x15, x225000, x225001, x225002 => if x15 < (x14.length : Int) then (if 0 ≤ x15 then ((slots_Live.f x225000 x225001 x225002 (rd x14 x15)).bind fun t268 => (if t268 = true then (if x15 > 0 then (if 0 ≤ (wrap64 (x15 - 1)) then (if (wrap64 (x15 - 1)) < (x14.length : Int) then (if (Int.tmod (rd x14 (wrap64 (x15 - 1))) 16777216) ≥ (Int.tmod (rd x14 x15) 16777216) then (some false) else (treillagelaw03_SlotsAll.l1 k x0 x14 (wrap64 (x15 + 1)) x225000 x225001 x225002)) else (none)) else (none)) else (treillagelaw03_SlotsAll.l1 k x0 x14 (wrap64 (x15 + 1)) x225000 x225001 x225002)) else (some false))) else (none)) else (some (decide ((x14.length : Int) ≤ (Int.tmod (wrap64 (x0)) 30))))
end
def treillagelaw03_SlotsAll.f (k : Nat) (a0 : Int) (l1 : List Int) : Option (Bool) := if (l1.length : Int) > 150 then (treillagelaw03_SlotsAll.j0 k a0 l1 true) else ((treillagelaw03_shown.f).bind fun t212 => (treillagelaw03_SlotsAll.j0 k a0 l1 (!t212)))
theorem treillagelaw03_SlotsAll.mono_l : ∀ k, (∀ y0 y1 y2, LeO (treillagelaw03_SlotsAll.j0 k y0 y1 y2) (treillagelaw03_SlotsAll.j0 (k + 1) y0 y1 y2)) ∧ (∀ y0 y1 y2 y3 y4 y5, LeO (treillagelaw03_SlotsAll.l0 k y0 y1 y2 y3 y4 y5) (treillagelaw03_SlotsAll.l0 (k + 1) y0 y1 y2 y3 y4 y5)) ∧ (∀ y0 y1 y2 y3 y4 y5 y6 y7, LeO (treillagelaw03_SlotsAll.j2 k y0 y1 y2 y3 y4 y5 y6 y7) (treillagelaw03_SlotsAll.j2 (k + 1) y0 y1 y2 y3 y4 y5 y6 y7)) ∧ (∀ y0 y1 y2 y3 y4 y5, LeO (treillagelaw03_SlotsAll.l1 k y0 y1 y2 y3 y4 y5) (treillagelaw03_SlotsAll.l1 (k + 1) y0 y1 y2 y3 y4 y5))
 | 0 => ⟨fun _ _ _ r h => by simp [treillagelaw03_SlotsAll.j0] at h, fun _ _ _ _ _ _ r h => by simp [treillagelaw03_SlotsAll.l0] at h, fun _ _ _ _ _ _ _ _ r h => by simp [treillagelaw03_SlotsAll.j2] at h, fun _ _ _ _ _ _ r h => by simp [treillagelaw03_SlotsAll.l1] at h⟩
 | k + 1 => by
  obtain ⟨ih0, ih1, ih2, ih3⟩ := treillagelaw03_SlotsAll.mono_l k; refine ⟨?_, ?_, ?_, ?_⟩
  ·intro y0 y1 y2
   unfold treillagelaw03_SlotsAll.j0; repeat' first
   | (with_reducible exact ih0 _ _ _)
   | (with_reducible exact ih1 _ _ _ _ _ _)
   | (with_reducible exact ih2 _ _ _ _ _ _ _ _)
   | (with_reducible exact ih3 _ _ _ _ _ _)
   | (with_reducible exact LeO.refl _)
   | (with_reducible exact LeO.none _)
   | (with_reducible refine LeO.ite ?_ ?_)
   | (with_reducible refine LeO.bind ?_ (fun _ => ?_))
   | exact ih0 _ _ _
   | exact ih1 _ _ _ _ _ _
   | exact ih2 _ _ _ _ _ _ _ _
   | exact ih3 _ _ _ _ _ _
   | exact LeO.none _
   | refine LeO.ite ?_ ?_
   | refine LeO.bind ?_ (fun _ => ?_)
  ·intro y0 y1 y2 y3 y4 y5
   unfold treillagelaw03_SlotsAll.l0; repeat' first
   | (with_reducible exact ih0 _ _ _)
   | (with_reducible exact ih1 _ _ _ _ _ _)
   | (with_reducible exact ih2 _ _ _ _ _ _ _ _)
   | (with_reducible exact ih3 _ _ _ _ _ _)
   | (with_reducible exact LeO.refl _)
   | (with_reducible exact LeO.none _)
   | (with_reducible refine LeO.ite ?_ ?_)
   | (with_reducible refine LeO.bind ?_ (fun _ => ?_))
   | exact ih0 _ _ _
   | exact ih1 _ _ _ _ _ _
   | exact ih2 _ _ _ _ _ _ _ _
   | exact ih3 _ _ _ _ _ _
   | exact LeO.none _
   | refine LeO.ite ?_ ?_
   | refine LeO.bind ?_ (fun _ => ?_)
  ·intro y0 y1 y2 y3 y4 y5 y6 y7
   unfold treillagelaw03_SlotsAll.j2; repeat' first
   | (with_reducible exact ih0 _ _ _)
   | (with_reducible exact ih1 _ _ _ _ _ _)
   | (with_reducible exact ih2 _ _ _ _ _ _ _ _)
   | (with_reducible exact ih3 _ _ _ _ _ _)
   | (with_reducible exact LeO.refl _)
   | (with_reducible exact LeO.none _)
   | (with_reducible refine LeO.ite ?_ ?_)
   | (with_reducible refine LeO.bind ?_ (fun _ => ?_))
   | exact ih0 _ _ _
   | exact ih1 _ _ _ _ _ _
   | exact ih2 _ _ _ _ _ _ _ _
   | exact ih3 _ _ _ _ _ _
   | exact LeO.none _
   | refine LeO.ite ?_ ?_
   | refine LeO.bind ?_ (fun _ => ?_)
  ·intro y0 y1 y2 y3 y4 y5
   unfold treillagelaw03_SlotsAll.l1; repeat' first
   | (with_reducible exact ih0 _ _ _)
   | (with_reducible exact ih1 _ _ _ _ _ _)
   | (with_reducible exact ih2 _ _ _ _ _ _ _ _)
   | (with_reducible exact ih3 _ _ _ _ _ _)
   | (with_reducible exact LeO.refl _)
   | (with_reducible exact LeO.none _)
   | (with_reducible refine LeO.ite ?_ ?_)
   | (with_reducible refine LeO.bind ?_ (fun _ => ?_))
   | exact ih0 _ _ _
   | exact ih1 _ _ _ _ _ _
   | exact ih2 _ _ _ _ _ _ _ _
   | exact ih3 _ _ _ _ _ _
   | exact LeO.none _
   | refine LeO.ite ?_ ?_
   | refine LeO.bind ?_ (fun _ => ?_)
theorem treillagelaw03_SlotsAll.mono : ∀ a0 a1 k, LeO (treillagelaw03_SlotsAll.f k a0 a1) (treillagelaw03_SlotsAll.f (k + 1) a0 a1) := by
 intro a0 a1 k
 obtain ⟨ih0, ih1, ih2, ih3⟩ := treillagelaw03_SlotsAll.mono_l k; unfold treillagelaw03_SlotsAll.f
 repeat' first
   | (with_reducible exact ih0 _ _ _)
   | (with_reducible exact ih1 _ _ _ _ _ _)
   | (with_reducible exact ih2 _ _ _ _ _ _ _ _)
   | (with_reducible exact ih3 _ _ _ _ _ _)
   | (with_reducible exact LeO.refl _)
   | (with_reducible exact LeO.none _)
   | (with_reducible refine LeO.ite ?_ ?_)
   | (with_reducible refine LeO.bind ?_ (fun _ => ?_))
   | exact ih0 _ _ _
   | exact ih1 _ _ _ _ _ _
   | exact ih2 _ _ _ _ _ _ _ _
   | exact ih3 _ _ _ _ _ _
   | exact LeO.none _
   | refine LeO.ite ?_ ?_
   | refine LeO.bind ?_ (fun _ => ?_)
def treillagelaw03_SlotsAll.T22 : Bool × List (List Nat × List Nat) := (true, [([], []), ([], []), ([], []), ([1, 2], [1, 2]), ([3], [3]), ([0, 4], [0, 4]), ([5], [5]), ([6, 5], [6]), ([7], [7]), ([8, 7], [7, 8]), ([9, 7, 7], [7, 9]), ([10], [10]), ([10], [10]), ([12, 10], [10, 12]), ([11, 13, 10], [10, 11, 13]), ([14, 10], [10, 14]), ([15, 10], [10, 15]), ([10], [10]), ([10], [10]), ([17, 18, 10], [10, 17, 18]), ([19, 10], [10, 19]), ([20, 10], [10, 20]), ([16, 21, 10], [10, 16, 21]), ([10, 22, 7], [7, 10, 22]), ([7, 23], [7, 23])])
def treillagelaw03_SlotsAll.B22 : List Nat := [0, 0, 0, 6, 14, 31, 63, 127, 255, 511, 1023, 2047, 2047, 6143, 16383, 32767, 65535, 2047, 2047, 395263, 919551, 1968127, 4194303, 8388607, 16777215]
theorem treillagelaw03_SlotsAll.tab22 : rtab .any (opsOf Try.f5 22) = treillagelaw03_SlotsAll.T22 := by kernel_rfl
theorem treillagelaw03_SlotsAll.bits22 : waitsOk treillagelaw03_SlotsAll.T22.2 treillagelaw03_SlotsAll.B22 = true := by kernel_rfl
set_option maxHeartbeats 8000000 in
set_option maxRecDepth 100000 in
theorem treillagelaw03_SlotsAll.calls1 (k : Nat) (a0 : Int) (A1 : Option Addr) (c1 : Nat) (l1 : List Int) (r : Bool) (w : World) (hr1 : Kd.C (Kd.int .u16) w A1 l1.length l1) (hc1 : l1.length ≤ c1) (h : treillagelaw03_SlotsAll.f k a0 l1 = some r) (hr_ : r = true) :
  Calls Try.prog 5 #[.int .u8 a0, .slice A1 l1.length c1] w fun e w' => e = .returned (.bool r) ∧ Below w.heap.size w w' := by
 have hu28 := Try.underlying28; have HR1 := aA hr1; have HC1 := aA hc1; clear hr1 hc1; have HB := aA (Below.refl w.heap.size w); have H : (if (l1.length : Int) > 150 then (treillagelaw03_SlotsAll.j0 k a0 l1 true) else ((treillagelaw03_shown.f).bind fun t212 => (treillagelaw03_SlotsAll.j0 k a0 l1 (!t212)))) = some r := h; clear h; have HC3 := aA H; clear H; go_enter Try.func5, Try.ntmps5; go_upto_region 1 with (fail)
 go_cut [22] (fun v22 wc => ∃ (kq : Nat) (x22_2 : Bool), v22 = .bool x22_2 ∧ Aside0 (treillagelaw03_SlotsAll.j0 kq a0 l1 x22_2 = some r) ∧ Aside0 (kq ≤ k) ∧ Aside0 (Below w.heap.size w wc))
 case first =>
  have H := HC3.out; clear HC3; by_cases c4 : (l1.length : Int) > 150
  ·rw [if_pos c4] at H; have c4b0 : decide (150 < (l1.length : Int)) = true := decide_eq_true c4; have c4b1 : decide (150 < l1.length) = true := decide_eq_true (by omega); clear c4; (first | rw [c4b0] | (simp only [i64_w, i32_w]; rw [c4b0]) | skip)
   have H' := aA H; clear H; go_wp2; (first | go_meet | (refine Met.intro ?_; go_step; (try rw [c4b0]); (repeat apply Exists.intro); refine ⟨?rel, rfl⟩))
   case rel => exact ⟨_, (true), (by first | rfl | (simp; done) | (simp [*]; done)), H', ⟨by first | omega | exact Nat.le_refl _⟩, ⟨by repeat (first | (with_reducible first | exact HB.out | apply below_alloc | apply pw_below_drewN | apply below_drew1) | exact HB.out)⟩⟩
  ·rw [if_neg c4] at H; have c4b0 : decide (150 < (l1.length : Int)) = false := decide_eq_false c4; have c4b1 : decide (150 < l1.length) = false := decide_eq_false (by omega); clear c4; (first | rw [c4b0] | (simp only [i64_w, i32_w]; rw [c4b0]) | skip)
   replace H := Option.bind_eq_some_iff.mp H; obtain ⟨t212, A50, H⟩ := H; replace H : (treillagelaw03_SlotsAll.j0 k a0 l1 (!t212)) = some r := H; have A5 := aA A50; clear A50; have H' := aA H; clear H; go_wp2_with (first | (go_at_call 14; (with_reducible refine (treillagelaw03_shown.calls  t212 _ A5.out).mono ?_); rintro e w6 ⟨rfl, hb⟩; have n0_ := aA (below_step (blw HB.out) hb); clear HB; have HB := n0_; clear n0_; (try clear hb); (try clear hb2); (try clear hk); (try clear hi)))
   (first | go_meet | (refine Met.intro ?_; go_step; (try rw [c4b0]); (repeat apply Exists.intro); refine ⟨?rel, rfl⟩))
   case rel => exact ⟨_, (!t212), (by first | rfl | (simp; done) | (simp [*]; done)), H', ⟨by first | omega | exact Nat.le_refl _⟩, ⟨by repeat (first | (with_reducible first | exact HB.out | apply below_alloc | apply pw_below_drewN | apply below_drew1) | exact HB.out)⟩⟩
 case rest =>
  clear HC3; try clear c1
  try clear p2
  try clear c4
  try clear c4b0
  try clear c4b1
  try clear c5
  obtain ⟨kq, x22_2, rfl, HA, HJ2, HB⟩ := hcut; cases kq with
  | zero => exact absurd HA.out (by simp [treillagelaw03_SlotsAll.j0])
  | succ kj2 =>
   have H := HA.out; clear HA; simp only [treillagelaw03_SlotsAll.j0] at H; by_cases c7 : x22_2 = true
   ·subst c7; have H1 : ((treillagelaw03_shown.f).bind fun t213 => (some t213)) = some r := by rw [if_pos rfl] at H; exact H
    clear H; have H := H1; clear H1; replace H := Option.bind_eq_some_iff.mp H; obtain ⟨t213, A80, H⟩ := H; replace H : (some t213) = some r := H; have A8 := aA A80; clear A80; obtain rfl := Option.some.inj H; go_wp2_with (first | ((with_reducible refine gate_callee (f := 14) rfl ?_); refine goesL_ (some 23) rfl rfl Try.func14 (by kernel_rfl) rfl #[] rfl (by (try simp only [List.map_toArray, List.map_cons, List.map_nil]); first | done | rfl | (simp only [List.length_drop, List.length_take]; rfl)) ?_; (with_reducible refine (treillagelaw03_shown.calls  t213 _ A8.out).mono ?_); rintro e w9 ⟨rfl, hb⟩; refine ⟨_, rfl, ?_⟩; have n0_ := aA (below_step (blw HB.out) hb); clear HB; have HB := n0_; clear n0_; (try clear hb); (try clear hb2); (try clear hk); (try clear hi)))
    go_ret
    exact ⟨by first | rfl | (simp [errW_none, errW_some] <;> rfl) | (simp [*, errW_none, errW_some] <;> rfl), by repeat (first | (with_reducible first | exact HB.out | apply below_alloc | apply pw_below_drewN | apply below_drew1) | exact HB.out)⟩
   ·replace c7 := Bool.eq_false_iff.mpr c7; subst c7; have H1 : ((slots_New.f (Int.tmod (wrap64 (a0)) 30)).bind fun bt214 => (if bt214.2.2.2 = 0 then (treillagelaw03_SlotsAll.l0 kj2 a0 l1 0 bt214.1 bt214.2.1 bt214.2.2.1) else (some false))) = some r := by rw [if_neg (show ¬ (false = true) by decide)] at H; exact H
    clear H; have H := H1; clear H1; replace H := Option.bind_eq_some_iff.mp H; obtain ⟨⟨t214, t217, t220, t223⟩, A100, H⟩ := H; replace H : (if t223 = 0 then (treillagelaw03_SlotsAll.l0 kj2 a0 l1 0 t214 t217 t220) else (some false)) = some r := H; have A10 := aA A100; clear A100; by_cases c11 : t223 = 0
    ·rw [if_pos c11] at H; have c11b0 : (t223 == 0) = true := beq_iff_eq.mpr c11; have c11b1 : (t223 != 0) = false := bne_eq_false_iff_eq.mpr c11; clear c11; have H' := aA H; clear H; go_wp2_with (first | ((with_reducible refine gate_callee (f := 15) rfl ?_); refine goesL_ (some 28) rfl rfl Try.func15 (by kernel_rfl) rfl #[.int .i64 (Int.tmod (wrap64 (a0)) 30)] rfl (by (try simp only [List.map_toArray, List.map_cons, List.map_nil]); first | done | rfl | (simp only [List.length_drop, List.length_take]; rfl)) ?_; (with_reducible refine (slots_New.calls (Int.tmod (wrap64 (a0)) 30) t214 t217 t220 t223 _ A10.out).mono ?_); rintro e w12 ⟨v215, v218, v221, rfl, ho0, ho1, ho2, hb⟩; refine ⟨_, rfl, ?_⟩; have n0_ := aA (Kd.V_lower (Kd.V_mono (ok' := fun k_ => True) ho0 (fun k_ hk_ => trivial)) (below_size (blw HB.out))); have n1_ := aA (Kd.V_lower (Kd.V_mono (ok' := fun k_ => True) ho1 (fun k_ hk_ => trivial)) (below_size (blw HB.out))); have n2_ := aA (Kd.V_lower (Kd.V_mono (ok' := fun k_ => True) ho2 (fun k_ hk_ => trivial)) (below_size (blw HB.out))); have n3_ := aA (below_step (blw HB.out) hb); clear HB; have HO216 := n0_; have HO219 := n1_; have HO222 := n2_; have HB := n3_; clear n0_ n1_ n2_ n3_; (try clear hb); (try clear hb2); (try clear hk); (try clear hi); (try clear ho0); (try clear ho1); (try clear ho2)) | ((with_reducible refine gate_dst (N := 5) rfl ?_); (try (refine gate_guard (by rfl) ?_; dsimp only)); refine box_event ?hg (N := 5) ?hd (cs := #[.slice none 0 0, .slice none 0 0, .slice none 0 0]) (t := 28) ?hr ?_; (case hd => rfl); (case hg => rfl); (case hr => first | (go_simp; done) | (go_simp; rfl)); intro gb224 hg w13 hbox hb; have n0_ := aA (Kd.V_below (Kd.V_elderB (vlu HO216.out) gb224 (Nat.le_of_eq hg.symm)) hb); have n1_ := aA (Kd.V_below (Kd.V_elderB (vlu HO219.out) gb224 (Nat.le_of_eq hg.symm)) hb); have n2_ := aA (Kd.V_below (Kd.V_elderB (vlu HO222.out) gb224 (Nat.le_of_eq hg.symm)) hb); have n3_ := aA (below_step (blw HB.out) hb); have n4_ := aA (hbox); have n5_ := aA ((by rw [hg]; exact (below_size (blw HB.out)) : w.heap.size ≤ gb224)); have n6_ := aA ((by rw [hg]; exact (below_size (blw HB.out)) : w.heap.size ≤ gb224)); clear HO216 HO219 HO222 HB; have HO216 := n0_; have HO219 := n1_; have HO222 := n2_; have HB := n3_; have BK224 := n4_; have GW224 := n5_; have GE224 := n6_; clear n0_ n1_ n2_ n3_ n4_ n5_ n6_ hb hbox hg; obtain ⟨Ao14, co14, eo14⟩ := Kd.V_slice HO216.out; subst eo14; have hcz15_0 : w13.cell? ⟨gb224, 0, none⟩ = some (.slice none 0 0) := (blk_cell BK224.out 0).trans rfl; have hcz15_1 : w13.cell? ⟨gb224, 1, none⟩ = some (.slice none 0 0) := (blk_cell BK224.out 1).trans rfl; have hcz15_2 : w13.cell? ⟨gb224, 2, none⟩ = some (.slice none 0 0) := (blk_cell BK224.out 2).trans rfl; have hfz15_0 := blk_frozen BK224.out 0; have hfz15_1 := blk_frozen BK224.out 1; have hfz15_2 := blk_frozen BK224.out 2; obtain ⟨Ao16, co16, eo16⟩ := Kd.V_slice HO219.out; subst eo16; obtain ⟨Ao17, co17, eo17⟩ := Kd.V_slice HO222.out; subst eo17))
     go_loopg [7] kj2 (fun kq v7 w' => ∃ (x7_2 : Int) (x225000_2 : List Int) (x225001_2 : List Bool) (x225002_2 : List Int) (u225000 : Value) (u225001 : Value) (u225002 : Value), v7 = .int .i64 x7_2 ∧ Aside0 (treillagelaw03_SlotsAll.l0 kq a0 l1 x7_2 x225000_2 x225001_2 x225002_2 = some r) ∧ Aside0 (kq ≤ kj2) ∧ Aside0 (Kd.V (Kd.int .u64) 34 w' w.heap.size (fun k_ => k_ ≠ gb224) u225000 x225000_2) ∧ Aside0 (Kd.V Kd.bool 4 w' w.heap.size (fun k_ => k_ ≠ gb224) u225001 x225001_2) ∧ Aside0 (Kd.V (Kd.int .i64) 3 w' w.heap.size (fun k_ => k_ ≠ gb224) u225002 x225002_2) ∧ Aside0 (w'.heap[gb224]? = some (.cells #[u225000, u225001, u225002] 28 (0, 0))) ∧ Aside0 (Below w.heap.size w w'))
     case atStart => exact ⟨(0), (t214), (t217), (t220), (.slice Ao14 t214.length co14), (.slice Ao16 t217.length co16), (.slice Ao17 t220.length co17), (by first | rfl | (simp; done) | (simp [*]; done)), H', ⟨Nat.le_refl _⟩, ⟨by (with_reducible repeat (first | apply Kd.V_alloc | apply Kd.V_drewN | apply Kd.V_drew)); exact Kd.V_mono (Kd.V_far (p := ⟨gb224, 2, none⟩) (Kd.V_far (p := ⟨gb224, 1, none⟩) (Kd.V_far (p := ⟨gb224, 0, none⟩) (Kd.V_mono HO216.out (fun k_ hk => (⟨hk, hk.2⟩ : _ ∧ k_ ≠ gb224))) (fun _ hk => hk.2) (.slice Ao14 t214.length co14)) (fun _ hk => hk.2) (.slice Ao16 t217.length co16)) (fun _ hk => hk.2) (.slice Ao17 t220.length co17)) (fun _ hk => hk.1.2)⟩, ⟨by (with_reducible repeat (first | apply Kd.V_alloc | apply Kd.V_drewN | apply Kd.V_drew)); exact Kd.V_mono (Kd.V_far (p := ⟨gb224, 2, none⟩) (Kd.V_far (p := ⟨gb224, 1, none⟩) (Kd.V_far (p := ⟨gb224, 0, none⟩) (Kd.V_mono HO219.out (fun k_ hk => (⟨hk, hk.2⟩ : _ ∧ k_ ≠ gb224))) (fun _ hk => hk.2) (.slice Ao14 t214.length co14)) (fun _ hk => hk.2) (.slice Ao16 t217.length co16)) (fun _ hk => hk.2) (.slice Ao17 t220.length co17)) (fun _ hk => hk.1.2)⟩, ⟨by (with_reducible repeat (first | apply Kd.V_alloc | apply Kd.V_drewN | apply Kd.V_drew)); exact Kd.V_mono (Kd.V_far (p := ⟨gb224, 2, none⟩) (Kd.V_far (p := ⟨gb224, 1, none⟩) (Kd.V_far (p := ⟨gb224, 0, none⟩) (Kd.V_mono HO222.out (fun k_ hk => (⟨hk, hk.2⟩ : _ ∧ k_ ≠ gb224))) (fun _ hk => hk.2) (.slice Ao14 t214.length co14)) (fun _ hk => hk.2) (.slice Ao16 t217.length co16)) (fun _ hk => hk.2) (.slice Ao17 t220.length co17)) (fun _ hk => hk.1.2)⟩, ⟨by (with_reducible repeat (first | refine blk_drewN ?_ _ | refine blk_drew ?_ | refine blk_alloc ?_ _)); refine blk_put (cs := #[.slice Ao14 t214.length co14, .slice Ao16 t217.length co16, .slice none 0 0]) ?_ 2 _ rfl; (with_reducible repeat (first | refine blk_drewN ?_ _ | refine blk_drew ?_ | refine blk_alloc ?_ _)); refine blk_put (cs := #[.slice Ao14 t214.length co14, .slice none 0 0, .slice none 0 0]) ?_ 1 _ rfl; (with_reducible repeat (first | refine blk_drewN ?_ _ | refine blk_drew ?_ | refine blk_alloc ?_ _)); refine blk_put (cs := #[.slice none 0 0, .slice none 0 0, .slice none 0 0]) ?_ 0 _ rfl; (with_reducible repeat (first | refine blk_drewN ?_ _ | refine blk_drew ?_ | refine blk_alloc ?_ _)); exact BK224.out⟩, ⟨by repeat (first | (with_reducible first | exact HB.out | apply below_alloc | apply pw_below_drewN | apply below_drew1 | refine below_set ?_ GE224.out) | exact HB.out)⟩⟩
     case round =>
      clear H'; try clear c1
      try clear p2
      try clear c4
      try clear c4b0
      try clear c4b1
      try clear c5
      try clear p6
      try clear c7
      try clear c11
      try clear c11b0
      try clear c11b1
      try clear c14
      try clear c15
      try clear hcz15_0
      try clear hcz15_1
      try clear hcz15_2
      try clear hfz15_0
      try clear hfz15_1
      try clear hfz15_2
      try clear p2
      obtain ⟨x7_2, x225000_2, x225001_2, x225002_2, u225000, u225001, u225002, rfl, HA, HK2, HO_225000, HO_225001, HO_225002, BK224, HB⟩ := hrel; cases gk with
      | zero => exact absurd HA.out (by simp [treillagelaw03_SlotsAll.l0])
      | succ k2 =>
       have H := HA.out; clear HA; simp only [treillagelaw03_SlotsAll.l0] at H; by_cases c18 : x7_2 < (l1.length : Int)
       ·rw [if_pos c18] at H; have c18b0 : decide (x7_2 < (l1.length : Int)) = true := decide_eq_true c18; clear c18; replace H := Option.bind_eq_some_iff.mp H; obtain ⟨t225, A190, H⟩ := H; replace H : (if 0 ≤ x7_2 then (if (Int.tmod (rd l1 x7_2) 4) > 0 then (treillagelaw03_SlotsAll.j2 k2 a0 l1 x7_2 t225 true x225000_2 x225001_2 x225002_2) else (treillagelaw03_SlotsAll.j2 k2 a0 l1 x7_2 t225 ((t225.length : Int) == 0) x225000_2 x225001_2 x225002_2)) else (none)) = some r := H; have A19 := aA A190; clear A190; have HC20 := aA H; clear H; have hcz21_0 : wr.cell? ⟨gb224, 0, none⟩ = some (u225000) := (blk_cell BK224.out 0).trans rfl; have hcz21_1 : wr.cell? ⟨gb224, 1, none⟩ = some (u225001) := (blk_cell BK224.out 1).trans rfl; have hcz21_2 : wr.cell? ⟨gb224, 2, none⟩ = some (u225002) := (blk_cell BK224.out 2).trans rfl; have hfz21_0 := blk_frozen BK224.out 0; have hfz21_1 := blk_frozen BK224.out 1; have hfz21_2 := blk_frozen BK224.out 2; obtain ⟨Ao22, co22, eo22⟩ := Kd.V_slice HO_225000.out; subst eo22; obtain ⟨Ao23, co23, eo23⟩ := Kd.V_slice HO_225001.out; subst eo23; obtain ⟨Ao24, co24, eo24⟩ := Kd.V_slice HO_225002.out; subst eo24; go_upto_region 10 with (first | ((with_reducible refine gate_callee (f := 18) rfl ?_); refine goesL_ (some 40) rfl rfl Try.func18 (by kernel_rfl) rfl #[.agg #[.slice Ao22 x225000_2.length co22, .slice Ao23 x225001_2.length co23, .slice Ao24 x225002_2.length co24]] rfl (by (try simp only [List.map_toArray, List.map_cons, List.map_nil]); first | done | rfl | (simp only [List.length_drop, List.length_take]; rfl)) ?_; (with_reducible refine (slots_All.calls _ _ x225000_2 _ _ x225001_2 _ _ x225002_2 t225 _ ?side1 ?side2 ?side3 ?side4 ?side5 ?side6 A19.out).mono ?_); (case side1 => repeat (first | exact (Kd.V_reads' HO_225000.out).2.2 | (with_reducible refine Kd.C_alloc ?_ _) | (with_reducible refine Kd.C_drewN ?_ _) | (with_reducible refine Kd.C_drew ?_))); (case side2 => exact (Kd.V_reads' HO_225000.out).2.1); (case side3 => repeat (first | exact (Kd.V_reads' HO_225001.out).2.2 | (with_reducible refine Kd.C_alloc ?_ _) | (with_reducible refine Kd.C_drewN ?_ _) | (with_reducible refine Kd.C_drew ?_))); (case side4 => exact (Kd.V_reads' HO_225001.out).2.1); (case side5 => repeat (first | exact (Kd.V_reads' HO_225002.out).2.2 | (with_reducible refine Kd.C_alloc ?_ _) | (with_reducible refine Kd.C_drewN ?_ _) | (with_reducible refine Kd.C_drew ?_))); (case side6 => exact (Kd.V_reads' HO_225002.out).2.1); rintro e w25 ⟨v226, rfl, ho0, hb⟩; refine ⟨_, rfl, ?_⟩; have n0_ := aA (Kd.V_elder' (vlu HO_225000.out) (Kd.R_base ho0) hb); have n1_ := aA (Kd.V_elder' (vlu HO_225001.out) (Kd.R_base ho0) hb); have n2_ := aA (Kd.V_elder' (vlu HO_225002.out) (Kd.R_base ho0) hb); have n3_ := aA (Kd.R_lower ho0 (below_size (bls HB.out))); have n4_ := aA (blk_below (g := gb224) (o := .cells #[.slice Ao22 x225000_2.length co22, .slice Ao23 x225001_2.length co23, .slice Ao24 x225002_2.length co24] 28 (0, 0)) (bku BK224.out) hb); have n5_ := aA (below_step (bls HB.out) hb); clear HO_225000 HO_225001 HO_225002 BK224 HB; have HO_225000 := n0_; have HO_225001 := n1_; have HO_225002 := n2_; have HO227 := n3_; have BK224 := n4_; have HB := n5_; clear n0_ n1_ n2_ n3_ n4_ n5_; (try clear hb); (try clear hb2); (try clear hk); (try clear hi); (try clear ho0)))
        (try simp only [Act.put, List.setIfInBounds_toArray, List.set_cons_zero, List.set_cons_succ]); go_cut [51] (fun v51 wc => ∃ (kq : Nat) (x51_19 : Bool), v51 = .bool x51_19 ∧ Aside0 (treillagelaw03_SlotsAll.j2 kq a0 l1 x7_2 t225 x51_19 x225000_2 x225001_2 x225002_2 = some r) ∧ Aside0 (kq ≤ k2) ∧ Aside0 (Kd.R (Kd.int .u64) 34 wc w.heap.size (fun _ => True) v226 t225) ∧ Aside0 (Kd.V (Kd.int .u64) 34 wc w.heap.size (fun k_ => some k_ ≠ (v226 : Value).ownBlock ∧ k_ ≠ gb224) (.slice Ao22 x225000_2.length co22) x225000_2) ∧ Aside0 (Kd.V Kd.bool 4 wc w.heap.size (fun k_ => some k_ ≠ (v226 : Value).ownBlock ∧ k_ ≠ gb224) (.slice Ao23 x225001_2.length co23) x225001_2) ∧ Aside0 (Kd.V (Kd.int .i64) 3 wc w.heap.size (fun k_ => some k_ ≠ (v226 : Value).ownBlock ∧ k_ ≠ gb224) (.slice Ao24 x225002_2.length co24) x225002_2) ∧ Aside0 (wc.heap[gb224]? = some (.cells #[(.slice Ao22 x225000_2.length co22), (.slice Ao23 x225001_2.length co23), (.slice Ao24 x225002_2.length co24)] 28 (0, 0))) ∧ Aside0 (Below w.heap.size w wc))
        case first =>
         have H := HC20.out; clear HC20; by_cases c26 : 0 ≤ x7_2
         rotate_left
         ·rw [if_neg c26] at H; exact absurd H (by simp)
         rw [if_pos c26] at H; have c26b0 : decide (0 ≤ x7_2) = true := decide_eq_true c26; clear c26; (first | rw [c26b0] | (simp only [i64_w, i32_w]; rw [c26b0]) | skip)
         by_cases c27 : (Int.tmod (rd l1 x7_2) 4) > 0
         ·rw [if_pos c27] at H; have c27b0 : decide (0 < (Int.tmod (rd l1 x7_2) 4)) = true := decide_eq_true c27; clear c27; have H' := aA H; clear H; have p228 : 0 ≤ (x7_2 : Int) := of_decide_eq_true (by first | (with_reducible assumption) | assumption); have q228 : x7_2 < (l1.length : Int) := of_decide_eq_true (by first | (with_reducible assumption) | assumption); obtain ⟨ad228, e228, hx228_0⟩ := Kd.at_int HR1.out x7_2 p228 q228; cases e228
          replace hx228_0 := (HB.out.cell (World.block_lt_of_cell? w _ hx228_0)).trans hx228_0; replace p228 := eq_true p228; replace q228 := eq_true q228; go_wp2; (first | go_meet | (refine Met.intro ?_; go_step; (try rw [c26b0]); (repeat apply Exists.intro); refine ⟨?rel, rfl⟩))
          case rel => exact ⟨_, (true), (by first | rfl | (simp; done) | (simp [*]; done)), H', ⟨by have := HJ2.out; have := HK2.out; first | omega | exact Nat.le_refl _⟩, ⟨by (with_reducible repeat (first | apply Kd.R_alloc | apply Kd.R_drewN | apply Kd.R_drew)); exact HO227.out⟩, ⟨by (with_reducible repeat (first | apply Kd.V_alloc | apply Kd.V_drewN | apply Kd.V_drew)); exact Kd.V_mono HO_225000.out (fun _ hk => ⟨hk.2, hk.1⟩)⟩, ⟨by (with_reducible repeat (first | apply Kd.V_alloc | apply Kd.V_drewN | apply Kd.V_drew)); exact Kd.V_mono HO_225001.out (fun _ hk => ⟨hk.2, hk.1⟩)⟩, ⟨by (with_reducible repeat (first | apply Kd.V_alloc | apply Kd.V_drewN | apply Kd.V_drew)); exact Kd.V_mono HO_225002.out (fun _ hk => ⟨hk.2, hk.1⟩)⟩, ⟨by (with_reducible repeat (first | refine blk_drewN ?_ _ | refine blk_drew ?_ | refine blk_alloc ?_ _)); exact BK224.out⟩, ⟨by repeat (first | (with_reducible first | exact HB.out | apply below_alloc | apply pw_below_drewN | apply below_drew1 | refine below_set ?_ GE224.out) | exact HB.out)⟩⟩
         ·rw [if_neg c27] at H; have c27b0 : decide (0 < (Int.tmod (rd l1 x7_2) 4)) = false := decide_eq_false c27; clear c27; have H' := aA H; clear H; have p228 : 0 ≤ (x7_2 : Int) := of_decide_eq_true (by first | (with_reducible assumption) | assumption); have q228 : x7_2 < (l1.length : Int) := of_decide_eq_true (by first | (with_reducible assumption) | assumption); obtain ⟨ad228, e228, hx228_0⟩ := Kd.at_int HR1.out x7_2 p228 q228; cases e228
          replace hx228_0 := (HB.out.cell (World.block_lt_of_cell? w _ hx228_0)).trans hx228_0; replace p228 := eq_true p228; replace q228 := eq_true q228; obtain ⟨Ao28, co28, eo28⟩ := Kd.R_slice HO227.out; subst eo28; go_wp2; (first | go_meet | (refine Met.intro ?_; go_step; (try rw [c26b0]); (repeat apply Exists.intro); refine ⟨?rel, rfl⟩))
          case rel => exact ⟨_, (((t225.length : Int) == 0)), (by first | rfl | (simp; done) | (simp [*]; done)), H', ⟨by have := HJ2.out; have := HK2.out; first | omega | exact Nat.le_refl _⟩, ⟨by (with_reducible repeat (first | apply Kd.R_alloc | apply Kd.R_drewN | apply Kd.R_drew)); exact HO227.out⟩, ⟨by (with_reducible repeat (first | apply Kd.V_alloc | apply Kd.V_drewN | apply Kd.V_drew)); exact Kd.V_mono HO_225000.out (fun _ hk => ⟨hk.2, hk.1⟩)⟩, ⟨by (with_reducible repeat (first | apply Kd.V_alloc | apply Kd.V_drewN | apply Kd.V_drew)); exact Kd.V_mono HO_225001.out (fun _ hk => ⟨hk.2, hk.1⟩)⟩, ⟨by (with_reducible repeat (first | apply Kd.V_alloc | apply Kd.V_drewN | apply Kd.V_drew)); exact Kd.V_mono HO_225002.out (fun _ hk => ⟨hk.2, hk.1⟩)⟩, ⟨by (with_reducible repeat (first | refine blk_drewN ?_ _ | refine blk_drew ?_ | refine blk_alloc ?_ _)); exact BK224.out⟩, ⟨by repeat (first | (with_reducible first | exact HB.out | apply below_alloc | apply pw_below_drewN | apply below_drew1 | refine below_set ?_ GE224.out) | exact HB.out)⟩⟩
        case rest =>
         clear HC20; try clear c1
         try clear c2
         try clear p2
         try clear q2
         try clear hx2
         try clear c4
         try clear c4b0
         try clear c4b1
         try clear c5
         try clear p6
         try clear c7
         try clear c11
         try clear c11b0
         try clear c11b1
         try clear c14
         try clear c15
         try clear c18
         try clear c18b0
         try clear p22
         try clear q22
         try clear hx22
         try clear c26
         try clear c26b0
         try clear c27
         try clear c27b0
         try clear hcz15_0
         try clear hcz15_1
         try clear hcz15_2
         try clear hcz21_0
         try clear hcz21_1
         try clear hcz21_2
         try clear hfz15_0
         try clear hfz15_1
         try clear hfz15_2
         try clear hfz21_0
         try clear hfz21_1
         try clear hfz21_2
         try clear hx228_0
         try clear p2
         try clear p228
         try clear p6
         try clear q228
         obtain ⟨kq, x51_19, rfl, HA, HJ19, HO_8, HO_225000, HO_225001, HO_225002, BK224, HB⟩ := hcut; cases kq with
         | zero => exact absurd HA.out (by simp [treillagelaw03_SlotsAll.j2])
         | succ kj19 =>
          have H := HA.out; clear HA; simp only [treillagelaw03_SlotsAll.j2] at H; by_cases c29 : x51_19 = true
          ·subst c29; have H1 : ((slots_Take.f x225000_2 x225001_2 x225002_2).bind fun bt229 => (treillagelaw03_SlotsAll.l0 kj19 a0 l1 (wrap64 (x7_2 + 1)) bt229.1 bt229.2.1 bt229.2.2.1)) = some r := by rw [if_pos rfl] at H; exact H
           clear H; have H := H1; clear H1; replace H := Option.bind_eq_some_iff.mp H; obtain ⟨⟨t229, t232, t235, t238, t239⟩, A300, H⟩ := H; replace H : (treillagelaw03_SlotsAll.l0 kj19 a0 l1 (wrap64 (x7_2 + 1)) t229 t232 t235) = some r := H; have A30 := aA A300; clear A300; have H' := aA H; clear H; have hcz31_0 : wc.cell? ⟨gb224, 0, none⟩ = some (.slice Ao22 x225000_2.length co22) := (blk_cell BK224.out 0).trans rfl; have hcz31_1 : wc.cell? ⟨gb224, 1, none⟩ = some (.slice Ao23 x225001_2.length co23) := (blk_cell BK224.out 1).trans rfl; have hcz31_2 : wc.cell? ⟨gb224, 2, none⟩ = some (.slice Ao24 x225002_2.length co24) := (blk_cell BK224.out 2).trans rfl; have hfz31_0 := blk_frozen BK224.out 0; have hfz31_1 := blk_frozen BK224.out 1; have hfz31_2 := blk_frozen BK224.out 2; go_wp2_with (first | ((with_reducible refine gate_callee (f := 16) rfl ?_); refine goesL_ (some 54) rfl rfl Try.func16 (by kernel_rfl) rfl #[.agg #[.slice Ao22 x225000_2.length co22, .slice Ao23 x225001_2.length co23, .slice Ao24 x225002_2.length co24]] rfl (by (try simp only [List.map_toArray, List.map_cons, List.map_nil]); first | done | rfl | (simp only [List.length_drop, List.length_take]; rfl)) ?_; (with_reducible refine (slots_Take.calls (fun k_ => (some k_ ≠ (v226 : Value).ownBlock ∧ k_ ≠ gb224)) _ _ x225000_2 (fun k_ => (some k_ ≠ (v226 : Value).ownBlock ∧ k_ ≠ gb224)) _ _ x225001_2 (fun k_ => (some k_ ≠ (v226 : Value).ownBlock ∧ k_ ≠ gb224)) _ _ x225002_2 t229 t232 t235 t238 t239 _ ?side1 ?side2 ?side3 A30.out).mono ?_); (case side1 => exact HO_225000.out); (case side2 => exact HO_225001.out); (case side3 => exact HO_225002.out); rintro e w32 ⟨v230, v233, v236, rfl, ho0, ho1, ho2, hb⟩; refine ⟨_, rfl, ?_⟩; have n0_ := aA (Kd.R_below (rlu HO_8.out) hb); have n1_ := aA (Kd.V_below (vlu HO_225000.out) hb); have n2_ := aA (Kd.V_below (vlu HO_225001.out) hb); have n3_ := aA (Kd.V_below (vlu HO_225002.out) hb); have n4_ := aA (Kd.V_lower (Kd.V_mono (ok' := fun k_ => some k_ ≠ (v226 : Value).ownBlock ∧ k_ ≠ gb224) ho0 (fun k_ hk_ => ⟨Or.elim hk_ (fun hs_ => Or.elim hs_ (fun hs_ => hs_.1) (fun hs_ => Or.elim hs_ (fun hs_ => hs_.1) (fun hs_ => hs_.1))) (fun hn_ => (Kd.fresh' (Kd.R_lt (rlu HO_8.out)) k_ hn_)), Or.elim hk_ (fun hs_ => Or.elim hs_ (fun hs_ => hs_.2) (fun hs_ => Or.elim hs_ (fun hs_ => hs_.2) (fun hs_ => hs_.2))) (fun hn_ => (Kd.freshB (g := gb224) (o := .cells #[.slice Ao22 x225000_2.length co22, .slice Ao23 x225001_2.length co23, .slice Ao24 x225002_2.length co24] 28 (0, 0)) (bku BK224.out) k_ hn_))⟩)) (below_size (bls HB.out))); have n5_ := aA (Kd.V_lower (Kd.V_mono (ok' := fun k_ => some k_ ≠ (v226 : Value).ownBlock ∧ k_ ≠ gb224) ho1 (fun k_ hk_ => ⟨Or.elim hk_ (fun hs_ => Or.elim hs_ (fun hs_ => hs_.1) (fun hs_ => Or.elim hs_ (fun hs_ => hs_.1) (fun hs_ => hs_.1))) (fun hn_ => (Kd.fresh' (Kd.R_lt (rlu HO_8.out)) k_ hn_)), Or.elim hk_ (fun hs_ => Or.elim hs_ (fun hs_ => hs_.2) (fun hs_ => Or.elim hs_ (fun hs_ => hs_.2) (fun hs_ => hs_.2))) (fun hn_ => (Kd.freshB (g := gb224) (o := .cells #[.slice Ao22 x225000_2.length co22, .slice Ao23 x225001_2.length co23, .slice Ao24 x225002_2.length co24] 28 (0, 0)) (bku BK224.out) k_ hn_))⟩)) (below_size (bls HB.out))); have n6_ := aA (Kd.V_lower (Kd.V_mono (ok' := fun k_ => some k_ ≠ (v226 : Value).ownBlock ∧ k_ ≠ gb224) ho2 (fun k_ hk_ => ⟨Or.elim hk_ (fun hs_ => Or.elim hs_ (fun hs_ => hs_.1) (fun hs_ => Or.elim hs_ (fun hs_ => hs_.1) (fun hs_ => hs_.1))) (fun hn_ => (Kd.fresh' (Kd.R_lt (rlu HO_8.out)) k_ hn_)), Or.elim hk_ (fun hs_ => Or.elim hs_ (fun hs_ => hs_.2) (fun hs_ => Or.elim hs_ (fun hs_ => hs_.2) (fun hs_ => hs_.2))) (fun hn_ => (Kd.freshB (g := gb224) (o := .cells #[.slice Ao22 x225000_2.length co22, .slice Ao23 x225001_2.length co23, .slice Ao24 x225002_2.length co24] 28 (0, 0)) (bku BK224.out) k_ hn_))⟩)) (below_size (bls HB.out))); have n7_ := aA (blk_below (g := gb224) (o := .cells #[.slice Ao22 x225000_2.length co22, .slice Ao23 x225001_2.length co23, .slice Ao24 x225002_2.length co24] 28 (0, 0)) (bku BK224.out) hb); have n8_ := aA (below_step (bls HB.out) hb); clear HO_8 HO_225000 HO_225001 HO_225002 BK224 HB; have HO_8 := n0_; have HO_225000 := n1_; have HO_225001 := n2_; have HO_225002 := n3_; have HO231 := n4_; have HO234 := n5_; have HO237 := n6_; have BK224 := n7_; have HB := n8_; clear n0_ n1_ n2_ n3_ n4_ n5_ n6_ n7_ n8_; (try clear hb); (try clear hb2); (try clear hk); (try clear hi); (try clear ho0); (try clear ho1); (try clear ho2); obtain ⟨Ao33, co33, eo33⟩ := Kd.V_slice HO231.out; subst eo33; have hcz34_0 : w32.cell? ⟨gb224, 0, none⟩ = some (.slice Ao22 x225000_2.length co22) := (blk_cell BK224.out 0).trans rfl; have hcz34_1 : w32.cell? ⟨gb224, 1, none⟩ = some (.slice Ao23 x225001_2.length co23) := (blk_cell BK224.out 1).trans rfl; have hcz34_2 : w32.cell? ⟨gb224, 2, none⟩ = some (.slice Ao24 x225002_2.length co24) := (blk_cell BK224.out 2).trans rfl; have hfz34_0 := blk_frozen BK224.out 0; have hfz34_1 := blk_frozen BK224.out 1; have hfz34_2 := blk_frozen BK224.out 2; obtain ⟨Ao35, co35, eo35⟩ := Kd.V_slice HO234.out; subst eo35; obtain ⟨Ao36, co36, eo36⟩ := Kd.V_slice HO237.out; subst eo36))
           go_roundg kj19
           case measure => have := HJ2.out; have := HK2.out; have := HJ19.out; omega
           case rel => exact ⟨(wrap64 (x7_2 + 1)), (t229), (t232), (t235), (.slice Ao33 t229.length co33), (.slice Ao35 t232.length co35), (.slice Ao36 t235.length co36), (by first | rfl | (simp; done) | (simp [*]; done)), H', ⟨by have := HJ2.out; have := HK2.out; have := HJ19.out; omega⟩, ⟨by (with_reducible repeat (first | apply Kd.V_alloc | apply Kd.V_drewN | apply Kd.V_drew)); exact Kd.V_mono (Kd.V_far (p := ⟨gb224, 2, none⟩) (Kd.V_far (p := ⟨gb224, 1, none⟩) (Kd.V_far (p := ⟨gb224, 0, none⟩) (Kd.V_mono HO231.out (fun k_ hk => (⟨hk, hk.2⟩ : _ ∧ k_ ≠ gb224))) (fun _ hk => hk.2) (.slice Ao33 t229.length co33)) (fun _ hk => hk.2) (.slice Ao35 t232.length co35)) (fun _ hk => hk.2) (.slice Ao36 t235.length co36)) (fun _ hk => hk.1.2)⟩, ⟨by (with_reducible repeat (first | apply Kd.V_alloc | apply Kd.V_drewN | apply Kd.V_drew)); exact Kd.V_mono (Kd.V_far (p := ⟨gb224, 2, none⟩) (Kd.V_far (p := ⟨gb224, 1, none⟩) (Kd.V_far (p := ⟨gb224, 0, none⟩) (Kd.V_mono HO234.out (fun k_ hk => (⟨hk, hk.2⟩ : _ ∧ k_ ≠ gb224))) (fun _ hk => hk.2) (.slice Ao33 t229.length co33)) (fun _ hk => hk.2) (.slice Ao35 t232.length co35)) (fun _ hk => hk.2) (.slice Ao36 t235.length co36)) (fun _ hk => hk.1.2)⟩, ⟨by (with_reducible repeat (first | apply Kd.V_alloc | apply Kd.V_drewN | apply Kd.V_drew)); exact Kd.V_mono (Kd.V_far (p := ⟨gb224, 2, none⟩) (Kd.V_far (p := ⟨gb224, 1, none⟩) (Kd.V_far (p := ⟨gb224, 0, none⟩) (Kd.V_mono HO237.out (fun k_ hk => (⟨hk, hk.2⟩ : _ ∧ k_ ≠ gb224))) (fun _ hk => hk.2) (.slice Ao33 t229.length co33)) (fun _ hk => hk.2) (.slice Ao35 t232.length co35)) (fun _ hk => hk.2) (.slice Ao36 t235.length co36)) (fun _ hk => hk.1.2)⟩, ⟨by (with_reducible repeat (first | refine blk_drewN ?_ _ | refine blk_drew ?_ | refine blk_alloc ?_ _)); refine blk_put (cs := #[.slice Ao33 t229.length co33, .slice Ao35 t232.length co35, .slice Ao24 x225002_2.length co24]) ?_ 2 _ rfl; (with_reducible repeat (first | refine blk_drewN ?_ _ | refine blk_drew ?_ | refine blk_alloc ?_ _)); refine blk_put (cs := #[.slice Ao33 t229.length co33, .slice Ao23 x225001_2.length co23, .slice Ao24 x225002_2.length co24]) ?_ 1 _ rfl; (with_reducible repeat (first | refine blk_drewN ?_ _ | refine blk_drew ?_ | refine blk_alloc ?_ _)); refine blk_put (cs := #[.slice Ao22 x225000_2.length co22, .slice Ao23 x225001_2.length co23, .slice Ao24 x225002_2.length co24]) ?_ 0 _ rfl; (with_reducible repeat (first | refine blk_drewN ?_ _ | refine blk_drew ?_ | refine blk_alloc ?_ _)); exact BK224.out⟩, ⟨by repeat (first | (with_reducible first | exact HB.out | apply below_alloc | apply pw_below_drewN | apply below_drew1 | refine below_set ?_ GE224.out) | exact HB.out)⟩⟩
          ·replace c29 := Bool.eq_false_iff.mpr c29; subst c29; have H1 : (if 0 ≤ x7_2 then (if x7_2 < (l1.length : Int) then (if (t225.length : Int) = 0 then (none) else (if 0 ≤ (Int.tmod (wrap64 (IntKind.u16.wrap (Int.tdiv (rd l1 x7_2) 4))) (t225.length : Int)) then (if (Int.tmod (wrap64 (IntKind.u16.wrap (Int.tdiv (rd l1 x7_2) 4))) (t225.length : Int)) < (t225.length : Int) then ((slots_Give.f x225000_2 x225001_2 x225002_2 (rd t225 (Int.tmod (wrap64 (IntKind.u16.wrap (Int.tdiv (rd l1 x7_2) 4))) (t225.length : Int)))).bind fun bt242 => ((slots_Give.f bt242.1 bt242.2.1 bt242.2.2.1 (rd t225 (Int.tmod (wrap64 (IntKind.u16.wrap (Int.tdiv (rd l1 x7_2) 4))) (t225.length : Int)))).bind fun bt253 => (if bt242.2.2.2 = 0 then (if bt253.2.2.2 = 30 then (treillagelaw03_SlotsAll.l0 kj19 a0 l1 (wrap64 (x7_2 + 1)) bt242.1 bt242.2.1 bt242.2.2.1) else (some false)) else (some false)))) else (none)) else (none))) else (none)) else (none)) = some r := by rw [if_neg (show ¬ (false = true) by decide)] at H; exact H
           clear H; have H := H1; clear H1; by_cases c37 : 0 ≤ x7_2
           rotate_left
           ·rw [if_neg c37] at H; exact absurd H (by simp)
           rw [if_pos c37] at H; have c37b0 : decide (0 ≤ x7_2) = true := decide_eq_true c37; clear c37; by_cases c38 : x7_2 < (l1.length : Int)
           rotate_left
           ·rw [if_neg c38] at H; exact absurd H (by simp)
           rw [if_pos c38] at H; have c38b0 : decide (x7_2 < (l1.length : Int)) = true := decide_eq_true c38; clear c38; by_cases c39 : (t225.length : Int) = 0
           ·rw [if_pos c39] at H; exact absurd H (by simp)
           rw [if_neg c39] at H; have c39b0 : ((t225.length : Int) == 0) = false := beq_eq_false_iff_ne.mpr c39; have c39b1 : ((t225.length : Int) != 0) = true := bne_iff_ne.mpr c39; have c39b2 : ¬ (t225 = []) := fun h_ => c39 (by rw [h_]; rfl)
           obtain ⟨ji40, hji40⟩ : ∃ j_ : Int, (Int.tmod (wrap64 (IntKind.u16.wrap (Int.tdiv (rd l1 x7_2) 4))) (t225.length : Int)) = j_ := ⟨_, rfl⟩; replace H : (if 0 ≤ (ji40) then (if (ji40) < (t225.length : Int) then ((slots_Give.f x225000_2 x225001_2 x225002_2 (rd t225 (ji40))).bind fun bt242 => ((slots_Give.f bt242.1 bt242.2.1 bt242.2.2.1 (rd t225 (ji40))).bind fun bt253 => (if bt242.2.2.2 = 0 then (if bt253.2.2.2 = 30 then (treillagelaw03_SlotsAll.l0 kj19 a0 l1 (wrap64 (x7_2 + 1)) bt242.1 bt242.2.1 bt242.2.2.1) else (some false)) else (some false)))) else (none)) else (none)) = some r := by first | (rw [hji40] at H; exact H) | (simp only [hji40] at H ⊢; exact H)
           by_cases c41 : 0 ≤ (ji40)
           rotate_left
           ·rw [if_neg c41] at H; exact absurd H (by simp)
           rw [if_pos c41] at H; have c41b0 : decide (0 ≤ (ji40)) = true := decide_eq_true c41; clear c41; by_cases c42 : (ji40) < (t225.length : Int)
           rotate_left
           ·rw [if_neg c42] at H; exact absurd H (by simp)
           rw [if_pos c42] at H; have c42b0 : decide ((ji40) < (t225.length : Int)) = true := decide_eq_true c42; clear c42; replace H := Option.bind_eq_some_iff.mp H; obtain ⟨⟨t242, t245, t248, t251⟩, A430, H⟩ := H; replace H : ((slots_Give.f t242 t245 t248 (rd t225 (ji40))).bind fun bt253 => (if t251 = 0 then (if bt253.2.2.2 = 30 then (treillagelaw03_SlotsAll.l0 kj19 a0 l1 (wrap64 (x7_2 + 1)) t242 t245 t248) else (some false)) else (some false))) = some r := H; have A43 := aA A430; clear A430; replace H := Option.bind_eq_some_iff.mp H; obtain ⟨⟨t253, t256, t259, t262⟩, A440, H⟩ := H; replace H : (if t251 = 0 then (if t262 = 30 then (treillagelaw03_SlotsAll.l0 kj19 a0 l1 (wrap64 (x7_2 + 1)) t242 t245 t248) else (some false)) else (some false)) = some r := H; have A44 := aA A440; clear A440; by_cases c45 : t251 = 0
           ·rw [if_pos c45] at H; have c45b0 : (t251 == 0) = true := beq_iff_eq.mpr c45; have c45b1 : (t251 != 0) = false := bne_eq_false_iff_eq.mpr c45; clear c45; by_cases c46 : t262 = 30
            ·rw [if_pos c46] at H; have c46b0 : (t262 == 30) = true := beq_iff_eq.mpr c46; have c46b1 : (t262 != 30) = false := bne_eq_false_iff_eq.mpr c46; clear c46; have H' := aA H; clear H; have p240 : 0 ≤ (x7_2 : Int) := of_decide_eq_true (by first | (with_reducible assumption) | assumption); have q240 : x7_2 < (l1.length : Int) := of_decide_eq_true (by first | (with_reducible assumption) | assumption); obtain ⟨ad240, e240, hx240_0⟩ := Kd.at_int HR1.out x7_2 p240 q240; cases e240
             replace hx240_0 := (HB.out.cell (World.block_lt_of_cell? w _ hx240_0)).trans hx240_0; replace p240 := eq_true p240; replace q240 := eq_true q240; obtain ⟨Ao47, co47, eo47⟩ := Kd.R_slice HO_8.out; subst eo47; have p241 : 0 ≤ ((ji40) : Int) := of_decide_eq_true (by first | (with_reducible assumption) | assumption); have q241 : (ji40) < (t225.length : Int) := of_decide_eq_true (by first | (with_reducible assumption) | assumption); obtain ⟨ad241, e241, hx241_0⟩ := Kd.at_int (Kd.R_reads' HO_8.out).2.2 (ji40) p241 q241; cases e241
             replace p241 := eq_true p241; replace q241 := eq_true q241; have hcz48_0 : wc.cell? ⟨gb224, 0, none⟩ = some (.slice Ao22 x225000_2.length co22) := (blk_cell BK224.out 0).trans rfl; have hcz48_1 : wc.cell? ⟨gb224, 1, none⟩ = some (.slice Ao23 x225001_2.length co23) := (blk_cell BK224.out 1).trans rfl; have hcz48_2 : wc.cell? ⟨gb224, 2, none⟩ = some (.slice Ao24 x225002_2.length co24) := (blk_cell BK224.out 2).trans rfl; have hfz48_0 := blk_frozen BK224.out 0; have hfz48_1 := blk_frozen BK224.out 1; have hfz48_2 := blk_frozen BK224.out 2; go_wp2_with (first | ((with_reducible refine gate_callee (f := 17) rfl ?_); refine goesL_ (some 73) rfl rfl Try.func17 (by kernel_rfl) rfl #[.agg #[.slice Ao22 x225000_2.length co22, .slice Ao23 x225001_2.length co23, .slice Ao24 x225002_2.length co24], .int .u64 (rd t225 (ji40))] rfl (by (try simp only [List.map_toArray, List.map_cons, List.map_nil]); first | done | (simp only [hji40]; rfl) | rfl | (simp only [List.length_drop, List.length_take]; rfl)) ?_; (with_reducible refine (slots_Give.calls (fun k_ => (some k_ ≠ (.slice (some ad241) t225.length co47 : Value).ownBlock ∧ k_ ≠ gb224)) _ _ x225000_2 (fun k_ => (some k_ ≠ (.slice (some ad241) t225.length co47 : Value).ownBlock ∧ k_ ≠ gb224)) _ _ x225001_2 (fun k_ => (some k_ ≠ (.slice (some ad241) t225.length co47 : Value).ownBlock ∧ k_ ≠ gb224)) _ _ x225002_2 (rd t225 (ji40)) t242 t245 t248 t251 _ ?side1 ?side2 ?side3 A43.out).mono ?_); (case side1 => exact HO_225000.out); (case side2 => exact HO_225001.out); (case side3 => exact HO_225002.out); rintro e w49 ⟨v243, v246, v249, rfl, ho0, ho1, ho2, hb⟩; refine ⟨_, rfl, ?_⟩; have n0_ := aA (Kd.R_below (rlu HO_8.out) hb); have n1_ := aA (Kd.V_below (vlu HO_225000.out) hb); have n2_ := aA (Kd.V_below (vlu HO_225001.out) hb); have n3_ := aA (Kd.V_below (vlu HO_225002.out) hb); have n4_ := aA (Kd.V_lower (Kd.V_mono (ok' := fun k_ => some k_ ≠ (.slice (some ad241) t225.length co47 : Value).ownBlock ∧ k_ ≠ gb224) ho0 (fun k_ hk_ => ⟨Or.elim hk_ (fun hs_ => Or.elim hs_ (fun hs_ => hs_.1) (fun hs_ => Or.elim hs_ (fun hs_ => hs_.1) (fun hs_ => hs_.1))) (fun hn_ => (Kd.fresh' (Kd.R_lt (rlu HO_8.out)) k_ hn_)), Or.elim hk_ (fun hs_ => Or.elim hs_ (fun hs_ => hs_.2) (fun hs_ => Or.elim hs_ (fun hs_ => hs_.2) (fun hs_ => hs_.2))) (fun hn_ => (Kd.freshB (g := gb224) (o := .cells #[.slice Ao22 x225000_2.length co22, .slice Ao23 x225001_2.length co23, .slice Ao24 x225002_2.length co24] 28 (0, 0)) (bku BK224.out) k_ hn_))⟩)) (below_size (bls HB.out))); have n5_ := aA (Kd.V_lower (Kd.V_mono (ok' := fun k_ => some k_ ≠ (.slice (some ad241) t225.length co47 : Value).ownBlock ∧ k_ ≠ gb224) ho1 (fun k_ hk_ => ⟨Or.elim hk_ (fun hs_ => Or.elim hs_ (fun hs_ => hs_.1) (fun hs_ => Or.elim hs_ (fun hs_ => hs_.1) (fun hs_ => hs_.1))) (fun hn_ => (Kd.fresh' (Kd.R_lt (rlu HO_8.out)) k_ hn_)), Or.elim hk_ (fun hs_ => Or.elim hs_ (fun hs_ => hs_.2) (fun hs_ => Or.elim hs_ (fun hs_ => hs_.2) (fun hs_ => hs_.2))) (fun hn_ => (Kd.freshB (g := gb224) (o := .cells #[.slice Ao22 x225000_2.length co22, .slice Ao23 x225001_2.length co23, .slice Ao24 x225002_2.length co24] 28 (0, 0)) (bku BK224.out) k_ hn_))⟩)) (below_size (bls HB.out))); have n6_ := aA (Kd.V_lower (Kd.V_mono (ok' := fun k_ => some k_ ≠ (.slice (some ad241) t225.length co47 : Value).ownBlock ∧ k_ ≠ gb224) ho2 (fun k_ hk_ => ⟨Or.elim hk_ (fun hs_ => Or.elim hs_ (fun hs_ => hs_.1) (fun hs_ => Or.elim hs_ (fun hs_ => hs_.1) (fun hs_ => hs_.1))) (fun hn_ => (Kd.fresh' (Kd.R_lt (rlu HO_8.out)) k_ hn_)), Or.elim hk_ (fun hs_ => Or.elim hs_ (fun hs_ => hs_.2) (fun hs_ => Or.elim hs_ (fun hs_ => hs_.2) (fun hs_ => hs_.2))) (fun hn_ => (Kd.freshB (g := gb224) (o := .cells #[.slice Ao22 x225000_2.length co22, .slice Ao23 x225001_2.length co23, .slice Ao24 x225002_2.length co24] 28 (0, 0)) (bku BK224.out) k_ hn_))⟩)) (below_size (bls HB.out))); have n7_ := aA (blk_below (g := gb224) (o := .cells #[.slice Ao22 x225000_2.length co22, .slice Ao23 x225001_2.length co23, .slice Ao24 x225002_2.length co24] 28 (0, 0)) (bku BK224.out) hb); have n8_ := aA (below_step (bls HB.out) hb); clear HO_8 HO_225000 HO_225001 HO_225002 BK224 HB; have HO_8 := n0_; have HO_225000 := n1_; have HO_225001 := n2_; have HO_225002 := n3_; have HO244 := n4_; have HO247 := n5_; have HO250 := n6_; have BK224 := n7_; have HB := n8_; clear n0_ n1_ n2_ n3_ n4_ n5_ n6_ n7_ n8_; (try clear hb); (try clear hb2); (try clear hk); (try clear hi); (try clear ho0); (try clear ho1); (try clear ho2)) | ((with_reducible refine gate_dst (N := 10) rfl ?_); (try (refine gate_guard (by rfl) ?_; dsimp only)); refine box_event ?hg (N := 10) ?hd (cs := #[.slice none 0 0, .slice none 0 0, .slice none 0 0]) (t := 28) ?hr ?_; (case hd => rfl); (case hg => rfl); (case hr => first | (go_simp; done) | (go_simp; rfl)); intro gb252 hg w50 hbox hb; have n0_ := aA (Kd.R_below (rlu HO_8.out) hb); have n1_ := aA (Kd.V_below (Kd.V_elderB (vlu HO_225000.out) gb252 (Nat.le_of_eq hg.symm)) hb); have n2_ := aA (Kd.V_below (Kd.V_elderB (vlu HO_225001.out) gb252 (Nat.le_of_eq hg.symm)) hb); have n3_ := aA (Kd.V_below (Kd.V_elderB (vlu HO_225002.out) gb252 (Nat.le_of_eq hg.symm)) hb); have n4_ := aA (Kd.V_below (Kd.V_elderB (vlu HO244.out) gb252 (Nat.le_of_eq hg.symm)) hb); have n5_ := aA (Kd.V_below (Kd.V_elderB (vlu HO247.out) gb252 (Nat.le_of_eq hg.symm)) hb); have n6_ := aA (Kd.V_below (Kd.V_elderB (vlu HO250.out) gb252 (Nat.le_of_eq hg.symm)) hb); have n7_ := aA (blk_below (g := gb224) (o := .cells #[.slice Ao22 x225000_2.length co22, .slice Ao23 x225001_2.length co23, .slice Ao24 x225002_2.length co24] 28 (0, 0)) (bku BK224.out) hb); have n8_ := aA (below_step (bls HB.out) hb); have n9_ := aA (hbox); have n10_ := aA ((by rw [hg]; exact (below_size (bls HB.out)) : w.heap.size ≤ gb252)); have n11_ := aA ((by rw [hg]; exact (below_size (bls HB.out)) : w.heap.size ≤ gb252)); have n12_ := aA ((by rw [hg]; exact Nat.ne_of_lt (blk_lt (g := gb224) (o := .cells #[.slice Ao22 x225000_2.length co22, .slice Ao23 x225001_2.length co23, .slice Ao24 x225002_2.length co24] 28 (0, 0)) (bku BK224.out)) : gb224 ≠ gb252)); have n13_ := aA ((by rw [hg]; exact Nat.ne_of_gt (blk_lt (g := gb224) (o := .cells #[.slice Ao22 x225000_2.length co22, .slice Ao23 x225001_2.length co23, .slice Ao24 x225002_2.length co24] 28 (0, 0)) (bku BK224.out)) : gb252 ≠ gb224)); clear HO_8 HO_225000 HO_225001 HO_225002 HO244 HO247 HO250 BK224 HB; have HO_8 := n0_; have HO_225000 := n1_; have HO_225001 := n2_; have HO_225002 := n3_; have HO244 := n4_; have HO247 := n5_; have HO250 := n6_; have BK224 := n7_; have HB := n8_; have BK252 := n9_; have GW252 := n10_; have GE252 := n11_; have NB224_252 := n12_; have NB252_224 := n13_; clear n0_ n1_ n2_ n3_ n4_ n5_ n6_ n7_ n8_ n9_ n10_ n11_ n12_ n13_ hb hbox hg; obtain ⟨Ao51, co51, eo51⟩ := Kd.V_slice HO244.out; subst eo51; have hnb52 := NB252_224.out; have hnc52 := NB224_252.out; have hcz53_0 : w50.cell? ⟨gb252, 0, none⟩ = some (.slice none 0 0) := (blk_cell BK252.out 0).trans rfl; have hcz53_1 : w50.cell? ⟨gb252, 1, none⟩ = some (.slice none 0 0) := (blk_cell BK252.out 1).trans rfl; have hcz53_2 : w50.cell? ⟨gb252, 2, none⟩ = some (.slice none 0 0) := (blk_cell BK252.out 2).trans rfl; have hfz53_0 := blk_frozen BK252.out 0; have hfz53_1 := blk_frozen BK252.out 1; have hfz53_2 := blk_frozen BK252.out 2; obtain ⟨Ao54, co54, eo54⟩ := Kd.V_slice HO247.out; subst eo54; obtain ⟨Ao55, co55, eo55⟩ := Kd.V_slice HO250.out; subst eo55) | ((with_reducible refine gate_store (t := 28) (p := 10) rfl ?_); refine store_event (t := 28) (p := 10) (v := ?vo_w56) (w1 := (((w50.setCell ⟨gb252, 0, none⟩ (.slice Ao51 t242.length co51)).setCell ⟨gb252, 1, none⟩ (.slice Ao54 t245.length co54)).setCell ⟨gb252, 2, none⟩ (.slice Ao55 t248.length co55))) ?hg ?ho ?hn ?hr ?_; (case ho => rfl); (case hg => rfl); (case hn => rfl); (case hr => first | (go_simp; done) | (go_simp; rfl)); intro w56 hw; have n0_ : Aside0 (Kd.R (Kd.int .u64) 34 w56 w.heap.size (fun _ => True) (.slice (some ad241) t225.length co47) t225) := ⟨(by rw [hw]; exact (rlu (Kd.R_mono (Kd.R_far (p := ⟨gb252, 2, none⟩) (Kd.R_far (p := ⟨gb252, 1, none⟩) (Kd.R_far (p := ⟨gb252, 0, none⟩) (Kd.R_types HO_8.out BK252.out (by decide)) (fun _ hk => hk.2) (.slice Ao51 t242.length co51)) (fun _ hk => hk.2) (.slice Ao54 t245.length co54)) (fun _ hk => hk.2) (.slice Ao55 t248.length co55)) (fun _ hk => trivial))))⟩; have n1_ : Aside0 (Kd.V (Kd.int .u64) 34 w56 w.heap.size (fun k_ => some k_ ≠ (.slice (some ad241) t225.length co47 : Value).ownBlock ∧ k_ ≠ gb224 ∧ k_ ≠ gb252) (.slice Ao22 x225000_2.length co22) x225000_2) := ⟨(by rw [hw]; exact (vlu (Kd.V_mono (Kd.V_far (p := ⟨gb252, 2, none⟩) (Kd.V_far (p := ⟨gb252, 1, none⟩) (Kd.V_far (p := ⟨gb252, 0, none⟩) (Kd.V_mono HO_225000.out (fun k_ hk => (⟨hk, hk.2⟩ : _ ∧ k_ ≠ gb252))) (fun _ hk => hk.2) (.slice Ao51 t242.length co51)) (fun _ hk => hk.2) (.slice Ao54 t245.length co54)) (fun _ hk => hk.2) (.slice Ao55 t248.length co55)) (fun _ hk => ⟨hk.1.1.1, ⟨hk.1.1.2, hk.1.2⟩⟩))))⟩; have n2_ : Aside0 (Kd.V Kd.bool 4 w56 w.heap.size (fun k_ => some k_ ≠ (.slice (some ad241) t225.length co47 : Value).ownBlock ∧ k_ ≠ gb224 ∧ k_ ≠ gb252) (.slice Ao23 x225001_2.length co23) x225001_2) := ⟨(by rw [hw]; exact (vlu (Kd.V_mono (Kd.V_far (p := ⟨gb252, 2, none⟩) (Kd.V_far (p := ⟨gb252, 1, none⟩) (Kd.V_far (p := ⟨gb252, 0, none⟩) (Kd.V_mono HO_225001.out (fun k_ hk => (⟨hk, hk.2⟩ : _ ∧ k_ ≠ gb252))) (fun _ hk => hk.2) (.slice Ao51 t242.length co51)) (fun _ hk => hk.2) (.slice Ao54 t245.length co54)) (fun _ hk => hk.2) (.slice Ao55 t248.length co55)) (fun _ hk => ⟨hk.1.1.1, ⟨hk.1.1.2, hk.1.2⟩⟩))))⟩; have n3_ : Aside0 (Kd.V (Kd.int .i64) 3 w56 w.heap.size (fun k_ => some k_ ≠ (.slice (some ad241) t225.length co47 : Value).ownBlock ∧ k_ ≠ gb224 ∧ k_ ≠ gb252) (.slice Ao24 x225002_2.length co24) x225002_2) := ⟨(by rw [hw]; exact (vlu (Kd.V_mono (Kd.V_far (p := ⟨gb252, 2, none⟩) (Kd.V_far (p := ⟨gb252, 1, none⟩) (Kd.V_far (p := ⟨gb252, 0, none⟩) (Kd.V_mono HO_225002.out (fun k_ hk => (⟨hk, hk.2⟩ : _ ∧ k_ ≠ gb252))) (fun _ hk => hk.2) (.slice Ao51 t242.length co51)) (fun _ hk => hk.2) (.slice Ao54 t245.length co54)) (fun _ hk => hk.2) (.slice Ao55 t248.length co55)) (fun _ hk => ⟨hk.1.1.1, ⟨hk.1.1.2, hk.1.2⟩⟩))))⟩; have n4_ : Aside0 (Kd.V (Kd.int .u64) 34 w56 w.heap.size (fun k_ => some k_ ≠ (.slice (some ad241) t225.length co47 : Value).ownBlock ∧ k_ ≠ gb224 ∧ k_ ≠ gb252) (.slice Ao51 t242.length co51) t242) := ⟨(by rw [hw]; exact (vlu (Kd.V_mono (Kd.V_far (p := ⟨gb252, 2, none⟩) (Kd.V_far (p := ⟨gb252, 1, none⟩) (Kd.V_far (p := ⟨gb252, 0, none⟩) (Kd.V_mono HO244.out (fun k_ hk => (⟨hk, hk.2⟩ : _ ∧ k_ ≠ gb252))) (fun _ hk => hk.2) (.slice Ao51 t242.length co51)) (fun _ hk => hk.2) (.slice Ao54 t245.length co54)) (fun _ hk => hk.2) (.slice Ao55 t248.length co55)) (fun _ hk => ⟨hk.1.1.1, ⟨hk.1.1.2, hk.1.2⟩⟩))))⟩; have n5_ : Aside0 (Kd.V Kd.bool 4 w56 w.heap.size (fun k_ => some k_ ≠ (.slice (some ad241) t225.length co47 : Value).ownBlock ∧ k_ ≠ gb224 ∧ k_ ≠ gb252) (.slice Ao54 t245.length co54) t245) := ⟨(by rw [hw]; exact (vlu (Kd.V_mono (Kd.V_far (p := ⟨gb252, 2, none⟩) (Kd.V_far (p := ⟨gb252, 1, none⟩) (Kd.V_far (p := ⟨gb252, 0, none⟩) (Kd.V_mono HO247.out (fun k_ hk => (⟨hk, hk.2⟩ : _ ∧ k_ ≠ gb252))) (fun _ hk => hk.2) (.slice Ao51 t242.length co51)) (fun _ hk => hk.2) (.slice Ao54 t245.length co54)) (fun _ hk => hk.2) (.slice Ao55 t248.length co55)) (fun _ hk => ⟨hk.1.1.1, ⟨hk.1.1.2, hk.1.2⟩⟩))))⟩; have n6_ : Aside0 (Kd.V (Kd.int .i64) 3 w56 w.heap.size (fun k_ => some k_ ≠ (.slice (some ad241) t225.length co47 : Value).ownBlock ∧ k_ ≠ gb224 ∧ k_ ≠ gb252) (.slice Ao55 t248.length co55) t248) := ⟨(by rw [hw]; exact (vlu (Kd.V_mono (Kd.V_far (p := ⟨gb252, 2, none⟩) (Kd.V_far (p := ⟨gb252, 1, none⟩) (Kd.V_far (p := ⟨gb252, 0, none⟩) (Kd.V_mono HO250.out (fun k_ hk => (⟨hk, hk.2⟩ : _ ∧ k_ ≠ gb252))) (fun _ hk => hk.2) (.slice Ao51 t242.length co51)) (fun _ hk => hk.2) (.slice Ao54 t245.length co54)) (fun _ hk => hk.2) (.slice Ao55 t248.length co55)) (fun _ hk => ⟨hk.1.1.1, ⟨hk.1.1.2, hk.1.2⟩⟩))))⟩; have n7_ : Aside0 (w56.heap[gb224]? = some (.cells #[.slice Ao22 x225000_2.length co22, .slice Ao23 x225001_2.length co23, .slice Ao24 x225002_2.length co24] 28 (0, 0))) := ⟨(by rw [hw]; exact (by (with_reducible repeat (first | refine blk_drewN ?_ _ | refine blk_drew ?_ | refine blk_alloc ?_ _)); refine blk_far ?_ NB224_252.out _; (with_reducible repeat (first | refine blk_drewN ?_ _ | refine blk_drew ?_ | refine blk_alloc ?_ _)); refine blk_far ?_ NB224_252.out _; (with_reducible repeat (first | refine blk_drewN ?_ _ | refine blk_drew ?_ | refine blk_alloc ?_ _)); refine blk_far ?_ NB224_252.out _; (with_reducible repeat (first | refine blk_drewN ?_ _ | refine blk_drew ?_ | refine blk_alloc ?_ _)); exact BK224.out))⟩; have n8_ : Aside0 (w56.heap[gb252]? = some (.cells #[.slice Ao51 t242.length co51, .slice Ao54 t245.length co54, .slice Ao55 t248.length co55] 28 (0, 0))) := ⟨(by rw [hw]; exact (by (with_reducible repeat (first | refine blk_drewN ?_ _ | refine blk_drew ?_ | refine blk_alloc ?_ _)); refine blk_put (cs := #[.slice Ao51 t242.length co51, .slice Ao54 t245.length co54, .slice none 0 0]) ?_ 2 _ rfl; (with_reducible repeat (first | refine blk_drewN ?_ _ | refine blk_drew ?_ | refine blk_alloc ?_ _)); refine blk_put (cs := #[.slice Ao51 t242.length co51, .slice none 0 0, .slice none 0 0]) ?_ 1 _ rfl; (with_reducible repeat (first | refine blk_drewN ?_ _ | refine blk_drew ?_ | refine blk_alloc ?_ _)); refine blk_put (cs := #[.slice none 0 0, .slice none 0 0, .slice none 0 0]) ?_ 0 _ rfl; (with_reducible repeat (first | refine blk_drewN ?_ _ | refine blk_drew ?_ | refine blk_alloc ?_ _)); exact BK252.out))⟩; have n9_ : Aside0 (Below w.heap.size w w56) := ⟨(by rw [hw]; exact (bls HB.out))⟩; clear hw HO_8 HO_225000 HO_225001 HO_225002 HO244 HO247 HO250 BK224 BK252 HB; have HO_8 := n0_; have HO_225000 := n1_; have HO_225001 := n2_; have HO_225002 := n3_; have HO244 := n4_; have HO247 := n5_; have HO250 := n6_; have BK224 := n7_; have BK252 := n8_; have HB := n9_; clear n0_ n1_ n2_ n3_ n4_ n5_ n6_ n7_ n8_ n9_; have hcz57_0 : w56.cell? ⟨gb252, 0, none⟩ = some (.slice Ao51 t242.length co51) := (blk_cell BK252.out 0).trans rfl; have hcz57_1 : w56.cell? ⟨gb252, 1, none⟩ = some (.slice Ao54 t245.length co54) := (blk_cell BK252.out 1).trans rfl; have hcz57_2 : w56.cell? ⟨gb252, 2, none⟩ = some (.slice Ao55 t248.length co55) := (blk_cell BK252.out 2).trans rfl; have hfz57_0 := blk_frozen BK252.out 0; have hfz57_1 := blk_frozen BK252.out 1; have hfz57_2 := blk_frozen BK252.out 2) | ((with_reducible refine gate_callee (f := 17) rfl ?_); refine goesL_ (some 79) rfl rfl Try.func17 (by kernel_rfl) rfl #[.agg #[.slice Ao51 t242.length co51, .slice Ao54 t245.length co54, .slice Ao55 t248.length co55], .int .u64 (rd t225 (ji40))] rfl (by (try simp only [List.map_toArray, List.map_cons, List.map_nil]); first | done | (simp only [hji40]; rfl) | rfl | (simp only [List.length_drop, List.length_take]; rfl)) ?_; (with_reducible refine (slots_Give.calls (fun k_ => (some k_ ≠ (.slice (some ad241) t225.length co47 : Value).ownBlock ∧ (k_ ≠ gb224 ∧ k_ ≠ gb252))) _ _ t242 (fun k_ => (some k_ ≠ (.slice (some ad241) t225.length co47 : Value).ownBlock ∧ (k_ ≠ gb224 ∧ k_ ≠ gb252))) _ _ t245 (fun k_ => (some k_ ≠ (.slice (some ad241) t225.length co47 : Value).ownBlock ∧ (k_ ≠ gb224 ∧ k_ ≠ gb252))) _ _ t248 (rd t225 (ji40)) t253 t256 t259 t262 _ ?side1 ?side2 ?side3 A44.out).mono ?_); (case side1 => exact HO244.out); (case side2 => exact HO247.out); (case side3 => exact HO250.out); rintro e w58 ⟨v254, v257, v260, rfl, ho0, ho1, ho2, hb⟩; refine ⟨_, rfl, ?_⟩; have n0_ := aA (Kd.R_below (rlu HO_8.out) hb); have n1_ := aA (Kd.V_below (vlu HO_225000.out) hb); have n2_ := aA (Kd.V_below (vlu HO_225001.out) hb); have n3_ := aA (Kd.V_below (vlu HO_225002.out) hb); have n4_ := aA (Kd.V_below (vlu HO244.out) hb); have n5_ := aA (Kd.V_below (vlu HO247.out) hb); have n6_ := aA (Kd.V_below (vlu HO250.out) hb); have n7_ := aA (Kd.V_lower (Kd.V_mono (ok' := fun k_ => some k_ ≠ (.slice (some ad241) t225.length co47 : Value).ownBlock ∧ k_ ≠ gb224 ∧ k_ ≠ gb252) ho0 (fun k_ hk_ => ⟨Or.elim hk_ (fun hs_ => Or.elim hs_ (fun hs_ => hs_.1) (fun hs_ => Or.elim hs_ (fun hs_ => hs_.1) (fun hs_ => hs_.1))) (fun hn_ => (Kd.fresh' (Kd.R_lt (rlu HO_8.out)) k_ hn_)), Or.elim hk_ (fun hs_ => Or.elim hs_ (fun hs_ => hs_.2.1) (fun hs_ => Or.elim hs_ (fun hs_ => hs_.2.1) (fun hs_ => hs_.2.1))) (fun hn_ => (Kd.freshB (g := gb224) (o := .cells #[.slice Ao22 x225000_2.length co22, .slice Ao23 x225001_2.length co23, .slice Ao24 x225002_2.length co24] 28 (0, 0)) (bku BK224.out) k_ hn_)), Or.elim hk_ (fun hs_ => Or.elim hs_ (fun hs_ => hs_.2.2) (fun hs_ => Or.elim hs_ (fun hs_ => hs_.2.2) (fun hs_ => hs_.2.2))) (fun hn_ => (Kd.freshB (g := gb252) (o := .cells #[.slice Ao51 t242.length co51, .slice Ao54 t245.length co54, .slice Ao55 t248.length co55] 28 (0, 0)) (bku BK252.out) k_ hn_))⟩)) (below_size (bls HB.out))); have n8_ := aA (Kd.V_lower (Kd.V_mono (ok' := fun k_ => some k_ ≠ (.slice (some ad241) t225.length co47 : Value).ownBlock ∧ k_ ≠ gb224 ∧ k_ ≠ gb252) ho1 (fun k_ hk_ => ⟨Or.elim hk_ (fun hs_ => Or.elim hs_ (fun hs_ => hs_.1) (fun hs_ => Or.elim hs_ (fun hs_ => hs_.1) (fun hs_ => hs_.1))) (fun hn_ => (Kd.fresh' (Kd.R_lt (rlu HO_8.out)) k_ hn_)), Or.elim hk_ (fun hs_ => Or.elim hs_ (fun hs_ => hs_.2.1) (fun hs_ => Or.elim hs_ (fun hs_ => hs_.2.1) (fun hs_ => hs_.2.1))) (fun hn_ => (Kd.freshB (g := gb224) (o := .cells #[.slice Ao22 x225000_2.length co22, .slice Ao23 x225001_2.length co23, .slice Ao24 x225002_2.length co24] 28 (0, 0)) (bku BK224.out) k_ hn_)), Or.elim hk_ (fun hs_ => Or.elim hs_ (fun hs_ => hs_.2.2) (fun hs_ => Or.elim hs_ (fun hs_ => hs_.2.2) (fun hs_ => hs_.2.2))) (fun hn_ => (Kd.freshB (g := gb252) (o := .cells #[.slice Ao51 t242.length co51, .slice Ao54 t245.length co54, .slice Ao55 t248.length co55] 28 (0, 0)) (bku BK252.out) k_ hn_))⟩)) (below_size (bls HB.out))); have n9_ := aA (Kd.V_lower (Kd.V_mono (ok' := fun k_ => some k_ ≠ (.slice (some ad241) t225.length co47 : Value).ownBlock ∧ k_ ≠ gb224 ∧ k_ ≠ gb252) ho2 (fun k_ hk_ => ⟨Or.elim hk_ (fun hs_ => Or.elim hs_ (fun hs_ => hs_.1) (fun hs_ => Or.elim hs_ (fun hs_ => hs_.1) (fun hs_ => hs_.1))) (fun hn_ => (Kd.fresh' (Kd.R_lt (rlu HO_8.out)) k_ hn_)), Or.elim hk_ (fun hs_ => Or.elim hs_ (fun hs_ => hs_.2.1) (fun hs_ => Or.elim hs_ (fun hs_ => hs_.2.1) (fun hs_ => hs_.2.1))) (fun hn_ => (Kd.freshB (g := gb224) (o := .cells #[.slice Ao22 x225000_2.length co22, .slice Ao23 x225001_2.length co23, .slice Ao24 x225002_2.length co24] 28 (0, 0)) (bku BK224.out) k_ hn_)), Or.elim hk_ (fun hs_ => Or.elim hs_ (fun hs_ => hs_.2.2) (fun hs_ => Or.elim hs_ (fun hs_ => hs_.2.2) (fun hs_ => hs_.2.2))) (fun hn_ => (Kd.freshB (g := gb252) (o := .cells #[.slice Ao51 t242.length co51, .slice Ao54 t245.length co54, .slice Ao55 t248.length co55] 28 (0, 0)) (bku BK252.out) k_ hn_))⟩)) (below_size (bls HB.out))); have n10_ := aA (blk_below (g := gb224) (o := .cells #[.slice Ao22 x225000_2.length co22, .slice Ao23 x225001_2.length co23, .slice Ao24 x225002_2.length co24] 28 (0, 0)) (bku BK224.out) hb); have n11_ := aA (blk_below (g := gb252) (o := .cells #[.slice Ao51 t242.length co51, .slice Ao54 t245.length co54, .slice Ao55 t248.length co55] 28 (0, 0)) (bku BK252.out) hb); have n12_ := aA (below_step (bls HB.out) hb); clear HO_8 HO_225000 HO_225001 HO_225002 HO244 HO247 HO250 BK224 BK252 HB; have HO_8 := n0_; have HO_225000 := n1_; have HO_225001 := n2_; have HO_225002 := n3_; have HO244 := n4_; have HO247 := n5_; have HO250 := n6_; have HO255 := n7_; have HO258 := n8_; have HO261 := n9_; have BK224 := n10_; have BK252 := n11_; have HB := n12_; clear n0_ n1_ n2_ n3_ n4_ n5_ n6_ n7_ n8_ n9_ n10_ n11_ n12_; (try clear hb); (try clear hb2); (try clear hk); (try clear hi); (try clear ho0); (try clear ho1); (try clear ho2)) | ((with_reducible refine gate_dst (N := 12) rfl ?_); (try (refine gate_guard (by rfl) ?_; dsimp only)); refine box_event ?hg (N := 12) ?hd (cs := #[.slice none 0 0, .slice none 0 0, .slice none 0 0]) (t := 28) ?hr ?_; (case hd => rfl); (case hg => rfl); (case hr => first | (go_simp; done) | (go_simp; rfl)); intro gb263 hg w59 hbox hb; have n0_ := aA (Kd.R_below (rlu HO_8.out) hb); have n1_ := aA (Kd.V_below (Kd.V_elderB (vlu HO_225000.out) gb263 (Nat.le_of_eq hg.symm)) hb); have n2_ := aA (Kd.V_below (Kd.V_elderB (vlu HO_225001.out) gb263 (Nat.le_of_eq hg.symm)) hb); have n3_ := aA (Kd.V_below (Kd.V_elderB (vlu HO_225002.out) gb263 (Nat.le_of_eq hg.symm)) hb); have n4_ := aA (Kd.V_below (Kd.V_elderB (vlu HO244.out) gb263 (Nat.le_of_eq hg.symm)) hb); have n5_ := aA (Kd.V_below (Kd.V_elderB (vlu HO247.out) gb263 (Nat.le_of_eq hg.symm)) hb); have n6_ := aA (Kd.V_below (Kd.V_elderB (vlu HO250.out) gb263 (Nat.le_of_eq hg.symm)) hb); have n7_ := aA (Kd.V_below (Kd.V_elderB (vlu HO255.out) gb263 (Nat.le_of_eq hg.symm)) hb); have n8_ := aA (Kd.V_below (Kd.V_elderB (vlu HO258.out) gb263 (Nat.le_of_eq hg.symm)) hb); have n9_ := aA (Kd.V_below (Kd.V_elderB (vlu HO261.out) gb263 (Nat.le_of_eq hg.symm)) hb); have n10_ := aA (blk_below (g := gb224) (o := .cells #[.slice Ao22 x225000_2.length co22, .slice Ao23 x225001_2.length co23, .slice Ao24 x225002_2.length co24] 28 (0, 0)) (bku BK224.out) hb); have n11_ := aA (blk_below (g := gb252) (o := .cells #[.slice Ao51 t242.length co51, .slice Ao54 t245.length co54, .slice Ao55 t248.length co55] 28 (0, 0)) (bku BK252.out) hb); have n12_ := aA (below_step (bls HB.out) hb); have n13_ := aA (hbox); have n14_ := aA ((by rw [hg]; exact (below_size (bls HB.out)) : w.heap.size ≤ gb263)); have n15_ := aA ((by rw [hg]; exact (below_size (bls HB.out)) : w.heap.size ≤ gb263)); have n16_ := aA ((by rw [hg]; exact Nat.ne_of_lt (blk_lt (g := gb224) (o := .cells #[.slice Ao22 x225000_2.length co22, .slice Ao23 x225001_2.length co23, .slice Ao24 x225002_2.length co24] 28 (0, 0)) (bku BK224.out)) : gb224 ≠ gb263)); have n17_ := aA ((by rw [hg]; exact Nat.ne_of_gt (blk_lt (g := gb224) (o := .cells #[.slice Ao22 x225000_2.length co22, .slice Ao23 x225001_2.length co23, .slice Ao24 x225002_2.length co24] 28 (0, 0)) (bku BK224.out)) : gb263 ≠ gb224)); have n18_ := aA ((by rw [hg]; exact Nat.ne_of_lt (blk_lt (g := gb252) (o := .cells #[.slice Ao51 t242.length co51, .slice Ao54 t245.length co54, .slice Ao55 t248.length co55] 28 (0, 0)) (bku BK252.out)) : gb252 ≠ gb263)); have n19_ := aA ((by rw [hg]; exact Nat.ne_of_gt (blk_lt (g := gb252) (o := .cells #[.slice Ao51 t242.length co51, .slice Ao54 t245.length co54, .slice Ao55 t248.length co55] 28 (0, 0)) (bku BK252.out)) : gb263 ≠ gb252)); clear HO_8 HO_225000 HO_225001 HO_225002 HO244 HO247 HO250 HO255 HO258 HO261 BK224 BK252 HB; have HO_8 := n0_; have HO_225000 := n1_; have HO_225001 := n2_; have HO_225002 := n3_; have HO244 := n4_; have HO247 := n5_; have HO250 := n6_; have HO255 := n7_; have HO258 := n8_; have HO261 := n9_; have BK224 := n10_; have BK252 := n11_; have HB := n12_; have BK263 := n13_; have GW263 := n14_; have GE263 := n15_; have NB224_263 := n16_; have NB263_224 := n17_; have NB252_263 := n18_; have NB263_252 := n19_; clear n0_ n1_ n2_ n3_ n4_ n5_ n6_ n7_ n8_ n9_ n10_ n11_ n12_ n13_ n14_ n15_ n16_ n17_ n18_ n19_ hb hbox hg; obtain ⟨Ao60, co60, eo60⟩ := Kd.V_slice HO255.out; subst eo60; have hnb61 := NB263_224.out; have hnc61 := NB224_263.out; have hnb62 := NB263_252.out; have hnc62 := NB252_263.out; have hcz63_0 : w59.cell? ⟨gb263, 0, none⟩ = some (.slice none 0 0) := (blk_cell BK263.out 0).trans rfl; have hcz63_1 : w59.cell? ⟨gb263, 1, none⟩ = some (.slice none 0 0) := (blk_cell BK263.out 1).trans rfl; have hcz63_2 : w59.cell? ⟨gb263, 2, none⟩ = some (.slice none 0 0) := (blk_cell BK263.out 2).trans rfl; have hfz63_0 := blk_frozen BK263.out 0; have hfz63_1 := blk_frozen BK263.out 1; have hfz63_2 := blk_frozen BK263.out 2; obtain ⟨Ao64, co64, eo64⟩ := Kd.V_slice HO258.out; subst eo64; obtain ⟨Ao65, co65, eo65⟩ := Kd.V_slice HO261.out; subst eo65; have hcz66_0 : w59.cell? ⟨gb252, 0, none⟩ = some (.slice Ao51 t242.length co51) := (blk_cell BK252.out 0).trans rfl; have hcz66_1 : w59.cell? ⟨gb252, 1, none⟩ = some (.slice Ao54 t245.length co54) := (blk_cell BK252.out 1).trans rfl; have hcz66_2 : w59.cell? ⟨gb252, 2, none⟩ = some (.slice Ao55 t248.length co55) := (blk_cell BK252.out 2).trans rfl; have hfz66_0 := blk_frozen BK252.out 0; have hfz66_1 := blk_frozen BK252.out 1; have hfz66_2 := blk_frozen BK252.out 2; have hcz67_0 : w59.cell? ⟨gb224, 0, none⟩ = some (.slice Ao22 x225000_2.length co22) := (blk_cell BK224.out 0).trans rfl; have hcz67_1 : w59.cell? ⟨gb224, 1, none⟩ = some (.slice Ao23 x225001_2.length co23) := (blk_cell BK224.out 1).trans rfl; have hcz67_2 : w59.cell? ⟨gb224, 2, none⟩ = some (.slice Ao24 x225002_2.length co24) := (blk_cell BK224.out 2).trans rfl; have hfz67_0 := blk_frozen BK224.out 0; have hfz67_1 := blk_frozen BK224.out 1; have hfz67_2 := blk_frozen BK224.out 2))
             go_roundg kj19
             case measure => have := HJ2.out; have := HK2.out; have := HJ19.out; omega
             case rel => exact ⟨(wrap64 (x7_2 + 1)), (t242), (t245), (t248), (.slice Ao51 t242.length co51), (.slice Ao54 t245.length co54), (.slice Ao55 t248.length co55), (by first | rfl | (simp; done) | (simp [*]; done)), H', ⟨by have := HJ2.out; have := HK2.out; have := HJ19.out; omega⟩, ⟨by (with_reducible repeat (first | apply Kd.V_alloc | apply Kd.V_drewN | apply Kd.V_drew)); exact Kd.V_mono (Kd.V_far (p := ⟨gb224, 2, none⟩) (Kd.V_far (p := ⟨gb224, 1, none⟩) (Kd.V_far (p := ⟨gb224, 0, none⟩) (Kd.V_far (p := ⟨gb263, 2, none⟩) (Kd.V_far (p := ⟨gb263, 1, none⟩) (Kd.V_far (p := ⟨gb263, 0, none⟩) (Kd.V_mono (Kd.V_mono HO244.out (fun k_ hk => (⟨hk, hk.2⟩ : _ ∧ k_ ≠ gb263))) (fun k_ hk => (⟨hk, hk.1.1.2.1⟩ : _ ∧ k_ ≠ gb224))) (fun _ hk => hk.1.2) (.slice Ao60 t253.length co60)) (fun _ hk => hk.1.2) (.slice Ao64 t256.length co64)) (fun _ hk => hk.1.2) (.slice Ao65 t259.length co65)) (fun _ hk => hk.2) (.slice Ao51 t242.length co51)) (fun _ hk => hk.2) (.slice Ao54 t245.length co54)) (fun _ hk => hk.2) (.slice Ao55 t248.length co55)) (fun _ hk => hk.1.1.1.2.1)⟩, ⟨by (with_reducible repeat (first | apply Kd.V_alloc | apply Kd.V_drewN | apply Kd.V_drew)); exact Kd.V_mono (Kd.V_far (p := ⟨gb224, 2, none⟩) (Kd.V_far (p := ⟨gb224, 1, none⟩) (Kd.V_far (p := ⟨gb224, 0, none⟩) (Kd.V_far (p := ⟨gb263, 2, none⟩) (Kd.V_far (p := ⟨gb263, 1, none⟩) (Kd.V_far (p := ⟨gb263, 0, none⟩) (Kd.V_mono (Kd.V_mono HO247.out (fun k_ hk => (⟨hk, hk.2⟩ : _ ∧ k_ ≠ gb263))) (fun k_ hk => (⟨hk, hk.1.1.2.1⟩ : _ ∧ k_ ≠ gb224))) (fun _ hk => hk.1.2) (.slice Ao60 t253.length co60)) (fun _ hk => hk.1.2) (.slice Ao64 t256.length co64)) (fun _ hk => hk.1.2) (.slice Ao65 t259.length co65)) (fun _ hk => hk.2) (.slice Ao51 t242.length co51)) (fun _ hk => hk.2) (.slice Ao54 t245.length co54)) (fun _ hk => hk.2) (.slice Ao55 t248.length co55)) (fun _ hk => hk.1.1.1.2.1)⟩, ⟨by (with_reducible repeat (first | apply Kd.V_alloc | apply Kd.V_drewN | apply Kd.V_drew)); exact Kd.V_mono (Kd.V_far (p := ⟨gb224, 2, none⟩) (Kd.V_far (p := ⟨gb224, 1, none⟩) (Kd.V_far (p := ⟨gb224, 0, none⟩) (Kd.V_far (p := ⟨gb263, 2, none⟩) (Kd.V_far (p := ⟨gb263, 1, none⟩) (Kd.V_far (p := ⟨gb263, 0, none⟩) (Kd.V_mono (Kd.V_mono HO250.out (fun k_ hk => (⟨hk, hk.2⟩ : _ ∧ k_ ≠ gb263))) (fun k_ hk => (⟨hk, hk.1.1.2.1⟩ : _ ∧ k_ ≠ gb224))) (fun _ hk => hk.1.2) (.slice Ao60 t253.length co60)) (fun _ hk => hk.1.2) (.slice Ao64 t256.length co64)) (fun _ hk => hk.1.2) (.slice Ao65 t259.length co65)) (fun _ hk => hk.2) (.slice Ao51 t242.length co51)) (fun _ hk => hk.2) (.slice Ao54 t245.length co54)) (fun _ hk => hk.2) (.slice Ao55 t248.length co55)) (fun _ hk => hk.1.1.1.2.1)⟩, ⟨by (with_reducible repeat (first | refine blk_drewN ?_ _ | refine blk_drew ?_ | refine blk_alloc ?_ _)); refine blk_put (cs := #[.slice Ao51 t242.length co51, .slice Ao54 t245.length co54, .slice Ao24 x225002_2.length co24]) ?_ 2 _ rfl; (with_reducible repeat (first | refine blk_drewN ?_ _ | refine blk_drew ?_ | refine blk_alloc ?_ _)); refine blk_put (cs := #[.slice Ao51 t242.length co51, .slice Ao23 x225001_2.length co23, .slice Ao24 x225002_2.length co24]) ?_ 1 _ rfl; (with_reducible repeat (first | refine blk_drewN ?_ _ | refine blk_drew ?_ | refine blk_alloc ?_ _)); refine blk_put (cs := #[.slice Ao22 x225000_2.length co22, .slice Ao23 x225001_2.length co23, .slice Ao24 x225002_2.length co24]) ?_ 0 _ rfl; (with_reducible repeat (first | refine blk_drewN ?_ _ | refine blk_drew ?_ | refine blk_alloc ?_ _)); refine blk_far ?_ NB224_263.out _; (with_reducible repeat (first | refine blk_drewN ?_ _ | refine blk_drew ?_ | refine blk_alloc ?_ _)); refine blk_far ?_ NB224_263.out _; (with_reducible repeat (first | refine blk_drewN ?_ _ | refine blk_drew ?_ | refine blk_alloc ?_ _)); refine blk_far ?_ NB224_263.out _; (with_reducible repeat (first | refine blk_drewN ?_ _ | refine blk_drew ?_ | refine blk_alloc ?_ _)); exact BK224.out⟩, ⟨by repeat (first | (with_reducible first | exact HB.out | apply below_alloc | apply pw_below_drewN | apply below_drew1 | refine below_set ?_ GE224.out | refine below_set ?_ GE252.out | refine below_set ?_ GE263.out) | exact HB.out)⟩⟩
            ·rw [if_neg c46] at H; have c46b0 : (t262 == 30) = false := beq_eq_false_iff_ne.mpr c46; have c46b1 : (t262 != 30) = true := bne_iff_ne.mpr c46; exact absurd ((Option.some.inj H).trans hr_) (by decide)
           ·rw [if_neg c45] at H; have c45b0 : (t251 == 0) = false := beq_eq_false_iff_ne.mpr c45; have c45b1 : (t251 != 0) = true := bne_iff_ne.mpr c45; exact absurd ((Option.some.inj H).trans hr_) (by decide)
       ·rw [if_neg c18] at H; have c18b0 : decide (x7_2 < (l1.length : Int)) = false := decide_eq_false c18; clear c18; replace H := Option.bind_eq_some_iff.mp H; obtain ⟨t264, A680, H⟩ := H; replace H : (treillagelaw03_SlotsAll.l1 k2 a0 t264 0 x225000_2 x225001_2 x225002_2) = some r := H; have A68 := aA A680; clear A680; have H' := aA H; clear H; have hcz69_0 : wr.cell? ⟨gb224, 0, none⟩ = some (u225000) := (blk_cell BK224.out 0).trans rfl; have hcz69_1 : wr.cell? ⟨gb224, 1, none⟩ = some (u225001) := (blk_cell BK224.out 1).trans rfl; have hcz69_2 : wr.cell? ⟨gb224, 2, none⟩ = some (u225002) := (blk_cell BK224.out 2).trans rfl; have hfz69_0 := blk_frozen BK224.out 0; have hfz69_1 := blk_frozen BK224.out 1; have hfz69_2 := blk_frozen BK224.out 2; obtain ⟨Ao70, co70, eo70⟩ := Kd.V_slice HO_225000.out; subst eo70; obtain ⟨Ao71, co71, eo71⟩ := Kd.V_slice HO_225001.out; subst eo71; obtain ⟨Ao72, co72, eo72⟩ := Kd.V_slice HO_225002.out; subst eo72; go_wp2_with (first | ((with_reducible refine gate_callee (f := 18) rfl ?_); refine goesL_ (some 90) rfl rfl Try.func18 (by kernel_rfl) rfl #[.agg #[.slice Ao70 x225000_2.length co70, .slice Ao71 x225001_2.length co71, .slice Ao72 x225002_2.length co72]] rfl (by (try simp only [List.map_toArray, List.map_cons, List.map_nil]); first | done | rfl | (simp only [List.length_drop, List.length_take]; rfl)) ?_; (with_reducible refine (slots_All.calls _ _ x225000_2 _ _ x225001_2 _ _ x225002_2 t264 _ ?side1 ?side2 ?side3 ?side4 ?side5 ?side6 A68.out).mono ?_); (case side1 => repeat (first | exact (Kd.V_reads' HO_225000.out).2.2 | (with_reducible refine Kd.C_alloc ?_ _) | (with_reducible refine Kd.C_drewN ?_ _) | (with_reducible refine Kd.C_drew ?_))); (case side2 => exact (Kd.V_reads' HO_225000.out).2.1); (case side3 => repeat (first | exact (Kd.V_reads' HO_225001.out).2.2 | (with_reducible refine Kd.C_alloc ?_ _) | (with_reducible refine Kd.C_drewN ?_ _) | (with_reducible refine Kd.C_drew ?_))); (case side4 => exact (Kd.V_reads' HO_225001.out).2.1); (case side5 => repeat (first | exact (Kd.V_reads' HO_225002.out).2.2 | (with_reducible refine Kd.C_alloc ?_ _) | (with_reducible refine Kd.C_drewN ?_ _) | (with_reducible refine Kd.C_drew ?_))); (case side6 => exact (Kd.V_reads' HO_225002.out).2.1); rintro e w73 ⟨v265, rfl, ho0, hb⟩; refine ⟨_, rfl, ?_⟩; have n0_ := aA (Kd.V_elder' (vlu HO_225000.out) (Kd.R_base ho0) hb); have n1_ := aA (Kd.V_elder' (vlu HO_225001.out) (Kd.R_base ho0) hb); have n2_ := aA (Kd.V_elder' (vlu HO_225002.out) (Kd.R_base ho0) hb); have n3_ := aA (Kd.R_lower ho0 (below_size (bls HB.out))); have n4_ := aA (blk_below (g := gb224) (o := .cells #[.slice Ao70 x225000_2.length co70, .slice Ao71 x225001_2.length co71, .slice Ao72 x225002_2.length co72] 28 (0, 0)) (bku BK224.out) hb); have n5_ := aA (below_step (bls HB.out) hb); clear HO_225000 HO_225001 HO_225002 BK224 HB; have HO_225000 := n0_; have HO_225001 := n1_; have HO_225002 := n2_; have HO266 := n3_; have BK224 := n4_; have HB := n5_; clear n0_ n1_ n2_ n3_ n4_ n5_; (try clear hb); (try clear hb2); (try clear hk); (try clear hi); (try clear ho0)))
        go_loopg [15] k2 (fun kq v15 w' => ∃ (x15_3 : Int), v15 = .int .i64 x15_3 ∧ Aside0 (treillagelaw03_SlotsAll.l1 kq a0 t264 x15_3 x225000_2 x225001_2 x225002_2 = some r) ∧ Aside0 (kq ≤ k2) ∧ Aside0 (Kd.R (Kd.int .u64) 34 w' w.heap.size (fun _ => True) v265 t264) ∧ Aside0 (Kd.V (Kd.int .u64) 34 w' w.heap.size (fun k_ => some k_ ≠ (v265 : Value).ownBlock ∧ k_ ≠ gb224) (.slice Ao70 x225000_2.length co70) x225000_2) ∧ Aside0 (Kd.V Kd.bool 4 w' w.heap.size (fun k_ => some k_ ≠ (v265 : Value).ownBlock ∧ k_ ≠ gb224) (.slice Ao71 x225001_2.length co71) x225001_2) ∧ Aside0 (Kd.V (Kd.int .i64) 3 w' w.heap.size (fun k_ => some k_ ≠ (v265 : Value).ownBlock ∧ k_ ≠ gb224) (.slice Ao72 x225002_2.length co72) x225002_2) ∧ Aside0 (w'.heap[gb224]? = some (.cells #[(.slice Ao70 x225000_2.length co70), (.slice Ao71 x225001_2.length co71), (.slice Ao72 x225002_2.length co72)] 28 (0, 0))) ∧ Aside0 (Below w.heap.size w w'))
        case atStart => exact ⟨(0), (by first | rfl | (simp; done) | (simp [*]; done)), H', ⟨Nat.le_refl _⟩, ⟨by (with_reducible repeat (first | apply Kd.R_alloc | apply Kd.R_drewN | apply Kd.R_drew)); exact HO266.out⟩, ⟨by (with_reducible repeat (first | apply Kd.V_alloc | apply Kd.V_drewN | apply Kd.V_drew)); exact Kd.V_mono HO_225000.out (fun _ hk => ⟨hk.2, hk.1⟩)⟩, ⟨by (with_reducible repeat (first | apply Kd.V_alloc | apply Kd.V_drewN | apply Kd.V_drew)); exact Kd.V_mono HO_225001.out (fun _ hk => ⟨hk.2, hk.1⟩)⟩, ⟨by (with_reducible repeat (first | apply Kd.V_alloc | apply Kd.V_drewN | apply Kd.V_drew)); exact Kd.V_mono HO_225002.out (fun _ hk => ⟨hk.2, hk.1⟩)⟩, ⟨by (with_reducible repeat (first | refine blk_drewN ?_ _ | refine blk_drew ?_ | refine blk_alloc ?_ _)); exact BK224.out⟩, ⟨by repeat (first | (with_reducible first | exact HB.out | apply below_alloc | apply pw_below_drewN | apply below_drew1 | refine below_set ?_ GE224.out) | exact HB.out)⟩⟩
        case round =>
         clear H'; try clear c1
         try clear c2
         try clear p2
         try clear q2
         try clear hx2
         try clear c3
         try clear c4
         try clear c4b0
         try clear c4b1
         try clear c5
         try clear c6
         try clear p6
         try clear c7
         try clear c11
         try clear c11b0
         try clear c11b1
         try clear c14
         try clear c15
         try clear c16
         try clear c17
         try clear c18
         try clear c18b0
         try clear p22
         try clear q22
         try clear hx22
         try clear p24
         try clear q24
         try clear hx24
         try clear c26
         try clear c26b0
         try clear c27
         try clear c27b0
         try clear c29
         try clear c37
         try clear c37b0
         try clear c38
         try clear c38b0
         try clear c39
         try clear c39b0
         try clear c39b1
         try clear c39b2
         try clear c41
         try clear c41b0
         try clear c42
         try clear c42b0
         try clear c45
         try clear c45b0
         try clear c45b1
         try clear c46
         try clear c46b0
         try clear c46b1
         try clear c52
         try clear c61
         try clear c62
         try clear p64
         try clear hcz15_0
         try clear hcz15_1
         try clear hcz15_2
         try clear hcz21_0
         try clear hcz21_1
         try clear hcz21_2
         try clear hcz31_0
         try clear hcz31_1
         try clear hcz31_2
         try clear hcz34_0
         try clear hcz34_1
         try clear hcz34_2
         try clear hcz48_0
         try clear hcz48_1
         try clear hcz48_2
         try clear hcz53_0
         try clear hcz53_1
         try clear hcz53_2
         try clear hcz57_0
         try clear hcz57_1
         try clear hcz57_2
         try clear hcz63_0
         try clear hcz63_1
         try clear hcz63_2
         try clear hcz66_0
         try clear hcz66_1
         try clear hcz66_2
         try clear hcz67_0
         try clear hcz67_1
         try clear hcz67_2
         try clear hcz69_0
         try clear hcz69_1
         try clear hcz69_2
         try clear hfz15_0
         try clear hfz15_1
         try clear hfz15_2
         try clear hfz21_0
         try clear hfz21_1
         try clear hfz21_2
         try clear hfz31_0
         try clear hfz31_1
         try clear hfz31_2
         try clear hfz34_0
         try clear hfz34_1
         try clear hfz34_2
         try clear hfz48_0
         try clear hfz48_1
         try clear hfz48_2
         try clear hfz53_0
         try clear hfz53_1
         try clear hfz53_2
         try clear hfz57_0
         try clear hfz57_1
         try clear hfz57_2
         try clear hfz63_0
         try clear hfz63_1
         try clear hfz63_2
         try clear hfz66_0
         try clear hfz66_1
         try clear hfz66_2
         try clear hfz67_0
         try clear hfz67_1
         try clear hfz67_2
         try clear hfz69_0
         try clear hfz69_1
         try clear hfz69_2
         try clear hx228_0
         try clear hx240_0
         try clear hx241_0
         try clear p2
         try clear p22
         try clear p228
         try clear p240
         try clear p241
         try clear p6
         try clear q2
         try clear q22
         try clear q228
         try clear q240
         try clear q241
         obtain ⟨x15_3, rfl, HA, HK3, HO_14, HO_225000, HO_225001, HO_225002, BK224, HB⟩ := hrel; cases gk with
         | zero => exact absurd HA.out (by simp [treillagelaw03_SlotsAll.l1])
         | succ k3 =>
          have H := HA.out; clear HA; simp only [treillagelaw03_SlotsAll.l1] at H; by_cases c74 : x15_3 < (t264.length : Int)
          ·rw [if_pos c74] at H; have c74b0 : decide (x15_3 < (t264.length : Int)) = true := decide_eq_true c74; clear c74; by_cases c75 : 0 ≤ x15_3
           rotate_left
           ·rw [if_neg c75] at H; exact absurd H (by simp)
           rw [if_pos c75] at H; have c75b0 : decide (0 ≤ x15_3) = true := decide_eq_true c75; clear c75; replace H := Option.bind_eq_some_iff.mp H; obtain ⟨t268, A760, H⟩ := H; replace H : (if t268 = true then (if x15_3 > 0 then (if 0 ≤ (wrap64 (x15_3 - 1)) then (if (wrap64 (x15_3 - 1)) < (t264.length : Int) then (if (Int.tmod (rd t264 (wrap64 (x15_3 - 1))) 16777216) ≥ (Int.tmod (rd t264 x15_3) 16777216) then (some false) else (treillagelaw03_SlotsAll.l1 k3 a0 t264 (wrap64 (x15_3 + 1)) x225000_2 x225001_2 x225002_2)) else (none)) else (none)) else (treillagelaw03_SlotsAll.l1 k3 a0 t264 (wrap64 (x15_3 + 1)) x225000_2 x225001_2 x225002_2)) else (some false)) = some r := H; have A76 := aA A760; clear A760; by_cases c77 : t268 = true
           ·subst c77; have H1 : (if x15_3 > 0 then (if 0 ≤ (wrap64 (x15_3 - 1)) then (if (wrap64 (x15_3 - 1)) < (t264.length : Int) then (if (Int.tmod (rd t264 (wrap64 (x15_3 - 1))) 16777216) ≥ (Int.tmod (rd t264 x15_3) 16777216) then (some false) else (treillagelaw03_SlotsAll.l1 k3 a0 t264 (wrap64 (x15_3 + 1)) x225000_2 x225001_2 x225002_2)) else (none)) else (none)) else (treillagelaw03_SlotsAll.l1 k3 a0 t264 (wrap64 (x15_3 + 1)) x225000_2 x225001_2 x225002_2)) = some r := by rw [if_pos rfl] at H; exact H
            clear H; have H := H1; clear H1; by_cases c78 : x15_3 > 0
            ·rw [if_pos c78] at H; have c78b0 : decide (0 < x15_3) = true := decide_eq_true c78; clear c78; obtain ⟨ji79, hji79⟩ : ∃ j_ : Int, (wrap64 (x15_3 - 1)) = j_ := ⟨_, rfl⟩; replace H : (if 0 ≤ (ji79) then (if (ji79) < (t264.length : Int) then (if (Int.tmod (rd t264 (ji79)) 16777216) ≥ (Int.tmod (rd t264 x15_3) 16777216) then (some false) else (treillagelaw03_SlotsAll.l1 k3 a0 t264 (wrap64 (x15_3 + 1)) x225000_2 x225001_2 x225002_2)) else (none)) else (none)) = some r := by first | (rw [hji79] at H; exact H) | (simp only [hji79] at H ⊢; exact H)
             (try rw [hji79] at A76); have hji79w : (IntKind.i64.wrap (x15_3 - 1)) = ji79 := (i64_w _).trans hji79; by_cases c80 : 0 ≤ (ji79)
             rotate_left
             ·rw [if_neg c80] at H; exact absurd H (by simp)
             rw [if_pos c80] at H; have c80b0 : decide (0 ≤ (ji79)) = true := decide_eq_true c80; clear c80; by_cases c81 : (ji79) < (t264.length : Int)
             rotate_left
             ·rw [if_neg c81] at H; exact absurd H (by simp)
             rw [if_pos c81] at H; have c81b0 : decide ((ji79) < (t264.length : Int)) = true := decide_eq_true c81; clear c81; by_cases c82 : (Int.tmod (rd t264 (ji79)) 16777216) ≥ (Int.tmod (rd t264 x15_3) 16777216)
             ·rw [if_pos c82] at H; have c82b0 : decide ((Int.tmod (rd t264 x15_3) 16777216) ≤ (Int.tmod (rd t264 (ji79)) 16777216)) = true := decide_eq_true c82; clear c82; exact absurd ((Option.some.inj H).trans hr_) (by decide)
             ·rw [if_neg c82] at H; have c82b0 : decide ((Int.tmod (rd t264 x15_3) 16777216) ≤ (Int.tmod (rd t264 (ji79)) 16777216)) = false := decide_eq_false c82; clear c82; have H' := aA H; clear H; obtain ⟨Ao83, co83, eo83⟩ := Kd.R_slice HO_14.out; subst eo83; try go_wp2
              have n0_ := aA (Kd.R_drew HO_14.out); have n1_ := aA (Kd.V_drew HO_225000.out); have n2_ := aA (Kd.V_drew HO_225001.out); have n3_ := aA (Kd.V_drew HO_225002.out); have n4_ := aA (blk_drew BK224.out); have n5_ := aA (below_drew1 HB.out); clear HO_14; clear HO_225000; clear HO_225001; clear HO_225002; clear BK224; clear HB; have HO_14 := n0_; have HO_225000 := n1_; have HO_225001 := n2_; have HO_225002 := n3_; have BK224 := n4_; have HB := n5_; clear n0_ n1_ n2_ n3_ n4_ n5_; have p267 : 0 ≤ (x15_3 : Int) := of_decide_eq_true (by first | (with_reducible assumption) | assumption); have q267 : x15_3 < (t264.length : Int) := of_decide_eq_true (by first | (with_reducible assumption) | assumption); obtain ⟨ad267, e267, hx267_0⟩ := Kd.at_int (Kd.R_reads' HO_14.out).2.2 x15_3 p267 q267; cases e267
              replace p267 := eq_true p267; replace q267 := eq_true q267; have p269 : 0 ≤ ((ji79) : Int) := of_decide_eq_true (by first | (with_reducible assumption) | assumption); have q269 : (ji79) < (t264.length : Int) := of_decide_eq_true (by first | (with_reducible assumption) | assumption); obtain ⟨ad269, e269, hx269_0⟩ := Kd.at_int (Kd.R_reads' HO_14.out).2.2 (ji79) p269 q269; obtain rfl : ad267 = ad269 := (by injection e269); replace p269 := eq_true p269; replace q269 := eq_true q269; have p270 : 0 ≤ (x15_3 : Int) := of_decide_eq_true (by first | (with_reducible assumption) | assumption); have q270 : x15_3 < (t264.length : Int) := of_decide_eq_true (by first | (with_reducible assumption) | assumption); obtain ⟨ad270, e270, hx270_0⟩ := Kd.at_int (Kd.R_reads' HO_14.out).2.2 x15_3 p270 q270; obtain rfl : ad267 = ad270 := (by injection e270); replace p270 := eq_true p270; replace q270 := eq_true q270; refine start_ (n := 25) (S := fun w' => w'.cell? ⟨gb224, 0, none⟩ = some (.slice Ao70 x225000_2.length co70) ∧ w'.cell? ⟨gb224, 1, none⟩ = some (.slice Ao71 x225001_2.length co71) ∧ w'.cell? ⟨gb224, 2, none⟩ = some (.slice Ao72 x225002_2.length co72) ∧ w'.cell? (ad267.add (x15_3).toNat) = some (.int .u64 (rd t264 x15_3)) ∧ w'.cell? (ad267.add ((ji79)).toNat) = some (.int .u64 (rd t264 (ji79))) ∧ w'.cell? (ad267.add (x15_3).toNat) = some (.int .u64 (rd t264 x15_3))) (ds := []) #[false, false, false, false, false, false, false, false, false, false, false, false, false, false, false, false, false, false, false, false, false, false, false, false, false] (by kernel_rfl) rfl rfl ⟨(blk_cell BK224.out 0).trans rfl, (blk_cell BK224.out 1).trans rfl, (blk_cell BK224.out 2).trans rfl, hx267_0, hx269_0, hx270_0⟩ (fun hHeld => ?_); refine with_tabW treillagelaw03_SlotsAll.tab22 treillagelaw03_SlotsAll.bits22 (fun HT_ HW_ => ?_); generalize wr.drew = w84 at HO_14 HO_225000 HO_225001 HO_225002 BK224 HB hx267_0 hx269_0 hx270_0 hHeld ⊢; refine pure_ (i := 1) (N := some 98) (v := ?_) (a' := ?_) #[false, true, false, false, false, false, false, false, false, false, false, false, false, false, false, false, false, false, false, false, false, false, false, false, false] rfl rfl (any_of HT_.out (by kernel_rfl)) (fun _ _ _ h => h) (Or.inl ⟨by rfl, ?_⟩) ?_ ?_; rotate_left
              ·intro w'
               go_simp
               with_reducible rfl
              rotate_left
              ·simp only [Act.put, List.setIfInBounds_toArray, List.set_cons_zero, List.set_cons_succ, i64_w, i32_w]; rfl
              refine pure_ (i := 2) (N := some 99) (v := ?_) (a' := ?_) #[false, true, true, false, false, false, false, false, false, false, false, false, false, false, false, false, false, false, false, false, false, false, false, false, false] rfl rfl (any_of HT_.out (by kernel_rfl)) (fun _ _ _ h => h) (Or.inl ⟨by rfl, ?_⟩) ?_ ?_; rotate_left
              ·intro w'
               go_simp
               with_reducible rfl
              rotate_left
              ·simp only [Act.put, List.setIfInBounds_toArray, List.set_cons_zero, List.set_cons_succ, i64_w, i32_w]; rfl
              refine pure_ (i := 3) (N := some 100) (v := ?_) (a' := ?_) #[false, true, true, true, false, false, false, false, false, false, false, false, false, false, false, false, false, false, false, false, false, false, false, false, false] rfl rfl (any_of HT_.out (by kernel_rfl)) (fun _ _ _ h => h) (Or.inl ⟨by rfl, ?_⟩) ?_ ?_; rotate_left
              ·intro w'
               go_simp
               with_reducible rfl
              rotate_left
              ·simp only [Act.put, List.setIfInBounds_toArray, List.set_cons_zero, List.set_cons_succ, i64_w, i32_w]; rfl
              refine take_ (i := 0) (N := some 97) (v := ?_) (a' := ?_) #[true, true, true, true, false, false, false, false, false, false, false, false, false, false, false, false, false, false, false, false, false, false, false, false, false] rfl rfl (take_ofW HT_.out HW_.out (by kernel_rfl)) (fun _ _ _ h => h) (Or.inl ⟨by rfl, ?_⟩) hHeld ?_ ?_; rotate_left
              ·rintro w' ⟨s0, s1, s2, s3, s4, s5⟩
               go_simp
               with_reducible rfl
              rotate_left
              ·simp only [Act.put, List.setIfInBounds_toArray, List.set_cons_zero, List.set_cons_succ, i64_w, i32_w]; rfl
              refine take_ (i := 4) (N := some 101) (v := ?_) (a' := ?_) #[true, true, true, true, true, false, false, false, false, false, false, false, false, false, false, false, false, false, false, false, false, false, false, false, false] rfl rfl (take_ofW HT_.out HW_.out (by kernel_rfl)) (fun _ _ _ h => h) (Or.inl ⟨by rfl, ?_⟩) hHeld ?_ ?_; rotate_left
              ·rintro w' ⟨s0, s1, s2, s3, s4, s5⟩
               go_simp
               with_reducible rfl
              rotate_left
              ·simp only [Act.put, List.setIfInBounds_toArray, List.set_cons_zero, List.set_cons_succ, i64_w, i32_w]; rfl
              refine one_ (i := 5) (N := some 102) #[true, true, true, true, true, true, false, false, false, false, false, false, false, false, false, false, false, false, false, false, false, false, false, false, false] rfl rfl (one_of HT_.out (by kernel_rfl)) (by decide) (fun K hK => ?_); refine goes_ Try.func19 (by kernel_rfl) rfl #[.agg #[.slice Ao70 x225000_2.length co70, .slice Ao71 x225001_2.length co71, .slice Ao72 x225002_2.length co72], .int .u64 (rd t264 x15_3)] (by rfl) rfl rfl (by (try simp only [List.map_toArray, List.map_cons, List.map_nil]); first | done | rfl | (simp only [List.length_drop, List.length_take]; rfl)) ?_; with_reducible refine (slots_Live.calls _ _ x225000_2 _ _ x225001_2 _ _ x225002_2 (rd t264 x15_3) true _ ?side1 ?side2 ?side3 ?side4 ?side5 ?side6 A76.out).mono ?_
              (case side1 => repeat (first | exact (Kd.V_reads' HO_225000.out).2.2 | (with_reducible refine Kd.C_alloc ?_ _) | (with_reducible refine Kd.C_drewN ?_ _) | (with_reducible refine Kd.C_drew ?_)))
              (case side2 => exact (Kd.V_reads' HO_225000.out).2.1)
              (case side3 => repeat (first | exact (Kd.V_reads' HO_225001.out).2.2 | (with_reducible refine Kd.C_alloc ?_ _) | (with_reducible refine Kd.C_drewN ?_ _) | (with_reducible refine Kd.C_drew ?_)))
              (case side4 => exact (Kd.V_reads' HO_225001.out).2.1)
              (case side5 => repeat (first | exact (Kd.V_reads' HO_225002.out).2.2 | (with_reducible refine Kd.C_alloc ?_ _) | (with_reducible refine Kd.C_drewN ?_ _) | (with_reducible refine Kd.C_drew ?_)))
              (case side6 => exact (Kd.V_reads' HO_225002.out).2.1)
              rintro e w85 ⟨rfl, hb⟩
              have HS3_ := (hb.cell (World.block_lt_of_cell? _ _ (hHeld.2.2.2.1))).trans (hHeld.2.2.2.1); have HS4_ := (hb.cell (World.block_lt_of_cell? _ _ (hHeld.2.2.2.2.1))).trans (hHeld.2.2.2.2.1); have HS5_ := (hb.cell (World.block_lt_of_cell? _ _ (hHeld.2.2.2.2.2))).trans (hHeld.2.2.2.2.2); refine ⟨_, rfl, ?_⟩; have n0_ := aA (Kd.R_below (rlu HO_14.out) hb); have n1_ := aA (Kd.V_below (vlu HO_225000.out) hb); have n2_ := aA (Kd.V_below (vlu HO_225001.out) hb); have n3_ := aA (Kd.V_below (vlu HO_225002.out) hb); have n4_ := aA (blk_below (g := gb224) (o := .cells #[.slice Ao70 x225000_2.length co70, .slice Ao71 x225001_2.length co71, .slice Ao72 x225002_2.length co72] 28 (0, 0)) (bku BK224.out) hb); have n5_ := aA (below_step (bls HB.out) hb); clear HO_14; clear HO_225000; clear HO_225001; clear HO_225002; clear BK224; clear HB; have HO_14 := n0_; have HO_225000 := n1_; have HO_225001 := n2_; have HO_225002 := n3_; have BK224 := n4_; have HB := n5_; clear n0_ n1_ n2_ n3_ n4_ n5_; (try clear hb); (try clear hb2); (try clear hk); (try clear hi); refine hK.out _ _ ⟨(blk_cell BK224.out 0).trans rfl, (blk_cell BK224.out 1).trans rfl, (blk_cell BK224.out 2).trans rfl, HS3_, HS4_, HS5_⟩ (fun hHeld => ?_); clear hK K; refine norm_ (a' := ?_) ?_ ?_; rotate_left
              ·show Act.put _ (some 102) _ = _
               simp only [Act.put, List.setIfInBounds_toArray, List.set_cons_zero, List.set_cons_succ, i64_w, i32_w]; rfl
              refine pure_ (i := 6) (N := some 103) (v := ?_) (a' := ?_) #[true, true, true, true, true, true, true, false, false, false, false, false, false, false, false, false, false, false, false, false, false, false, false, false, false] rfl rfl (any_of HT_.out (by kernel_rfl)) (fun _ _ _ h => h) (Or.inl ⟨by rfl, ?_⟩) ?_ ?_; rotate_left
              ·intro w'
               go_simp
               with_reducible rfl
              rotate_left
              ·simp only [Act.put, List.setIfInBounds_toArray, List.set_cons_zero, List.set_cons_succ, i64_w, i32_w]; rfl
              refine pure_ (i := 7) (N := some 104) (v := ?_) (a' := ?_) #[true, true, true, true, true, true, true, true, false, false, false, false, false, false, false, false, false, false, false, false, false, false, false, false, false] rfl rfl (any_of HT_.out (by kernel_rfl)) (fun _ _ _ h => h) (Or.inl ⟨by rfl, ?_⟩) ?_ ?_; rotate_left
              ·intro w'
               go_simp
               with_reducible rfl
              rotate_left
              ·simp only [Act.put, List.setIfInBounds_toArray, List.set_cons_zero, List.set_cons_succ, i64_w, i32_w]; rfl
              refine pure_ (i := 8) (N := some 105) (v := ?_) (a' := ?_) #[true, true, true, true, true, true, true, true, true, false, false, false, false, false, false, false, false, false, false, false, false, false, false, false, false] rfl rfl (any_of HT_.out (by kernel_rfl)) (fun _ _ _ h => h) (Or.inl ⟨by rfl, ?_⟩) ?_ ?_; rotate_left
              ·intro w'
               go_simp
               with_reducible rfl
              rotate_left
              ·simp only [Act.put, List.setIfInBounds_toArray, List.set_cons_zero, List.set_cons_succ, i64_w, i32_w]; rfl
              refine pure_ (i := 9) (N := some 106) (v := ?_) (a' := ?_) #[true, true, true, true, true, true, true, true, true, true, false, false, false, false, false, false, false, false, false, false, false, false, false, false, false] rfl rfl (any_of HT_.out (by kernel_rfl)) (fun _ _ _ h => h) (Or.inl ⟨by rfl, ?_⟩) ?_ ?_; rotate_left
              ·intro w'
               go_simp
               with_reducible rfl
              rotate_left
              ·simp only [Act.put, List.setIfInBounds_toArray, List.set_cons_zero, List.set_cons_succ, i64_w, i32_w]; rfl
              refine pure_ (i := 10) (N := some 107) (v := ?_) (a' := ?_) #[true, true, true, true, true, true, true, true, true, true, true, false, false, false, false, false, false, false, false, false, false, false, false, false, false] rfl rfl (any_of HT_.out (by kernel_rfl)) (fun _ _ _ h => h) (Or.inl ⟨by rfl, ?_⟩) ?_ ?_; rotate_left
              ·intro w'
               go_simp
               with_reducible rfl
              rotate_left
              ·simp only [Act.put, List.setIfInBounds_toArray, List.set_cons_zero, List.set_cons_succ, i64_w, i32_w]; rfl
              refine pure_ (i := 11) (N := some 108) (v := ?_) (a' := ?_) #[true, true, true, true, true, true, true, true, true, true, true, true, false, false, false, false, false, false, false, false, false, false, false, false, false] rfl rfl (any_of HT_.out (by kernel_rfl)) (fun _ _ _ h => h) (Or.inl ⟨by rfl, ?_⟩) ?_ ?_; rotate_left
              ·intro w'
               go_simp
               with_reducible rfl
              rotate_left
              ·simp only [Act.put, List.setIfInBounds_toArray, List.set_cons_zero, List.set_cons_succ, i64_w, i32_w]; rfl
              refine pure_ (i := 12) (N := some 109) (v := ?_) (a' := ?_) #[true, true, true, true, true, true, true, true, true, true, true, true, true, false, false, false, false, false, false, false, false, false, false, false, false] rfl rfl (any_of HT_.out (by kernel_rfl)) (fun _ _ _ h => h) (Or.inl ⟨by rfl, ?_⟩) ?_ ?_; rotate_left
              ·intro w'
               go_simp
               with_reducible rfl
              rotate_left
              ·simp only [Act.put, List.setIfInBounds_toArray, List.set_cons_zero, List.set_cons_succ, i64_w, i32_w]; rfl
              refine pure_ (i := 13) (N := some 110) (v := ?_) (a' := ?_) #[true, true, true, true, true, true, true, true, true, true, true, true, true, true, false, false, false, false, false, false, false, false, false, false, false] rfl rfl (any_of HT_.out (by kernel_rfl)) (fun _ _ _ h => h) (Or.inl ⟨by rfl, ?_⟩) ?_ ?_; rotate_left
              ·intro w'
               go_simp
               with_reducible rfl
              rotate_left
              ·simp only [Act.put, List.setIfInBounds_toArray, List.set_cons_zero, List.set_cons_succ, i64_w, i32_w]; rfl
              refine pure_ (i := 14) (N := some 111) (v := ?_) (a' := ?_) #[true, true, true, true, true, true, true, true, true, true, true, true, true, true, true, false, false, false, false, false, false, false, false, false, false] rfl rfl (any_of HT_.out (by kernel_rfl)) (fun _ _ _ h => h) (Or.inl ⟨by rfl, ?_⟩) ?_ ?_; rotate_left
              ·intro w'
               go_simp
               with_reducible rfl
              rotate_left
              ·simp only [Act.put, List.setIfInBounds_toArray, List.set_cons_zero, List.set_cons_succ, i64_w, i32_w]; rfl
              refine pure_ (i := 17) (N := some 114) (v := ?_) (a' := ?_) #[true, true, true, true, true, true, true, true, true, true, true, true, true, true, true, false, false, true, false, false, false, false, false, false, false] rfl rfl (any_of HT_.out (by kernel_rfl)) (fun _ _ _ h => h) (Or.inl ⟨by rfl, ?_⟩) ?_ ?_; rotate_left
              ·intro w'
               go_simp
               with_reducible rfl
              rotate_left
              ·simp only [Act.put, List.setIfInBounds_toArray, List.set_cons_zero, List.set_cons_succ, i64_w, i32_w]; rfl
              refine pure_ (i := 18) (N := some 115) (v := ?_) (a' := ?_) #[true, true, true, true, true, true, true, true, true, true, true, true, true, true, true, false, false, true, true, false, false, false, false, false, false] rfl rfl (any_of HT_.out (by kernel_rfl)) (fun _ _ _ h => h) (Or.inl ⟨by rfl, ?_⟩) ?_ ?_; rotate_left
              ·intro w'
               go_simp
               with_reducible rfl
              rotate_left
              ·simp only [Act.put, List.setIfInBounds_toArray, List.set_cons_zero, List.set_cons_succ, i64_w, i32_w]; rfl
              refine pure_ (i := 19) (N := some 116) (v := ?_) (a' := ?_) #[true, true, true, true, true, true, true, true, true, true, true, true, true, true, true, false, false, true, true, true, false, false, false, false, false] rfl rfl (any_of HT_.out (by kernel_rfl)) (fun _ _ _ h => h) (Or.inl ⟨by rfl, ?_⟩) ?_ ?_; rotate_left
              ·intro w'
               go_simp
               with_reducible rfl
              rotate_left
              ·simp only [Act.put, List.setIfInBounds_toArray, List.set_cons_zero, List.set_cons_succ, i64_w, i32_w]; rfl
              refine take_ (i := 15) (N := some 112) (v := ?_) (a' := ?_) #[true, true, true, true, true, true, true, true, true, true, true, true, true, true, true, true, false, true, true, true, false, false, false, false, false] rfl rfl (take_ofW HT_.out HW_.out (by kernel_rfl)) (fun _ _ _ h => h) (Or.inl ⟨by rfl, ?_⟩) hHeld ?_ ?_; rotate_left
              ·rintro w' ⟨s0, s1, s2, s3, s4, s5⟩
               go_simp
               with_reducible rfl
              rotate_left
              ·simp only [Act.put, List.setIfInBounds_toArray, List.set_cons_zero, List.set_cons_succ, i64_w, i32_w]; rfl
              refine pure_ (i := 16) (N := some 113) (v := ?_) (a' := ?_) #[true, true, true, true, true, true, true, true, true, true, true, true, true, true, true, true, true, true, true, true, false, false, false, false, false] rfl rfl (any_of HT_.out (by kernel_rfl)) (fun _ _ _ h => h) (Or.inl ⟨by rfl, ?_⟩) ?_ ?_; rotate_left
              ·intro w'
               go_simp
               with_reducible rfl
              rotate_left
              ·simp only [Act.put, List.setIfInBounds_toArray, List.set_cons_zero, List.set_cons_succ, i64_w, i32_w]; rfl
              refine take_ (i := 20) (N := some 117) (v := ?_) (a' := ?_) #[true, true, true, true, true, true, true, true, true, true, true, true, true, true, true, true, true, true, true, true, true, false, false, false, false] rfl rfl (take_ofW HT_.out HW_.out (by kernel_rfl)) (fun _ _ _ h => h) (Or.inl ⟨by rfl, ?_⟩) hHeld ?_ ?_; rotate_left
              ·rintro w' ⟨s0, s1, s2, s3, s4, s5⟩
               go_simp
               with_reducible rfl
              rotate_left
              ·simp only [Act.put, List.setIfInBounds_toArray, List.set_cons_zero, List.set_cons_succ, i64_w, i32_w]; rfl
              refine pure_ (i := 21) (N := some 118) (v := ?_) (a' := ?_) #[true, true, true, true, true, true, true, true, true, true, true, true, true, true, true, true, true, true, true, true, true, true, false, false, false] rfl rfl (any_of HT_.out (by kernel_rfl)) (fun _ _ _ h => h) (Or.inl ⟨by rfl, ?_⟩) ?_ ?_; rotate_left
              ·intro w'
               go_simp
               with_reducible rfl
              rotate_left
              ·simp only [Act.put, List.setIfInBounds_toArray, List.set_cons_zero, List.set_cons_succ, i64_w, i32_w]; rfl
              refine pure_ (i := 22) (N := some 119) (v := ?_) (a' := ?_) #[true, true, true, true, true, true, true, true, true, true, true, true, true, true, true, true, true, true, true, true, true, true, true, false, false] rfl rfl (any_of HT_.out (by kernel_rfl)) (fun _ _ _ h => h) (Or.inl ⟨by rfl, ?_⟩) ?_ ?_; rotate_left
              ·intro w'
               go_simp
               with_reducible rfl
              rotate_left
              ·simp only [Act.put, List.setIfInBounds_toArray, List.set_cons_zero, List.set_cons_succ, i64_w, i32_w]; rfl
              refine pure_ (i := 23) (N := some 120) (v := ?_) (a' := ?_) #[true, true, true, true, true, true, true, true, true, true, true, true, true, true, true, true, true, true, true, true, true, true, true, true, false] rfl rfl (any_of HT_.out (by kernel_rfl)) (fun _ _ _ h => h) (Or.inl ⟨by rfl, ?_⟩) ?_ ?_; rotate_left
              ·intro w'
               go_simp
               with_reducible rfl
              rotate_left
              ·simp only [Act.put, List.setIfInBounds_toArray, List.set_cons_zero, List.set_cons_succ, i64_w, i32_w]; rfl
              refine pure_ (i := 24) (N := some 121) (v := ?_) (a' := ?_) #[true, true, true, true, true, true, true, true, true, true, true, true, true, true, true, true, true, true, true, true, true, true, true, true, true] rfl rfl (any_of HT_.out (by kernel_rfl)) (fun _ _ _ h => h) (Or.inl ⟨by rfl, ?_⟩) ?_ ?_; rotate_left
              ·intro w'
               go_simp
               with_reducible rfl
              rotate_left
              ·simp only [Act.put, List.setIfInBounds_toArray, List.set_cons_zero, List.set_cons_succ, i64_w, i32_w]; rfl
              refine done_ (done_of HT_.out (by kernel_rfl)) ?_; try go_wp2
              go_roundg k3
              case measure => have := HJ2.out; have := HK2.out; have := HK3.out; omega
              case rel => exact ⟨(wrap64 (x15_3 + 1)), (by first | rfl | (simp; done) | (simp [*]; done)), H', ⟨by have := HJ2.out; have := HK2.out; have := HK3.out; omega⟩, ⟨by (with_reducible repeat (first | apply Kd.R_alloc | apply Kd.R_drewN | apply Kd.R_drew)); exact HO_14.out⟩, ⟨by (with_reducible repeat (first | apply Kd.V_alloc | apply Kd.V_drewN | apply Kd.V_drew)); exact HO_225000.out⟩, ⟨by (with_reducible repeat (first | apply Kd.V_alloc | apply Kd.V_drewN | apply Kd.V_drew)); exact HO_225001.out⟩, ⟨by (with_reducible repeat (first | apply Kd.V_alloc | apply Kd.V_drewN | apply Kd.V_drew)); exact HO_225002.out⟩, ⟨by (with_reducible repeat (first | refine blk_drewN ?_ _ | refine blk_drew ?_ | refine blk_alloc ?_ _)); exact BK224.out⟩, ⟨by repeat (first | (with_reducible first | exact HB.out | apply below_alloc | apply pw_below_drewN | apply below_drew1 | refine below_set ?_ GE224.out) | exact HB.out)⟩⟩
            ·rw [if_neg c78] at H; have c78b0 : decide (0 < x15_3) = false := decide_eq_false c78; clear c78; have H' := aA H; clear H; obtain ⟨Ao86, co86, eo86⟩ := Kd.R_slice HO_14.out; subst eo86; try go_wp2
             have n0_ := aA (Kd.R_drew HO_14.out); have n1_ := aA (Kd.V_drew HO_225000.out); have n2_ := aA (Kd.V_drew HO_225001.out); have n3_ := aA (Kd.V_drew HO_225002.out); have n4_ := aA (blk_drew BK224.out); have n5_ := aA (below_drew1 HB.out); clear HO_14; clear HO_225000; clear HO_225001; clear HO_225002; clear BK224; clear HB; have HO_14 := n0_; have HO_225000 := n1_; have HO_225001 := n2_; have HO_225002 := n3_; have BK224 := n4_; have HB := n5_; clear n0_ n1_ n2_ n3_ n4_ n5_; have p267 : 0 ≤ (x15_3 : Int) := of_decide_eq_true (by first | (with_reducible assumption) | assumption); have q267 : x15_3 < (t264.length : Int) := of_decide_eq_true (by first | (with_reducible assumption) | assumption); obtain ⟨ad267, e267, hx267_0⟩ := Kd.at_int (Kd.R_reads' HO_14.out).2.2 x15_3 p267 q267; cases e267
             replace p267 := eq_true p267; replace q267 := eq_true q267; refine start_ (n := 25) (S := fun w' => w'.cell? ⟨gb224, 0, none⟩ = some (.slice Ao70 x225000_2.length co70) ∧ w'.cell? ⟨gb224, 1, none⟩ = some (.slice Ao71 x225001_2.length co71) ∧ w'.cell? ⟨gb224, 2, none⟩ = some (.slice Ao72 x225002_2.length co72) ∧ w'.cell? (ad267.add (x15_3).toNat) = some (.int .u64 (rd t264 x15_3))) (ds := []) #[false, false, false, false, false, false, false, false, false, false, false, false, false, false, false, false, false, false, false, false, false, false, false, false, false] (by kernel_rfl) rfl rfl ⟨(blk_cell BK224.out 0).trans rfl, (blk_cell BK224.out 1).trans rfl, (blk_cell BK224.out 2).trans rfl, hx267_0⟩ (fun hHeld => ?_); refine with_tabW treillagelaw03_SlotsAll.tab22 treillagelaw03_SlotsAll.bits22 (fun HT_ HW_ => ?_); generalize wr.drew = w87 at HO_14 HO_225000 HO_225001 HO_225002 BK224 HB hx267_0 hHeld ⊢; refine pure_ (i := 1) (N := some 98) (v := ?_) (a' := ?_) #[false, true, false, false, false, false, false, false, false, false, false, false, false, false, false, false, false, false, false, false, false, false, false, false, false] rfl rfl (any_of HT_.out (by kernel_rfl)) (fun _ _ _ h => h) (Or.inl ⟨by rfl, ?_⟩) ?_ ?_; rotate_left
             ·intro w'
              go_simp
              with_reducible rfl
             rotate_left
             ·simp only [Act.put, List.setIfInBounds_toArray, List.set_cons_zero, List.set_cons_succ, i64_w, i32_w]; rfl
             refine pure_ (i := 2) (N := some 99) (v := ?_) (a' := ?_) #[false, true, true, false, false, false, false, false, false, false, false, false, false, false, false, false, false, false, false, false, false, false, false, false, false] rfl rfl (any_of HT_.out (by kernel_rfl)) (fun _ _ _ h => h) (Or.inl ⟨by rfl, ?_⟩) ?_ ?_; rotate_left
             ·intro w'
              go_simp
              with_reducible rfl
             rotate_left
             ·simp only [Act.put, List.setIfInBounds_toArray, List.set_cons_zero, List.set_cons_succ, i64_w, i32_w]; rfl
             refine pure_ (i := 3) (N := some 100) (v := ?_) (a' := ?_) #[false, true, true, true, false, false, false, false, false, false, false, false, false, false, false, false, false, false, false, false, false, false, false, false, false] rfl rfl (any_of HT_.out (by kernel_rfl)) (fun _ _ _ h => h) (Or.inl ⟨by rfl, ?_⟩) ?_ ?_; rotate_left
             ·intro w'
              go_simp
              with_reducible rfl
             rotate_left
             ·simp only [Act.put, List.setIfInBounds_toArray, List.set_cons_zero, List.set_cons_succ, i64_w, i32_w]; rfl
             refine take_ (i := 0) (N := some 97) (v := ?_) (a' := ?_) #[true, true, true, true, false, false, false, false, false, false, false, false, false, false, false, false, false, false, false, false, false, false, false, false, false] rfl rfl (take_ofW HT_.out HW_.out (by kernel_rfl)) (fun _ _ _ h => h) (Or.inl ⟨by rfl, ?_⟩) hHeld ?_ ?_; rotate_left
             ·rintro w' ⟨s0, s1, s2, s3⟩
              go_simp
              with_reducible rfl
             rotate_left
             ·simp only [Act.put, List.setIfInBounds_toArray, List.set_cons_zero, List.set_cons_succ, i64_w, i32_w]; rfl
             refine take_ (i := 4) (N := some 101) (v := ?_) (a' := ?_) #[true, true, true, true, true, false, false, false, false, false, false, false, false, false, false, false, false, false, false, false, false, false, false, false, false] rfl rfl (take_ofW HT_.out HW_.out (by kernel_rfl)) (fun _ _ _ h => h) (Or.inl ⟨by rfl, ?_⟩) hHeld ?_ ?_; rotate_left
             ·rintro w' ⟨s0, s1, s2, s3⟩
              go_simp
              with_reducible rfl
             rotate_left
             ·simp only [Act.put, List.setIfInBounds_toArray, List.set_cons_zero, List.set_cons_succ, i64_w, i32_w]; rfl
             refine one_ (i := 5) (N := some 102) #[true, true, true, true, true, true, false, false, false, false, false, false, false, false, false, false, false, false, false, false, false, false, false, false, false] rfl rfl (one_of HT_.out (by kernel_rfl)) (by decide) (fun K hK => ?_); refine goes_ Try.func19 (by kernel_rfl) rfl #[.agg #[.slice Ao70 x225000_2.length co70, .slice Ao71 x225001_2.length co71, .slice Ao72 x225002_2.length co72], .int .u64 (rd t264 x15_3)] (by rfl) rfl rfl (by (try simp only [List.map_toArray, List.map_cons, List.map_nil]); first | done | rfl | (simp only [List.length_drop, List.length_take]; rfl)) ?_; with_reducible refine (slots_Live.calls _ _ x225000_2 _ _ x225001_2 _ _ x225002_2 (rd t264 x15_3) true _ ?side1 ?side2 ?side3 ?side4 ?side5 ?side6 A76.out).mono ?_
             (case side1 => repeat (first | exact (Kd.V_reads' HO_225000.out).2.2 | (with_reducible refine Kd.C_alloc ?_ _) | (with_reducible refine Kd.C_drewN ?_ _) | (with_reducible refine Kd.C_drew ?_)))
             (case side2 => exact (Kd.V_reads' HO_225000.out).2.1)
             (case side3 => repeat (first | exact (Kd.V_reads' HO_225001.out).2.2 | (with_reducible refine Kd.C_alloc ?_ _) | (with_reducible refine Kd.C_drewN ?_ _) | (with_reducible refine Kd.C_drew ?_)))
             (case side4 => exact (Kd.V_reads' HO_225001.out).2.1)
             (case side5 => repeat (first | exact (Kd.V_reads' HO_225002.out).2.2 | (with_reducible refine Kd.C_alloc ?_ _) | (with_reducible refine Kd.C_drewN ?_ _) | (with_reducible refine Kd.C_drew ?_)))
             (case side6 => exact (Kd.V_reads' HO_225002.out).2.1)
             rintro e w88 ⟨rfl, hb⟩
             have HS3_ := (hb.cell (World.block_lt_of_cell? _ _ (hHeld.2.2.2))).trans (hHeld.2.2.2); refine ⟨_, rfl, ?_⟩; have n0_ := aA (Kd.R_below (rlu HO_14.out) hb); have n1_ := aA (Kd.V_below (vlu HO_225000.out) hb); have n2_ := aA (Kd.V_below (vlu HO_225001.out) hb); have n3_ := aA (Kd.V_below (vlu HO_225002.out) hb); have n4_ := aA (blk_below (g := gb224) (o := .cells #[.slice Ao70 x225000_2.length co70, .slice Ao71 x225001_2.length co71, .slice Ao72 x225002_2.length co72] 28 (0, 0)) (bku BK224.out) hb); have n5_ := aA (below_step (bls HB.out) hb); clear HO_14; clear HO_225000; clear HO_225001; clear HO_225002; clear BK224; clear HB; have HO_14 := n0_; have HO_225000 := n1_; have HO_225001 := n2_; have HO_225002 := n3_; have BK224 := n4_; have HB := n5_; clear n0_ n1_ n2_ n3_ n4_ n5_; (try clear hb); (try clear hb2); (try clear hk); (try clear hi); refine hK.out _ _ ⟨(blk_cell BK224.out 0).trans rfl, (blk_cell BK224.out 1).trans rfl, (blk_cell BK224.out 2).trans rfl, HS3_⟩ (fun hHeld => ?_); clear hK K; refine norm_ (a' := ?_) ?_ ?_; rotate_left
             ·show Act.put _ (some 102) _ = _
              simp only [Act.put, List.setIfInBounds_toArray, List.set_cons_zero, List.set_cons_succ, i64_w, i32_w]; rfl
             refine pure_ (i := 6) (N := some 103) (v := ?_) (a' := ?_) #[true, true, true, true, true, true, true, false, false, false, false, false, false, false, false, false, false, false, false, false, false, false, false, false, false] rfl rfl (any_of HT_.out (by kernel_rfl)) (fun _ _ _ h => h) (Or.inl ⟨by rfl, ?_⟩) ?_ ?_; rotate_left
             ·intro w'
              go_simp
              with_reducible rfl
             rotate_left
             ·simp only [Act.put, List.setIfInBounds_toArray, List.set_cons_zero, List.set_cons_succ, i64_w, i32_w]; rfl
             refine pure_ (i := 7) (N := some 104) (v := ?_) (a' := ?_) #[true, true, true, true, true, true, true, true, false, false, false, false, false, false, false, false, false, false, false, false, false, false, false, false, false] rfl rfl (any_of HT_.out (by kernel_rfl)) (fun _ _ _ h => h) (Or.inl ⟨by rfl, ?_⟩) ?_ ?_; rotate_left
             ·intro w'
              go_simp
              with_reducible rfl
             rotate_left
             ·simp only [Act.put, List.setIfInBounds_toArray, List.set_cons_zero, List.set_cons_succ, i64_w, i32_w]; rfl
             refine pure_ (i := 8) (N := some 105) (v := ?_) (a' := ?_) #[true, true, true, true, true, true, true, true, true, false, false, false, false, false, false, false, false, false, false, false, false, false, false, false, false] rfl rfl (any_of HT_.out (by kernel_rfl)) (fun _ _ _ h => h) (Or.inl ⟨by rfl, ?_⟩) ?_ ?_; rotate_left
             ·intro w'
              go_simp
              with_reducible rfl
             rotate_left
             ·simp only [Act.put, List.setIfInBounds_toArray, List.set_cons_zero, List.set_cons_succ, i64_w, i32_w]; rfl
             refine pure_ (i := 9) (N := some 106) (v := ?_) (a' := ?_) #[true, true, true, true, true, true, true, true, true, true, false, false, false, false, false, false, false, false, false, false, false, false, false, false, false] rfl rfl (any_of HT_.out (by kernel_rfl)) (fun _ _ _ h => h) (Or.inl ⟨by rfl, ?_⟩) ?_ ?_; rotate_left
             ·intro w'
              go_simp
              with_reducible rfl
             rotate_left
             ·simp only [Act.put, List.setIfInBounds_toArray, List.set_cons_zero, List.set_cons_succ, i64_w, i32_w]; rfl
             refine pure_ (i := 10) (N := some 107) (v := ?_) (a' := ?_) #[true, true, true, true, true, true, true, true, true, true, true, false, false, false, false, false, false, false, false, false, false, false, false, false, false] rfl rfl (any_of HT_.out (by kernel_rfl)) (fun _ _ _ h => h) (Or.inl ⟨by rfl, ?_⟩) ?_ ?_; rotate_left
             ·intro w'
              go_simp
              with_reducible rfl
             rotate_left
             ·simp only [Act.put, List.setIfInBounds_toArray, List.set_cons_zero, List.set_cons_succ, i64_w, i32_w]; rfl
             refine pure_ (i := 11) (N := some 108) (v := undef) (a' := ?_) #[true, true, true, true, true, true, true, true, true, true, true, true, false, false, false, false, false, false, false, false, false, false, false, false, false] rfl rfl (any_of HT_.out (by kernel_rfl)) (fun _ _ _ h => h) (Or.inr ⟨by rfl, rfl⟩) ?_ ?_; rotate_left
             ·simp only [Act.put, List.setIfInBounds_toArray, List.set_cons_zero, List.set_cons_succ, i64_w, i32_w]; rfl
             refine pure_ (i := 12) (N := some 109) (v := undef) (a' := ?_) #[true, true, true, true, true, true, true, true, true, true, true, true, true, false, false, false, false, false, false, false, false, false, false, false, false] rfl rfl (any_of HT_.out (by kernel_rfl)) (fun _ _ _ h => h) (Or.inr ⟨by rfl, rfl⟩) ?_ ?_; rotate_left
             ·simp only [Act.put, List.setIfInBounds_toArray, List.set_cons_zero, List.set_cons_succ, i64_w, i32_w]; rfl
             refine pure_ (i := 13) (N := some 110) (v := undef) (a' := ?_) #[true, true, true, true, true, true, true, true, true, true, true, true, true, true, false, false, false, false, false, false, false, false, false, false, false] rfl rfl (any_of HT_.out (by kernel_rfl)) (fun _ _ _ h => h) (Or.inr ⟨by rfl, rfl⟩) ?_ ?_; rotate_left
             ·simp only [Act.put, List.setIfInBounds_toArray, List.set_cons_zero, List.set_cons_succ, i64_w, i32_w]; rfl
             refine pure_ (i := 14) (N := some 111) (v := undef) (a' := ?_) #[true, true, true, true, true, true, true, true, true, true, true, true, true, true, true, false, false, false, false, false, false, false, false, false, false] rfl rfl (any_of HT_.out (by kernel_rfl)) (fun _ _ _ h => h) (Or.inr ⟨by rfl, rfl⟩) ?_ ?_; rotate_left
             ·simp only [Act.put, List.setIfInBounds_toArray, List.set_cons_zero, List.set_cons_succ, i64_w, i32_w]; rfl
             refine pure_ (i := 15) (N := some 112) (v := undef) (a' := ?_) #[true, true, true, true, true, true, true, true, true, true, true, true, true, true, true, true, false, false, false, false, false, false, false, false, false] rfl rfl (any_of HT_.out (by kernel_rfl)) (fun _ _ _ h => h) (Or.inr ⟨by rfl, rfl⟩) ?_ ?_; rotate_left
             ·simp only [Act.put, List.setIfInBounds_toArray, List.set_cons_zero, List.set_cons_succ, i64_w, i32_w]; rfl
             refine pure_ (i := 16) (N := some 113) (v := undef) (a' := ?_) #[true, true, true, true, true, true, true, true, true, true, true, true, true, true, true, true, true, false, false, false, false, false, false, false, false] rfl rfl (any_of HT_.out (by kernel_rfl)) (fun _ _ _ h => h) (Or.inr ⟨by rfl, rfl⟩) ?_ ?_; rotate_left
             ·simp only [Act.put, List.setIfInBounds_toArray, List.set_cons_zero, List.set_cons_succ, i64_w, i32_w]; rfl
             refine pure_ (i := 17) (N := some 114) (v := undef) (a' := ?_) #[true, true, true, true, true, true, true, true, true, true, true, true, true, true, true, true, true, true, false, false, false, false, false, false, false] rfl rfl (any_of HT_.out (by kernel_rfl)) (fun _ _ _ h => h) (Or.inr ⟨by rfl, rfl⟩) ?_ ?_; rotate_left
             ·simp only [Act.put, List.setIfInBounds_toArray, List.set_cons_zero, List.set_cons_succ, i64_w, i32_w]; rfl
             refine pure_ (i := 18) (N := some 115) (v := undef) (a' := ?_) #[true, true, true, true, true, true, true, true, true, true, true, true, true, true, true, true, true, true, true, false, false, false, false, false, false] rfl rfl (any_of HT_.out (by kernel_rfl)) (fun _ _ _ h => h) (Or.inr ⟨by rfl, rfl⟩) ?_ ?_; rotate_left
             ·simp only [Act.put, List.setIfInBounds_toArray, List.set_cons_zero, List.set_cons_succ, i64_w, i32_w]; rfl
             refine pure_ (i := 19) (N := some 116) (v := undef) (a' := ?_) #[true, true, true, true, true, true, true, true, true, true, true, true, true, true, true, true, true, true, true, true, false, false, false, false, false] rfl rfl (any_of HT_.out (by kernel_rfl)) (fun _ _ _ h => h) (Or.inr ⟨by rfl, rfl⟩) ?_ ?_; rotate_left
             ·simp only [Act.put, List.setIfInBounds_toArray, List.set_cons_zero, List.set_cons_succ, i64_w, i32_w]; rfl
             refine pure_ (i := 20) (N := some 117) (v := undef) (a' := ?_) #[true, true, true, true, true, true, true, true, true, true, true, true, true, true, true, true, true, true, true, true, true, false, false, false, false] rfl rfl (any_of HT_.out (by kernel_rfl)) (fun _ _ _ h => h) (Or.inr ⟨by rfl, rfl⟩) ?_ ?_; rotate_left
             ·simp only [Act.put, List.setIfInBounds_toArray, List.set_cons_zero, List.set_cons_succ, i64_w, i32_w]; rfl
             refine pure_ (i := 21) (N := some 118) (v := undef) (a' := ?_) #[true, true, true, true, true, true, true, true, true, true, true, true, true, true, true, true, true, true, true, true, true, true, false, false, false] rfl rfl (any_of HT_.out (by kernel_rfl)) (fun _ _ _ h => h) (Or.inr ⟨by rfl, rfl⟩) ?_ ?_; rotate_left
             ·simp only [Act.put, List.setIfInBounds_toArray, List.set_cons_zero, List.set_cons_succ, i64_w, i32_w]; rfl
             refine pure_ (i := 22) (N := some 119) (v := undef) (a' := ?_) #[true, true, true, true, true, true, true, true, true, true, true, true, true, true, true, true, true, true, true, true, true, true, true, false, false] rfl rfl (any_of HT_.out (by kernel_rfl)) (fun _ _ _ h => h) (Or.inr ⟨by rfl, rfl⟩) ?_ ?_; rotate_left
             ·simp only [Act.put, List.setIfInBounds_toArray, List.set_cons_zero, List.set_cons_succ, i64_w, i32_w]; rfl
             refine pure_ (i := 23) (N := some 120) (v := ?_) (a' := ?_) #[true, true, true, true, true, true, true, true, true, true, true, true, true, true, true, true, true, true, true, true, true, true, true, true, false] rfl rfl (any_of HT_.out (by kernel_rfl)) (fun _ _ _ h => h) (Or.inl ⟨by rfl, ?_⟩) ?_ ?_; rotate_left
             ·intro w'
              go_simp
              with_reducible rfl
             rotate_left
             ·simp only [Act.put, List.setIfInBounds_toArray, List.set_cons_zero, List.set_cons_succ, i64_w, i32_w]; rfl
             refine pure_ (i := 24) (N := some 121) (v := ?_) (a' := ?_) #[true, true, true, true, true, true, true, true, true, true, true, true, true, true, true, true, true, true, true, true, true, true, true, true, true] rfl rfl (any_of HT_.out (by kernel_rfl)) (fun _ _ _ h => h) (Or.inl ⟨by rfl, ?_⟩) ?_ ?_; rotate_left
             ·intro w'
              go_simp
              with_reducible rfl
             rotate_left
             ·simp only [Act.put, List.setIfInBounds_toArray, List.set_cons_zero, List.set_cons_succ, i64_w, i32_w]; rfl
             refine done_ (done_of HT_.out (by kernel_rfl)) ?_; try go_wp2
             go_roundg k3
             case measure => have := HJ2.out; have := HK2.out; have := HK3.out; omega
             case rel => exact ⟨(wrap64 (x15_3 + 1)), (by first | rfl | (simp; done) | (simp [*]; done)), H', ⟨by have := HJ2.out; have := HK2.out; have := HK3.out; omega⟩, ⟨by (with_reducible repeat (first | apply Kd.R_alloc | apply Kd.R_drewN | apply Kd.R_drew)); exact HO_14.out⟩, ⟨by (with_reducible repeat (first | apply Kd.V_alloc | apply Kd.V_drewN | apply Kd.V_drew)); exact HO_225000.out⟩, ⟨by (with_reducible repeat (first | apply Kd.V_alloc | apply Kd.V_drewN | apply Kd.V_drew)); exact HO_225001.out⟩, ⟨by (with_reducible repeat (first | apply Kd.V_alloc | apply Kd.V_drewN | apply Kd.V_drew)); exact HO_225002.out⟩, ⟨by (with_reducible repeat (first | refine blk_drewN ?_ _ | refine blk_drew ?_ | refine blk_alloc ?_ _)); exact BK224.out⟩, ⟨by repeat (first | (with_reducible first | exact HB.out | apply below_alloc | apply pw_below_drewN | apply below_drew1 | refine below_set ?_ GE224.out) | exact HB.out)⟩⟩
           ·replace c77 := Bool.eq_false_iff.mpr c77; subst c77; have H1 : (some false) = some r := by rw [if_neg (show ¬ (false = true) by decide)] at H; exact H
            clear H; have H := H1; clear H1; exact absurd ((Option.some.inj H).trans hr_) (by decide)
          ·rw [if_neg c74] at H; have c74b0 : decide (x15_3 < (t264.length : Int)) = false := decide_eq_false c74; clear c74; obtain rfl := Option.some.inj H; obtain ⟨Ao89, co89, eo89⟩ := Kd.R_slice HO_14.out; subst eo89; go_wp2; go_ret
           exact ⟨by first | rfl | (simp [errW_none, errW_some] <;> rfl) | (simp [*, errW_none, errW_some] <;> rfl), by repeat (first | (with_reducible first | exact HB.out | apply below_alloc | apply pw_below_drewN | apply below_drew1 | refine below_set ?_ GE224.out) | exact HB.out)⟩
    ·rw [if_neg c11] at H; have c11b0 : (t223 == 0) = false := beq_eq_false_iff_ne.mpr c11; have c11b1 : (t223 != 0) = true := bne_iff_ne.mpr c11; exact absurd ((Option.some.inj H).trans hr_) (by decide)

/-- THE ONE PURE STATEMENT of treillagelaw03_SlotsAll: yours. -/
theorem treillagelaw03_SlotsAll.calls (k : Nat) (a0 : Int) (A1 : Option Addr) (c1 : Nat) (l1 : List Int) (r : Bool) (w : World) (hr1 : Kd.C (Kd.int .u16) w A1 l1.length l1) (hc1 : l1.length ≤ c1) (h : treillagelaw03_SlotsAll.f k a0 l1 = some true) :
  Calls Try.prog 5 #[.int .u8 a0, .slice A1 l1.length c1] w fun e w' => e = .returned (.bool true) ∧ Below w.heap.size w w' := treillagelaw03_SlotsAll.calls1 k a0 A1 c1 l1 true w hr1 hc1 h rfl
def treillagelaw03_SlotsAll.Pure : Prop := ∀ (a0 : Int) (l1 : List Int), (Lit.int .u8 a0).wf = true → l1.length ≤ maxLen → l1.length * 2 ≤ 140737488351232 → (∀ x ∈ l1, (Lit.int .u16 x).wf = true) → ∃ k, treillagelaw03_SlotsAll.f k a0 l1 = some true
theorem treillagelaw03_SlotsAll.walk (P : treillagelaw03_SlotsAll.Pure) (a0 : Int) (a1 : Option Addr) (len1 cap1 : Nat) (z1 : List Int) (w : World) (w0 : (Lit.int .u8 a0).wf = true) (w1 : (a1 = none ∧ len1 = 0 ∧ cap1 = 0 ∧ z1 = []) ∨ ∃ x, a1 = some x ∧ len1 ≤ cap1 ∧ cap1 ≤ maxLen ∧ z1.length = cap1 ∧ (∀ i, i < z1.length → w.cell? (x.add i) = some (.int .u16 (z1.getD i 0))) ∧ ∀ n ∈ z1, (Lit.int .u16 n).wf = true) (y1 : len1 * 2 ≤ 140737488351232) :
  Calls Try.prog 5 #[.int .u8 a0, .slice a1 len1 cap1] w fun e w' => e = .returned (.bool true) ∧ Below w.heap.size w w' := by
 obtain ⟨l1, rfl, hr1, hm1, hw1, hc1⟩ := ReadsInt.ofRowC w1; obtain ⟨k, h⟩ := P a0 l1 w0 hm1 y1 hw1; refine (treillagelaw03_SlotsAll.calls k a0 _ _ l1 true w (Kd.C_of_reads (d := (0 : Int)) (h1 := fun _ => rfl) hr1) hc1 h).mono ?_; rintro e w' ⟨rfl, hd⟩
 exact ⟨rfl, hd⟩

end Go.Proofs.Ytecfbacgaahlhaa.PA
