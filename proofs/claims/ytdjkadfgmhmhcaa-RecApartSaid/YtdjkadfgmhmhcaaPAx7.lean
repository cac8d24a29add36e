-- Written by wip/hprint/hprint.py (a program of this session, over the print): not typed by hand
import Derived.Test.YtdjkadfgmhmhcaaPAx0
import Derived.Test.YtdjkadfgmhmhcaaPAx2
import Derived.Test.YtdjkadfgmhmhcaaPAx5
namespace Go.Proofs.Ytdjkadfgmhmhcaa.PA
open Go.RowKit Go.Proofs.YtdjkadfgmhmhcaaW.PrintWords Go.Proofs.YtdjkadfgmhmhcaaW.PrintLast Go.Proofs.YtdjkadfgmhmhcaaW.PrintMore
attribute [local go_sem] max2_int min2_int max_two min_two max_three min_three max_four min_four   -- for this text's walks alone
open Go.Proofs.YtdjkadfgmhmhcaaH
set_option linter.unusedVariables false
set_option linter.unusedSimpArgs false

/-! ### treillagelaw11_RecTexts: function 8 -/
mutual
def treillagelaw11_RecTexts.j0 : Nat → ByteArray → Int → Bool → Option (Bool)
 | 0, _, _, _ => none
 | k + 1, x0, x1, x14 => if x14 = true then ((treillagelaw11_shown.f k).bind fun t184 => (some t184)) else ((rec_Words.f k x0).bind fun t185 => ((rec_Text.f k t185 x1).bind fun bt188 => (if x1 < 0 then (treillagelaw11_RecTexts.j1 k x0 x1 t185 bt188.1 bt188.2 true) else (if (wrap64 (Int.tdiv (wrap64 (x1 + 7)) 8)) = (t185.length : Int) then (treillagelaw11_RecTexts.j1 k x0 x1 t185 bt188.1 bt188.2 (decide (x1 > 1000))) else (if x1 ≤ 1000 then (treillagelaw11_RecTexts.j1 k x0 x1 t185 bt188.1 bt188.2 true) else (treillagelaw11_RecTexts.j1 k x0 x1 t185 bt188.1 bt188.2 (decide (x1 > 1000))))))))
def treillagelaw11_RecTexts.j1 : Nat → ByteArray → Int → List Int → ByteArray → Bool → Bool → Option (Bool)
 | 0, _, _, _, _, _, _ => none
 | k + 1, x0, x1, x5, x6, x7, x41 => if x41 = true then (if x7 = true then (some false) else (some (x6.toList == ([] : List UInt8)))) else (if x7 = true then (if (x6.size : Int) = x1 then ((rec_Words.f k x6).bind fun t190 => ((treillageref03_Handles.f k t190 x5).bind fun t193 => (some t193))) else (some false)) else (if x1 < (x0.size : Int) then (some (x6.toList == ([] : List UInt8))) else (some false)))
end
def treillagelaw11_RecTexts.f (k : Nat) (a0 : ByteArray) (a1 : Int) : Option (Bool) := if (a0.size : Int) > 300 then (treillagelaw11_RecTexts.j0 k a0 a1 true) else ((treillagelaw11_shown.f k).bind fun t183 => (treillagelaw11_RecTexts.j0 k a0 a1 (!t183)))
theorem treillagelaw11_RecTexts.mono_l : ∀ k, (∀ y0 y1 y2, LeO (treillagelaw11_RecTexts.j0 k y0 y1 y2) (treillagelaw11_RecTexts.j0 (k + 1) y0 y1 y2)) ∧ (∀ y0 y1 y2 y3 y4 y5, LeO (treillagelaw11_RecTexts.j1 k y0 y1 y2 y3 y4 y5) (treillagelaw11_RecTexts.j1 (k + 1) y0 y1 y2 y3 y4 y5))
 | 0 => ⟨fun _ _ _ r h => by simp [treillagelaw11_RecTexts.j0] at h, fun _ _ _ _ _ _ r h => by simp [treillagelaw11_RecTexts.j1] at h⟩
 | k + 1 => by
  obtain ⟨ih0, ih1⟩ := treillagelaw11_RecTexts.mono_l k; refine ⟨?_, ?_⟩
  ·intro y0 y1 y2
   unfold treillagelaw11_RecTexts.j0; repeat' first
   | (with_reducible exact ih0 _ _ _)
   | (with_reducible exact ih1 _ _ _ _ _ _)
   | (with_reducible exact rec_Text.mono _ _ _)
   | (with_reducible exact rec_Words.mono _ _)
   | (with_reducible exact treillagelaw11_shown.mono _)
   | (with_reducible exact treillageref03_Handles.mono _ _ _)
   | (with_reducible exact LeO.refl _)
   | (with_reducible exact LeO.none _)
   | (with_reducible refine LeO.ite ?_ ?_)
   | (with_reducible refine LeO.bind ?_ (fun _ => ?_))
   | exact ih0 _ _ _
   | exact ih1 _ _ _ _ _ _
   | exact rec_Text.mono _ _ _
   | exact rec_Words.mono _ _
   | exact treillagelaw11_shown.mono _
   | exact treillageref03_Handles.mono _ _ _
   | exact LeO.none _
   | refine LeO.ite ?_ ?_
   | refine LeO.bind ?_ (fun _ => ?_)
  ·intro y0 y1 y2 y3 y4 y5
   unfold treillagelaw11_RecTexts.j1; repeat' first
   | (with_reducible exact ih0 _ _ _)
   | (with_reducible exact ih1 _ _ _ _ _ _)
   | (with_reducible exact rec_Text.mono _ _ _)
   | (with_reducible exact rec_Words.mono _ _)
   | (with_reducible exact treillagelaw11_shown.mono _)
   | (with_reducible exact treillageref03_Handles.mono _ _ _)
   | (with_reducible exact LeO.refl _)
   | (with_reducible exact LeO.none _)
   | (with_reducible refine LeO.ite ?_ ?_)
   | (with_reducible refine LeO.bind ?_ (fun _ => ?_))
   | exact ih0 _ _ _
   | exact ih1 _ _ _ _ _ _
   | exact rec_Text.mono _ _ _
   | exact rec_Words.mono _ _
   | exact treillagelaw11_shown.mono _
   | exact treillageref03_Handles.mono _ _ _
   | exact LeO.none _
   | refine LeO.ite ?_ ?_
   | refine LeO.bind ?_ (fun _ => ?_)
theorem treillagelaw11_RecTexts.mono : ∀ a0 a1 k, LeO (treillagelaw11_RecTexts.f k a0 a1) (treillagelaw11_RecTexts.f (k + 1) a0 a1) := by
 intro a0 a1 k
 obtain ⟨ih0, ih1⟩ := treillagelaw11_RecTexts.mono_l k; unfold treillagelaw11_RecTexts.f
 repeat' first
   | (with_reducible exact ih0 _ _ _)
   | (with_reducible exact ih1 _ _ _ _ _ _)
   | (with_reducible exact rec_Text.mono _ _ _)
   | (with_reducible exact rec_Words.mono _ _)
   | (with_reducible exact treillagelaw11_shown.mono _)
   | (with_reducible exact treillageref03_Handles.mono _ _ _)
   | (with_reducible exact LeO.refl _)
   | (with_reducible exact LeO.none _)
   | (with_reducible refine LeO.ite ?_ ?_)
   | (with_reducible refine LeO.bind ?_ (fun _ => ?_))
   | exact ih0 _ _ _
   | exact ih1 _ _ _ _ _ _
   | exact rec_Text.mono _ _ _
   | exact rec_Words.mono _ _
   | exact treillagelaw11_shown.mono _
   | exact treillageref03_Handles.mono _ _ _
   | exact LeO.none _
   | refine LeO.ite ?_ ?_
   | refine LeO.bind ?_ (fun _ => ?_)
set_option maxHeartbeats 8000000 in
set_option maxRecDepth 100000 in
theorem treillagelaw11_RecTexts.calls1 (k : Nat) (a0 : ByteArray) (a1 : Int) (r : Bool) (w : World) (h : treillagelaw11_RecTexts.f k a0 a1 = some r) (hr_ : r = true) :
  Calls Try.prog 8 #[.string a0, .int .i64 a1] w fun e w' => e = .returned (.bool r) ∧ Below w.heap.size w w' := by
 have HB := aA (Below.refl w.heap.size w); have H : (if (a0.size : Int) > 300 then (treillagelaw11_RecTexts.j0 k a0 a1 true) else ((treillagelaw11_shown.f k).bind fun t183 => (treillagelaw11_RecTexts.j0 k a0 a1 (!t183)))) = some r := h; clear h; have HC3 := aA H; clear H; go_enter Try.func8, Try.ntmps8; go_upto_region 1 with (fail)
 go_cut [14] (fun v14 wc => ∃ (kq : Nat) (x14_2 : Bool), v14 = .bool x14_2 ∧ Aside0 (treillagelaw11_RecTexts.j0 kq a0 a1 x14_2 = some r) ∧ Aside0 (kq ≤ k) ∧ Aside0 (Below w.heap.size w wc))
 case first =>
  have H := HC3.out; clear HC3; by_cases c4 : (a0.size : Int) > 300
  ·rw [if_pos c4] at H; have c4b0 : decide (300 < (a0.size : Int)) = true := decide_eq_true c4; have c4b1 : decide (300 < a0.size) = true := decide_eq_true (by omega); clear c4; (first | rw [c4b0] | (simp only [i64_w, i32_w]; rw [c4b0]) | skip)
   have H' := aA H; clear H; go_wp2; (first | go_meet | (refine Met.intro ?_; go_step; (try rw [c4b0]); (repeat apply Exists.intro); refine ⟨?rel, rfl⟩))
   case rel => exact ⟨_, (true), (by first | rfl | (simp; done) | (simp [*]; done)), H', ⟨by first | omega | exact Nat.le_refl _⟩, ⟨by repeat (first | (with_reducible first | exact HB.out | apply below_alloc | apply pw_below_drewN | apply below_drew1) | exact HB.out)⟩⟩
  ·rw [if_neg c4] at H; have c4b0 : decide (300 < (a0.size : Int)) = false := decide_eq_false c4; have c4b1 : decide (300 < a0.size) = false := decide_eq_false (by omega); clear c4; (first | rw [c4b0] | (simp only [i64_w, i32_w]; rw [c4b0]) | skip)
   replace H := Option.bind_eq_some_iff.mp H; obtain ⟨t183, A50, H⟩ := H; replace H : (treillagelaw11_RecTexts.j0 k a0 a1 (!t183)) = some r := H; have A5 := aA A50; clear A50; have H' := aA H; clear H; go_wp2_with (first | (go_at_call 10; (with_reducible refine (treillagelaw11_shown.calls k  t183 _ A5.out).mono ?_); rintro e w6 ⟨rfl, hb⟩; have n0_ := aA (below_step (blw HB.out) hb); clear HB; have HB := n0_; clear n0_; (try clear hb); (try clear hb2); (try clear hk); (try clear hi)))
   (first | go_meet | (refine Met.intro ?_; go_step; (try rw [c4b0]); (repeat apply Exists.intro); refine ⟨?rel, rfl⟩))
   case rel => exact ⟨_, (!t183), (by first | rfl | (simp; done) | (simp [*]; done)), H', ⟨by first | omega | exact Nat.le_refl _⟩, ⟨by repeat (first | (with_reducible first | exact HB.out | apply below_alloc | apply pw_below_drewN | apply below_drew1) | exact HB.out)⟩⟩
 case rest =>
  clear HC3; try clear p2
  try clear c4
  try clear c4b0
  try clear c4b1
  obtain ⟨kq, x14_2, rfl, HA, HJ2, HB⟩ := hcut; cases kq with
  | zero => exact absurd HA.out (by simp [treillagelaw11_RecTexts.j0])
  | succ kj2 =>
   have H := HA.out; clear HA; simp only [treillagelaw11_RecTexts.j0] at H; by_cases c7 : x14_2 = true
   ·subst c7; have H1 : ((treillagelaw11_shown.f kj2).bind fun t184 => (some t184)) = some r := by rw [if_pos rfl] at H; exact H
    clear H; have H := H1; clear H1; replace H := Option.bind_eq_some_iff.mp H; obtain ⟨t184, A80, H⟩ := H; replace H : (some t184) = some r := H; have A8 := aA A80; clear A80; obtain rfl := Option.some.inj H; go_wp2_with (first | ((with_reducible refine gate_callee (f := 10) rfl ?_); refine goesL_ (some 15) rfl rfl Try.func10 (by kernel_rfl) rfl #[] rfl (by (try simp only [List.map_toArray, List.map_cons, List.map_nil]); first | done | rfl | (simp only [List.length_drop, List.length_take]; rfl)) ?_; (with_reducible refine (treillagelaw11_shown.calls kj2  t184 _ A8.out).mono ?_); rintro e w9 ⟨rfl, hb⟩; refine ⟨_, rfl, ?_⟩; have n0_ := aA (below_step (blw HB.out) hb); clear HB; have HB := n0_; clear n0_; (try clear hb); (try clear hb2); (try clear hk); (try clear hi)))
    go_ret
    exact ⟨by first | rfl | (simp [errW_none, errW_some] <;> rfl) | (simp [*, errW_none, errW_some] <;> rfl), by repeat (first | (with_reducible first | exact HB.out | apply below_alloc | apply pw_below_drewN | apply below_drew1) | exact HB.out)⟩
   ·replace c7 := Bool.eq_false_iff.mpr c7; subst c7; have H1 : ((rec_Words.f kj2 a0).bind fun t185 => ((rec_Text.f kj2 t185 a1).bind fun bt188 => (if a1 < 0 then (treillagelaw11_RecTexts.j1 kj2 a0 a1 t185 bt188.1 bt188.2 true) else (if (wrap64 (Int.tdiv (wrap64 (a1 + 7)) 8)) = (t185.length : Int) then (treillagelaw11_RecTexts.j1 kj2 a0 a1 t185 bt188.1 bt188.2 (decide (a1 > 1000))) else (if a1 ≤ 1000 then (treillagelaw11_RecTexts.j1 kj2 a0 a1 t185 bt188.1 bt188.2 true) else (treillagelaw11_RecTexts.j1 kj2 a0 a1 t185 bt188.1 bt188.2 (decide (a1 > 1000)))))))) = some r := by rw [if_neg (show ¬ (false = true) by decide)] at H; exact H
    clear H; have H := H1; clear H1; replace H := Option.bind_eq_some_iff.mp H; obtain ⟨t185, A100, H⟩ := H; replace H : ((rec_Text.f kj2 t185 a1).bind fun bt188 => (if a1 < 0 then (treillagelaw11_RecTexts.j1 kj2 a0 a1 t185 bt188.1 bt188.2 true) else (if (wrap64 (Int.tdiv (wrap64 (a1 + 7)) 8)) = (t185.length : Int) then (treillagelaw11_RecTexts.j1 kj2 a0 a1 t185 bt188.1 bt188.2 (decide (a1 > 1000))) else (if a1 ≤ 1000 then (treillagelaw11_RecTexts.j1 kj2 a0 a1 t185 bt188.1 bt188.2 true) else (treillagelaw11_RecTexts.j1 kj2 a0 a1 t185 bt188.1 bt188.2 (decide (a1 > 1000))))))) = some r := H; have A10 := aA A100; clear A100; replace H := Option.bind_eq_some_iff.mp H; obtain ⟨⟨t188, t189⟩, A110, H⟩ := H; replace H : (if a1 < 0 then (treillagelaw11_RecTexts.j1 kj2 a0 a1 t185 t188 t189 true) else (if (wrap64 (Int.tdiv (wrap64 (a1 + 7)) 8)) = (t185.length : Int) then (treillagelaw11_RecTexts.j1 kj2 a0 a1 t185 t188 t189 (decide (a1 > 1000))) else (if a1 ≤ 1000 then (treillagelaw11_RecTexts.j1 kj2 a0 a1 t185 t188 t189 true) else (treillagelaw11_RecTexts.j1 kj2 a0 a1 t185 t188 t189 (decide (a1 > 1000)))))) = some r := H; have A11 := aA A110; clear A110; have HC12 := aA H; clear H; go_upto_region 5 with (first | ((with_reducible refine gate_callee (f := 22) rfl ?_); refine goesL_ (some 17) rfl rfl Try.func22 (by kernel_rfl) rfl #[.string a0] rfl (by (try simp only [List.map_toArray, List.map_cons, List.map_nil]); first | done | rfl | (simp only [List.length_drop, List.length_take]; rfl)) ?_; (with_reducible refine (rec_Words.calls kj2 a0 t185 _ A10.out).mono ?_); rintro e w13 ⟨v186, rfl, ho0, hb⟩; refine ⟨_, rfl, ?_⟩; have n0_ := aA (Kd.R_lower ho0 (below_size (blw HB.out))); have n1_ := aA (below_step (blw HB.out) hb); clear HB; have HO187 := n0_; have HB := n1_; clear n0_ n1_; (try clear hb); (try clear hb2); (try clear hk); (try clear hi); (try clear ho0); obtain ⟨Ao14, co14, eo14⟩ := Kd.R_slice HO187.out; subst eo14) | ((with_reducible refine gate_callee (f := 20) rfl ?_); refine goesL_ (some 21) rfl rfl Try.func20 (by kernel_rfl) rfl #[.slice Ao14 t185.length co14, .int .i64 a1] rfl (by (try simp only [List.map_toArray, List.map_cons, List.map_nil]); first | done | rfl | (simp only [List.length_drop, List.length_take]; rfl)) ?_; (with_reducible refine (rec_Text.calls kj2 _ _ t185 a1 t188 t189 _ ?side1 ?side2 A11.out).mono ?_); (case side1 => repeat (first | exact (Kd.R_reads' HO187.out).2.2 | (with_reducible refine Kd.C_alloc ?_ _) | (with_reducible refine Kd.C_drewN ?_ _) | (with_reducible refine Kd.C_drew ?_))); (case side2 => exact (Kd.R_reads' HO187.out).2.1); rintro e w15 ⟨rfl, hb⟩; refine ⟨_, rfl, ?_⟩; have n0_ := aA (Kd.R_below (rlu HO187.out) hb); have n1_ := aA (below_step (blw HB.out) hb); clear HO187 HB; have HO187 := n0_; have HB := n1_; clear n0_ n1_; (try clear hb); (try clear hb2); (try clear hk); (try clear hi)))
    (try simp only [Act.put, List.setIfInBounds_toArray, List.set_cons_zero, List.set_cons_succ]); go_cut [41] (fun v41 wc => ∃ (kq : Nat) (x41_11 : Bool), v41 = .bool x41_11 ∧ Aside0 (treillagelaw11_RecTexts.j1 kq a0 a1 t185 t188 t189 x41_11 = some r) ∧ Aside0 (kq ≤ kj2) ∧ Aside0 (Kd.R (Kd.int .u64) 23 wc w.heap.size (fun _ => True) (.slice Ao14 t185.length co14) t185) ∧ Aside0 (Below w.heap.size w wc))
    case first =>
     have H := HC12.out; clear HC12; by_cases c16 : a1 < 0
     ·rw [if_pos c16] at H; have c16b0 : decide (a1 < 0) = true := decide_eq_true c16; clear c16; (first | rw [c16b0] | (simp only [i64_w, i32_w]; rw [c16b0]) | skip)
      have H' := aA H; clear H; go_wp2; (first | go_meet | (refine Met.intro ?_; go_step; (try rw [c16b0]); (repeat apply Exists.intro); refine ⟨?rel, rfl⟩))
      case rel => exact ⟨_, (true), (by first | rfl | (simp; done) | (simp [*]; done)), H', ⟨by have := HJ2.out; first | omega | exact Nat.le_refl _⟩, ⟨by (with_reducible repeat (first | apply Kd.R_alloc | apply Kd.R_drewN | apply Kd.R_drew)); exact HO187.out⟩, ⟨by repeat (first | (with_reducible first | exact HB.out | apply below_alloc | apply pw_below_drewN | apply below_drew1) | exact HB.out)⟩⟩
     ·rw [if_neg c16] at H; have c16b0 : decide (a1 < 0) = false := decide_eq_false c16; clear c16; (first | rw [c16b0] | (simp only [i64_w, i32_w]; rw [c16b0]) | skip)
      by_cases c17 : (wrap64 (Int.tdiv (wrap64 (a1 + 7)) 8)) = (t185.length : Int)
      ·rw [if_pos c17] at H; have c17b0 : ((wrap64 (Int.tdiv (wrap64 (a1 + 7)) 8)) == (t185.length : Int)) = true := beq_iff_eq.mpr c17; have c17b1 : ((wrap64 (Int.tdiv (wrap64 (a1 + 7)) 8)) != (t185.length : Int)) = false := bne_eq_false_iff_eq.mpr c17; clear c17; have H' := aA H; clear H; go_wp2; (first | go_meet | (refine Met.intro ?_; go_step; (try rw [c16b0]); (repeat apply Exists.intro); refine ⟨?rel, rfl⟩))
       case rel => exact ⟨_, (decide (a1 > 1000)), (by first | rfl | (simp; done) | (simp [*]; done)), H', ⟨by have := HJ2.out; first | omega | exact Nat.le_refl _⟩, ⟨by (with_reducible repeat (first | apply Kd.R_alloc | apply Kd.R_drewN | apply Kd.R_drew)); exact HO187.out⟩, ⟨by repeat (first | (with_reducible first | exact HB.out | apply below_alloc | apply pw_below_drewN | apply below_drew1) | exact HB.out)⟩⟩
      ·rw [if_neg c17] at H; have c17b0 : ((wrap64 (Int.tdiv (wrap64 (a1 + 7)) 8)) == (t185.length : Int)) = false := beq_eq_false_iff_ne.mpr c17; have c17b1 : ((wrap64 (Int.tdiv (wrap64 (a1 + 7)) 8)) != (t185.length : Int)) = true := bne_iff_ne.mpr c17; by_cases c18 : a1 ≤ 1000
       ·rw [if_pos c18] at H; have c18b0 : decide (a1 ≤ 1000) = true := decide_eq_true c18; clear c18; have H' := aA H; clear H; go_wp2; (first | go_meet | (refine Met.intro ?_; go_step; (try rw [c16b0]); (repeat apply Exists.intro); refine ⟨?rel, rfl⟩))
        case rel => exact ⟨_, (true), (by first | rfl | (simp; done) | (simp [*]; done)), H', ⟨by have := HJ2.out; first | omega | exact Nat.le_refl _⟩, ⟨by (with_reducible repeat (first | apply Kd.R_alloc | apply Kd.R_drewN | apply Kd.R_drew)); exact HO187.out⟩, ⟨by repeat (first | (with_reducible first | exact HB.out | apply below_alloc | apply pw_below_drewN | apply below_drew1) | exact HB.out)⟩⟩
       ·rw [if_neg c18] at H; have c18b0 : decide (a1 ≤ 1000) = false := decide_eq_false c18; clear c18; have H' := aA H; clear H; go_wp2; (first | go_meet | (refine Met.intro ?_; go_step; (try rw [c16b0]); (repeat apply Exists.intro); refine ⟨?rel, rfl⟩))
        case rel => exact ⟨_, (decide (a1 > 1000)), (by first | rfl | (simp; done) | (simp [*]; done)), H', ⟨by have := HJ2.out; first | omega | exact Nat.le_refl _⟩, ⟨by (with_reducible repeat (first | apply Kd.R_alloc | apply Kd.R_drewN | apply Kd.R_drew)); exact HO187.out⟩, ⟨by repeat (first | (with_reducible first | exact HB.out | apply below_alloc | apply pw_below_drewN | apply below_drew1) | exact HB.out)⟩⟩
    case rest =>
     clear HC12; try clear c1
     try clear c2
     try clear p2
     try clear c4
     try clear c4b0
     try clear c4b1
     try clear p6
     try clear c7
     try clear c8
     try clear c10
     try clear c16
     try clear c16b0
     try clear c17
     try clear c17b0
     try clear c17b1
     try clear c18
     try clear c18b0
     try clear p2
     obtain ⟨kq, x41_11, rfl, HA, HJ11, HO_5, HB⟩ := hcut; cases kq with
     | zero => exact absurd HA.out (by simp [treillagelaw11_RecTexts.j1])
     | succ kj11 =>
      have H := HA.out; clear HA; simp only [treillagelaw11_RecTexts.j1] at H; by_cases c19 : x41_11 = true
      ·subst c19; have H1 : (if t189 = true then (some false) else (some (t188.toList == ([] : List UInt8)))) = some r := by rw [if_pos rfl] at H; exact H
       clear H; have H := H1; clear H1; by_cases c20 : t189 = true
       ·subst c20; have H1 : (some false) = some r := by rw [if_pos rfl] at H; exact H
        clear H; have H := H1; clear H1; exact absurd ((Option.some.inj H).trans hr_) (by decide)
       ·replace c20 := Bool.eq_false_iff.mpr c20; subst c20; have H1 : (some (t188.toList == ([] : List UInt8))) = some r := by rw [if_neg (show ¬ (false = true) by decide)] at H; exact H
        clear H; have H := H1; clear H1; obtain rfl := Option.some.inj H; go_wp2; go_ret
        exact ⟨by first | rfl | (simp [errW_none, errW_some] <;> rfl) | (simp [*, errW_none, errW_some] <;> rfl), by repeat (first | (with_reducible first | exact HB.out | apply below_alloc | apply pw_below_drewN | apply below_drew1) | exact HB.out)⟩
      ·replace c19 := Bool.eq_false_iff.mpr c19; subst c19; have H1 : (if t189 = true then (if (t188.size : Int) = a1 then ((rec_Words.f kj11 t188).bind fun t190 => ((treillageref03_Handles.f kj11 t190 t185).bind fun t193 => (some t193))) else (some false)) else (if a1 < (a0.size : Int) then (some (t188.toList == ([] : List UInt8))) else (some false))) = some r := by rw [if_neg (show ¬ (false = true) by decide)] at H; exact H
       clear H; have H := H1; clear H1; by_cases c21 : t189 = true
       ·subst c21; have H1 : (if (t188.size : Int) = a1 then ((rec_Words.f kj11 t188).bind fun t190 => ((treillageref03_Handles.f kj11 t190 t185).bind fun t193 => (some t193))) else (some false)) = some r := by rw [if_pos rfl] at H; exact H
        clear H; have H := H1; clear H1; by_cases c22 : (t188.size : Int) = a1
        ·rw [if_pos c22] at H; have c22b0 : ((t188.size : Int) == a1) = true := beq_iff_eq.mpr c22; have c22b1 : ((t188.size : Int) != a1) = false := bne_eq_false_iff_eq.mpr c22; clear c22; replace H := Option.bind_eq_some_iff.mp H; obtain ⟨t190, A230, H⟩ := H; replace H : ((treillageref03_Handles.f kj11 t190 t185).bind fun t193 => (some t193)) = some r := H; have A23 := aA A230; clear A230; replace H := Option.bind_eq_some_iff.mp H; obtain ⟨t193, A240, H⟩ := H; replace H : (some t193) = some r := H; have A24 := aA A240; clear A240; obtain rfl := Option.some.inj H; go_wp2_with (first | (go_at_call 22; (with_reducible refine (rec_Words.calls kj11 t188 t190 _ A23.out).mono ?_); rintro e w25 ⟨v191, rfl, ho0, hb⟩; have n0_ := aA (Kd.R_elder' (rlu HO_5.out) (Kd.R_base ho0) hb); have n1_ := aA (Kd.R_lower (Kd.R_new' ho0 (Kd.R_lt (rlu HO_5.out))) (below_size (blw HB.out))); have n2_ := aA (below_step (blw HB.out) hb); clear HO_5 HB; have HO_5 := n0_; have HO192 := n1_; have HB := n2_; clear n0_ n1_ n2_; (try clear hb); (try clear hb2); (try clear hk); (try clear hi); (try clear ho0); obtain ⟨Ao26, co26, eo26⟩ := Kd.R_slice HO192.out; subst eo26) | (go_at_call 18; (with_reducible refine (treillageref03_Handles.calls kj11 _ _ t190 _ _ t185 t193 _ ?side1 ?side2 ?side3 ?side4 A24.out).mono ?_); (case side1 => repeat (first | exact (Kd.R_reads' HO192.out).2.2 | (with_reducible refine Kd.C_alloc ?_ _) | (with_reducible refine Kd.C_drewN ?_ _) | (with_reducible refine Kd.C_drew ?_))); (case side2 => exact (Kd.R_reads' HO192.out).2.1); (case side3 => repeat (first | exact (Kd.R_reads' HO_5.out).2.2 | (with_reducible refine Kd.C_alloc ?_ _) | (with_reducible refine Kd.C_drewN ?_ _) | (with_reducible refine Kd.C_drew ?_))); (case side4 => exact (Kd.R_reads' HO_5.out).2.1); rintro e w' ⟨rfl, ⟨nd, rfl⟩⟩))
         go_ret
         exact ⟨by first | rfl | (simp [errW_none, errW_some] <;> rfl) | (simp [*, errW_none, errW_some] <;> rfl), by repeat (first | (with_reducible first | exact HB.out | apply below_alloc | apply pw_below_drewN | apply below_drew1) | exact HB.out)⟩
        ·rw [if_neg c22] at H; have c22b0 : ((t188.size : Int) == a1) = false := beq_eq_false_iff_ne.mpr c22; have c22b1 : ((t188.size : Int) != a1) = true := bne_iff_ne.mpr c22; exact absurd ((Option.some.inj H).trans hr_) (by decide)
       ·replace c21 := Bool.eq_false_iff.mpr c21; subst c21; have H1 : (if a1 < (a0.size : Int) then (some (t188.toList == ([] : List UInt8))) else (some false)) = some r := by rw [if_neg (show ¬ (false = true) by decide)] at H; exact H
        clear H; have H := H1; clear H1; by_cases c27 : a1 < (a0.size : Int)
        ·rw [if_pos c27] at H; have c27b0 : decide (a1 < (a0.size : Int)) = true := decide_eq_true c27; clear c27; obtain rfl := Option.some.inj H; go_wp2; go_ret
         exact ⟨by first | rfl | (simp [errW_none, errW_some] <;> rfl) | (simp [*, errW_none, errW_some] <;> rfl), by repeat (first | (with_reducible first | exact HB.out | apply below_alloc | apply pw_below_drewN | apply below_drew1) | exact HB.out)⟩
        ·rw [if_neg c27] at H; have c27b0 : decide (a1 < (a0.size : Int)) = false := decide_eq_false c27; clear c27; exact absurd ((Option.some.inj H).trans hr_) (by decide)

/-- THE ONE PURE STATEMENT of treillagelaw11_RecTexts: yours. -/
theorem treillagelaw11_RecTexts.calls (k : Nat) (a0 : ByteArray) (a1 : Int) (r : Bool) (w : World) (h : treillagelaw11_RecTexts.f k a0 a1 = some true) :
  Calls Try.prog 8 #[.string a0, .int .i64 a1] w fun e w' => e = .returned (.bool true) ∧ Below w.heap.size w w' := treillagelaw11_RecTexts.calls1 k a0 a1 true w h rfl
def treillagelaw11_RecTexts.Pure : Prop := ∀ (a0 : ByteArray) (a1 : Int), a0.size ≤ 140737488351232 → (Lit.int .i64 a1).wf = true → ∃ k, treillagelaw11_RecTexts.f k a0 a1 = some true
theorem treillagelaw11_RecTexts.walk (P : treillagelaw11_RecTexts.Pure) (a0 : ByteArray) (a1 : Int) (w : World) (w0 : a0.size ≤ 140737488351232) (w1 : (Lit.int .i64 a1).wf = true) :
  Calls Try.prog 8 #[.string a0, .int .i64 a1] w fun e w' => e = .returned (.bool true) ∧ Below w.heap.size w w' := by
 obtain ⟨k, h⟩ := P a0 a1 w0 w1; refine (treillagelaw11_RecTexts.calls k a0 a1 true w h).mono ?_; rintro e w' ⟨rfl, hd⟩
 exact ⟨rfl, hd⟩

/-! ### treillagelaw11_bounded: function 9 -/
def treillagelaw11_bounded.l0 : Nat → Int → Int → Int → ByteArray → ByteArray → List ByteArray → Int → Int → Option (Bool)
 | 0, _, _, _, _, _, _, _, _ => none
 | k + 1, x3, x195000, x195001, x195002, x195003, x195004, x195005, x195006 => if x3 < (x195004.length : Int) then (if 0 ≤ x3 then (if ((rdOf ByteArray.empty x195004 x3).size : Int) > 100 then (some false) else (treillagelaw11_bounded.l0 k (wrap64 (x3 + 1)) x195000 x195001 x195002 x195003 x195004 x195005 x195006)) else (none)) else (if (x195002.size : Int) ≤ 100 then (if (x195003.size : Int) ≤ 100 then (some (decide ((x195004.length : Int) ≤ 30))) else (some false)) else (some false))
def treillagelaw11_bounded.f (k : Nat) (a0_0 : Int) (a0_1 : Int) (a0_2 : ByteArray) (a0_3 : ByteArray) (l0_4 : List ByteArray) (a0_5 : Int) (a0_6 : Int) : Option (Bool) := treillagelaw11_bounded.l0 k 0 a0_0 a0_1 a0_2 a0_3 l0_4 a0_5 a0_6
theorem treillagelaw11_bounded.mono_l : ∀ k, (∀ y0 y1 y2 y3 y4 y5 y6 y7, LeO (treillagelaw11_bounded.l0 k y0 y1 y2 y3 y4 y5 y6 y7) (treillagelaw11_bounded.l0 (k + 1) y0 y1 y2 y3 y4 y5 y6 y7))
 | 0 => fun _ _ _ _ _ _ _ _ r h => by simp [treillagelaw11_bounded.l0] at h
 | k + 1 => by
  have ih0 := treillagelaw11_bounded.mono_l k
  ·intro y0 y1 y2 y3 y4 y5 y6 y7
   unfold treillagelaw11_bounded.l0; repeat' first
   | (with_reducible exact ih0 _ _ _ _ _ _ _ _)
   | (with_reducible exact LeO.refl _)
   | (with_reducible exact LeO.none _)
   | (with_reducible refine LeO.ite ?_ ?_)
   | (with_reducible refine LeO.bind ?_ (fun _ => ?_))
   | exact ih0 _ _ _ _ _ _ _ _
   | exact LeO.none _
   | refine LeO.ite ?_ ?_
   | refine LeO.bind ?_ (fun _ => ?_)
theorem treillagelaw11_bounded.mono : ∀ a0 a1 a2 a3 a4 a5 a6 k, LeO (treillagelaw11_bounded.f k a0 a1 a2 a3 a4 a5 a6) (treillagelaw11_bounded.f (k + 1) a0 a1 a2 a3 a4 a5 a6) := by
 intro a0 a1 a2 a3 a4 a5 a6 k
 have ih0 := treillagelaw11_bounded.mono_l k; unfold treillagelaw11_bounded.f
 repeat' first
   | (with_reducible exact ih0 _ _ _ _ _ _ _ _)
   | (with_reducible exact LeO.refl _)
   | (with_reducible exact LeO.none _)
   | (with_reducible refine LeO.ite ?_ ?_)
   | (with_reducible refine LeO.bind ?_ (fun _ => ?_))
   | exact ih0 _ _ _ _ _ _ _ _
   | exact LeO.none _
   | refine LeO.ite ?_ ?_
   | refine LeO.bind ?_ (fun _ => ?_)
set_option maxHeartbeats 8000000 in
set_option maxRecDepth 100000 in
theorem treillagelaw11_bounded.calls (k : Nat) (a0_0 : Int) (a0_1 : Int) (a0_2 : ByteArray) (a0_3 : ByteArray) (A0_4 : Option Addr) (c0_4 : Nat) (l0_4 : List ByteArray) (a0_5 : Int) (a0_6 : Int) (r : Bool) (w : World) (hr0_4 : Kd.C Kd.string w A0_4 l0_4.length l0_4) (hc0_4 : l0_4.length ≤ c0_4) (h : treillagelaw11_bounded.f k a0_0 a0_1 a0_2 a0_3 l0_4 a0_5 a0_6 = some r) :
  Calls Try.prog 9 #[.agg #[.int .i64 a0_0, .int .i64 a0_1, .string a0_2, .string a0_3, .slice A0_4 l0_4.length c0_4, .int .u64 a0_5, .int .i64 a0_6]] w fun e w' => e = .returned (.bool r) ∧ Below w.heap.size w w' := by
 have hu27 := Try.underlying27; have HR0_4 := aA hr0_4; have HC0_4 := aA hc0_4; clear hr0_4 hc0_4; have HB := aA (Below.refl w.heap.size w); have H : (treillagelaw11_bounded.l0 k 0 a0_0 a0_1 a0_2 a0_3 l0_4 a0_5 a0_6) = some r := h; clear h; have H' := aA H; clear H; go_enter Try.func9, Try.ntmps9; go_wp2_with (first | ((with_reducible refine gate_dst (N := 1) rfl ?_); (try (refine gate_guard (by rfl) ?_; dsimp only)); refine box_event ?hg (N := 1) ?hd (cs := #[.int .i64 a0_0, .int .i64 a0_1, .string a0_2, .string a0_3, .slice A0_4 l0_4.length c0_4, .int .u64 a0_5, .int .i64 a0_6]) (t := 27) ?hr ?_; (case hd => rfl); (case hg => rfl); (case hr => first | (go_simp; done) | (go_simp; rfl)); intro gb194 hg w2 hbox hb; have n0_ := aA (below_step (blw HB.out) hb); have n1_ := aA (hbox); have n2_ := aA ((by rw [hg]; exact (below_size (blw HB.out)) : w.heap.size ≤ gb194)); have n3_ := aA ((by rw [hg]; exact (below_size (blw HB.out)) : w.heap.size ≤ gb194)); clear HB; have HB := n0_; have BK194 := n1_; have GW194 := n2_; have GE194 := n3_; clear n0_ n1_ n2_ n3_ hb hbox hg))
 go_loopg [3] k (fun kq v3 w' => ∃ (x3_1 : Int), v3 = .int .i64 x3_1 ∧ Aside0 (treillagelaw11_bounded.l0 kq x3_1 a0_0 a0_1 a0_2 a0_3 l0_4 a0_5 a0_6 = some r) ∧ Aside0 (kq ≤ k) ∧ Aside0 (w'.heap[gb194]? = some (.cells #[.int .i64 a0_0, .int .i64 a0_1, .string a0_2, .string a0_3, (.slice A0_4 l0_4.length c0_4), .int .u64 a0_5, .int .i64 a0_6] 27 (0, 0))) ∧ Aside0 (Below w.heap.size w w'))
 case atStart => exact ⟨(0), (by first | rfl | (simp; done) | (simp [*]; done)), H', ⟨Nat.le_refl _⟩, ⟨by (with_reducible repeat (first | refine blk_drewN ?_ _ | refine blk_drew ?_ | refine blk_alloc ?_ _)); exact BK194.out⟩, ⟨by repeat (first | (with_reducible first | exact HB.out | apply below_alloc | apply pw_below_drewN | apply below_drew1 | refine below_set ?_ GE194.out) | exact HB.out)⟩⟩
 case round =>
  clear H'; try clear p2
  obtain ⟨x3_1, rfl, HA, HK1, BK194, HB⟩ := hrel; cases gk with
  | zero => exact absurd HA.out (by simp [treillagelaw11_bounded.l0])
  | succ k1 =>
   have H := HA.out; clear HA; simp only [treillagelaw11_bounded.l0] at H; by_cases c3 : x3_1 < (l0_4.length : Int)
   ·rw [if_pos c3] at H; have c3b0 : decide (x3_1 < (l0_4.length : Int)) = true := decide_eq_true c3; clear c3; by_cases c4 : 0 ≤ x3_1
    rotate_left
    ·rw [if_neg c4] at H; exact absurd H (by simp)
    rw [if_pos c4] at H; have c4b0 : decide (0 ≤ x3_1) = true := decide_eq_true c4; clear c4; by_cases c5 : ((rdOf ByteArray.empty l0_4 x3_1).size : Int) > 100
    ·rw [if_pos c5] at H; have c5b0 : decide (100 < ((rdOf ByteArray.empty l0_4 x3_1).size : Int)) = true := decide_eq_true c5; have c5b1 : decide (100 < (rdOf ByteArray.empty l0_4 x3_1).size) = true := decide_eq_true (by omega); clear c5; obtain rfl := Option.some.inj H; have hcz6_0 : wr.cell? ⟨gb194, 0, none⟩ = some (.int .i64 a0_0) := (blk_cell BK194.out 0).trans rfl; have hcz6_1 : wr.cell? ⟨gb194, 1, none⟩ = some (.int .i64 a0_1) := (blk_cell BK194.out 1).trans rfl; have hcz6_2 : wr.cell? ⟨gb194, 2, none⟩ = some (.string a0_2) := (blk_cell BK194.out 2).trans rfl; have hcz6_3 : wr.cell? ⟨gb194, 3, none⟩ = some (.string a0_3) := (blk_cell BK194.out 3).trans rfl; have hcz6_4 : wr.cell? ⟨gb194, 4, none⟩ = some (.slice A0_4 l0_4.length c0_4) := (blk_cell BK194.out 4).trans rfl; have hcz6_5 : wr.cell? ⟨gb194, 5, none⟩ = some (.int .u64 a0_5) := (blk_cell BK194.out 5).trans rfl; have hcz6_6 : wr.cell? ⟨gb194, 6, none⟩ = some (.int .i64 a0_6) := (blk_cell BK194.out 6).trans rfl; have hfz6_0 := blk_frozen BK194.out 0; have hfz6_1 := blk_frozen BK194.out 1; have hfz6_2 := blk_frozen BK194.out 2; have hfz6_3 := blk_frozen BK194.out 3; have hfz6_4 := blk_frozen BK194.out 4; have hfz6_5 := blk_frozen BK194.out 5; have hfz6_6 := blk_frozen BK194.out 6; have p195 : 0 ≤ (x3_1 : Int) := of_decide_eq_true (by first | (with_reducible assumption) | assumption); have q195 : x3_1 < (l0_4.length : Int) := of_decide_eq_true (by first | (with_reducible assumption) | assumption); obtain ⟨ad195, e195, hx195_0⟩ := Kd.at_string HR0_4.out x3_1 p195 q195; cases e195
     replace hx195_0 := (HB.out.cell (World.block_lt_of_cell? w _ hx195_0)).trans hx195_0; replace p195 := eq_true p195; replace q195 := eq_true q195; go_wp2; go_ret
     exact ⟨by first | rfl | (simp [errW_none, errW_some] <;> rfl) | (simp [*, errW_none, errW_some] <;> rfl), by repeat (first | (with_reducible first | exact HB.out | apply below_alloc | apply pw_below_drewN | apply below_drew1 | refine below_set ?_ GE194.out) | exact HB.out)⟩
    ·rw [if_neg c5] at H; have c5b0 : decide (100 < ((rdOf ByteArray.empty l0_4 x3_1).size : Int)) = false := decide_eq_false c5; have c5b1 : decide (100 < (rdOf ByteArray.empty l0_4 x3_1).size) = false := decide_eq_false (by omega); clear c5; have H' := aA H; clear H; have hcz7_0 : wr.cell? ⟨gb194, 0, none⟩ = some (.int .i64 a0_0) := (blk_cell BK194.out 0).trans rfl; have hcz7_1 : wr.cell? ⟨gb194, 1, none⟩ = some (.int .i64 a0_1) := (blk_cell BK194.out 1).trans rfl; have hcz7_2 : wr.cell? ⟨gb194, 2, none⟩ = some (.string a0_2) := (blk_cell BK194.out 2).trans rfl; have hcz7_3 : wr.cell? ⟨gb194, 3, none⟩ = some (.string a0_3) := (blk_cell BK194.out 3).trans rfl; have hcz7_4 : wr.cell? ⟨gb194, 4, none⟩ = some (.slice A0_4 l0_4.length c0_4) := (blk_cell BK194.out 4).trans rfl; have hcz7_5 : wr.cell? ⟨gb194, 5, none⟩ = some (.int .u64 a0_5) := (blk_cell BK194.out 5).trans rfl; have hcz7_6 : wr.cell? ⟨gb194, 6, none⟩ = some (.int .i64 a0_6) := (blk_cell BK194.out 6).trans rfl; have hfz7_0 := blk_frozen BK194.out 0; have hfz7_1 := blk_frozen BK194.out 1; have hfz7_2 := blk_frozen BK194.out 2; have hfz7_3 := blk_frozen BK194.out 3; have hfz7_4 := blk_frozen BK194.out 4; have hfz7_5 := blk_frozen BK194.out 5; have hfz7_6 := blk_frozen BK194.out 6; have p195 : 0 ≤ (x3_1 : Int) := of_decide_eq_true (by first | (with_reducible assumption) | assumption); have q195 : x3_1 < (l0_4.length : Int) := of_decide_eq_true (by first | (with_reducible assumption) | assumption); obtain ⟨ad195, e195, hx195_0⟩ := Kd.at_string HR0_4.out x3_1 p195 q195; cases e195
     replace hx195_0 := (HB.out.cell (World.block_lt_of_cell? w _ hx195_0)).trans hx195_0; replace p195 := eq_true p195; replace q195 := eq_true q195; go_wp2; go_roundg k1
     case measure => have := HK1.out; omega
     case rel => exact ⟨(wrap64 (x3_1 + 1)), (by first | rfl | (simp; done) | (simp [*]; done)), H', ⟨by have := HK1.out; omega⟩, ⟨by (with_reducible repeat (first | refine blk_drewN ?_ _ | refine blk_drew ?_ | refine blk_alloc ?_ _)); exact BK194.out⟩, ⟨by repeat (first | (with_reducible first | exact HB.out | apply below_alloc | apply pw_below_drewN | apply below_drew1 | refine below_set ?_ GE194.out) | exact HB.out)⟩⟩
   ·rw [if_neg c3] at H; have c3b0 : decide (x3_1 < (l0_4.length : Int)) = false := decide_eq_false c3; clear c3; by_cases c8 : (a0_2.size : Int) ≤ 100
    ·rw [if_pos c8] at H; have c8b0 : decide ((a0_2.size : Int) ≤ 100) = true := decide_eq_true c8; have c8b1 : decide (a0_2.size ≤ 100) = true := decide_eq_true (by omega); clear c8; by_cases c9 : (a0_3.size : Int) ≤ 100
     ·rw [if_pos c9] at H; have c9b0 : decide ((a0_3.size : Int) ≤ 100) = true := decide_eq_true c9; have c9b1 : decide (a0_3.size ≤ 100) = true := decide_eq_true (by omega); clear c9; obtain rfl := Option.some.inj H; have hcz10_0 : wr.cell? ⟨gb194, 0, none⟩ = some (.int .i64 a0_0) := (blk_cell BK194.out 0).trans rfl; have hcz10_1 : wr.cell? ⟨gb194, 1, none⟩ = some (.int .i64 a0_1) := (blk_cell BK194.out 1).trans rfl; have hcz10_2 : wr.cell? ⟨gb194, 2, none⟩ = some (.string a0_2) := (blk_cell BK194.out 2).trans rfl; have hcz10_3 : wr.cell? ⟨gb194, 3, none⟩ = some (.string a0_3) := (blk_cell BK194.out 3).trans rfl; have hcz10_4 : wr.cell? ⟨gb194, 4, none⟩ = some (.slice A0_4 l0_4.length c0_4) := (blk_cell BK194.out 4).trans rfl; have hcz10_5 : wr.cell? ⟨gb194, 5, none⟩ = some (.int .u64 a0_5) := (blk_cell BK194.out 5).trans rfl; have hcz10_6 : wr.cell? ⟨gb194, 6, none⟩ = some (.int .i64 a0_6) := (blk_cell BK194.out 6).trans rfl; have hfz10_0 := blk_frozen BK194.out 0; have hfz10_1 := blk_frozen BK194.out 1; have hfz10_2 := blk_frozen BK194.out 2; have hfz10_3 := blk_frozen BK194.out 3; have hfz10_4 := blk_frozen BK194.out 4; have hfz10_5 := blk_frozen BK194.out 5; have hfz10_6 := blk_frozen BK194.out 6; go_wp2; go_ret
      exact ⟨by first | rfl | (simp [errW_none, errW_some] <;> rfl) | (simp [*, errW_none, errW_some] <;> rfl), by repeat (first | (with_reducible first | exact HB.out | apply below_alloc | apply pw_below_drewN | apply below_drew1 | refine below_set ?_ GE194.out) | exact HB.out)⟩
     ·rw [if_neg c9] at H; have c9b0 : decide ((a0_3.size : Int) ≤ 100) = false := decide_eq_false c9; have c9b1 : decide (a0_3.size ≤ 100) = false := decide_eq_false (by omega); clear c9; obtain rfl := Option.some.inj H; have hcz11_0 : wr.cell? ⟨gb194, 0, none⟩ = some (.int .i64 a0_0) := (blk_cell BK194.out 0).trans rfl; have hcz11_1 : wr.cell? ⟨gb194, 1, none⟩ = some (.int .i64 a0_1) := (blk_cell BK194.out 1).trans rfl; have hcz11_2 : wr.cell? ⟨gb194, 2, none⟩ = some (.string a0_2) := (blk_cell BK194.out 2).trans rfl; have hcz11_3 : wr.cell? ⟨gb194, 3, none⟩ = some (.string a0_3) := (blk_cell BK194.out 3).trans rfl; have hcz11_4 : wr.cell? ⟨gb194, 4, none⟩ = some (.slice A0_4 l0_4.length c0_4) := (blk_cell BK194.out 4).trans rfl; have hcz11_5 : wr.cell? ⟨gb194, 5, none⟩ = some (.int .u64 a0_5) := (blk_cell BK194.out 5).trans rfl; have hcz11_6 : wr.cell? ⟨gb194, 6, none⟩ = some (.int .i64 a0_6) := (blk_cell BK194.out 6).trans rfl; have hfz11_0 := blk_frozen BK194.out 0; have hfz11_1 := blk_frozen BK194.out 1; have hfz11_2 := blk_frozen BK194.out 2; have hfz11_3 := blk_frozen BK194.out 3; have hfz11_4 := blk_frozen BK194.out 4; have hfz11_5 := blk_frozen BK194.out 5; have hfz11_6 := blk_frozen BK194.out 6; go_wp2; go_ret
      exact ⟨by first | rfl | (simp [errW_none, errW_some] <;> rfl) | (simp [*, errW_none, errW_some] <;> rfl), by repeat (first | (with_reducible first | exact HB.out | apply below_alloc | apply pw_below_drewN | apply below_drew1 | refine below_set ?_ GE194.out) | exact HB.out)⟩
    ·rw [if_neg c8] at H; have c8b0 : decide ((a0_2.size : Int) ≤ 100) = false := decide_eq_false c8; have c8b1 : decide (a0_2.size ≤ 100) = false := decide_eq_false (by omega); clear c8; obtain rfl := Option.some.inj H; have hcz12_0 : wr.cell? ⟨gb194, 0, none⟩ = some (.int .i64 a0_0) := (blk_cell BK194.out 0).trans rfl; have hcz12_1 : wr.cell? ⟨gb194, 1, none⟩ = some (.int .i64 a0_1) := (blk_cell BK194.out 1).trans rfl; have hcz12_2 : wr.cell? ⟨gb194, 2, none⟩ = some (.string a0_2) := (blk_cell BK194.out 2).trans rfl; have hcz12_3 : wr.cell? ⟨gb194, 3, none⟩ = some (.string a0_3) := (blk_cell BK194.out 3).trans rfl; have hcz12_4 : wr.cell? ⟨gb194, 4, none⟩ = some (.slice A0_4 l0_4.length c0_4) := (blk_cell BK194.out 4).trans rfl; have hcz12_5 : wr.cell? ⟨gb194, 5, none⟩ = some (.int .u64 a0_5) := (blk_cell BK194.out 5).trans rfl; have hcz12_6 : wr.cell? ⟨gb194, 6, none⟩ = some (.int .i64 a0_6) := (blk_cell BK194.out 6).trans rfl; have hfz12_0 := blk_frozen BK194.out 0; have hfz12_1 := blk_frozen BK194.out 1; have hfz12_2 := blk_frozen BK194.out 2; have hfz12_3 := blk_frozen BK194.out 3; have hfz12_4 := blk_frozen BK194.out 4; have hfz12_5 := blk_frozen BK194.out 5; have hfz12_6 := blk_frozen BK194.out 6; go_wp2; go_ret
     exact ⟨by first | rfl | (simp [errW_none, errW_some] <;> rfl) | (simp [*, errW_none, errW_some] <;> rfl), by repeat (first | (with_reducible first | exact HB.out | apply below_alloc | apply pw_below_drewN | apply below_drew1 | refine below_set ?_ GE194.out) | exact HB.out)⟩

end Go.Proofs.Ytdjkadfgmhmhcaa.PA
