-- Written by wip/hprint/hprint.py (a program of this session, over the print): not typed by hand
import Derived.Test.YtdjkadfgmhmhcaaPAx0
import Derived.Test.YtdjkadfgmhmhcaaPAx2
import Derived.Test.YtdjkadfgmhmhcaaPAx5
namespace Go.Proofs.Ytdjkadfgmhmhcaa.PA
open Go.RowKit Go.Proofs.YtdjkadfgmhmhcaaW.PrintWords Go.Proofs.YtdjkadfgmhmhcaaW.PrintLast Go.Proofs.YtdjkadfgmhmhcaaW.PrintMore
attribute [local go_sem] max2_int min2_int max_two min_two max_three min_three max_four min_four   -- for this text's walks alone
open Go.Proofs.YtdjkadfgmhmhcaaH
set_option linter.unusedVariables false
set_option linter.unusedSimpArgs false

/-! ### treillageref11_Words: function 23 -/
mutual
def treillageref11_Words.l0 : Nat → ByteArray → List Int → Int → Option (List Int)
 | 0, _, _, _ => none
 | k + 1, x0, x3, x4 => if x4 < (x0.size : Int) then (treillageref11_Words.l1 k x0 x3 x4 0 (mn (wrap64 (x4 + 7)) (wrap64 ((x0.size : Int) - 1)))) else (some x3)
def treillageref11_Words.l1 : Nat → ByteArray → List Int → Int → Int → Int → Option (List Int)
 | 0, _, _, _, _, _ => none
 | k + 1, x0, x3, x4, x5, x6 => if x6 ≥ x4 then (if 0 ≤ x6 then (if x6 < (x0.size : Int) then (treillageref11_Words.l1 k x0 x3 x4 (IntKind.u64.wrap ((IntKind.u64.wrap (x5 * 256)) + (IntKind.u64.wrap (bt x0 x6)))) (wrap64 (x6 - 1))) else (none)) else (none)) else (if x3.length < 17592186044416 then (treillageref11_Words.l0 k x0 (x3 ++ [x5]) (wrap64 (x4 + 8))) else (none))
end
def treillageref11_Words.f (k : Nat) (a0 : ByteArray) : Option (List Int) := treillageref11_Words.l0 k a0 (([] : List Int)) 0
theorem treillageref11_Words.mono_l : ∀ k, (∀ y0 y1 y2, LeO (treillageref11_Words.l0 k y0 y1 y2) (treillageref11_Words.l0 (k + 1) y0 y1 y2)) ∧ (∀ y0 y1 y2 y3 y4, LeO (treillageref11_Words.l1 k y0 y1 y2 y3 y4) (treillageref11_Words.l1 (k + 1) y0 y1 y2 y3 y4))
 | 0 => ⟨fun _ _ _ r h => by simp [treillageref11_Words.l0] at h, fun _ _ _ _ _ r h => by simp [treillageref11_Words.l1] at h⟩
 | k + 1 => by
  obtain ⟨ih0, ih1⟩ := treillageref11_Words.mono_l k; refine ⟨?_, ?_⟩
  ·intro y0 y1 y2
   unfold treillageref11_Words.l0; repeat' first
   | (with_reducible exact ih0 _ _ _)
   | (with_reducible exact ih1 _ _ _ _ _)
   | (with_reducible exact LeO.refl _)
   | (with_reducible exact LeO.none _)
   | (with_reducible refine LeO.ite ?_ ?_)
   | (with_reducible refine LeO.bind ?_ (fun _ => ?_))
   | exact ih0 _ _ _
   | exact ih1 _ _ _ _ _
   | exact LeO.none _
   | refine LeO.ite ?_ ?_
   | refine LeO.bind ?_ (fun _ => ?_)
  ·intro y0 y1 y2 y3 y4
   unfold treillageref11_Words.l1; repeat' first
   | (with_reducible exact ih0 _ _ _)
   | (with_reducible exact ih1 _ _ _ _ _)
   | (with_reducible exact LeO.refl _)
   | (with_reducible exact LeO.none _)
   | (with_reducible refine LeO.ite ?_ ?_)
   | (with_reducible refine LeO.bind ?_ (fun _ => ?_))
   | exact ih0 _ _ _
   | exact ih1 _ _ _ _ _
   | exact LeO.none _
   | refine LeO.ite ?_ ?_
   | refine LeO.bind ?_ (fun _ => ?_)
theorem treillageref11_Words.mono : ∀ a0 k, LeO (treillageref11_Words.f k a0) (treillageref11_Words.f (k + 1) a0) := by
 intro a0 k
 obtain ⟨ih0, ih1⟩ := treillageref11_Words.mono_l k; unfold treillageref11_Words.f
 repeat' first
   | (with_reducible exact ih0 _ _ _)
   | (with_reducible exact ih1 _ _ _ _ _)
   | (with_reducible exact LeO.refl _)
   | (with_reducible exact LeO.none _)
   | (with_reducible refine LeO.ite ?_ ?_)
   | (with_reducible refine LeO.bind ?_ (fun _ => ?_))
   | exact ih0 _ _ _
   | exact ih1 _ _ _ _ _
   | exact LeO.none _
   | refine LeO.ite ?_ ?_
   | refine LeO.bind ?_ (fun _ => ?_)
set_option maxHeartbeats 8000000 in
set_option maxRecDepth 100000 in
theorem treillageref11_Words.calls (k : Nat) (a0 : ByteArray) (r : List Int) (w : World) (h : treillageref11_Words.f k a0 = some r) :
  Calls Try.prog 23 #[.string a0] w fun e w' => ∃ v0_ : Value, e = .returned (v0_) ∧ Kd.R (Kd.int .u64) 23 w' w.heap.size (fun _ => True) v0_ r ∧ Below w.heap.size w w' := by
 have HB := aA (Below.refl w.heap.size w); have H : (treillageref11_Words.l0 k a0 (([] : List Int)) 0) = some r := h; clear h; obtain ⟨y149, hy149⟩ : ∃ y_ : List Int, y_ = (([] : List Int)) := ⟨_, rfl⟩; replace H : (treillageref11_Words.l0 k a0 y149 0) = some r := by first | (rw [hy149]; with_reducible exact H) | (have H2_ := (Option.bind_some _ _).symm.trans H; rw [hy149]; with_reducible exact H2_) | (have H2_ := (Option.bind_some _ _).symm.trans H; with_reducible exact H2_) | with_reducible exact H | (rw [hy149]; exact H) | exact H
 have Ny149 := aA hy149; clear hy149; have H' := aA H; clear H; go_enter Try.func23, Try.ntmps23; go_wp2_with (first | ((with_reducible refine gate_dst (N := 7) rfl ?_); refine Kd.R_lit (Kd.int .u64) _ 23 ?hg (N := 7) ?hd (xs := ([] : List Int)) (inner := []) (ok := fun _ => True) (okp := fun _ => True) ?hr ?hp (fun _ hk => hk) trivial (Below.refl _ _) (Nat.le_refl _) (by simp) ?_; (case hd => rfl); (case hg => rfl); (case hr => first | (go_simp; done) | (go_simp; rfl)); (case hp => exact (Reps.none _ _)); intro v150 w2 ho3 hb hg_ hnew_; clear hg_ hnew_; (first | rw [← Ny149.out] at ho3 | (simp only [Int.reduceToNat] at ho3; rw [← Ny149.out] at ho3)); have n0_ := aA (Kd.R_lower ho3 (below_size (blw HB.out))); have n1_ := aA (below_step (blw HB.out) hb); clear HB; have HO151 := n0_; have HB := n1_; clear n0_ n1_ hb ho3))
 go_loopg [3, 4] k (fun kq v3 v4 w' => ∃ (x3_1 : List Int) (x4_1 : Int), v4 = .int .i64 x4_1 ∧ Aside0 (treillageref11_Words.l0 kq a0 x3_1 x4_1 = some r) ∧ Aside0 (kq ≤ k) ∧ Aside0 (Kd.R (Kd.int .u64) 23 w' w.heap.size (fun _ => True) v3 x3_1) ∧ Aside0 (Below w.heap.size w w'))
 case atStart => exact ⟨(y149), (0), (by first | rfl | (simp; done) | (simp [*]; done)), H', ⟨Nat.le_refl _⟩, ⟨by (with_reducible repeat (first | apply Kd.R_alloc | apply Kd.R_drewN | apply Kd.R_drew)); exact HO151.out⟩, ⟨by repeat (first | (with_reducible first | exact HB.out | apply below_alloc | apply pw_below_drewN | apply below_drew1) | exact HB.out)⟩⟩
 case round =>
  clear H'; try clear c2
  try clear p2
  obtain ⟨x3_1, x4_1, rfl, HA, HK1, HO_3, HB⟩ := hrel; cases gk with
  | zero => exact absurd HA.out (by simp [treillageref11_Words.l0])
  | succ k1 =>
   have H := HA.out; clear HA; simp only [treillageref11_Words.l0] at H; by_cases c4 : x4_1 < (a0.size : Int)
   ·rw [if_pos c4] at H; have c4b0 : decide (x4_1 < (a0.size : Int)) = true := decide_eq_true c4; clear c4; obtain ⟨ji5, hji5⟩ : ∃ j_ : Int, (mn (wrap64 (x4_1 + 7)) (wrap64 ((a0.size : Int) - 1))) = j_ := ⟨_, rfl⟩; replace H : (treillageref11_Words.l1 k1 a0 x3_1 x4_1 0 ji5) = some r := by first | (rw [hji5] at H; exact H) | (simp only [hji5] at H ⊢; exact H)
    have hji5_ : (if (wrap64 ((a0.size : Int) - 1)) < (wrap64 (x4_1 + 7)) then (wrap64 ((a0.size : Int) - 1)) else (wrap64 (x4_1 + 7))) = ji5 := hji5; have H' := aA H; clear H; go_wp2; go_loopg [5, 6] k1 (fun kq v5 v6 w' => ∃ (x5_2 : Int) (x6_2 : Int), v5 = .int .u64 x5_2 ∧ v6 = .int .i64 x6_2 ∧ Aside0 (treillageref11_Words.l1 kq a0 x3_1 x4_1 x5_2 x6_2 = some r) ∧ Aside0 (kq ≤ k1) ∧ Aside0 (Kd.R (Kd.int .u64) 23 w' w.heap.size (fun _ => True) u3 x3_1) ∧ Aside0 (Below w.heap.size w w'))
    case atStart => exact ⟨(0), (ji5), (by first | rfl | (simp; done) | (simp [*]; done)), (by first | rfl | (simp; done) | (simp only [← hji5] <;> (first | rfl | simp)) | (simp [*]; done)), H', ⟨Nat.le_refl _⟩, ⟨by (with_reducible repeat (first | apply Kd.R_alloc | apply Kd.R_drewN | apply Kd.R_drew)); exact HO_3.out⟩, ⟨by repeat (first | (with_reducible first | exact HB.out | apply below_alloc | apply pw_below_drewN | apply below_drew1) | exact HB.out)⟩⟩
    case round =>
     clear H'; try clear c2
     try clear p2
     try clear c4
     try clear c4b0
     try clear p2
     obtain ⟨x5_2, x6_2, rfl, rfl, HA, HK2, HO_3, HB⟩ := hrel; cases gk with
     | zero => exact absurd HA.out (by simp [treillageref11_Words.l1])
     | succ k2 =>
      have H := HA.out; clear HA; simp only [treillageref11_Words.l1] at H; by_cases c6 : x6_2 ≥ x4_1
      ·rw [if_pos c6] at H; have c6b0 : decide (x4_1 ≤ x6_2) = true := decide_eq_true c6; clear c6; by_cases c7 : 0 ≤ x6_2
       rotate_left
       ·rw [if_neg c7] at H; exact absurd H (by simp)
       rw [if_pos c7] at H; have c7b0 : decide (0 ≤ x6_2) = true := decide_eq_true c7; clear c7; by_cases c8 : x6_2 < (a0.size : Int)
       rotate_left
       ·rw [if_neg c8] at H; exact absurd H (by simp)
       rw [if_pos c8] at H; have c8b0 : decide (x6_2 < (a0.size : Int)) = true := decide_eq_true c8; clear c8; have H' := aA H; clear H; have p9 : 0 ≤ (x6_2 : Int) := of_decide_eq_true (by first | (with_reducible assumption) | assumption); have q9 : x6_2 < (a0.size : Int) := of_decide_eq_true (by first | (with_reducible assumption) | assumption); have hx9 := bt_at a0 x6_2; replace p9 := eq_true p9; replace q9 := eq_true q9; go_wp2; go_roundg k2
       case measure => have := HK1.out; have := HK2.out; omega
       case rel => exact ⟨(IntKind.u64.wrap ((IntKind.u64.wrap (x5_2 * 256)) + (IntKind.u64.wrap (bt a0 x6_2)))), (wrap64 (x6_2 - 1)), (by first | rfl | (simp; done) | (simp [*]; done)), (by first | rfl | (simp; done) | (simp [*]; done)), H', ⟨by have := HK1.out; have := HK2.out; omega⟩, ⟨by (with_reducible repeat (first | apply Kd.R_alloc | apply Kd.R_drewN | apply Kd.R_drew)); exact HO_3.out⟩, ⟨by repeat (first | (with_reducible first | exact HB.out | apply below_alloc | apply pw_below_drewN | apply below_drew1) | exact HB.out)⟩⟩
      ·rw [if_neg c6] at H; have c6b0 : decide (x4_1 ≤ x6_2) = false := decide_eq_false c6; clear c6; by_cases c10 : x3_1.length < 17592186044416
       rotate_left
       ·rw [if_neg c10] at H; exact absurd H (by simp)
       rw [if_pos c10] at H; have LMc10 := aA c10; clear c10; obtain ⟨y152, hy152⟩ : ∃ y_ : List Int, y_ = (x3_1 ++ [x5_2]) := ⟨_, rfl⟩; replace H : (treillageref11_Words.l0 k2 a0 y152 (wrap64 (x4_1 + 8))) = some r := by first | (rw [hy152]; with_reducible exact H) | (have H2_ := (Option.bind_some _ _).symm.trans H; rw [hy152]; with_reducible exact H2_) | (have H2_ := (Option.bind_some _ _).symm.trans H; with_reducible exact H2_) | with_reducible exact H | (rw [hy152]; exact H) | exact H
       have Ny152 := aA hy152; clear hy152; have H' := aA H; clear H; go_wp2_with (first | ((with_reducible refine gate_builtin (b := .append) (xs := #[.tmp 32, .tmp 34]) rfl ?_); at_builtin; refine Kd.R_append (Kd.int .u64) (w0 := w) w.heap.size rfl (.tmp 32) (.tmp 34) 28 23 (.int .u64 0) 8 rfl Try.underlying28 info23 rfl (by decide) (by omega) u3 x3_1 x5_2 [.int .u64 x5_2] (fun _ => True) (fun _ => False) rfl rfl ?aP (fun _ hk => hk.elim) ?aF ?aO ?aB ?aS ?aL ?_; (case aP => exact rfl); (case aB => exact (blw HB.out)); (case aF => exact (fun _ _ => trivial)); (case aO => exact (rlu HO_3.out)); (case aS => exact (below_size (blw HB.out))); (case aL => have := LMc10.out; omega); intro v153 w11 ho hb hg hat; rw [← Ny152.out] at ho; have n0_ := aA (hb); have n1_ := aA (ho); clear HB HO_3; have HB := n0_; have HO154 := n1_; clear n0_ n1_ ho hb hg hat))
       go_roundg k2
       case measure => have := HK1.out; have := HK2.out; omega
       case rel => exact ⟨(y152), (wrap64 (x4_1 + 8)), (by first | rfl | (simp; done) | (simp [*]; done)), H', ⟨by have := HK1.out; have := HK2.out; omega⟩, ⟨by (with_reducible repeat (first | apply Kd.R_alloc | apply Kd.R_drewN | apply Kd.R_drew)); exact HO154.out⟩, ⟨by repeat (first | (with_reducible first | exact HB.out | apply below_alloc | apply pw_below_drewN | apply below_drew1) | exact HB.out)⟩⟩
   ·rw [if_neg c4] at H; have c4b0 : decide (x4_1 < (a0.size : Int)) = false := decide_eq_false c4; clear c4; obtain rfl := Option.some.inj H; go_wp2; go_ret
    exact ⟨_, by first | rfl | (simp [errW_none, errW_some] <;> rfl) | (simp [*, errW_none, errW_some] <;> rfl), by (with_reducible repeat (first | apply Kd.R_alloc | apply Kd.R_drewN | apply Kd.R_drew)); exact HO_3.out, by repeat (first | (with_reducible first | exact HB.out | apply below_alloc | apply pw_below_drewN | apply below_drew1) | exact HB.out)⟩

/-! ### treillageref11_same: function 33 -/
def treillageref11_same.l0 : Nat → List Int → List Int → Int → Option (Bool)
 | 0, _, _, _ => none
 | k + 1, x0, x1, x5 => if x5 < (x0.length : Int) then (if 0 ≤ x5 then (if x5 < (x1.length : Int) then (if (rd x0 x5) = (rd x1 x5) then (treillageref11_same.l0 k x0 x1 (wrap64 (x5 + 1))) else (some false)) else (none)) else (none)) else (some true)
def treillageref11_same.f (k : Nat) (l0 : List Int) (l1 : List Int) : Option (Bool) := if (l0.length : Int) = (l1.length : Int) then (treillageref11_same.l0 k l0 l1 0) else (some false)
theorem treillageref11_same.mono_l : ∀ k, (∀ y0 y1 y2, LeO (treillageref11_same.l0 k y0 y1 y2) (treillageref11_same.l0 (k + 1) y0 y1 y2))
 | 0 => fun _ _ _ r h => by simp [treillageref11_same.l0] at h
 | k + 1 => by
  have ih0 := treillageref11_same.mono_l k
  ·intro y0 y1 y2
   unfold treillageref11_same.l0; repeat' first
   | (with_reducible exact ih0 _ _ _)
   | (with_reducible exact LeO.refl _)
   | (with_reducible exact LeO.none _)
   | (with_reducible refine LeO.ite ?_ ?_)
   | (with_reducible refine LeO.bind ?_ (fun _ => ?_))
   | exact ih0 _ _ _
   | exact LeO.none _
   | refine LeO.ite ?_ ?_
   | refine LeO.bind ?_ (fun _ => ?_)
theorem treillageref11_same.mono : ∀ a0 a1 k, LeO (treillageref11_same.f k a0 a1) (treillageref11_same.f (k + 1) a0 a1) := by
 intro a0 a1 k
 have ih0 := treillageref11_same.mono_l k; unfold treillageref11_same.f
 repeat' first
   | (with_reducible exact ih0 _ _ _)
   | (with_reducible exact LeO.refl _)
   | (with_reducible exact LeO.none _)
   | (with_reducible refine LeO.ite ?_ ?_)
   | (with_reducible refine LeO.bind ?_ (fun _ => ?_))
   | exact ih0 _ _ _
   | exact LeO.none _
   | refine LeO.ite ?_ ?_
   | refine LeO.bind ?_ (fun _ => ?_)
set_option maxHeartbeats 8000000 in
set_option maxRecDepth 100000 in
theorem treillageref11_same.calls (k : Nat) (A0 : Option Addr) (c0 : Nat) (l0 : List Int) (A1 : Option Addr) (c1 : Nat) (l1 : List Int) (r : Bool) (w : World) (hr0 : Kd.C (Kd.int .u64) w A0 l0.length l0) (hc0 : l0.length ≤ c0) (hr1 : Kd.C (Kd.int .u64) w A1 l1.length l1) (hc1 : l1.length ≤ c1) (h : treillageref11_same.f k l0 l1 = some r) :
  Calls Try.prog 33 #[.slice A0 l0.length c0, .slice A1 l1.length c1] w fun e w' => e = .returned (.bool r) ∧ Drawn0 w w' := by
 have HR0 := aA hr0; have HC0 := aA hc0; clear hr0 hc0; have HR1 := aA hr1; have HC1 := aA hc1; clear hr1 hc1; have H : (if (l0.length : Int) = (l1.length : Int) then (treillageref11_same.l0 k l0 l1 0) else (some false)) = some r := h; clear h; by_cases c3 : (l0.length : Int) = (l1.length : Int)
 ·rw [if_pos c3] at H; have c3b0 : ((l0.length : Int) == (l1.length : Int)) = true := beq_iff_eq.mpr c3; have c3b1 : ((l0.length : Int) != (l1.length : Int)) = false := bne_eq_false_iff_eq.mpr c3; have c3b2 : (l0.length == l1.length) = true := by first | simpa using c3 | (simp at c3 ⊢; omega)
  clear c3; have H' := aA H; clear H; go_enter Try.func33, Try.ntmps33; go_wp2; repeat (go_quiet (fail); try go_wp2)
  go_loopg [5] k (fun kq v5 w' => ∃ (x5_1 : Int), v5 = .int .i64 x5_1 ∧ Aside0 (treillageref11_same.l0 kq l0 l1 x5_1 = some r) ∧ Aside0 (kq ≤ k) ∧ Drawn0 w w')
  case atStart => exact ⟨(0), (by first | rfl | (simp; done) | (simp [*]; done)), H', ⟨Nat.le_refl _⟩, by repeat (first | exact Drawn0.refl _ | apply Drawn0.step)⟩
  case round =>
   clear H'; try clear c1
   try clear p2
   try clear c3
   try clear c3b0
   try clear c3b1
   try clear c3b2
   obtain ⟨x5_1, rfl, HA, HK1, ⟨m1, rfl⟩⟩ := hrel; cases gk with
   | zero => exact absurd HA.out (by simp [treillageref11_same.l0])
   | succ k1 =>
    have H := HA.out; clear HA; simp only [treillageref11_same.l0] at H; by_cases c4 : x5_1 < (l0.length : Int)
    ·rw [if_pos c4] at H; have c4b0 : decide (x5_1 < (l0.length : Int)) = true := decide_eq_true c4; clear c4; by_cases c5 : 0 ≤ x5_1
     rotate_left
     ·rw [if_neg c5] at H; exact absurd H (by simp)
     rw [if_pos c5] at H; have c5b0 : decide (0 ≤ x5_1) = true := decide_eq_true c5; clear c5; by_cases c6 : x5_1 < (l1.length : Int)
     rotate_left
     ·rw [if_neg c6] at H; exact absurd H (by simp)
     rw [if_pos c6] at H; have c6b0 : decide (x5_1 < (l1.length : Int)) = true := decide_eq_true c6; clear c6; by_cases c7 : (rd l0 x5_1) = (rd l1 x5_1)
     ·rw [if_pos c7] at H; have c7b0 : ((rd l0 x5_1) == (rd l1 x5_1)) = true := beq_iff_eq.mpr c7; have c7b1 : ((rd l0 x5_1) != (rd l1 x5_1)) = false := bne_eq_false_iff_eq.mpr c7; clear c7; have H' := aA H; clear H; have p155 : 0 ≤ (x5_1 : Int) := of_decide_eq_true (by first | (with_reducible assumption) | assumption); have q155 : x5_1 < (l0.length : Int) := of_decide_eq_true (by first | (with_reducible assumption) | assumption); obtain ⟨ad155, e155, hx155_0⟩ := Kd.at_int HR0.out x5_1 p155 q155; cases e155
      replace p155 := eq_true p155; replace q155 := eq_true q155; have p156 : 0 ≤ (x5_1 : Int) := of_decide_eq_true (by first | (with_reducible assumption) | assumption); have q156 : x5_1 < (l1.length : Int) := of_decide_eq_true (by first | (with_reducible assumption) | assumption); obtain ⟨ad156, e156, hx156_0⟩ := Kd.at_int HR1.out x5_1 p156 q156; cases e156
      replace p156 := eq_true p156; replace q156 := eq_true q156; go_wp2; repeat (go_quiet (fail); try go_wp2)
      go_roundg k1
      case measure => have := HK1.out; omega
      case rel => exact ⟨(wrap64 (x5_1 + 1)), (by first | rfl | (simp; done) | (simp [*]; done)), H', ⟨by have := HK1.out; omega⟩, by repeat (first | exact Drawn0.refl _ | apply Drawn0.step)⟩
     ·rw [if_neg c7] at H; have c7b0 : ((rd l0 x5_1) == (rd l1 x5_1)) = false := beq_eq_false_iff_ne.mpr c7; have c7b1 : ((rd l0 x5_1) != (rd l1 x5_1)) = true := bne_iff_ne.mpr c7; obtain rfl := Option.some.inj H; have p155 : 0 ≤ (x5_1 : Int) := of_decide_eq_true (by first | (with_reducible assumption) | assumption); have q155 : x5_1 < (l0.length : Int) := of_decide_eq_true (by first | (with_reducible assumption) | assumption); obtain ⟨ad155, e155, hx155_0⟩ := Kd.at_int HR0.out x5_1 p155 q155; cases e155
      replace p155 := eq_true p155; replace q155 := eq_true q155; have p156 : 0 ≤ (x5_1 : Int) := of_decide_eq_true (by first | (with_reducible assumption) | assumption); have q156 : x5_1 < (l1.length : Int) := of_decide_eq_true (by first | (with_reducible assumption) | assumption); obtain ⟨ad156, e156, hx156_0⟩ := Kd.at_int HR1.out x5_1 p156 q156; cases e156
      replace p156 := eq_true p156; replace q156 := eq_true q156; go_wp2; repeat (go_quiet (fail); try go_wp2)
      go_ret
      exact ⟨by first | rfl | (simp; done) | (simp [*]; done), by repeat (first | exact Drawn0.refl _ | apply Drawn0.step)⟩
    ·rw [if_neg c4] at H; have c4b0 : decide (x5_1 < (l0.length : Int)) = false := decide_eq_false c4; clear c4; obtain rfl := Option.some.inj H; go_wp2; repeat (go_quiet (fail); try go_wp2)
     go_ret
     exact ⟨by first | rfl | (simp; done) | (simp [*]; done), by repeat (first | exact Drawn0.refl _ | apply Drawn0.step)⟩
 ·rw [if_neg c3] at H; have c3b0 : ((l0.length : Int) == (l1.length : Int)) = false := beq_eq_false_iff_ne.mpr c3; have c3b1 : ((l0.length : Int) != (l1.length : Int)) = true := bne_iff_ne.mpr c3; have c3b2 : (l0.length == l1.length) = false := by first | simpa using c3 | (simp at c3 ⊢; omega)
  obtain rfl := Option.some.inj H; go_enter Try.func33, Try.ntmps33; go_wp2; repeat (go_quiet (fail); try go_wp2)
  go_ret
  exact ⟨by first | rfl | (simp; done) | (simp [*]; done), by repeat (first | exact Drawn0.refl _ | apply Drawn0.step)⟩

/-! ### treillageref11_Text: function 21 -/
mutual
def treillageref11_Text.j0 : Nat → List Int → Int → Bool → Option (ByteArray × Bool)
 | 0, _, _, _ => none
 | k + 1, x0, x1, x18 => if x18 = true then (some ((⟨#[]⟩ : ByteArray), false)) else (treillageref11_Text.l0 k x0 x1 (([] : List Int)) 0)
def treillageref11_Text.l0 : Nat → List Int → Int → List Int → Int → Option (ByteArray × Bool)
 | 0, _, _, _, _ => none
 | k + 1, x0, x1, x6, x7 => if x7 < x1 then (if 0 ≤ (wrap64 (Int.tdiv x7 8)) then (if (wrap64 (Int.tdiv x7 8)) < (x0.length : Int) then (treillageref11_Text.l1 k x0 x1 x6 x7 (rd x0 (wrap64 (Int.tdiv x7 8))) 0) else (none)) else (none)) else ((treillageref11_Words.f k (strOfNums x6)).bind fun t164 => ((treillageref11_same.f k t164 x0).bind fun t167 => (if t167 = true then (some (strOfNums x6, true)) else (some ((⟨#[]⟩ : ByteArray), false)))))
def treillageref11_Text.l1 : Nat → List Int → Int → List Int → Int → Int → Int → Option (ByteArray × Bool)
 | 0, _, _, _, _, _, _ => none
 | k + 1, x0, x1, x6, x7, x8, x9 => if x9 < (Int.tmod x7 8) then (treillageref11_Text.l1 k x0 x1 x6 x7 (IntKind.u64.wrap (Int.tdiv x8 256)) (wrap64 (x9 + 1))) else (if x6.length < 140737488355328 then (treillageref11_Text.l0 k x0 x1 (x6 ++ [(Int.tmod x8 256) % 256]) (wrap64 (x7 + 1))) else (none))
end
def treillageref11_Text.f (k : Nat) (l0 : List Int) (a1 : Int) : Option (ByteArray × Bool) := if a1 < 0 then (treillageref11_Text.j0 k l0 a1 true) else (treillageref11_Text.j0 k l0 a1 (decide (a1 > (wrap64 (8 * (l0.length : Int))))))
theorem treillageref11_Text.mono_l : ∀ k, (∀ y0 y1 y2, LeO (treillageref11_Text.j0 k y0 y1 y2) (treillageref11_Text.j0 (k + 1) y0 y1 y2)) ∧ (∀ y0 y1 y2 y3, LeO (treillageref11_Text.l0 k y0 y1 y2 y3) (treillageref11_Text.l0 (k + 1) y0 y1 y2 y3)) ∧ (∀ y0 y1 y2 y3 y4 y5, LeO (treillageref11_Text.l1 k y0 y1 y2 y3 y4 y5) (treillageref11_Text.l1 (k + 1) y0 y1 y2 y3 y4 y5))
 | 0 => ⟨fun _ _ _ r h => by simp [treillageref11_Text.j0] at h, fun _ _ _ _ r h => by simp [treillageref11_Text.l0] at h, fun _ _ _ _ _ _ r h => by simp [treillageref11_Text.l1] at h⟩
 | k + 1 => by
  obtain ⟨ih0, ih1, ih2⟩ := treillageref11_Text.mono_l k; refine ⟨?_, ?_, ?_⟩
  ·intro y0 y1 y2
   unfold treillageref11_Text.j0; repeat' first
   | (with_reducible exact ih0 _ _ _)
   | (with_reducible exact ih1 _ _ _ _)
   | (with_reducible exact ih2 _ _ _ _ _ _)
   | (with_reducible exact treillageref11_Words.mono _ _)
   | (with_reducible exact treillageref11_same.mono _ _ _)
   | (with_reducible exact LeO.refl _)
   | (with_reducible exact LeO.none _)
   | (with_reducible refine LeO.ite ?_ ?_)
   | (with_reducible refine LeO.bind ?_ (fun _ => ?_))
   | exact ih0 _ _ _
   | exact ih1 _ _ _ _
   | exact ih2 _ _ _ _ _ _
   | exact treillageref11_Words.mono _ _
   | exact treillageref11_same.mono _ _ _
   | exact LeO.none _
   | refine LeO.ite ?_ ?_
   | refine LeO.bind ?_ (fun _ => ?_)
  ·intro y0 y1 y2 y3
   unfold treillageref11_Text.l0; repeat' first
   | (with_reducible exact ih0 _ _ _)
   | (with_reducible exact ih1 _ _ _ _)
   | (with_reducible exact ih2 _ _ _ _ _ _)
   | (with_reducible exact treillageref11_Words.mono _ _)
   | (with_reducible exact treillageref11_same.mono _ _ _)
   | (with_reducible exact LeO.refl _)
   | (with_reducible exact LeO.none _)
   | (with_reducible refine LeO.ite ?_ ?_)
   | (with_reducible refine LeO.bind ?_ (fun _ => ?_))
   | exact ih0 _ _ _
   | exact ih1 _ _ _ _
   | exact ih2 _ _ _ _ _ _
   | exact treillageref11_Words.mono _ _
   | exact treillageref11_same.mono _ _ _
   | exact LeO.none _
   | refine LeO.ite ?_ ?_
   | refine LeO.bind ?_ (fun _ => ?_)
  ·intro y0 y1 y2 y3 y4 y5
   unfold treillageref11_Text.l1; repeat' first
   | (with_reducible exact ih0 _ _ _)
   | (with_reducible exact ih1 _ _ _ _)
   | (with_reducible exact ih2 _ _ _ _ _ _)
   | (with_reducible exact treillageref11_Words.mono _ _)
   | (with_reducible exact treillageref11_same.mono _ _ _)
   | (with_reducible exact LeO.refl _)
   | (with_reducible exact LeO.none _)
   | (with_reducible refine LeO.ite ?_ ?_)
   | (with_reducible refine LeO.bind ?_ (fun _ => ?_))
   | exact ih0 _ _ _
   | exact ih1 _ _ _ _
   | exact ih2 _ _ _ _ _ _
   | exact treillageref11_Words.mono _ _
   | exact treillageref11_same.mono _ _ _
   | exact LeO.none _
   | refine LeO.ite ?_ ?_
   | refine LeO.bind ?_ (fun _ => ?_)
theorem treillageref11_Text.mono : ∀ a0 a1 k, LeO (treillageref11_Text.f k a0 a1) (treillageref11_Text.f (k + 1) a0 a1) := by
 intro a0 a1 k
 obtain ⟨ih0, ih1, ih2⟩ := treillageref11_Text.mono_l k; unfold treillageref11_Text.f
 repeat' first
   | (with_reducible exact ih0 _ _ _)
   | (with_reducible exact ih1 _ _ _ _)
   | (with_reducible exact ih2 _ _ _ _ _ _)
   | (with_reducible exact treillageref11_Words.mono _ _)
   | (with_reducible exact treillageref11_same.mono _ _ _)
   | (with_reducible exact LeO.refl _)
   | (with_reducible exact LeO.none _)
   | (with_reducible refine LeO.ite ?_ ?_)
   | (with_reducible refine LeO.bind ?_ (fun _ => ?_))
   | exact ih0 _ _ _
   | exact ih1 _ _ _ _
   | exact ih2 _ _ _ _ _ _
   | exact treillageref11_Words.mono _ _
   | exact treillageref11_same.mono _ _ _
   | exact LeO.none _
   | refine LeO.ite ?_ ?_
   | refine LeO.bind ?_ (fun _ => ?_)
set_option maxHeartbeats 8000000 in
set_option maxRecDepth 100000 in
theorem treillageref11_Text.calls (k : Nat) (A0 : Option Addr) (c0 : Nat) (l0 : List Int) (a1 : Int) (r1 : ByteArray) (r2 : Bool) (w : World) (hr0 : Kd.C (Kd.int .u64) w A0 l0.length l0) (hc0 : l0.length ≤ c0) (h : treillageref11_Text.f k l0 a1 = some (r1, r2)) :
  Calls Try.prog 21 #[.slice A0 l0.length c0, .int .i64 a1] w fun e w' => e = .returned (.tuple #[.string r1, .bool r2]) ∧ Below w.heap.size w w' := by
 have HR0 := aA hr0; have HC0 := aA hc0; clear hr0 hc0; have HB := aA (Below.refl w.heap.size w); have H : (if a1 < 0 then (treillageref11_Text.j0 k l0 a1 true) else (treillageref11_Text.j0 k l0 a1 (decide (a1 > (wrap64 (8 * (l0.length : Int))))))) = some (r1, r2) := h; clear h; have HC3 := aA H; clear H; go_enter Try.func21, Try.ntmps21; go_upto_region 1 with (fail)
 go_cut [18] (fun v18 wc => ∃ (kq : Nat) (x18_2 : Bool), v18 = .bool x18_2 ∧ Aside0 (treillageref11_Text.j0 kq l0 a1 x18_2 = some (r1, r2)) ∧ Aside0 (kq ≤ k) ∧ Aside0 (Below w.heap.size w wc))
 case first =>
  have H := HC3.out; clear HC3; by_cases c4 : a1 < 0
  ·rw [if_pos c4] at H; have c4b0 : decide (a1 < 0) = true := decide_eq_true c4; clear c4; (first | rw [c4b0] | (simp only [i64_w, i32_w]; rw [c4b0]) | skip)
   have H' := aA H; clear H; go_wp2; (first | go_meet | (refine Met.intro ?_; go_step; (try rw [c4b0]); (repeat apply Exists.intro); refine ⟨?rel, rfl⟩))
   case rel => exact ⟨_, (true), (by first | rfl | (simp; done) | (simp [*]; done)), H', ⟨by first | omega | exact Nat.le_refl _⟩, ⟨by repeat (first | (with_reducible first | exact HB.out | apply below_alloc | apply pw_below_drewN | apply below_drew1) | exact HB.out)⟩⟩
  ·rw [if_neg c4] at H; have c4b0 : decide (a1 < 0) = false := decide_eq_false c4; clear c4; (first | rw [c4b0] | (simp only [i64_w, i32_w]; rw [c4b0]) | skip)
   have H' := aA H; clear H; go_wp2; (first | go_meet | (refine Met.intro ?_; go_step; (try rw [c4b0]); (repeat apply Exists.intro); refine ⟨?rel, rfl⟩))
   case rel => exact ⟨_, (decide (a1 > (wrap64 (8 * (l0.length : Int))))), (by first | rfl | (simp; done) | (simp [*]; done)), H', ⟨by first | omega | exact Nat.le_refl _⟩, ⟨by repeat (first | (with_reducible first | exact HB.out | apply below_alloc | apply pw_below_drewN | apply below_drew1) | exact HB.out)⟩⟩
 case rest =>
  clear HC3; try clear c2
  try clear p2
  try clear c4
  try clear c4b0
  obtain ⟨kq, x18_2, rfl, HA, HJ2, HB⟩ := hcut; cases kq with
  | zero => exact absurd HA.out (by simp [treillageref11_Text.j0])
  | succ kj2 =>
   have H := HA.out; clear HA; simp only [treillageref11_Text.j0] at H; by_cases c5 : x18_2 = true
   ·subst c5; have H1 : (some ((⟨#[]⟩ : ByteArray), false)) = some (r1, r2) := by rw [if_pos rfl] at H; exact H
    clear H; have H := H1; clear H1; simp only [Option.some.injEq, Prod.mk.injEq] at H; obtain ⟨rfl, rfl⟩ := H; go_wp2; go_ret2
    exact ⟨by first | rfl | (simp [errW_none, errW_some] <;> rfl) | (simp [*, errW_none, errW_some] <;> rfl), by repeat (first | (with_reducible first | exact HB.out | apply below_alloc | apply pw_below_drewN | apply below_drew1) | exact HB.out)⟩
   ·replace c5 := Bool.eq_false_iff.mpr c5; subst c5; have H1 : (treillageref11_Text.l0 kj2 l0 a1 (([] : List Int)) 0) = some (r1, r2) := by rw [if_neg (show ¬ (false = true) by decide)] at H; exact H
    clear H; have H := H1; clear H1; obtain ⟨y157, hy157⟩ : ∃ y_ : List Int, y_ = (([] : List Int)) := ⟨_, rfl⟩; replace H : (treillageref11_Text.l0 kj2 l0 a1 y157 0) = some (r1, r2) := by first | (rw [hy157]; with_reducible exact H) | (have H2_ := (Option.bind_some _ _).symm.trans H; rw [hy157]; with_reducible exact H2_) | (have H2_ := (Option.bind_some _ _).symm.trans H; with_reducible exact H2_) | with_reducible exact H | (rw [hy157]; exact H) | exact H
    have Ny157 := aA hy157; clear hy157; have H' := aA H; clear H; go_wp2_with (first | ((with_reducible refine gate_dst (N := 19) rfl ?_); (try (refine gate_guard (by rfl) ?_; dsimp only)); refine Kd.R_lit (Kd.int .u8) _ 5 ?hg (N := 19) ?hd (xs := ([] : List Int)) (inner := []) (ok := fun _ => True) (okp := fun _ => True) ?hr ?hp (fun _ hk => hk) trivial (Below.refl _ _) (Nat.le_refl _) (by simp) ?_; (case hd => rfl); (case hg => rfl); (case hr => first | (go_simp; done) | (go_simp; rfl)); (case hp => exact (Reps.none _ _)); intro v158 w6 ho7 hb hg_ hnew_; clear hg_ hnew_; (first | rw [← Ny157.out] at ho7 | (simp only [Int.reduceToNat] at ho7; rw [← Ny157.out] at ho7)); have n0_ := aA (Kd.R_lower ho7 (below_size (blw HB.out))); have n1_ := aA (below_step (blw HB.out) hb); clear HB; have HO159 := n0_; have HB := n1_; clear n0_ n1_ hb ho7))
    go_loopg [6, 7] kj2 (fun kq v6 v7 w' => ∃ (x6_2 : List Int) (x7_2 : Int), v7 = .int .i64 x7_2 ∧ Aside0 (treillageref11_Text.l0 kq l0 a1 x6_2 x7_2 = some (r1, r2)) ∧ Aside0 (kq ≤ kj2) ∧ Aside0 (Kd.R (Kd.int .u8) 5 w' w.heap.size (fun _ => True) v6 x6_2) ∧ Aside0 (Below w.heap.size w w'))
    case atStart => exact ⟨(y157), (0), (by first | rfl | (simp; done) | (simp [*]; done)), H', ⟨Nat.le_refl _⟩, ⟨by (with_reducible repeat (first | apply Kd.R_alloc | apply Kd.R_drewN | apply Kd.R_drew)); exact HO159.out⟩, ⟨by repeat (first | (with_reducible first | exact HB.out | apply below_alloc | apply pw_below_drewN | apply below_drew1) | exact HB.out)⟩⟩
    case round =>
     clear H'; try clear c2
     try clear p2
     try clear c4
     try clear c4b0
     try clear c5
     try clear p6
     try clear p2
     obtain ⟨x6_2, x7_2, rfl, HA, HK2, HO_6, HB⟩ := hrel; cases gk with
     | zero => exact absurd HA.out (by simp [treillageref11_Text.l0])
     | succ k2 =>
      have H := HA.out; clear HA; simp only [treillageref11_Text.l0] at H; by_cases c8 : x7_2 < a1
      ·rw [if_pos c8] at H; have c8b0 : decide (x7_2 < a1) = true := decide_eq_true c8; clear c8; obtain ⟨ji9, hji9⟩ : ∃ j_ : Int, (wrap64 (Int.tdiv x7_2 8)) = j_ := ⟨_, rfl⟩; replace H : (if 0 ≤ (ji9) then (if (ji9) < (l0.length : Int) then (treillageref11_Text.l1 k2 l0 a1 x6_2 x7_2 (rd l0 (ji9)) 0) else (none)) else (none)) = some (r1, r2) := by first | (rw [hji9] at H; exact H) | (simp only [hji9] at H ⊢; exact H)
       have hji9w : (IntKind.i64.wrap (Int.tdiv x7_2 8)) = ji9 := (i64_w _).trans hji9; by_cases c10 : 0 ≤ (ji9)
       rotate_left
       ·rw [if_neg c10] at H; exact absurd H (by simp)
       rw [if_pos c10] at H; have c10b0 : decide (0 ≤ (ji9)) = true := decide_eq_true c10; clear c10; by_cases c11 : (ji9) < (l0.length : Int)
       rotate_left
       ·rw [if_neg c11] at H; exact absurd H (by simp)
       rw [if_pos c11] at H; have c11b0 : decide ((ji9) < (l0.length : Int)) = true := decide_eq_true c11; clear c11; have H' := aA H; clear H; have p160 : 0 ≤ ((ji9) : Int) := of_decide_eq_true (by first | (with_reducible assumption) | assumption); have q160 : (ji9) < (l0.length : Int) := of_decide_eq_true (by first | (with_reducible assumption) | assumption); obtain ⟨ad160, e160, hx160_0⟩ := Kd.at_int HR0.out (ji9) p160 q160; cases e160
       replace hx160_0 := (HB.out.cell (World.block_lt_of_cell? w _ hx160_0)).trans hx160_0; replace p160 := eq_true p160; replace q160 := eq_true q160; go_wp2; go_loopg [8, 9] k2 (fun kq v8 v9 w' => ∃ (x8_3 : Int) (x9_3 : Int), v8 = .int .u64 x8_3 ∧ v9 = .int .i64 x9_3 ∧ Aside0 (treillageref11_Text.l1 kq l0 a1 x6_2 x7_2 x8_3 x9_3 = some (r1, r2)) ∧ Aside0 (kq ≤ k2) ∧ Aside0 (Kd.R (Kd.int .u8) 5 w' w.heap.size (fun _ => True) u6 x6_2) ∧ Aside0 (Below w.heap.size w w'))
       case atStart => exact ⟨(rd l0 (ji9)), (0), (by first | rfl | (simp; done) | (simp only [← hji9] <;> (first | rfl | simp)) | (simp [*]; done)), (by first | rfl | (simp; done) | (simp [*]; done)), H', ⟨Nat.le_refl _⟩, ⟨by (with_reducible repeat (first | apply Kd.R_alloc | apply Kd.R_drewN | apply Kd.R_drew)); exact HO_6.out⟩, ⟨by repeat (first | (with_reducible first | exact HB.out | apply below_alloc | apply pw_below_drewN | apply below_drew1) | exact HB.out)⟩⟩
       case round =>
        clear H'; try clear c1
        try clear p1
        try clear q1
        try clear hx1
        try clear c2
        try clear p2
        try clear c4
        try clear c4b0
        try clear c5
        try clear p6
        try clear c8
        try clear c8b0
        try clear c10
        try clear c10b0
        try clear c11
        try clear c11b0
        try clear hx160_0
        try clear p160
        try clear p2
        try clear p6
        try clear q160
        obtain ⟨x8_3, x9_3, rfl, rfl, HA, HK3, HO_6, HB⟩ := hrel; cases gk with
        | zero => exact absurd HA.out (by simp [treillageref11_Text.l1])
        | succ k3 =>
         have H := HA.out; clear HA; simp only [treillageref11_Text.l1] at H; by_cases c12 : x9_3 < (Int.tmod x7_2 8)
         ·rw [if_pos c12] at H; have c12b0 : decide (x9_3 < (Int.tmod x7_2 8)) = true := decide_eq_true c12; clear c12; have H' := aA H; clear H; go_wp2; go_roundg k3
          case measure => have := HJ2.out; have := HK2.out; have := HK3.out; omega
          case rel => exact ⟨(IntKind.u64.wrap (Int.tdiv x8_3 256)), (wrap64 (x9_3 + 1)), (by first | rfl | (simp; done) | (simp [*]; done)), (by first | rfl | (simp; done) | (simp [*]; done)), H', ⟨by have := HJ2.out; have := HK2.out; have := HK3.out; omega⟩, ⟨by (with_reducible repeat (first | apply Kd.R_alloc | apply Kd.R_drewN | apply Kd.R_drew)); exact HO_6.out⟩, ⟨by repeat (first | (with_reducible first | exact HB.out | apply below_alloc | apply pw_below_drewN | apply below_drew1) | exact HB.out)⟩⟩
         ·rw [if_neg c12] at H; have c12b0 : decide (x9_3 < (Int.tmod x7_2 8)) = false := decide_eq_false c12; clear c12; by_cases c13 : x6_2.length < 140737488355328
          rotate_left
          ·rw [if_neg c13] at H; exact absurd H (by simp)
          rw [if_pos c13] at H; have LMc13 := aA c13; clear c13; obtain ⟨y161, hy161⟩ : ∃ y_ : List Int, y_ = (x6_2 ++ [(Int.tmod x8_3 256) % 256]) := ⟨_, rfl⟩; replace H : (treillageref11_Text.l0 k3 l0 a1 y161 (wrap64 (x7_2 + 1))) = some (r1, r2) := by first | (rw [hy161]; with_reducible exact H) | (have H2_ := (Option.bind_some _ _).symm.trans H; rw [hy161]; with_reducible exact H2_) | (have H2_ := (Option.bind_some _ _).symm.trans H; with_reducible exact H2_) | with_reducible exact H | (rw [hy161]; exact H) | exact H
          have Ny161 := aA hy161; clear hy161; have H' := aA H; clear H; go_wp2_with (first | ((with_reducible refine gate_builtin (b := .append) (xs := #[.tmp 38, .tmp 42]) rfl ?_); (try (refine gate_guard (by rfl) ?_; dsimp only)); at_builtin; refine Kd.R_append (Kd.int .u8) (w0 := w) w.heap.size rfl (.tmp 38) (.tmp 42) 69 5 (.int .u8 0) 1 rfl Try.underlying69 info5 rfl (by decide) (by omega) u6 x6_2 ((Int.tmod x8_3 256) % 256) [.int .u8 ((Int.tmod x8_3 256) % 256)] (fun _ => True) (fun _ => False) rfl rfl ?aP (fun _ hk => hk.elim) ?aF ?aO ?aB ?aS ?aL ?_; (case aP => exact rfl); (case aB => exact (blw HB.out)); (case aF => exact (fun _ _ => trivial)); (case aO => exact (rlu HO_6.out)); (case aS => exact (below_size (blw HB.out))); (case aL => have := LMc13.out; omega); intro v162 w14 ho hb hg hat; rw [← Ny161.out] at ho; have n0_ := aA (hb); have n1_ := aA (ho); clear HB HO_6; have HB := n0_; have HO163 := n1_; clear n0_ n1_ ho hb hg hat))
          go_roundg k3
          case measure => have := HJ2.out; have := HK2.out; have := HK3.out; omega
          case rel => exact ⟨(y161), (wrap64 (x7_2 + 1)), (by first | rfl | (simp; done) | (simp [*]; done)), H', ⟨by have := HJ2.out; have := HK2.out; have := HK3.out; omega⟩, ⟨by (with_reducible repeat (first | apply Kd.R_alloc | apply Kd.R_drewN | apply Kd.R_drew)); exact HO163.out⟩, ⟨by repeat (first | (with_reducible first | exact HB.out | apply below_alloc | apply pw_below_drewN | apply below_drew1) | exact HB.out)⟩⟩
      ·rw [if_neg c8] at H; have c8b0 : decide (x7_2 < a1) = false := decide_eq_false c8; clear c8; replace H := Option.bind_eq_some_iff.mp H; obtain ⟨t164, A150, H⟩ := H; replace H : ((treillageref11_same.f k2 t164 l0).bind fun t167 => (if t167 = true then (some (strOfNums x6_2, true)) else (some ((⟨#[]⟩ : ByteArray), false)))) = some (r1, r2) := H; have A15 := aA A150; clear A150; replace H := Option.bind_eq_some_iff.mp H; obtain ⟨t167, A160, H⟩ := H; replace H : (if t167 = true then (some (strOfNums x6_2, true)) else (some ((⟨#[]⟩ : ByteArray), false))) = some (r1, r2) := H; have A16 := aA A160; clear A160; by_cases c17 : t167 = true
       ·subst c17; have H1 : (some (strOfNums x6_2, true)) = some (r1, r2) := by rw [if_pos rfl] at H; exact H
        clear H; have H := H1; clear H1; simp only [Option.some.injEq, Prod.mk.injEq] at H; obtain ⟨rfl, rfl⟩ := H; have hcv18 := own_string (P := Try.prog) Try.underlying69 Try.underlying5 Try.underlying9 (Kd.own_of_R HO_6.out); go_wp2_with (first | ((with_reducible refine gate_callee (f := 23) rfl ?_); refine goesL_ (some 46) rfl rfl Try.func23 (by kernel_rfl) rfl #[.string (strOfNums x6_2)] rfl (by (try simp only [List.map_toArray, List.map_cons, List.map_nil]); first | done | rfl | (simp only [List.length_drop, List.length_take]; rfl)) ?_; (with_reducible refine (treillageref11_Words.calls k2 (strOfNums x6_2) t164 _ A15.out).mono ?_); rintro e w19 ⟨v165, rfl, ho0, hb⟩; refine ⟨_, rfl, ?_⟩; have n0_ := aA (Kd.R_below (rlu HO_6.out) hb); have n1_ := aA (Kd.R_lower ho0 (below_size (blw HB.out))); have n2_ := aA (below_step (blw HB.out) hb); clear HO_6 HB; have HO_6 := n0_; have HO166 := n1_; have HB := n2_; clear n0_ n1_ n2_; (try clear hb); (try clear hb2); (try clear hk); (try clear hi); (try clear ho0); obtain ⟨Ao20, co20, eo20⟩ := Kd.R_slice HO166.out; subst eo20) | ((with_reducible refine gate_callee (f := 33) rfl ?_); refine goesL_ (some 48) rfl rfl Try.func33 (by kernel_rfl) rfl #[.slice Ao20 t164.length co20, .slice A0 l0.length c0] rfl (by (try simp only [List.map_toArray, List.map_cons, List.map_nil]); first | done | rfl | (simp only [List.length_drop, List.length_take]; rfl)) ?_; (with_reducible refine (treillageref11_same.calls k2 _ _ t164 _ _ l0 true _ ?side1 ?side2 ?side3 ?side4 A16.out).mono ?_); (case side1 => repeat (first | exact (Kd.R_reads' HO166.out).2.2 | (with_reducible refine Kd.C_alloc ?_ _) | (with_reducible refine Kd.C_drewN ?_ _) | (with_reducible refine Kd.C_drew ?_))); (case side2 => exact (Kd.R_reads' HO166.out).2.1); (case side3 => repeat (first | exact (Kd.C_below HR0.out HB.out) | (with_reducible refine Kd.C_alloc ?_ _) | (with_reducible refine Kd.C_drewN ?_ _) | (with_reducible refine Kd.C_drew ?_))); (case side4 => exact HC0.out); rintro e w' ⟨rfl, ⟨nd, rfl⟩⟩; refine ⟨_, rfl, ?_⟩; have hcv21 := own_string (P := Try.prog) Try.underlying69 Try.underlying5 Try.underlying9 (Kd.own_of_R (Kd.R_drewN HO_6.out nd))))
        go_ret2
        exact ⟨by first | rfl | (simp [errW_none, errW_some] <;> rfl) | (simp [*, errW_none, errW_some] <;> rfl), by repeat (first | (with_reducible first | exact HB.out | apply below_alloc | apply pw_below_drewN | apply below_drew1) | exact HB.out)⟩
       ·replace c17 := Bool.eq_false_iff.mpr c17; subst c17; have H1 : (some ((⟨#[]⟩ : ByteArray), false)) = some (r1, r2) := by rw [if_neg (show ¬ (false = true) by decide)] at H; exact H
        clear H; have H := H1; clear H1; simp only [Option.some.injEq, Prod.mk.injEq] at H; obtain ⟨rfl, rfl⟩ := H; have hcv22 := own_string (P := Try.prog) Try.underlying69 Try.underlying5 Try.underlying9 (Kd.own_of_R HO_6.out); go_wp2_with (first | ((with_reducible refine gate_callee (f := 23) rfl ?_); refine goesL_ (some 46) rfl rfl Try.func23 (by kernel_rfl) rfl #[.string (strOfNums x6_2)] rfl (by (try simp only [List.map_toArray, List.map_cons, List.map_nil]); first | done | rfl | (simp only [List.length_drop, List.length_take]; rfl)) ?_; (with_reducible refine (treillageref11_Words.calls k2 (strOfNums x6_2) t164 _ A15.out).mono ?_); rintro e w23 ⟨v165, rfl, ho0, hb⟩; refine ⟨_, rfl, ?_⟩; have n0_ := aA (Kd.R_below (rlu HO_6.out) hb); have n1_ := aA (Kd.R_lower ho0 (below_size (blw HB.out))); have n2_ := aA (below_step (blw HB.out) hb); clear HO_6 HB; have HO_6 := n0_; have HO166 := n1_; have HB := n2_; clear n0_ n1_ n2_; (try clear hb); (try clear hb2); (try clear hk); (try clear hi); (try clear ho0); obtain ⟨Ao24, co24, eo24⟩ := Kd.R_slice HO166.out; subst eo24) | ((with_reducible refine gate_callee (f := 33) rfl ?_); refine goesL_ (some 48) rfl rfl Try.func33 (by kernel_rfl) rfl #[.slice Ao24 t164.length co24, .slice A0 l0.length c0] rfl (by (try simp only [List.map_toArray, List.map_cons, List.map_nil]); first | done | rfl | (simp only [List.length_drop, List.length_take]; rfl)) ?_; (with_reducible refine (treillageref11_same.calls k2 _ _ t164 _ _ l0 false _ ?side1 ?side2 ?side3 ?side4 A16.out).mono ?_); (case side1 => repeat (first | exact (Kd.R_reads' HO166.out).2.2 | (with_reducible refine Kd.C_alloc ?_ _) | (with_reducible refine Kd.C_drewN ?_ _) | (with_reducible refine Kd.C_drew ?_))); (case side2 => exact (Kd.R_reads' HO166.out).2.1); (case side3 => repeat (first | exact (Kd.C_below HR0.out HB.out) | (with_reducible refine Kd.C_alloc ?_ _) | (with_reducible refine Kd.C_drewN ?_ _) | (with_reducible refine Kd.C_drew ?_))); (case side4 => exact HC0.out); rintro e w' ⟨rfl, ⟨nd, rfl⟩⟩; refine ⟨_, rfl, ?_⟩))
        go_ret2
        exact ⟨by first | rfl | (simp [errW_none, errW_some] <;> rfl) | (simp [*, errW_none, errW_some] <;> rfl), by repeat (first | (with_reducible first | exact HB.out | apply below_alloc | apply pw_below_drewN | apply below_drew1) | exact HB.out)⟩

/-! ### treillagelaw11_RecWords: function 5 -/
def treillagelaw11_RecWords.j0 : Nat → ByteArray → List Int → Int → Bool → Option (Bool)
 | 0, _, _, _, _ => none
 | k + 1, x0, x1, x2, x25 => if x25 = true then ((treillagelaw11_shown.f k).bind fun t169 => (some t169)) else ((rec_Text.f k x1 x2).bind fun bt170 => ((treillageref11_Text.f k x1 x2).bind fun bt172 => ((rec_Words.f k x0).bind fun t174 => ((rec_Text.f k t174 (x0.size : Int)).bind fun bt177 => (if bt170.1.toList = bt172.1.toList then (if (bt170.2 == bt172.2) = true then ((treillageref11_Words.f k x0).bind fun t179 => ((treillageref03_Handles.f k t174 t179).bind fun t182 => (if t182 = true then (if bt177.1.toList = x0.toList then (some bt177.2) else (some false)) else (some false)))) else (some false)) else (some false))))))
def treillagelaw11_RecWords.f (k : Nat) (a0 : ByteArray) (l1 : List Int) (a2 : Int) : Option (Bool) := if (a0.size : Int) > 300 then (treillagelaw11_RecWords.j0 k a0 l1 a2 true) else (if (l1.length : Int) > 60 then (treillagelaw11_RecWords.j0 k a0 l1 a2 true) else ((treillagelaw11_shown.f k).bind fun t168 => (treillagelaw11_RecWords.j0 k a0 l1 a2 (!t168))))
theorem treillagelaw11_RecWords.mono_l : ∀ k, (∀ y0 y1 y2 y3, LeO (treillagelaw11_RecWords.j0 k y0 y1 y2 y3) (treillagelaw11_RecWords.j0 (k + 1) y0 y1 y2 y3))
 | 0 => fun _ _ _ _ r h => by simp [treillagelaw11_RecWords.j0] at h
 | k + 1 => by
  have ih0 := treillagelaw11_RecWords.mono_l k
  ·intro y0 y1 y2 y3
   unfold treillagelaw11_RecWords.j0; repeat' first
   | (with_reducible exact ih0 _ _ _ _)
   | (with_reducible exact rec_Text.mono _ _ _)
   | (with_reducible exact rec_Words.mono _ _)
   | (with_reducible exact treillagelaw11_shown.mono _)
   | (with_reducible exact treillageref03_Handles.mono _ _ _)
   | (with_reducible exact treillageref11_Text.mono _ _ _)
   | (with_reducible exact treillageref11_Words.mono _ _)
   | (with_reducible exact LeO.refl _)
   | (with_reducible exact LeO.none _)
   | (with_reducible refine LeO.ite ?_ ?_)
   | (with_reducible refine LeO.bind ?_ (fun _ => ?_))
   | exact ih0 _ _ _ _
   | exact rec_Text.mono _ _ _
   | exact rec_Words.mono _ _
   | exact treillagelaw11_shown.mono _
   | exact treillageref03_Handles.mono _ _ _
   | exact treillageref11_Text.mono _ _ _
   | exact treillageref11_Words.mono _ _
   | exact LeO.none _
   | refine LeO.ite ?_ ?_
   | refine LeO.bind ?_ (fun _ => ?_)
theorem treillagelaw11_RecWords.mono : ∀ a0 a1 a2 k, LeO (treillagelaw11_RecWords.f k a0 a1 a2) (treillagelaw11_RecWords.f (k + 1) a0 a1 a2) := by
 intro a0 a1 a2 k
 have ih0 := treillagelaw11_RecWords.mono_l k; unfold treillagelaw11_RecWords.f
 repeat' first
   | (with_reducible exact ih0 _ _ _ _)
   | (with_reducible exact rec_Text.mono _ _ _)
   | (with_reducible exact rec_Words.mono _ _)
   | (with_reducible exact treillagelaw11_shown.mono _)
   | (with_reducible exact treillageref03_Handles.mono _ _ _)
   | (with_reducible exact treillageref11_Text.mono _ _ _)
   | (with_reducible exact treillageref11_Words.mono _ _)
   | (with_reducible exact LeO.refl _)
   | (with_reducible exact LeO.none _)
   | (with_reducible refine LeO.ite ?_ ?_)
   | (with_reducible refine LeO.bind ?_ (fun _ => ?_))
   | exact ih0 _ _ _ _
   | exact rec_Text.mono _ _ _
   | exact rec_Words.mono _ _
   | exact treillagelaw11_shown.mono _
   | exact treillageref03_Handles.mono _ _ _
   | exact treillageref11_Text.mono _ _ _
   | exact treillageref11_Words.mono _ _
   | exact LeO.none _
   | refine LeO.ite ?_ ?_
   | refine LeO.bind ?_ (fun _ => ?_)
set_option maxHeartbeats 8000000 in
set_option maxRecDepth 100000 in
theorem treillagelaw11_RecWords.calls1 (k : Nat) (a0 : ByteArray) (A1 : Option Addr) (c1 : Nat) (l1 : List Int) (a2 : Int) (r : Bool) (w : World) (hr1 : Kd.C (Kd.int .u64) w A1 l1.length l1) (hc1 : l1.length ≤ c1) (h : treillagelaw11_RecWords.f k a0 l1 a2 = some r) (hr_ : r = true) :
  Calls Try.prog 5 #[.string a0, .slice A1 l1.length c1, .int .i64 a2] w fun e w' => e = .returned (.bool r) ∧ Below w.heap.size w w' := by
 have HR1 := aA hr1; have HC1 := aA hc1; clear hr1 hc1; have HB := aA (Below.refl w.heap.size w); have H : (if (a0.size : Int) > 300 then (treillagelaw11_RecWords.j0 k a0 l1 a2 true) else (if (l1.length : Int) > 60 then (treillagelaw11_RecWords.j0 k a0 l1 a2 true) else ((treillagelaw11_shown.f k).bind fun t168 => (treillagelaw11_RecWords.j0 k a0 l1 a2 (!t168))))) = some r := h; clear h; have HC4 := aA H; clear H; go_enter Try.func5, Try.ntmps5; go_upto_region 1 with (fail)
 go_cut [25] (fun v25 wc => ∃ (kq : Nat) (x25_3 : Bool), v25 = .bool x25_3 ∧ Aside0 (treillagelaw11_RecWords.j0 kq a0 l1 a2 x25_3 = some r) ∧ Aside0 (kq ≤ k) ∧ Aside0 (Below w.heap.size w wc))
 case first =>
  have H := HC4.out; clear HC4; by_cases c5 : (a0.size : Int) > 300
  ·rw [if_pos c5] at H; have c5b0 : decide (300 < (a0.size : Int)) = true := decide_eq_true c5; have c5b1 : decide (300 < a0.size) = true := decide_eq_true (by omega); clear c5; (first | rw [c5b0] | (simp only [i64_w, i32_w]; rw [c5b0]) | skip)
   have H' := aA H; clear H; go_wp2; (first | go_meet | (refine Met.intro ?_; go_step; (try rw [c5b0]); (repeat apply Exists.intro); refine ⟨?rel, rfl⟩))
   case rel => exact ⟨_, (true), (by first | rfl | (simp; done) | (simp [*]; done)), H', ⟨by first | omega | exact Nat.le_refl _⟩, ⟨by repeat (first | (with_reducible first | exact HB.out | apply below_alloc | apply pw_below_drewN | apply below_drew1) | exact HB.out)⟩⟩
  ·rw [if_neg c5] at H; have c5b0 : decide (300 < (a0.size : Int)) = false := decide_eq_false c5; have c5b1 : decide (300 < a0.size) = false := decide_eq_false (by omega); clear c5; (first | rw [c5b0] | (simp only [i64_w, i32_w]; rw [c5b0]) | skip)
   by_cases c6 : (l1.length : Int) > 60
   ·rw [if_pos c6] at H; have c6b0 : decide (60 < (l1.length : Int)) = true := decide_eq_true c6; have c6b1 : decide (60 < l1.length) = true := decide_eq_true (by omega); clear c6; have H' := aA H; clear H; go_wp2; (first | go_meet | (refine Met.intro ?_; go_step; (try rw [c5b0]); (repeat apply Exists.intro); refine ⟨?rel, rfl⟩))
    case rel => exact ⟨_, (true), (by first | rfl | (simp; done) | (simp [*]; done)), H', ⟨by first | omega | exact Nat.le_refl _⟩, ⟨by repeat (first | (with_reducible first | exact HB.out | apply below_alloc | apply pw_below_drewN | apply below_drew1) | exact HB.out)⟩⟩
   ·rw [if_neg c6] at H; have c6b0 : decide (60 < (l1.length : Int)) = false := decide_eq_false c6; have c6b1 : decide (60 < l1.length) = false := decide_eq_false (by omega); clear c6; replace H := Option.bind_eq_some_iff.mp H; obtain ⟨t168, A70, H⟩ := H; replace H : (treillagelaw11_RecWords.j0 k a0 l1 a2 (!t168)) = some r := H; have A7 := aA A70; clear A70; have H' := aA H; clear H; go_wp2_with (first | (go_at_call 10; (with_reducible refine (treillagelaw11_shown.calls k  t168 _ A7.out).mono ?_); rintro e w8 ⟨rfl, hb⟩; have n0_ := aA (below_step (blw HB.out) hb); clear HB; have HB := n0_; clear n0_; (try clear hb); (try clear hb2); (try clear hk); (try clear hi)))
    (first | go_meet | (refine Met.intro ?_; go_step; (try rw [c5b0]); (repeat apply Exists.intro); refine ⟨?rel, rfl⟩))
    case rel => exact ⟨_, (!t168), (by first | rfl | (simp; done) | (simp [*]; done)), H', ⟨by first | omega | exact Nat.le_refl _⟩, ⟨by repeat (first | (with_reducible first | exact HB.out | apply below_alloc | apply pw_below_drewN | apply below_drew1) | exact HB.out)⟩⟩
 case rest =>
  clear HC4; try clear c1
  try clear p2
  try clear c5
  try clear c5b0
  try clear c5b1
  try clear c6
  try clear c6b0
  try clear c6b1
  obtain ⟨kq, x25_3, rfl, HA, HJ3, HB⟩ := hcut; cases kq with
  | zero => exact absurd HA.out (by simp [treillagelaw11_RecWords.j0])
  | succ kj3 =>
   have H := HA.out; clear HA; simp only [treillagelaw11_RecWords.j0] at H; by_cases c9 : x25_3 = true
   ·subst c9; have H1 : ((treillagelaw11_shown.f kj3).bind fun t169 => (some t169)) = some r := by rw [if_pos rfl] at H; exact H
    clear H; have H := H1; clear H1; replace H := Option.bind_eq_some_iff.mp H; obtain ⟨t169, A100, H⟩ := H; replace H : (some t169) = some r := H; have A10 := aA A100; clear A100; obtain rfl := Option.some.inj H; go_wp2_with (first | ((with_reducible refine gate_callee (f := 10) rfl ?_); refine goesL_ (some 26) rfl rfl Try.func10 (by kernel_rfl) rfl #[] rfl (by (try simp only [List.map_toArray, List.map_cons, List.map_nil]); first | done | rfl | (simp only [List.length_drop, List.length_take]; rfl)) ?_; (with_reducible refine (treillagelaw11_shown.calls kj3  t169 _ A10.out).mono ?_); rintro e w11 ⟨rfl, hb⟩; refine ⟨_, rfl, ?_⟩; have n0_ := aA (below_step (blw HB.out) hb); clear HB; have HB := n0_; clear n0_; (try clear hb); (try clear hb2); (try clear hk); (try clear hi)))
    go_ret
    exact ⟨by first | rfl | (simp [errW_none, errW_some] <;> rfl) | (simp [*, errW_none, errW_some] <;> rfl), by repeat (first | (with_reducible first | exact HB.out | apply below_alloc | apply pw_below_drewN | apply below_drew1) | exact HB.out)⟩
   ·replace c9 := Bool.eq_false_iff.mpr c9; subst c9; have H1 : ((rec_Text.f kj3 l1 a2).bind fun bt170 => ((treillageref11_Text.f kj3 l1 a2).bind fun bt172 => ((rec_Words.f kj3 a0).bind fun t174 => ((rec_Text.f kj3 t174 (a0.size : Int)).bind fun bt177 => (if bt170.1.toList = bt172.1.toList then (if (bt170.2 == bt172.2) = true then ((treillageref11_Words.f kj3 a0).bind fun t179 => ((treillageref03_Handles.f kj3 t174 t179).bind fun t182 => (if t182 = true then (if bt177.1.toList = a0.toList then (some bt177.2) else (some false)) else (some false)))) else (some false)) else (some false)))))) = some r := by rw [if_neg (show ¬ (false = true) by decide)] at H; exact H
    clear H; have H := H1; clear H1; replace H := Option.bind_eq_some_iff.mp H; obtain ⟨⟨t170, t171⟩, A120, H⟩ := H; replace H : ((treillageref11_Text.f kj3 l1 a2).bind fun bt172 => ((rec_Words.f kj3 a0).bind fun t174 => ((rec_Text.f kj3 t174 (a0.size : Int)).bind fun bt177 => (if t170.toList = bt172.1.toList then (if (t171 == bt172.2) = true then ((treillageref11_Words.f kj3 a0).bind fun t179 => ((treillageref03_Handles.f kj3 t174 t179).bind fun t182 => (if t182 = true then (if bt177.1.toList = a0.toList then (some bt177.2) else (some false)) else (some false)))) else (some false)) else (some false))))) = some r := H; have A12 := aA A120; clear A120; replace H := Option.bind_eq_some_iff.mp H; obtain ⟨⟨t172, t173⟩, A130, H⟩ := H; replace H : ((rec_Words.f kj3 a0).bind fun t174 => ((rec_Text.f kj3 t174 (a0.size : Int)).bind fun bt177 => (if t170.toList = t172.toList then (if (t171 == t173) = true then ((treillageref11_Words.f kj3 a0).bind fun t179 => ((treillageref03_Handles.f kj3 t174 t179).bind fun t182 => (if t182 = true then (if bt177.1.toList = a0.toList then (some bt177.2) else (some false)) else (some false)))) else (some false)) else (some false)))) = some r := H; have A13 := aA A130; clear A130; replace H := Option.bind_eq_some_iff.mp H; obtain ⟨t174, A140, H⟩ := H; replace H : ((rec_Text.f kj3 t174 (a0.size : Int)).bind fun bt177 => (if t170.toList = t172.toList then (if (t171 == t173) = true then ((treillageref11_Words.f kj3 a0).bind fun t179 => ((treillageref03_Handles.f kj3 t174 t179).bind fun t182 => (if t182 = true then (if bt177.1.toList = a0.toList then (some bt177.2) else (some false)) else (some false)))) else (some false)) else (some false))) = some r := H; have A14 := aA A140; clear A140; replace H := Option.bind_eq_some_iff.mp H; obtain ⟨⟨t177, t178⟩, A150, H⟩ := H; replace H : (if t170.toList = t172.toList then (if (t171 == t173) = true then ((treillageref11_Words.f kj3 a0).bind fun t179 => ((treillageref03_Handles.f kj3 t174 t179).bind fun t182 => (if t182 = true then (if t177.toList = a0.toList then (some t178) else (some false)) else (some false)))) else (some false)) else (some false)) = some r := H; have A15 := aA A150; clear A150; by_cases c16 : t170.toList = t172.toList
    ·rw [if_pos c16] at H; have c16b0 : (t170.toList == t172.toList) = true := beq_iff_eq.mpr c16; have c16b1 : (t170.toList != t172.toList) = false := bne_eq_false_iff_eq.mpr c16; clear c16; by_cases c17 : (t171 == t173) = true
     ·rw [if_pos c17] at H; have c17b0 : (t171 == t173) = true := c17; (try (have c17b1 : decide (t171 = t173) = true := by simpa using c17)); (try (have c17b2 : (t171 == t173) = true := by simpa using c17)); clear c17; replace H := Option.bind_eq_some_iff.mp H; obtain ⟨t179, A180, H⟩ := H; replace H : ((treillageref03_Handles.f kj3 t174 t179).bind fun t182 => (if t182 = true then (if t177.toList = a0.toList then (some t178) else (some false)) else (some false))) = some r := H; have A18 := aA A180; clear A180; replace H := Option.bind_eq_some_iff.mp H; obtain ⟨t182, A190, H⟩ := H; replace H : (if t182 = true then (if t177.toList = a0.toList then (some t178) else (some false)) else (some false)) = some r := H; have A19 := aA A190; clear A190; by_cases c20 : t182 = true
      ·subst c20; have H1 : (if t177.toList = a0.toList then (some t178) else (some false)) = some r := by rw [if_pos rfl] at H; exact H
       clear H; have H := H1; clear H1; by_cases c21 : t177.toList = a0.toList
       ·rw [if_pos c21] at H; have c21b0 : (t177.toList == a0.toList) = true := beq_iff_eq.mpr c21; have c21b1 : (t177.toList != a0.toList) = false := bne_eq_false_iff_eq.mpr c21; clear c21; obtain rfl := Option.some.inj H; go_wp2_with (first | ((with_reducible refine gate_callee (f := 20) rfl ?_); refine goesL_ (some 30) rfl rfl Try.func20 (by kernel_rfl) rfl #[.slice A1 l1.length c1, .int .i64 a2] rfl (by (try simp only [List.map_toArray, List.map_cons, List.map_nil]); first | done | rfl | (simp only [List.length_drop, List.length_take]; rfl)) ?_; (with_reducible refine (rec_Text.calls kj3 _ _ l1 a2 t170 t171 _ ?side1 ?side2 A12.out).mono ?_); (case side1 => repeat (first | exact (Kd.C_below HR1.out HB.out) | (with_reducible refine Kd.C_alloc ?_ _) | (with_reducible refine Kd.C_drewN ?_ _) | (with_reducible refine Kd.C_drew ?_))); (case side2 => exact HC1.out); rintro e w22 ⟨rfl, hb⟩; refine ⟨_, rfl, ?_⟩; have n0_ := aA (below_step (blw HB.out) hb); clear HB; have HB := n0_; clear n0_; (try clear hb); (try clear hb2); (try clear hk); (try clear hi)) | ((with_reducible refine gate_callee (f := 21) rfl ?_); refine goesL_ (some 36) rfl rfl Try.func21 (by kernel_rfl) rfl #[.slice A1 l1.length c1, .int .i64 a2] rfl (by (try simp only [List.map_toArray, List.map_cons, List.map_nil]); first | done | rfl | (simp only [List.length_drop, List.length_take]; rfl)) ?_; (with_reducible refine (treillageref11_Text.calls kj3 _ _ l1 a2 t172 t173 _ ?side1 ?side2 A13.out).mono ?_); (case side1 => repeat (first | exact (Kd.C_below HR1.out HB.out) | (with_reducible refine Kd.C_alloc ?_ _) | (with_reducible refine Kd.C_drewN ?_ _) | (with_reducible refine Kd.C_drew ?_))); (case side2 => exact HC1.out); rintro e w23 ⟨rfl, hb⟩; refine ⟨_, rfl, ?_⟩; have n0_ := aA (below_step (blw HB.out) hb); clear HB; have HB := n0_; clear n0_; (try clear hb); (try clear hb2); (try clear hk); (try clear hi)) | ((with_reducible refine gate_callee (f := 22) rfl ?_); refine goesL_ (some 40) rfl rfl Try.func22 (by kernel_rfl) rfl #[.string a0] rfl (by (try simp only [List.map_toArray, List.map_cons, List.map_nil]); first | done | rfl | (simp only [List.length_drop, List.length_take]; rfl)) ?_; (with_reducible refine (rec_Words.calls kj3 a0 t174 _ A14.out).mono ?_); rintro e w24 ⟨v175, rfl, ho0, hb⟩; refine ⟨_, rfl, ?_⟩; have n0_ := aA (Kd.R_lower ho0 (below_size (blw HB.out))); have n1_ := aA (below_step (blw HB.out) hb); clear HB; have HO176 := n0_; have HB := n1_; clear n0_ n1_; (try clear hb); (try clear hb2); (try clear hk); (try clear hi); (try clear ho0); obtain ⟨Ao25, co25, eo25⟩ := Kd.R_slice HO176.out; subst eo25) | ((with_reducible refine gate_callee (f := 20) rfl ?_); refine goesL_ (some 45) rfl rfl Try.func20 (by kernel_rfl) rfl #[.slice Ao25 t174.length co25, .int .i64 (a0.size : Int)] rfl (by (try simp only [List.map_toArray, List.map_cons, List.map_nil]); first | done | rfl | (simp only [List.length_drop, List.length_take]; rfl)) ?_; (with_reducible refine (rec_Text.calls kj3 _ _ t174 (a0.size : Int) t177 t178 _ ?side1 ?side2 A15.out).mono ?_); (case side1 => repeat (first | exact (Kd.R_reads' HO176.out).2.2 | (with_reducible refine Kd.C_alloc ?_ _) | (with_reducible refine Kd.C_drewN ?_ _) | (with_reducible refine Kd.C_drew ?_))); (case side2 => exact (Kd.R_reads' HO176.out).2.1); rintro e w26 ⟨rfl, hb⟩; refine ⟨_, rfl, ?_⟩; have n0_ := aA (Kd.R_below (rlu HO176.out) hb); have n1_ := aA (below_step (blw HB.out) hb); clear HO176 HB; have HO176 := n0_; have HB := n1_; clear n0_ n1_; (try clear hb); (try clear hb2); (try clear hk); (try clear hi)) | (go_at_call 23; (with_reducible refine (treillageref11_Words.calls kj3 a0 t179 _ A18.out).mono ?_); rintro e w27 ⟨v180, rfl, ho0, hb⟩; have n0_ := aA (Kd.R_elder' (rlu HO176.out) (Kd.R_base ho0) hb); have n1_ := aA (Kd.R_lower (Kd.R_new' ho0 (Kd.R_lt (rlu HO176.out))) (below_size (blw HB.out))); have n2_ := aA (below_step (blw HB.out) hb); clear HO176 HB; have HO176 := n0_; have HO181 := n1_; have HB := n2_; clear n0_ n1_ n2_; (try clear hb); (try clear hb2); (try clear hk); (try clear hi); (try clear ho0); obtain ⟨Ao28, co28, eo28⟩ := Kd.R_slice HO181.out; subst eo28) | (go_at_call 18; (with_reducible refine (treillageref03_Handles.calls kj3 _ _ t174 _ _ t179 true _ ?side1 ?side2 ?side3 ?side4 A19.out).mono ?_); (case side1 => repeat (first | exact (Kd.R_reads' HO176.out).2.2 | (with_reducible refine Kd.C_alloc ?_ _) | (with_reducible refine Kd.C_drewN ?_ _) | (with_reducible refine Kd.C_drew ?_))); (case side2 => exact (Kd.R_reads' HO176.out).2.1); (case side3 => repeat (first | exact (Kd.R_reads' HO181.out).2.2 | (with_reducible refine Kd.C_alloc ?_ _) | (with_reducible refine Kd.C_drewN ?_ _) | (with_reducible refine Kd.C_drew ?_))); (case side4 => exact (Kd.R_reads' HO181.out).2.1); rintro e w' ⟨rfl, ⟨nd, rfl⟩⟩))
        go_ret
        exact ⟨by first | rfl | (simp [errW_none, errW_some] <;> rfl) | (simp [*, errW_none, errW_some] <;> rfl), by repeat (first | (with_reducible first | exact HB.out | apply below_alloc | apply pw_below_drewN | apply below_drew1) | exact HB.out)⟩
       ·rw [if_neg c21] at H; have c21b0 : (t177.toList == a0.toList) = false := beq_eq_false_iff_ne.mpr c21; have c21b1 : (t177.toList != a0.toList) = true := bne_iff_ne.mpr c21; exact absurd ((Option.some.inj H).trans hr_) (by decide)
      ·replace c20 := Bool.eq_false_iff.mpr c20; subst c20; have H1 : (some false) = some r := by rw [if_neg (show ¬ (false = true) by decide)] at H; exact H
       clear H; have H := H1; clear H1; exact absurd ((Option.some.inj H).trans hr_) (by decide)
     ·rw [if_neg c17] at H; have c17b0 : (t171 == t173) = false := by simpa using c17
      (try (have c17b1 : decide (t171 = t173) = false := by simpa using c17)); (try (have c17b2 : (t171 == t173) = false := by simpa using c17)); (try (have c17b3 : ¬ (t171 = t173) := by simpa using c17)); clear c17; exact absurd ((Option.some.inj H).trans hr_) (by decide)
    ·rw [if_neg c16] at H; have c16b0 : (t170.toList == t172.toList) = false := beq_eq_false_iff_ne.mpr c16; have c16b1 : (t170.toList != t172.toList) = true := bne_iff_ne.mpr c16; exact absurd ((Option.some.inj H).trans hr_) (by decide)

/-- THE ONE PURE STATEMENT of treillagelaw11_RecWords: yours. -/
theorem treillagelaw11_RecWords.calls (k : Nat) (a0 : ByteArray) (A1 : Option Addr) (c1 : Nat) (l1 : List Int) (a2 : Int) (r : Bool) (w : World) (hr1 : Kd.C (Kd.int .u64) w A1 l1.length l1) (hc1 : l1.length ≤ c1) (h : treillagelaw11_RecWords.f k a0 l1 a2 = some true) :
  Calls Try.prog 5 #[.string a0, .slice A1 l1.length c1, .int .i64 a2] w fun e w' => e = .returned (.bool true) ∧ Below w.heap.size w w' := treillagelaw11_RecWords.calls1 k a0 A1 c1 l1 a2 true w hr1 hc1 h rfl
def treillagelaw11_RecWords.Pure : Prop := ∀ (a0 : ByteArray) (l1 : List Int) (a2 : Int), a0.size ≤ 140737488351232 → l1.length ≤ maxLen → l1.length * 8 ≤ 140737488351232 → (∀ x ∈ l1, (Lit.int .u64 x).wf = true) → (Lit.int .i64 a2).wf = true → ∃ k, treillagelaw11_RecWords.f k a0 l1 a2 = some true
theorem treillagelaw11_RecWords.walk (P : treillagelaw11_RecWords.Pure) (a0 : ByteArray) (a1 : Option Addr) (len1 cap1 : Nat) (z1 : List Int) (a2 : Int) (w : World) (w0 : a0.size ≤ 140737488351232) (w1 : (a1 = none ∧ len1 = 0 ∧ cap1 = 0 ∧ z1 = []) ∨ ∃ x, a1 = some x ∧ len1 ≤ cap1 ∧ cap1 ≤ maxLen ∧ z1.length = cap1 ∧ (∀ i, i < z1.length → w.cell? (x.add i) = some (.int .u64 (z1.getD i 0))) ∧ ∀ n ∈ z1, (Lit.int .u64 n).wf = true) (y1 : len1 * 8 ≤ 140737488351232) (w2 : (Lit.int .i64 a2).wf = true) :
  Calls Try.prog 5 #[.string a0, .slice a1 len1 cap1, .int .i64 a2] w fun e w' => e = .returned (.bool true) ∧ Below w.heap.size w w' := by
 obtain ⟨l1, rfl, hr1, hm1, hw1, hc1⟩ := ReadsInt.ofRowC w1; obtain ⟨k, h⟩ := P a0 l1 a2 w0 hm1 y1 hw1 w2; refine (treillagelaw11_RecWords.calls k a0 _ _ l1 a2 true w (Kd.C_of_reads (d := (0 : Int)) (h1 := fun _ => rfl) hr1) hc1 h).mono ?_; rintro e w' ⟨rfl, hd⟩
 exact ⟨rfl, hd⟩

end Go.Proofs.Ytdjkadfgmhmhcaa.PA
