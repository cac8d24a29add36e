-- Written by wip/hprint/hprint.py (a program of this session, over the print): not typed by hand
import Derived.Test.YtjnfllaonkeefaaPAx0
namespace Go.Proofs.Ytjnfllaonkeefaa.PA
open Go.RowKit Go.Proofs.YtjnfllaonkeefaaW.PrintWords Go.Proofs.YtjnfllaonkeefaaW.PrintLast Go.Proofs.YtjnfllaonkeefaaW.PrintMore
attribute [local go_sem] max2_int min2_int max_two min_two max_three min_three max_four min_four   -- for this text's walks alone
open Go.Proofs.YtjnfllaonkeefaaH
set_option linter.unusedVariables false
set_option linter.unusedSimpArgs false

/-! ### treillageref03_Handles: function 29 -/
def treillageref03_Handles.l0 : Nat -> List Int -> List Int -> Int -> Option (Bool)
 | 0, _, _, _ => none
 | k + 1, x0, x1, x5 => if x5 < (x0.length : Int) then (if 0 <= x5 then (if x5 < (x1.length : Int) then (if (rd x0 x5) = (rd x1 x5) then (treillageref03_Handles.l0 k x0 x1 (wrap64 (x5 + 1))) else (some false)) else (none)) else (none)) else (some true)
def treillageref03_Handles.f (k : Nat) (l0 : List Int) (l1 : List Int) : Option (Bool) := if (l0.length : Int) = (l1.length : Int) then (treillageref03_Handles.l0 k l0 l1 0) else (some false)
theorem treillageref03_Handles.mono_l : ∀ k, (∀ y0 y1 y2, LeO (treillageref03_Handles.l0 k y0 y1 y2) (treillageref03_Handles.l0 (k + 1) y0 y1 y2))
 | 0 => fun _ _ _ r h => by simp [treillageref03_Handles.l0] at h
 | k + 1 => by
  have ih0 := treillageref03_Handles.mono_l k
  ·intro y0 y1 y2
   unfold treillageref03_Handles.l0; repeat' first
   | (with_reducible exact ih0 _ _ _)
   | (with_reducible exact LeO.refl _)
   | (with_reducible exact LeO.none _)
   | (with_reducible refine LeO.ite ?_ ?_)
   | (with_reducible refine LeO.bind ?_ (fun _ => ?_))
   | exact ih0 _ _ _
   | exact LeO.none _
   | refine LeO.ite ?_ ?_
   | refine LeO.bind ?_ (fun _ => ?_)
theorem treillageref03_Handles.mono : ∀ a0 a1 k, LeO (treillageref03_Handles.f k a0 a1) (treillageref03_Handles.f (k + 1) a0 a1) := by
 intro a0 a1 k
 have ih0 := treillageref03_Handles.mono_l k; unfold treillageref03_Handles.f
 repeat' first
   | (with_reducible exact ih0 _ _ _)
   | (with_reducible exact LeO.refl _)
   | (with_reducible exact LeO.none _)
   | (with_reducible refine LeO.ite ?_ ?_)
   | (with_reducible refine LeO.bind ?_ (fun _ => ?_))
   | exact ih0 _ _ _
   | exact LeO.none _
   | refine LeO.ite ?_ ?_
   | refine LeO.bind ?_ (fun _ => ?_)
set_option maxHeartbeats 8000000 in
set_option maxRecDepth 100000 in
theorem treillageref03_Handles.calls (k : Nat) (A0 : Option Addr) (c0 : Nat) (l0 : List Int) (A1 : Option Addr) (c1 : Nat) (l1 : List Int) (r : Bool) (w : World) (hr0 : Kd.C (Kd.int .u64) w A0 l0.length l0) (hc0 : l0.length <= c0) (hr1 : Kd.C (Kd.int .u64) w A1 l1.length l1) (hc1 : l1.length <= c1) (h : treillageref03_Handles.f k l0 l1 = some r) :
  Calls Try.prog 29 #[.slice A0 l0.length c0, .slice A1 l1.length c1] w fun e w' => e = .returned (.bool r) /\ Drawn0 w w' := by
 have HR0 := aA hr0; have HC0 := aA hc0; clear hr0 hc0; have HR1 := aA hr1; have HC1 := aA hc1; clear hr1 hc1; have H : (if (l0.length : Int) = (l1.length : Int) then (treillageref03_Handles.l0 k l0 l1 0) else (some false)) = some r := h; clear h; by_cases c3 : (l0.length : Int) = (l1.length : Int)
 ·rw [if_pos c3] at H; have c3b0 : ((l0.length : Int) == (l1.length : Int)) = true := beq_iff_eq.mpr c3; have c3b1 : ((l0.length : Int) != (l1.length : Int)) = false := bne_eq_false_iff_eq.mpr c3; have c3b2 : (l0.length == l1.length) = true := by first | simpa using c3 | (simp at c3 ⊢; omega)
  clear c3; have H' := aA H; clear H; go_enter Try.func29, Try.ntmps29; go_wp2; repeat (go_quiet (fail); try go_wp2)
  go_loopg [5] k (fun kq v5 w' => ∃ (x5_1 : Int), v5 = .int .i64 x5_1 /\ Aside0 (treillageref03_Handles.l0 kq l0 l1 x5_1 = some r) /\ Aside0 (kq <= k) /\ Drawn0 w w')
  case atStart => exact ⟨(0), (by first | rfl | (simp; done) | (simp [*]; done)), H', ⟨zu _⟩, by repeat (first | exact Drawn0.refl _ | apply Drawn0.step)⟩
  case round =>
   clear H'; try clear c1
   try clear c2
   try clear p2
   try clear c3
   try clear c3b0
   try clear c3b1
   try clear c3b2
   obtain ⟨x5_1, rfl, HA, HK1, ⟨m1, rfl⟩⟩ := hrel; cases gk with
   | zero => exact absurd HA.out (by simp [treillageref03_Handles.l0])
   | succ k1 =>
    have H := HA.out; clear HA; simp only [treillageref03_Handles.l0] at H; by_cases c4 : x5_1 < (l0.length : Int)
    ·rw [if_pos c4] at H; have c4b0 : decide (x5_1 < (l0.length : Int)) = true := zZ c4; clear c4; by_cases c5 : 0 <= x5_1
     rotate_left
     ·rw [if_neg c5] at H; exact absurd H (by simp)
     rw [if_pos c5] at H; have c5b0 : decide (0 <= x5_1) = true := zZ c5; clear c5; by_cases c6 : x5_1 < (l1.length : Int)
     rotate_left
     ·rw [if_neg c6] at H; exact absurd H (by simp)
     rw [if_pos c6] at H; have c6b0 : decide (x5_1 < (l1.length : Int)) = true := zZ c6; clear c6; by_cases c7 : (rd l0 x5_1) = (rd l1 x5_1)
     ·rw [if_pos c7] at H; have c7b0 : ((rd l0 x5_1) == (rd l1 x5_1)) = true := beq_iff_eq.mpr c7; have c7b1 : ((rd l0 x5_1) != (rd l1 x5_1)) = false := bne_eq_false_iff_eq.mpr c7; clear c7; have H' := aA H; clear H; have p200 : 0 <= (x5_1 : Int) := zn (by first | (with_reducible assumption) | assumption); have q200 : x5_1 < (l0.length : Int) := zn (by first | (with_reducible assumption) | assumption); obtain ⟨ad200, e200, hx200_0⟩ := Kd.at_int HR0.out x5_1 p200 q200; cases e200
      replace p200 := eq_true p200; replace q200 := eq_true q200; have p201 : 0 <= (x5_1 : Int) := zn (by first | (with_reducible assumption) | assumption); have q201 : x5_1 < (l1.length : Int) := zn (by first | (with_reducible assumption) | assumption); obtain ⟨ad201, e201, hx201_0⟩ := Kd.at_int HR1.out x5_1 p201 q201; cases e201
      replace p201 := eq_true p201; replace q201 := eq_true q201; go_wp2; repeat (go_quiet (fail); try go_wp2)
      go_roundg k1
      case measure => have := HK1.out; omega
      case rel => exact ⟨(wrap64 (x5_1 + 1)), (by first | rfl | (simp; done) | (simp [*]; done)), H', ⟨by have := HK1.out; omega⟩, by repeat (first | exact Drawn0.refl _ | apply Drawn0.step)⟩
     ·rw [if_neg c7] at H; have c7b0 : ((rd l0 x5_1) == (rd l1 x5_1)) = false := beq_eq_false_iff_ne.mpr c7; have c7b1 : ((rd l0 x5_1) != (rd l1 x5_1)) = true := bne_iff_ne.mpr c7; obtain rfl := Option.some.inj H; have p200 : 0 <= (x5_1 : Int) := zn (by first | (with_reducible assumption) | assumption); have q200 : x5_1 < (l0.length : Int) := zn (by first | (with_reducible assumption) | assumption); obtain ⟨ad200, e200, hx200_0⟩ := Kd.at_int HR0.out x5_1 p200 q200; cases e200
      replace p200 := eq_true p200; replace q200 := eq_true q200; have p201 : 0 <= (x5_1 : Int) := zn (by first | (with_reducible assumption) | assumption); have q201 : x5_1 < (l1.length : Int) := zn (by first | (with_reducible assumption) | assumption); obtain ⟨ad201, e201, hx201_0⟩ := Kd.at_int HR1.out x5_1 p201 q201; cases e201
      replace p201 := eq_true p201; replace q201 := eq_true q201; go_wp2; repeat (go_quiet (fail); try go_wp2)
      go_ret
      exact ⟨by first | rfl | (simp; done) | (simp [*]; done), by repeat (first | exact Drawn0.refl _ | apply Drawn0.step)⟩
    ·rw [if_neg c4] at H; have c4b0 : decide (x5_1 < (l0.length : Int)) = false := ya c4; clear c4; obtain rfl := Option.some.inj H; go_wp2; repeat (go_quiet (fail); try go_wp2)
     go_ret
     exact ⟨by first | rfl | (simp; done) | (simp [*]; done), by repeat (first | exact Drawn0.refl _ | apply Drawn0.step)⟩
 ·rw [if_neg c3] at H; have c3b0 : ((l0.length : Int) == (l1.length : Int)) = false := beq_eq_false_iff_ne.mpr c3; have c3b1 : ((l0.length : Int) != (l1.length : Int)) = true := bne_iff_ne.mpr c3; have c3b2 : (l0.length == l1.length) = false := by first | simpa using c3 | (simp at c3 ⊢; omega)
  obtain rfl := Option.some.inj H; go_enter Try.func29, Try.ntmps29; go_wp2; repeat (go_quiet (fail); try go_wp2)
  go_ret
  exact ⟨by first | rfl | (simp; done) | (simp [*]; done), by repeat (first | exact Drawn0.refl _ | apply Drawn0.step)⟩

/-! ### treillageref12_SameGone: function 20 -/
def treillageref12_SameGone.f (k : Nat) (l0_0 : List Int) (yk : List Int) (yu : List Int) (yt : List Int) : Option (Bool) := (treillageref03_Handles.f k l0_0 yu).bind fun t204 => (if t204 = true then ((treillageref03_Handles.f k yk yt).bind fun t205 => (some t205)) else (some false))
theorem treillageref12_SameGone.mono : ∀ a0 a1 a2 a3 k, LeO (treillageref12_SameGone.f k a0 a1 a2 a3) (treillageref12_SameGone.f (k + 1) a0 a1 a2 a3) := by
 intro a0 a1 a2 a3 k
 unfold treillageref12_SameGone.f
 repeat' first
   | (with_reducible exact treillageref03_Handles.mono _ _ _)
   | (with_reducible exact LeO.refl _)
   | (with_reducible exact LeO.none _)
   | (with_reducible refine LeO.ite ?_ ?_)
   | (with_reducible refine LeO.bind ?_ (fun _ => ?_))
   | exact treillageref03_Handles.mono _ _ _
   | exact LeO.none _
   | refine LeO.ite ?_ ?_
   | refine LeO.bind ?_ (fun _ => ?_)
set_option maxHeartbeats 8000000 in
set_option maxRecDepth 100000 in
theorem treillageref12_SameGone.calls (k : Nat) (A0_0 : Option Addr) (c0_0 : Nat) (l0_0 : List Int) (yr : Option Addr) (yq : Nat) (yk : List Int) (yz : Option Addr) (yA : Nat) (yu : List Int) (yx : Option Addr) (yy : Nat) (yt : List Int) (r : Bool) (w : World) (hr0_0 : Kd.C (Kd.int .u64) w A0_0 l0_0.length l0_0) (hc0_0 : l0_0.length <= c0_0) (hr0_1 : Kd.C (Kd.int .u64) w yr yk.length yk) (hc0_1 : yk.length <= yq) (hr1_0 : Kd.C (Kd.int .u64) w yz yu.length yu) (hc1_0 : yu.length <= yA) (hr1_1 : Kd.C (Kd.int .u64) w yx yt.length yt) (hc1_1 : yt.length <= yy) (h : treillageref12_SameGone.f k l0_0 yk yu yt = some r) :
  Calls Try.prog 20 #[.agg #[.slice A0_0 l0_0.length c0_0, .slice yr yk.length yq], .agg #[.slice yz yu.length yA, .slice yx yt.length yy]] w fun e w' => e = .returned (.bool r) /\ Below w.heap.size w w' := by
 have hu43 := Try.underlying43; have HR0_0 := aA hr0_0; have HC0_0 := aA hc0_0; clear hr0_0 hc0_0; have HR0_1 := aA hr0_1; have HC0_1 := aA hc0_1; clear hr0_1 hc0_1; have HR1_0 := aA hr1_0; have HC1_0 := aA hc1_0; clear hr1_0 hc1_0; have HR1_1 := aA hr1_1; have HC1_1 := aA hc1_1; clear hr1_1 hc1_1; have HB := aA (Below.refl w.heap.size w); have H : ((treillageref03_Handles.f k l0_0 yu).bind fun t204 => (if t204 = true then ((treillageref03_Handles.f k yk yt).bind fun t205 => (some t205)) else (some false))) = some r := h; clear h; replace H := Option.bind_eq_some_iff.mp H; obtain ⟨t204, A30, H⟩ := H; replace H : (if t204 = true then ((treillageref03_Handles.f k yk yt).bind fun t205 => (some t205)) else (some false)) = some r := H; have A3 := aA A30; clear A30; by_cases c4 : t204 = true
 ·subst c4; have H1 : ((treillageref03_Handles.f k yk yt).bind fun t205 => (some t205)) = some r := by rw [if_pos rfl] at H; exact H
  clear H; have H := H1; clear H1; replace H := Option.bind_eq_some_iff.mp H; obtain ⟨t205, A50, H⟩ := H; replace H : (some t205) = some r := H; have A5 := aA A50; clear A50; obtain rfl := Option.some.inj H; go_enter Try.func20, Try.ntmps20; go_wp2_with (first | ((with_reducible refine gate_dst (N := 2) rfl ?_); refine zV ?hg (N := 2) ?hd (cs := #[.slice A0_0 l0_0.length c0_0, .slice yr yk.length yq]) (t := 43) ?hr ?_; (case hd => rfl); (case hg => rfl); (case hr => first | (go_simp; done) | (go_simp; rfl)); intro gb202 hg w6 hbox hb; have n0_ := aA (zC (blw HB.out) hb); have n1_ := aA (hbox); have n2_ := aA ((by rw [hg]; exact (zR (blw HB.out)) : w.heap.size <= gb202)); have n3_ := aA ((by rw [hg]; exact (zR (blw HB.out)) : w.heap.size <= gb202)); clear HB; have HB := n0_; have BK202 := n1_; have GW202 := n2_; have GE202 := n3_; clear n0_ n1_ n2_ n3_ hb hbox hg) | ((with_reducible refine gate_dst (N := 3) rfl ?_); refine zV ?hg (N := 3) ?hd (cs := #[.slice yz yu.length yA, .slice yx yt.length yy]) (t := 43) ?hr ?_; (case hd => rfl); (case hg => rfl); (case hr => first | (go_simp; done) | (go_simp; rfl)); intro gb203 hg w7 hbox hb; have n0_ := aA (zl (g := gb202) (o := .cells #[.slice A0_0 l0_0.length c0_0, .slice yr yk.length yq] 43 (0, 0)) (bku BK202.out) hb); have n1_ := aA (zC (bls HB.out) hb); have n2_ := aA (hbox); have n3_ := aA ((by rw [hg]; exact (zR (bls HB.out)) : w.heap.size <= gb203)); have n4_ := aA ((by rw [hg]; exact (zR (bls HB.out)) : w.heap.size <= gb203)); have n5_ := aA ((by rw [hg]; exact zq (zS (g := gb202) (o := .cells #[.slice A0_0 l0_0.length c0_0, .slice yr yk.length yq] 43 (0, 0)) (bku BK202.out)) : gb202 ≠ gb203)); have n6_ := aA ((by rw [hg]; exact zp (zS (g := gb202) (o := .cells #[.slice A0_0 l0_0.length c0_0, .slice yr yk.length yq] 43 (0, 0)) (bku BK202.out)) : gb203 ≠ gb202)); clear BK202 HB; have BK202 := n0_; have HB := n1_; have BK203 := n2_; have GW203 := n3_; have GE203 := n4_; have NB202_203 := n5_; have NB203_202 := n6_; clear n0_ n1_ n2_ n3_ n4_ n5_ n6_ hb hbox hg; have hnb8 := NB202_203.out; have hnc8 := NB203_202.out; have hcz9_0 : w7.cell? ⟨gb202, 0, none⟩ = some (.slice A0_0 l0_0.length c0_0) := (za BK202.out 0).trans rfl; have hcz9_1 : w7.cell? ⟨gb202, 1, none⟩ = some (.slice yr yk.length yq) := (za BK202.out 1).trans rfl; have hfz9_0 := zf BK202.out 0; have hfz9_1 := zf BK202.out 1; have hcz10_0 : w7.cell? ⟨gb203, 0, none⟩ = some (.slice yz yu.length yA) := (za BK203.out 0).trans rfl; have hcz10_1 : w7.cell? ⟨gb203, 1, none⟩ = some (.slice yx yt.length yy) := (za BK203.out 1).trans rfl; have hfz10_0 := zf BK203.out 0; have hfz10_1 := zf BK203.out 1) | ((with_reducible refine gate_callee (f := 29) rfl ?_); refine goesL_ (some 9) rfl rfl Try.func29 (by kernel_rfl) rfl #[.slice A0_0 l0_0.length c0_0, .slice yz yu.length yA] rfl (by (try simp only [List.map_toArray, List.map_cons, List.map_nil]); first | done | rfl | (simp only [List.length_drop, List.length_take]; rfl)) ?_; (with_reducible refine (treillageref03_Handles.calls k _ _ l0_0 _ _ yu true _ ?side1 ?side2 ?side3 ?side4 A3.out).mono ?_); (case side1 => repeat (first | exact (Kd.C_below HR0_0.out HB.out) | (with_reducible refine Kd.C_alloc ?_ _) | (with_reducible refine Kd.C_drewN ?_ _) | (with_reducible refine Kd.C_drew ?_))); (case side2 => exact HC0_0.out); (case side3 => repeat (first | exact (Kd.C_below HR1_0.out HB.out) | (with_reducible refine Kd.C_alloc ?_ _) | (with_reducible refine Kd.C_drewN ?_ _) | (with_reducible refine Kd.C_drew ?_))); (case side4 => exact HC1_0.out); rintro e w' ⟨rfl, ⟨nd, rfl⟩⟩; refine ⟨_, rfl, ?_⟩) | (go_at_call 29; (with_reducible refine (treillageref03_Handles.calls k _ _ yk _ _ yt t205 _ ?side1 ?side2 ?side3 ?side4 A5.out).mono ?_); (case side1 => repeat (first | exact (Kd.C_below HR0_1.out (bls HB.out)) | (with_reducible refine Kd.C_alloc ?_ _) | (with_reducible refine Kd.C_drewN ?_ _) | (with_reducible refine Kd.C_drew ?_))); (case side2 => exact HC0_1.out); (case side3 => repeat (first | exact (Kd.C_below HR1_1.out (bls HB.out)) | (with_reducible refine Kd.C_alloc ?_ _) | (with_reducible refine Kd.C_drewN ?_ _) | (with_reducible refine Kd.C_drew ?_))); (case side4 => exact HC1_1.out); rintro e w' ⟨rfl, ⟨nd, rfl⟩⟩))
  go_ret
  exact ⟨by first | rfl | (simp [errW_none, errW_some] <;> rfl) | (simp [*, errW_none, errW_some] <;> rfl), by repeat (first | (with_reducible first | exact HB.out | apply zE | apply zF | apply zG | refine zt ?_ GE202.out | refine zt ?_ GE203.out) | exact HB.out)⟩
 ·replace c4 := Bool.eq_false_iff.mpr c4; subst c4; have H1 : (some false) = some r := by rw [if_neg (show ¬ (false = true) by decide)] at H; exact H
  clear H; have H := H1; clear H1; obtain rfl := Option.some.inj H; go_enter Try.func20, Try.ntmps20; go_wp2_with (first | ((with_reducible refine gate_dst (N := 2) rfl ?_); refine zV ?hg (N := 2) ?hd (cs := #[.slice A0_0 l0_0.length c0_0, .slice yr yk.length yq]) (t := 43) ?hr ?_; (case hd => rfl); (case hg => rfl); (case hr => first | (go_simp; done) | (go_simp; rfl)); intro gb202 hg w11 hbox hb; have n0_ := aA (zC (blw HB.out) hb); have n1_ := aA (hbox); have n2_ := aA ((by rw [hg]; exact (zR (blw HB.out)) : w.heap.size <= gb202)); have n3_ := aA ((by rw [hg]; exact (zR (blw HB.out)) : w.heap.size <= gb202)); clear HB; have HB := n0_; have BK202 := n1_; have GW202 := n2_; have GE202 := n3_; clear n0_ n1_ n2_ n3_ hb hbox hg) | ((with_reducible refine gate_dst (N := 3) rfl ?_); refine zV ?hg (N := 3) ?hd (cs := #[.slice yz yu.length yA, .slice yx yt.length yy]) (t := 43) ?hr ?_; (case hd => rfl); (case hg => rfl); (case hr => first | (go_simp; done) | (go_simp; rfl)); intro gb203 hg w12 hbox hb; have n0_ := aA (zl (g := gb202) (o := .cells #[.slice A0_0 l0_0.length c0_0, .slice yr yk.length yq] 43 (0, 0)) (bku BK202.out) hb); have n1_ := aA (zC (bls HB.out) hb); have n2_ := aA (hbox); have n3_ := aA ((by rw [hg]; exact (zR (bls HB.out)) : w.heap.size <= gb203)); have n4_ := aA ((by rw [hg]; exact (zR (bls HB.out)) : w.heap.size <= gb203)); have n5_ := aA ((by rw [hg]; exact zq (zS (g := gb202) (o := .cells #[.slice A0_0 l0_0.length c0_0, .slice yr yk.length yq] 43 (0, 0)) (bku BK202.out)) : gb202 ≠ gb203)); have n6_ := aA ((by rw [hg]; exact zp (zS (g := gb202) (o := .cells #[.slice A0_0 l0_0.length c0_0, .slice yr yk.length yq] 43 (0, 0)) (bku BK202.out)) : gb203 ≠ gb202)); clear BK202 HB; have BK202 := n0_; have HB := n1_; have BK203 := n2_; have GW203 := n3_; have GE203 := n4_; have NB202_203 := n5_; have NB203_202 := n6_; clear n0_ n1_ n2_ n3_ n4_ n5_ n6_ hb hbox hg; have hnb13 := NB202_203.out; have hnc13 := NB203_202.out; have hcz14_0 : w12.cell? ⟨gb202, 0, none⟩ = some (.slice A0_0 l0_0.length c0_0) := (za BK202.out 0).trans rfl; have hcz14_1 : w12.cell? ⟨gb202, 1, none⟩ = some (.slice yr yk.length yq) := (za BK202.out 1).trans rfl; have hfz14_0 := zf BK202.out 0; have hfz14_1 := zf BK202.out 1; have hcz15_0 : w12.cell? ⟨gb203, 0, none⟩ = some (.slice yz yu.length yA) := (za BK203.out 0).trans rfl; have hcz15_1 : w12.cell? ⟨gb203, 1, none⟩ = some (.slice yx yt.length yy) := (za BK203.out 1).trans rfl; have hfz15_0 := zf BK203.out 0; have hfz15_1 := zf BK203.out 1) | ((with_reducible refine gate_callee (f := 29) rfl ?_); refine goesL_ (some 9) rfl rfl Try.func29 (by kernel_rfl) rfl #[.slice A0_0 l0_0.length c0_0, .slice yz yu.length yA] rfl (by (try simp only [List.map_toArray, List.map_cons, List.map_nil]); first | done | rfl | (simp only [List.length_drop, List.length_take]; rfl)) ?_; (with_reducible refine (treillageref03_Handles.calls k _ _ l0_0 _ _ yu false _ ?side1 ?side2 ?side3 ?side4 A3.out).mono ?_); (case side1 => repeat (first | exact (Kd.C_below HR0_0.out HB.out) | (with_reducible refine Kd.C_alloc ?_ _) | (with_reducible refine Kd.C_drewN ?_ _) | (with_reducible refine Kd.C_drew ?_))); (case side2 => exact HC0_0.out); (case side3 => repeat (first | exact (Kd.C_below HR1_0.out HB.out) | (with_reducible refine Kd.C_alloc ?_ _) | (with_reducible refine Kd.C_drewN ?_ _) | (with_reducible refine Kd.C_drew ?_))); (case side4 => exact HC1_0.out); rintro e w' ⟨rfl, ⟨nd, rfl⟩⟩; refine ⟨_, rfl, ?_⟩))
  go_ret
  exact ⟨by first | rfl | (simp [errW_none, errW_some] <;> rfl) | (simp [*, errW_none, errW_some] <;> rfl), by repeat (first | (with_reducible first | exact HB.out | apply zE | apply zF | apply zG | refine zt ?_ GE202.out | refine zt ?_ GE203.out) | exact HB.out)⟩

end Go.Proofs.Ytjnfllaonkeefaa.PA
