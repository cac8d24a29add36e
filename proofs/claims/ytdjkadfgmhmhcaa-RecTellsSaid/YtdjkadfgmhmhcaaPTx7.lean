-- Written by wip/hprint/hprint.py (a program of this session, over the print): not typed by hand
import Derived.Test.YtdjkadfgmhmhcaaPTx0
import Derived.Test.YtdjkadfgmhmhcaaPTx6
namespace Go.Proofs.Ytdjkadfgmhmhcaa.PT
open Go.RowKit Go.Proofs.YtdjkadfgmhmhcaaW.PrintWords Go.Proofs.YtdjkadfgmhmhcaaW.PrintLast Go.Proofs.YtdjkadfgmhmhcaaW.PrintMore
attribute [local go_sem] max2_int min2_int max_two min_two max_three min_three max_four min_four   -- for this text's walks alone
open Go.Proofs.YtdjkadfgmhmhcaaH
set_option linter.unusedVariables false
set_option linter.unusedSimpArgs false

/-! ### treillageref11_sixes: function 28 -/
def treillageref11_sixes.l0 : Nat → List ByteArray → List Int → List Int → Int → Option (Int)
 | 0, _, _, _, _ => none
 | k + 1, x0, x3, x4, x5 => if x5 < (x0.length : Int) then (if 0 ≤ x5 then (if x3.length < 17592186044416 then (if x4.length < 17592186044416 then (treillageref11_sixes.l0 k x0 (x3 ++ [IntKind.u64.wrap (((rdOf ByteArray.empty x0 x5).size : Int))]) (x4 ++ [64]) (wrap64 (x5 + 1))) else (none)) else (none)) else (none)) else ((treillageref11_number.f k x3 x4).bind fun t172 => (some t172))
def treillageref11_sixes.f (k : Nat) (l0 : List ByteArray) : Option (Int) := treillageref11_sixes.l0 k l0 (([] : List Int)) (([] : List Int)) 0
theorem treillageref11_sixes.mono_l : ∀ k, (∀ y0 y1 y2 y3, LeO (treillageref11_sixes.l0 k y0 y1 y2 y3) (treillageref11_sixes.l0 (k + 1) y0 y1 y2 y3))
 | 0 => fun _ _ _ _ r h => by simp [treillageref11_sixes.l0] at h
 | k + 1 => by
  have ih0 := treillageref11_sixes.mono_l k
  ·intro y0 y1 y2 y3
   unfold treillageref11_sixes.l0; repeat' first
   | (with_reducible exact ih0 _ _ _ _)
   | (with_reducible exact treillageref11_number.mono _ _ _)
   | (with_reducible exact LeO.refl _)
   | (with_reducible exact LeO.none _)
   | (with_reducible refine LeO.ite ?_ ?_)
   | (with_reducible refine LeO.bind ?_ (fun _ => ?_))
   | exact ih0 _ _ _ _
   | exact treillageref11_number.mono _ _ _
   | exact LeO.none _
   | refine LeO.ite ?_ ?_
   | refine LeO.bind ?_ (fun _ => ?_)
theorem treillageref11_sixes.mono : ∀ a0 k, LeO (treillageref11_sixes.f k a0) (treillageref11_sixes.f (k + 1) a0) := by
 intro a0 k
 have ih0 := treillageref11_sixes.mono_l k; unfold treillageref11_sixes.f
 repeat' first
   | (with_reducible exact ih0 _ _ _ _)
   | (with_reducible exact treillageref11_number.mono _ _ _)
   | (with_reducible exact LeO.refl _)
   | (with_reducible exact LeO.none _)
   | (with_reducible refine LeO.ite ?_ ?_)
   | (with_reducible refine LeO.bind ?_ (fun _ => ?_))
   | exact ih0 _ _ _ _
   | exact treillageref11_number.mono _ _ _
   | exact LeO.none _
   | refine LeO.ite ?_ ?_
   | refine LeO.bind ?_ (fun _ => ?_)
set_option maxHeartbeats 8000000 in
set_option maxRecDepth 100000 in
theorem treillageref11_sixes.calls (k : Nat) (A0 : Option Addr) (c0 : Nat) (l0 : List ByteArray) (r : Int) (w : World) (hr0 : Kd.C Kd.string w A0 l0.length l0) (hc0 : l0.length ≤ c0) (h : treillageref11_sixes.f k l0 = some r) :
  Calls Try.prog 28 #[.slice A0 l0.length c0] w fun e w' => e = .returned (.int .u64 r) ∧ Below w.heap.size w w' := by
 have HR0 := aA hr0; have HC0 := aA hc0; clear hr0 hc0; have HB := aA (Below.refl w.heap.size w); have H : (treillageref11_sixes.l0 k l0 (([] : List Int)) (([] : List Int)) 0) = some r := h; clear h; obtain ⟨y159, hy159⟩ : ∃ y_ : List Int, y_ = (([] : List Int)) := ⟨_, rfl⟩; replace H : (treillageref11_sixes.l0 k l0 y159 (([] : List Int)) 0) = some r := by first | (rw [hy159]; with_reducible exact H) | (have H2_ := (Option.bind_some _ _).symm.trans H; rw [hy159]; with_reducible exact H2_) | (have H2_ := (Option.bind_some _ _).symm.trans H; with_reducible exact H2_) | with_reducible exact H | (rw [hy159]; exact H) | exact H
 have Ny159 := aA hy159; clear hy159; obtain ⟨y162, hy162⟩ : ∃ y_ : List Int, y_ = (([] : List Int)) := ⟨_, rfl⟩; replace H : (treillageref11_sixes.l0 k l0 y159 y162 0) = some r := by first | (rw [hy162]; with_reducible exact H) | (have H2_ := (Option.bind_some _ _).symm.trans H; rw [hy162]; with_reducible exact H2_) | (have H2_ := (Option.bind_some _ _).symm.trans H; with_reducible exact H2_) | with_reducible exact H | (rw [hy162]; exact H) | exact H
 have Ny162 := aA hy162; clear hy162; have H' := aA H; clear H; go_enter Try.func28, Try.ntmps28; go_wp2_with (first | ((with_reducible refine gate_dst (N := 6) rfl ?_); refine Kd.R_lit (Kd.int .u64) _ 23 ?hg (N := 6) ?hd (xs := ([] : List Int)) (inner := []) (ok := fun _ => True) (okp := fun _ => True) ?hr ?hp (fun _ hk => hk) trivial (Below.refl _ _) (Nat.le_refl _) (by simp) ?_; (case hd => rfl); (case hg => rfl); (case hr => first | (go_simp; done) | (go_simp; rfl)); (case hp => exact (Reps.none _ _)); intro v160 w2 ho3 hb hg_ hnew_; clear hg_ hnew_; (first | rw [← Ny159.out] at ho3 | (simp only [Int.reduceToNat] at ho3; rw [← Ny159.out] at ho3)); have n0_ := aA (Kd.R_lower ho3 (below_size (blw HB.out))); have n1_ := aA (below_step (blw HB.out) hb); clear HB; have HO161 := n0_; have HB := n1_; clear n0_ n1_ hb ho3) | ((with_reducible refine gate_dst (N := 7) rfl ?_); refine Kd.R_lit (Kd.int .u64) _ 23 ?hg (N := 7) ?hd (xs := ([] : List Int)) (inner := []) (ok := fun _ => True) (okp := fun _ => True) ?hr ?hp (fun _ hk => hk) trivial (Below.refl _ _) (Nat.le_refl _) (by simp) ?_; (case hd => rfl); (case hg => rfl); (case hr => first | (go_simp; done) | (go_simp; rfl)); (case hp => exact (Reps.none _ _)); intro v163 w4 ho5 hb hg_ hnew_; clear hg_ hnew_; (first | rw [← Ny162.out] at ho5 | (simp only [Int.reduceToNat] at ho5; rw [← Ny162.out] at ho5)); have n0_ := aA (Kd.R_elder' (rlu HO161.out) (Kd.R_base ho5) hb); have n1_ := aA (Kd.R_lower (Kd.R_new' ho5 (Kd.R_lt (rlu HO161.out))) (below_size (blw HB.out))); have n2_ := aA (below_step (blw HB.out) hb); clear HO161 HB; have HO161 := n0_; have HO164 := n1_; have HB := n2_; clear n0_ n1_ n2_ hb ho5))
 go_loopg [3, 4, 5] k (fun kq v3 v4 v5 w' => ∃ (x3_1 : List Int) (x4_1 : List Int) (x5_1 : Int), v5 = .int .i64 x5_1 ∧ Aside0 (treillageref11_sixes.l0 kq l0 x3_1 x4_1 x5_1 = some r) ∧ Aside0 (kq ≤ k) ∧ Aside0 (Kd.R (Kd.int .u64) 23 w' w.heap.size (fun k_ => some k_ ≠ (v4 : Value).ownBlock) v3 x3_1) ∧ Aside0 (Kd.R (Kd.int .u64) 23 w' w.heap.size (fun k_ => some k_ ≠ (v3 : Value).ownBlock) v4 x4_1) ∧ Aside0 (Below w.heap.size w w'))
 case atStart => exact ⟨(y159), (y162), (0), (by first | rfl | (simp; done) | (simp [*]; done)), H', ⟨Nat.le_refl _⟩, ⟨by (with_reducible repeat (first | apply Kd.R_alloc | apply Kd.R_drewN | apply Kd.R_drew)); exact Kd.R_mono HO161.out (fun _ hk => hk.2)⟩, ⟨by (with_reducible repeat (first | apply Kd.R_alloc | apply Kd.R_drewN | apply Kd.R_drew)); exact Kd.R_mono HO164.out (fun _ hk => hk.2)⟩, ⟨by repeat (first | (with_reducible first | exact HB.out | apply below_alloc | apply pw_below_drewN | apply below_drew1) | exact HB.out)⟩⟩
 case round =>
  clear H'; try clear c2
  try clear p2
  obtain ⟨x3_1, x4_1, x5_1, rfl, HA, HK1, HO_3, HO_4, HB⟩ := hrel; cases gk with
  | zero => exact absurd HA.out (by simp [treillageref11_sixes.l0])
  | succ k1 =>
   have H := HA.out; clear HA; simp only [treillageref11_sixes.l0] at H; by_cases c6 : x5_1 < (l0.length : Int)
   ·rw [if_pos c6] at H; have c6b0 : decide (x5_1 < (l0.length : Int)) = true := decide_eq_true c6; clear c6; by_cases c7 : 0 ≤ x5_1
    rotate_left
    ·rw [if_neg c7] at H; exact absurd H (by simp)
    rw [if_pos c7] at H; have c7b0 : decide (0 ≤ x5_1) = true := decide_eq_true c7; clear c7; by_cases c8 : x3_1.length < 17592186044416
    rotate_left
    ·rw [if_neg c8] at H; exact absurd H (by simp)
    rw [if_pos c8] at H; have LMc8 := aA c8; clear c8; obtain ⟨y166, hy166⟩ : ∃ y_ : List Int, y_ = (x3_1 ++ [IntKind.u64.wrap (((rdOf ByteArray.empty l0 x5_1).size : Int))]) := ⟨_, rfl⟩; replace H : (if x4_1.length < 17592186044416 then (treillageref11_sixes.l0 k1 l0 y166 (x4_1 ++ [64]) (wrap64 (x5_1 + 1))) else (none)) = some r := by first | (rw [hy166]; with_reducible exact H) | (have H2_ := (Option.bind_some _ _).symm.trans H; rw [hy166]; with_reducible exact H2_) | (have H2_ := (Option.bind_some _ _).symm.trans H; with_reducible exact H2_) | with_reducible exact H | (rw [hy166]; exact H) | exact H
    have Ny166 := aA hy166; clear hy166; by_cases c9 : x4_1.length < 17592186044416
    rotate_left
    ·rw [if_neg c9] at H; exact absurd H (by simp)
    rw [if_pos c9] at H; have LMc9 := aA c9; clear c9; obtain ⟨y169, hy169⟩ : ∃ y_ : List Int, y_ = (x4_1 ++ [64]) := ⟨_, rfl⟩; replace H : (treillageref11_sixes.l0 k1 l0 y166 y169 (wrap64 (x5_1 + 1))) = some r := by first | (rw [hy169]; with_reducible exact H) | (have H2_ := (Option.bind_some _ _).symm.trans H; rw [hy169]; with_reducible exact H2_) | (have H2_ := (Option.bind_some _ _).symm.trans H; with_reducible exact H2_) | with_reducible exact H | (rw [hy169]; exact H) | exact H
    have Ny169 := aA hy169; clear hy169; have H' := aA H; clear H; have p165 : 0 ≤ (x5_1 : Int) := of_decide_eq_true (by first | (with_reducible assumption) | assumption); have q165 : x5_1 < (l0.length : Int) := of_decide_eq_true (by first | (with_reducible assumption) | assumption); obtain ⟨ad165, e165, hx165_0⟩ := Kd.at_string HR0.out x5_1 p165 q165; cases e165
    replace hx165_0 := (HB.out.cell (World.block_lt_of_cell? w _ hx165_0)).trans hx165_0; replace p165 := eq_true p165; replace q165 := eq_true q165; go_wp2_with (first | ((with_reducible refine gate_builtin (b := .append) (xs := #[.tmp 14, .tmp 21]) rfl ?_); at_builtin; refine Kd.R_append (Kd.int .u64) (w0 := w) w.heap.size rfl (.tmp 14) (.tmp 21) 28 23 (.int .u64 0) 8 rfl Try.underlying28 info23 rfl (by decide) (by omega) u3 x3_1 (IntKind.u64.wrap (((rdOf ByteArray.empty l0 x5_1).size : Int))) [.int .u64 (IntKind.u64.wrap (((rdOf ByteArray.empty l0 x5_1).size : Int)))] (fun k_ => some k_ ≠ (u4 : Value).ownBlock) (fun _ => False) rfl rfl ?aP (fun _ hk => hk.elim) ?aF ?aO ?aB ?aS ?aL ?_; (case aP => exact rfl); (case aB => exact (blw HB.out)); (case aF => exact (fun k_ hk => Kd.fresh' (Kd.R_lt (rlu HO_4.out)) k_ hk)); (case aO => exact (rlu HO_3.out)); (case aS => exact (below_size (blw HB.out))); (case aL => have := LMc8.out; omega); intro v167 w10 ho hb hg hat; rw [← Ny166.out] at ho; have n0_ := aA (Kd.R_after (ok := (fun _ => True)) (rlu (Kd.R_mono HO_4.out (fun _ hk => ⟨trivial, hk⟩))) hg hat); have n1_ := aA (hb); have n2_ := aA (ho); clear HO_4 HB HO_3; have HO_4 := n0_; have HB := n1_; have HO168 := n2_; clear n0_ n1_ n2_ ho hb hg hat) | ((with_reducible refine gate_builtin (b := .append) (xs := #[.tmp 23, .tmp 24]) rfl ?_); at_builtin; refine Kd.R_append (Kd.int .u64) (w0 := w) w.heap.size rfl (.tmp 23) (.tmp 24) 28 23 (.int .u64 0) 8 rfl Try.underlying28 info23 rfl (by decide) (by omega) u4 x4_1 64 [.int .u64 64] (fun k_ => some k_ ≠ (v167 : Value).ownBlock) (fun _ => False) rfl rfl ?aP (fun _ hk => hk.elim) ?aF ?aO ?aB ?aS ?aL ?_; (case aP => exact rfl); (case aB => exact (blw HB.out)); (case aF => exact (fun k_ hk => Kd.fresh' (Kd.R_lt (rlu HO168.out)) k_ hk)); (case aO => exact (rlu (Kd.R_mono HO_4.out (fun _ hk => hk.2)))); (case aS => exact (below_size (blw HB.out))); (case aL => have := LMc9.out; omega); intro v170 w11 ho hb hg hat; rw [← Ny169.out] at ho; have n0_ := aA (Kd.R_after (ok := (fun _ => True)) (rlu (Kd.R_mono HO168.out (fun _ hk => ⟨trivial, hk⟩))) hg hat); have n1_ := aA (hb); have n2_ := aA (ho); clear HO168 HB HO_4; have HO168 := n0_; have HB := n1_; have HO171 := n2_; clear n0_ n1_ n2_ ho hb hg hat))
    go_roundg k1
    case measure => have := HK1.out; omega
    case rel => exact ⟨(y166), (y169), (wrap64 (x5_1 + 1)), (by first | rfl | (simp; done) | (simp [*]; done)), H', ⟨by have := HK1.out; omega⟩, ⟨by (with_reducible repeat (first | apply Kd.R_alloc | apply Kd.R_drewN | apply Kd.R_drew)); exact Kd.R_mono HO168.out (fun _ hk => hk.2)⟩, ⟨by (with_reducible repeat (first | apply Kd.R_alloc | apply Kd.R_drewN | apply Kd.R_drew)); exact HO171.out⟩, ⟨by repeat (first | (with_reducible first | exact HB.out | apply below_alloc | apply pw_below_drewN | apply below_drew1) | exact HB.out)⟩⟩
   ·rw [if_neg c6] at H; have c6b0 : decide (x5_1 < (l0.length : Int)) = false := decide_eq_false c6; clear c6; replace H := Option.bind_eq_some_iff.mp H; obtain ⟨t172, A120, H⟩ := H; replace H : (some t172) = some r := H; have A12 := aA A120; clear A120; obtain rfl := Option.some.inj H; obtain ⟨Ao13, co13, eo13⟩ := Kd.R_slice HO_3.out; subst eo13; obtain ⟨Ao14, co14, eo14⟩ := Kd.R_slice HO_4.out; subst eo14; go_wp2_with (first | ((with_reducible refine gate_callee (f := 27) rfl ?_); refine goesL_ (some 28) rfl rfl Try.func27 (by kernel_rfl) rfl #[.slice Ao13 x3_1.length co13, .slice Ao14 x4_1.length co14] rfl (by (try simp only [List.map_toArray, List.map_cons, List.map_nil]); first | done | rfl | (simp only [List.length_drop, List.length_take]; rfl)) ?_; (with_reducible refine (treillageref11_number.calls k1 _ _ x3_1 _ _ x4_1 t172 _ ?side1 ?side2 ?side3 ?side4 A12.out).mono ?_); (case side1 => repeat (first | exact (Kd.R_reads' HO_3.out).2.2 | (with_reducible refine Kd.C_alloc ?_ _) | (with_reducible refine Kd.C_drewN ?_ _) | (with_reducible refine Kd.C_drew ?_))); (case side2 => exact (Kd.R_reads' HO_3.out).2.1); (case side3 => repeat (first | exact (Kd.R_reads' HO_4.out).2.2 | (with_reducible refine Kd.C_alloc ?_ _) | (with_reducible refine Kd.C_drewN ?_ _) | (with_reducible refine Kd.C_drew ?_))); (case side4 => exact (Kd.R_reads' HO_4.out).2.1); rintro e w' ⟨rfl, ⟨nd, rfl⟩⟩; refine ⟨_, rfl, ?_⟩))
    go_ret
    exact ⟨by first | rfl | (simp [errW_none, errW_some] <;> rfl) | (simp [*, errW_none, errW_some] <;> rfl), by repeat (first | (with_reducible first | exact HB.out | apply below_alloc | apply pw_below_drewN | apply below_drew1) | exact HB.out)⟩

end Go.Proofs.Ytdjkadfgmhmhcaa.PT
