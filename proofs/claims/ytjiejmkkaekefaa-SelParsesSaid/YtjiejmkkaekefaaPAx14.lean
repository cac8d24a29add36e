-- Written by wip/hprint/hprint.py (a program of this session, over the print): not typed by hand
import Derived.Test.YtjiejmkkaekefaaPAx0
import Derived.Test.YtjiejmkkaekefaaPAx11
import Derived.Test.YtjiejmkkaekefaaPAx13
namespace Go.Proofs.Ytjiejmkkaekefaa.PA
open Go.RowKit Go.Proofs.YtjiejmkkaekefaaW.PrintWords Go.Proofs.YtjiejmkkaekefaaW.PrintLast Go.Proofs.YtjiejmkkaekefaaW.PrintMore
attribute [local go_sem] max2_int min2_int max_two min_two max_three min_three max_four min_four   -- for this text's walks alone
open Go.Proofs.YtjiejmkkaekefaaH
set_option linter.unusedVariables false
set_option linter.unusedSimpArgs false

/-! ### treillageref09_row: function 22 -/
mutual
def treillageref09_row.l0 : Nat → ByteArray → Int → List (S61) → Bool → Option ((List (S61)) × Int × Bool)
 | 0, _, _, _, _ => none
 | k + 1, x0, x1, x7, x8 => (treillageref09_compound.f k x0 x1).bind fun bt417 => (if bt417.2.2 = true then (if x7.length < 4398046511104 then ((some (x7 ++ [(⟨bt417.1, x8⟩ : S61)] : List (S61))).bind fun y422 => ((treillageref09_blanks.f k x0 bt417.2.1).bind fun t425 => (if t425 = (x0.size : Int) then (treillageref09_row.j1 k x0 t425 y422 bt417.2.1 true) else (if 0 ≤ t425 then (if t425 < (x0.size : Int) then (treillageref09_row.j1 k x0 t425 y422 bt417.2.1 ((bt x0 t425) == 44)) else (none)) else (none))))) else (none)) else (some (([] : List (S61)), bt417.2.1, false)))
def treillageref09_row.j1 : Nat → ByteArray → Int → List (S61) → Int → Bool → Option ((List (S61)) × Int × Bool)
 | 0, _, _, _, _, _ => none
 | k + 1, x0, x1, x7, x10, x35 => if x35 = true then (some (x7, x1, true)) else (if 0 ≤ x1 then (if x1 < (x0.size : Int) then (if (bt x0 x1) = 62 then ((treillageref09_blanks.f k x0 (wrap64 (x1 + 1))).bind fun t426 => (treillageref09_row.l0 k x0 t426 x7 true)) else (if x1 = x10 then (some (([] : List (S61)), x1, false)) else (treillageref09_row.l0 k x0 x1 x7 false))) else (none)) else (none))
end
def treillageref09_row.f (k : Nat) (a0 : ByteArray) (a1 : Int) : Option ((List (S61)) × Int × Bool) := (treillageref09_blanks.f k a0 a1).bind fun t416 => (treillageref09_row.l0 k a0 t416 (([] : List (S61))) false)
theorem treillageref09_row.mono_l : ∀ k, (∀ y0 y1 y2 y3, LeO (treillageref09_row.l0 k y0 y1 y2 y3) (treillageref09_row.l0 (k + 1) y0 y1 y2 y3)) ∧ (∀ y0 y1 y2 y3 y4, LeO (treillageref09_row.j1 k y0 y1 y2 y3 y4) (treillageref09_row.j1 (k + 1) y0 y1 y2 y3 y4))
 | 0 => ⟨fun _ _ _ _ r h => by simp [treillageref09_row.l0] at h, fun _ _ _ _ _ r h => by simp [treillageref09_row.j1] at h⟩
 | k + 1 => by
  obtain ⟨ih0, ih1⟩ := treillageref09_row.mono_l k; refine ⟨?_, ?_⟩
  ·intro y0 y1 y2 y3
   unfold treillageref09_row.l0; repeat' first
   | (with_reducible exact ih0 _ _ _ _)
   | (with_reducible exact ih1 _ _ _ _ _)
   | (with_reducible exact treillageref09_blanks.mono _ _ _)
   | (with_reducible exact treillageref09_compound.mono _ _ _)
   | (with_reducible exact LeO.refl _)
   | (with_reducible exact LeO.none _)
   | (with_reducible refine LeO.ite ?_ ?_)
   | (with_reducible refine LeO.exB (fun _ => ?_))
   | (with_reducible refine LeO.bind ?_ (fun _ => ?_))
   | exact ih0 _ _ _ _
   | exact ih1 _ _ _ _ _
   | exact treillageref09_blanks.mono _ _ _
   | exact treillageref09_compound.mono _ _ _
   | exact LeO.none _
   | refine LeO.ite ?_ ?_
   | refine LeO.bind ?_ (fun _ => ?_)
  ·intro y0 y1 y2 y3 y4
   unfold treillageref09_row.j1; repeat' first
   | (with_reducible exact ih0 _ _ _ _)
   | (with_reducible exact ih1 _ _ _ _ _)
   | (with_reducible exact treillageref09_blanks.mono _ _ _)
   | (with_reducible exact treillageref09_compound.mono _ _ _)
   | (with_reducible exact LeO.refl _)
   | (with_reducible exact LeO.none _)
   | (with_reducible refine LeO.ite ?_ ?_)
   | (with_reducible refine LeO.exB (fun _ => ?_))
   | (with_reducible refine LeO.bind ?_ (fun _ => ?_))
   | exact ih0 _ _ _ _
   | exact ih1 _ _ _ _ _
   | exact treillageref09_blanks.mono _ _ _
   | exact treillageref09_compound.mono _ _ _
   | exact LeO.none _
   | refine LeO.ite ?_ ?_
   | refine LeO.bind ?_ (fun _ => ?_)
theorem treillageref09_row.mono : ∀ a0 a1 k, LeO (treillageref09_row.f k a0 a1) (treillageref09_row.f (k + 1) a0 a1) := by
 intro a0 a1 k
 obtain ⟨ih0, ih1⟩ := treillageref09_row.mono_l k; unfold treillageref09_row.f
 repeat' first
   | (with_reducible exact ih0 _ _ _ _)
   | (with_reducible exact ih1 _ _ _ _ _)
   | (with_reducible exact treillageref09_blanks.mono _ _ _)
   | (with_reducible exact treillageref09_compound.mono _ _ _)
   | (with_reducible exact LeO.refl _)
   | (with_reducible exact LeO.none _)
   | (with_reducible refine LeO.ite ?_ ?_)
   | (with_reducible refine LeO.exB (fun _ => ?_))
   | (with_reducible refine LeO.bind ?_ (fun _ => ?_))
   | exact ih0 _ _ _ _
   | exact ih1 _ _ _ _ _
   | exact treillageref09_blanks.mono _ _ _
   | exact treillageref09_compound.mono _ _ _
   | exact LeO.none _
   | refine LeO.ite ?_ ?_
   | refine LeO.bind ?_ (fun _ => ?_)
set_option maxHeartbeats 8000000 in
set_option maxRecDepth 100000 in
theorem treillageref09_row.calls (k : Nat) (a0 : ByteArray) (a1 : Int) (r1 : List (S61)) (r2 : Int) (r3 : Bool) (w : World) (h : treillageref09_row.f k a0 a1 = some (r1, r2, r3)) :
  Calls Try.prog 22 #[.string a0, .int .i64 a1] w fun e w' => ∃ v0_ : Value, e = .returned (.tuple #[v0_, .int .i64 r2, .bool r3]) ∧ Kd.S k61 61 w' w.heap.size (fun _ => True) v0_ r1 ∧ Below w.heap.size w w' := by
 have hu61 := Try.underlying61; have HB := aA (Below.refl w.heap.size w); have H : ((treillageref09_blanks.f k a0 a1).bind fun Jh => (treillageref09_row.l0 k a0 Jh (([] : List (S61))) false)) = some (r1, r2, r3) := h; clear h; obtain ⟨Jn, hy413⟩ : ∃ y_ : List (S61), y_ = (([] : List (S61))) := ⟨_, rfl⟩; replace H : ((treillageref09_blanks.f k a0 a1).bind fun Jh => (treillageref09_row.l0 k a0 Jh Jn false)) = some (r1, r2, r3) := by first | (rw [hy413]; with_reducible exact H) | (have H2_ := (Option.bind_some _ _).symm.trans H; rw [hy413]; with_reducible exact H2_) | (have H2_ := (Option.bind_some _ _).symm.trans H; with_reducible exact H2_) | with_reducible exact H | (rw [hy413]; exact H) | exact H
 have Ny413 := aA hy413; clear hy413; replace H := Option.bind_eq_some_iff.mp H; obtain ⟨Jh, A30, H⟩ := H; replace H : (treillageref09_row.l0 k a0 Jh Jn false) = some (r1, r2, r3) := H; have A3 := aA A30; clear A30; have H' := aA H; clear H; go_enter Try.func22, Try.ntmps22; go_wp2_with (first | ((with_reducible refine gate_dst (N := 12) rfl ?_); refine Kd.S_lit k61 _ 61 ?hg (N := 12) ?hd (xs := ([] : List (S61))) (inner := []) (ok := fun _ => True) (okp := fun _ => True) ?hr ?hp (fun _ hk => hk) trivial (Below.refl _ _) (Nat.le_refl _) (by simp) ?_; (case hd => rfl); (case hg => rfl); (case hr => first | (go_simp; done) | (go_simp; rfl)); (case hp => exact (Reps.none _ _)); intro v414 w4 ho5 hb hg_ hnew_; clear hg_ hnew_; (first | rw [← Ny413.out] at ho5 | (simp only [Int.reduceToNat] at ho5; rw [← Ny413.out] at ho5)); have n0_ := aA (Kd.S_lower ho5 (below_size (blw HB.out))); have n1_ := aA (below_step (blw HB.out) hb); clear HB; have HO415 := n0_; have HB := n1_; clear n0_ n1_ hb ho5) | ((with_reducible refine gate_callee (f := 35) rfl ?_); refine goesL_ (some 15) rfl rfl Try.func35 (by kernel_rfl) rfl #[.string a0, .int .i64 a1] rfl (by (try simp only [List.map_toArray, List.map_cons, List.map_nil]); first | done | rfl | (simp only [List.length_drop, List.length_take]; rfl)) ?_; (with_reducible refine (treillageref09_blanks.calls k a0 a1 Jh _ A3.out).mono ?_); rintro e w' ⟨rfl, ⟨nd, rfl⟩⟩; refine ⟨_, rfl, ?_⟩))
 go_loopg [1, 7, 8] k (fun kq v1 v7 v8 w' => ∃ (Ji : Int) (Je : List (S61)) (Jf : Bool), v1 = .int .i64 Ji ∧ v8 = .bool Jf ∧ Aside0 (treillageref09_row.l0 kq a0 Ji Je Jf = some (r1, r2, r3)) ∧ Aside0 (kq ≤ k) ∧ Aside0 (Kd.S k61 61 w' w.heap.size (fun _ => True) v7 Je) ∧ Aside0 (Below w.heap.size w w'))
 case atStart => exact ⟨(Jh), (Jn), (false), (by first | rfl | (simp; done) | (simp [*]; done)), (by first | rfl | (simp; done) | (simp [*]; done)), H', ⟨Nat.le_refl _⟩, ⟨by (with_reducible repeat (first | apply Kd.S_alloc | apply Kd.S_drewN | apply Kd.S_drew)); exact HO415.out⟩, ⟨by repeat (first | (with_reducible first | exact HB.out | apply below_alloc | apply pw_below_drewN | apply below_drew1) | exact HB.out)⟩⟩
 case round =>
  clear H'; try clear c2
  try clear p2
  try clear c3
  obtain ⟨Ji, Je, Jf, rfl, rfl, HA, HK1, Jd, HB⟩ := hrel; cases gk with
  | zero => exact absurd HA.out (by simp [treillageref09_row.l0])
  | succ k1 =>
   have H := HA.out; clear HA; simp only [treillageref09_row.l0] at H; replace H := Option.bind_eq_some_iff.mp H; obtain ⟨⟨Jg, Jb, Jp⟩, A60, H⟩ := H; replace H : (if Jp = true then (if Je.length < 4398046511104 then ((some (Je ++ [(⟨Jg, Jf⟩ : S61)] : List (S61))).bind fun Jc => ((treillageref09_blanks.f k1 a0 Jb).bind fun Ja => (if Ja = (a0.size : Int) then (treillageref09_row.j1 k1 a0 Ja Jc Jb true) else (if 0 ≤ Ja then (if Ja < (a0.size : Int) then (treillageref09_row.j1 k1 a0 Ja Jc Jb ((bt a0 Ja) == 44)) else (none)) else (none))))) else (none)) else (some (([] : List (S61)), Jb, false))) = some (r1, r2, r3) := H; have A6 := aA A60; clear A60; by_cases c7 : Jp = true
   ·subst c7; have H1 : (if Je.length < 4398046511104 then ((some (Je ++ [(⟨Jg, Jf⟩ : S61)] : List (S61))).bind fun Jc => ((treillageref09_blanks.f k1 a0 Jb).bind fun Ja => (if Ja = (a0.size : Int) then (treillageref09_row.j1 k1 a0 Ja Jc Jb true) else (if 0 ≤ Ja then (if Ja < (a0.size : Int) then (treillageref09_row.j1 k1 a0 Ja Jc Jb ((bt a0 Ja) == 44)) else (none)) else (none))))) else (none)) = some (r1, r2, r3) := by rw [if_pos rfl] at H; exact H
    clear H; have H := H1; clear H1; by_cases c8 : Je.length < 4398046511104
    rotate_left
    ·rw [if_neg c8] at H; exact absurd H (by simp)
    rw [if_pos c8] at H; have LMc8 := aA c8; clear c8; obtain ⟨Jc, hy422⟩ : ∃ y_ : List (S61), y_ = (Je ++ [(⟨Jg, Jf⟩ : S61)]) := ⟨_, rfl⟩; replace H : ((treillageref09_blanks.f k1 a0 Jb).bind fun Ja => (if Ja = (a0.size : Int) then (treillageref09_row.j1 k1 a0 Ja Jc Jb true) else (if 0 ≤ Ja then (if Ja < (a0.size : Int) then (treillageref09_row.j1 k1 a0 Ja Jc Jb ((bt a0 Ja) == 44)) else (none)) else (none)))) = some (r1, r2, r3) := by first | (rw [hy422]; with_reducible exact H) | (have H2_ := (Option.bind_some _ _).symm.trans H; rw [hy422]; with_reducible exact H2_) | (have H2_ := (Option.bind_some _ _).symm.trans H; with_reducible exact H2_) | with_reducible exact H | (rw [hy422]; exact H) | exact H
    have Ny422 := aA hy422; clear hy422; replace H := Option.bind_eq_some_iff.mp H; obtain ⟨Ja, A90, H⟩ := H; replace H : (if Ja = (a0.size : Int) then (treillageref09_row.j1 k1 a0 Ja Jc Jb true) else (if 0 ≤ Ja then (if Ja < (a0.size : Int) then (treillageref09_row.j1 k1 a0 Ja Jc Jb ((bt a0 Ja) == 44)) else (none)) else (none))) = some (r1, r2, r3) := H; have A9 := aA A90; clear A90; have HC10 := aA H; clear H; go_upto_region 10 with (first | ((with_reducible refine gate_callee (f := 36) rfl ?_); refine goesL_ (some 19) rfl rfl Try.func36 (by kernel_rfl) rfl #[.string a0, .int .i64 Ji] rfl (by (try simp only [List.map_toArray, List.map_cons, List.map_nil]); first | done | rfl | (simp only [List.length_drop, List.length_take]; rfl)) ?_; (with_reducible refine (treillageref09_compound.calls k1 a0 Ji Jg Jb true _ A6.out).mono ?_); rintro e w11 ⟨v420, rfl, ho0, hb⟩; refine ⟨_, rfl, ?_⟩; have n0_ := aA (Kd.S_elder' (by (with_reducible repeat (first | apply Kd.S_alloc | apply Kd.S_drewN | apply Kd.S_drew)); exact Jd.out) (Kd.R_base ho0) hb); have n1_ := aA (Kd.R_lower ho0 (below_size (blw HB.out))); have n2_ := aA (below_step (blw HB.out) hb); clear Jd HB; have Jd := n0_; have Jj := n1_; have HB := n2_; clear n0_ n1_ n2_; (try clear hb); (try clear hb2); (try clear hk); (try clear hi); (try clear ho0); obtain ⟨Jq, Jr, eo12⟩ := Kd.R_slice Jj.out; subst eo12) | ((with_reducible refine gate_builtin (b := .append) (xs := #[.tmp 26, .tmp 30]) rfl ?_); at_builtin; refine Kd.S_append k61 (w0 := w) w.heap.size rfl (.tmp 26) (.tmp 30) 56 61 (.agg #[(.slice none 0 0), (.bool false)]) 32 rfl Try.underlying56 info61 rfl (by decide) (by omega) u7 Je (⟨Jg, Jf⟩ : S61) [.slice Jq Jg.length Jr, .bool Jf] (fun _ => True) (fun k_ => some k_ = (.slice Jq Jg.length Jr : Value).ownBlock) rfl rfl ?aP (fun k_ hk_ => ((Kd.R_mono (ok' := fun k_ => ((fun _ => True)) k_ ∧ some k_ ≠ (u7 : Value).ownBlock) (Kd.R_apart' (Jj.out) (Kd.S_typed Jd.out) (by decide)) (fun k_ hk => ⟨trivial, hk.2⟩))).1 k_ hk_.symm) ?aF ?aO ?aB ?aS ?aL ?_; (case aP => exact k61_mkM _ _ _ (⟨Jg, Jf⟩ : S61) (Kd.R_mono (Kd.R_tight rfl (Kd.R_mono (ok' := fun k_ => ((fun _ => True)) k_ ∧ some k_ ≠ (u7 : Value).ownBlock) (Kd.R_apart' (Jj.out) (Kd.S_typed Jd.out) (by decide)) (fun k_ hk => ⟨trivial, hk.2⟩))) (fun _ h_ => h_))); (case aB => exact (blw HB.out)); (case aF => exact (fun _ _ => trivial)); (case aO => exact (by (with_reducible repeat (first | apply Kd.S_alloc | apply Kd.S_drewN | apply Kd.S_drew)); exact Kd.S_mono Jd.out (fun k_ hk => ⟨trivial, fun e_ => hk.2 e_⟩))); (case aS => exact (below_size (blw HB.out))); (case aL => have := LMc8.out; omega); intro v423 w13 ho hb hg hat; rw [← Ny422.out] at ho; have n0_ := aA (hb); have n1_ := aA (ho); clear HB Jd Jj; have HB := n0_; have Jo := n1_; clear n0_ n1_ ho hb hg hat) | ((with_reducible refine gate_callee (f := 35) rfl ?_); refine goesL_ (some 34) rfl rfl Try.func35 (by kernel_rfl) rfl #[.string a0, .int .i64 Jb] rfl (by (try simp only [List.map_toArray, List.map_cons, List.map_nil]); first | done | rfl | (simp only [List.length_drop, List.length_take]; rfl)) ?_; (with_reducible refine (treillageref09_blanks.calls k1 a0 Jb Ja _ A9.out).mono ?_); rintro e w' ⟨rfl, ⟨nd, rfl⟩⟩; refine ⟨_, rfl, ?_⟩))
    (try simp only [Act.put, List.setIfInBounds_toArray, List.set_cons_zero, List.set_cons_succ]); go_cut [35] (fun v35 wc => ∃ (kq : Nat) (Jl : Bool), v35 = .bool Jl ∧ Aside0 (treillageref09_row.j1 kq a0 Ja Jc Jb Jl = some (r1, r2, r3)) ∧ Aside0 (kq ≤ k1) ∧ Aside0 (Kd.S k61 61 wc w.heap.size (fun _ => True) v423 Jc) ∧ Aside0 (Below w.heap.size w wc))
    case first =>
     have H := HC10.out; clear HC10; by_cases c14 : Ja = (a0.size : Int)
     ·rw [if_pos c14] at H; have c14b0 : (Ja == (a0.size : Int)) = true := beq_iff_eq.mpr c14; have c14b1 : (Ja != (a0.size : Int)) = false := bne_eq_false_iff_eq.mpr c14; clear c14; (first | rw [c14b0] | rw [c14b1] | (simp only [i64_w, i32_w]; rw [c14b0]) | skip)
      have H' := aA H; clear H; go_wp2; go_meet
      case rel => exact ⟨_, (true), (by first | rfl | (simp; done) | (simp [*]; done)), H', ⟨by have := HK1.out; first | omega | exact Nat.le_refl _⟩, ⟨by (with_reducible repeat (first | apply Kd.S_alloc | apply Kd.S_drewN | apply Kd.S_drew)); exact Jo.out⟩, ⟨by repeat (first | (with_reducible first | exact HB.out | apply below_alloc | apply pw_below_drewN | apply below_drew1) | exact HB.out)⟩⟩
     ·rw [if_neg c14] at H; have c14b0 : (Ja == (a0.size : Int)) = false := beq_eq_false_iff_ne.mpr c14; have c14b1 : (Ja != (a0.size : Int)) = true := bne_iff_ne.mpr c14; (first | rw [c14b0] | rw [c14b1] | (simp only [i64_w, i32_w]; rw [c14b0]) | skip)
      by_cases c15 : 0 ≤ Ja
      rotate_left
      ·rw [if_neg c15] at H; exact absurd H (by simp)
      rw [if_pos c15] at H; have c15b0 : decide (0 ≤ Ja) = true := decide_eq_true c15; clear c15; by_cases c16 : Ja < (a0.size : Int)
      rotate_left
      ·rw [if_neg c16] at H; exact absurd H (by simp)
      rw [if_pos c16] at H; have c16b0 : decide (Ja < (a0.size : Int)) = true := decide_eq_true c16; clear c16; have H' := aA H; clear H; have p17 : 0 ≤ (Ja : Int) := of_decide_eq_true (by first | (with_reducible assumption) | assumption); have q17 : Ja < (a0.size : Int) := of_decide_eq_true (by first | (with_reducible assumption) | assumption); have hx17 := bt_at a0 Ja; replace p17 := eq_true p17; replace q17 := eq_true q17; go_wp2; go_meet
      case rel => exact ⟨_, (((bt a0 Ja) == 44)), (by first | rfl | (simp; done) | (simp [*]; done)), H', ⟨by have := HK1.out; first | omega | exact Nat.le_refl _⟩, ⟨by (with_reducible repeat (first | apply Kd.S_alloc | apply Kd.S_drewN | apply Kd.S_drew)); exact Jo.out⟩, ⟨by repeat (first | (with_reducible first | exact HB.out | apply below_alloc | apply pw_below_drewN | apply below_drew1) | exact HB.out)⟩⟩
    case rest =>
     clear HC10; try clear c1
     try clear p1
     try clear q1
     try clear hx1
     try clear c2
     try clear p2
     try clear c3
     try clear c7
     try clear c8
     try clear c14
     try clear c14b0
     try clear c14b1
     try clear c15
     try clear c15b0
     try clear c16
     try clear c16b0
     try clear p17
     try clear q17
     try clear hx17
     try clear p17
     try clear p2
     try clear q17
     obtain ⟨kq, Jl, rfl, HA, HJ9, Jd, HB⟩ := hcut; cases kq with
     | zero => exact absurd HA.out (by simp [treillageref09_row.j1])
     | succ kj9 =>
      have H := HA.out; clear HA; simp only [treillageref09_row.j1] at H; by_cases c18 : Jl = true
      ·subst c18; have H1 : (some (Jc, Ja, true)) = some (r1, r2, r3) := by rw [if_pos rfl] at H; exact H
       clear H; have H := H1; clear H1; simp only [Option.some.injEq, Prod.mk.injEq] at H; obtain ⟨rfl, rfl, rfl⟩ := H; go_wp2; go_ret3
       exact ⟨_, by first | rfl | (simp [errW_none, errW_some] <;> rfl) | (simp [*, errW_none, errW_some] <;> rfl), by (with_reducible repeat (first | apply Kd.S_alloc | apply Kd.S_drewN | apply Kd.S_drew)); exact Jd.out, by repeat (first | (with_reducible first | exact HB.out | apply below_alloc | apply pw_below_drewN | apply below_drew1) | exact HB.out)⟩
      ·replace c18 := Bool.eq_false_iff.mpr c18; subst c18; have H1 : (if 0 ≤ Ja then (if Ja < (a0.size : Int) then (if (bt a0 Ja) = 62 then ((treillageref09_blanks.f kj9 a0 (wrap64 (Ja + 1))).bind fun Jm => (treillageref09_row.l0 kj9 a0 Jm Jc true)) else (if Ja = Jb then (some (([] : List (S61)), Ja, false)) else (treillageref09_row.l0 kj9 a0 Ja Jc false))) else (none)) else (none)) = some (r1, r2, r3) := by rw [if_neg (show ¬ (false = true) by decide)] at H; exact H
       clear H; have H := H1; clear H1; by_cases c19 : 0 ≤ Ja
       rotate_left
       ·rw [if_neg c19] at H; exact absurd H (by simp)
       rw [if_pos c19] at H; have c19b0 : decide (0 ≤ Ja) = true := decide_eq_true c19; clear c19; by_cases c20 : Ja < (a0.size : Int)
       rotate_left
       ·rw [if_neg c20] at H; exact absurd H (by simp)
       rw [if_pos c20] at H; have c20b0 : decide (Ja < (a0.size : Int)) = true := decide_eq_true c20; clear c20; by_cases c22 : (bt a0 Ja) = 62
       ·rw [if_pos c22] at H; have c22b0 : ((bt a0 Ja) == 62) = true := beq_iff_eq.mpr c22; have c22b1 : ((bt a0 Ja) != 62) = false := bne_eq_false_iff_eq.mpr c22; clear c22; replace H := Option.bind_eq_some_iff.mp H; obtain ⟨Jm, A230, H⟩ := H; replace H : (treillageref09_row.l0 kj9 a0 Jm Jc true) = some (r1, r2, r3) := H; have A23 := aA A230; clear A230; have H' := aA H; clear H; have p21 : 0 ≤ (Ja : Int) := of_decide_eq_true (by first | (with_reducible assumption) | assumption); have q21 : Ja < (a0.size : Int) := of_decide_eq_true (by first | (with_reducible assumption) | assumption); have hx21 := bt_at a0 Ja; replace p21 := eq_true p21; replace q21 := eq_true q21; go_wp2_with (first | ((with_reducible refine gate_callee (f := 35) rfl ?_); refine goesL_ (some 56) rfl rfl Try.func35 (by kernel_rfl) rfl #[.string a0, .int .i64 (wrap64 (Ja + 1))] rfl (by (try simp only [List.map_toArray, List.map_cons, List.map_nil]); first | done | rfl | (simp only [List.length_drop, List.length_take]; rfl)) ?_; (with_reducible refine (treillageref09_blanks.calls kj9 a0 (wrap64 (Ja + 1)) Jm _ A23.out).mono ?_); rintro e w' ⟨rfl, ⟨nd, rfl⟩⟩; refine ⟨_, rfl, ?_⟩))
        go_roundg kj9
        case measure => have := HK1.out; have := HJ9.out; omega
        case rel => exact ⟨(Jm), (Jc), (true), (by first | rfl | (simp; done) | (simp [*]; done)), (by first | rfl | (simp; done) | (simp [*]; done)), H', ⟨by have := HK1.out; have := HJ9.out; omega⟩, ⟨by (with_reducible repeat (first | apply Kd.S_alloc | apply Kd.S_drewN | apply Kd.S_drew)); exact Jd.out⟩, ⟨by repeat (first | (with_reducible first | exact HB.out | apply below_alloc | apply pw_below_drewN | apply below_drew1) | exact HB.out)⟩⟩
       ·rw [if_neg c22] at H; have c22b0 : ((bt a0 Ja) == 62) = false := beq_eq_false_iff_ne.mpr c22; have c22b1 : ((bt a0 Ja) != 62) = true := bne_iff_ne.mpr c22; by_cases c24 : Ja = Jb
        ·rw [if_pos c24] at H; have c24b0 : (Ja == Jb) = true := beq_iff_eq.mpr c24; have c24b1 : (Ja != Jb) = false := bne_eq_false_iff_eq.mpr c24; clear c24; simp only [Option.some.injEq, Prod.mk.injEq] at H; obtain ⟨rfl, rfl, rfl⟩ := H; have p21 : 0 ≤ (Ja : Int) := of_decide_eq_true (by first | (with_reducible assumption) | assumption); have q21 : Ja < (a0.size : Int) := of_decide_eq_true (by first | (with_reducible assumption) | assumption); have hx21 := bt_at a0 Ja; replace p21 := eq_true p21; replace q21 := eq_true q21; go_wp2; go_ret3
         exact ⟨_, by first | rfl | (simp [errW_none, errW_some] <;> rfl) | (simp [*, errW_none, errW_some] <;> rfl), by first | exact Kd.S_nil _ _ _ _ _ | exact Kd.N_nil _ _ _ _ _ | exact Kd.V_nil _ _ _ _ _ | exact Kd.Q_nil _ _ _ _ _ | exact Kd.R_nil _ _ _ _ _, by repeat (first | (with_reducible first | exact HB.out | apply below_alloc | apply pw_below_drewN | apply below_drew1) | exact HB.out)⟩
        ·rw [if_neg c24] at H; have c24b0 : (Ja == Jb) = false := beq_eq_false_iff_ne.mpr c24; have c24b1 : (Ja != Jb) = true := bne_iff_ne.mpr c24; have H' := aA H; clear H; have p21 : 0 ≤ (Ja : Int) := of_decide_eq_true (by first | (with_reducible assumption) | assumption); have q21 : Ja < (a0.size : Int) := of_decide_eq_true (by first | (with_reducible assumption) | assumption); have hx21 := bt_at a0 Ja; replace p21 := eq_true p21; replace q21 := eq_true q21; go_wp2; go_roundg kj9
         case measure => have := HK1.out; have := HJ9.out; omega
         case rel => exact ⟨(Ja), (Jc), (false), (by first | rfl | (simp; done) | (simp [*]; done)), (by first | rfl | (simp; done) | (simp [*]; done)), H', ⟨by have := HK1.out; have := HJ9.out; omega⟩, ⟨by (with_reducible repeat (first | apply Kd.S_alloc | apply Kd.S_drewN | apply Kd.S_drew)); exact Jd.out⟩, ⟨by repeat (first | (with_reducible first | exact HB.out | apply below_alloc | apply pw_below_drewN | apply below_drew1) | exact HB.out)⟩⟩
   ·replace c7 := Bool.eq_false_iff.mpr c7; subst c7; have H1 : (some (([] : List (S61)), Jb, false)) = some (r1, r2, r3) := by rw [if_neg (show ¬ (false = true) by decide)] at H; exact H
    clear H; have H := H1; clear H1; simp only [Option.some.injEq, Prod.mk.injEq] at H; obtain ⟨rfl, rfl, rfl⟩ := H; go_wp2_with (first | ((with_reducible refine gate_callee (f := 36) rfl ?_); refine goesL_ (some 19) rfl rfl Try.func36 (by kernel_rfl) rfl #[.string a0, .int .i64 Ji] rfl (by (try simp only [List.map_toArray, List.map_cons, List.map_nil]); first | done | rfl | (simp only [List.length_drop, List.length_take]; rfl)) ?_; (with_reducible refine (treillageref09_compound.calls k1 a0 Ji Jg Jb false _ A6.out).mono ?_); rintro e w25 ⟨v420, rfl, ho0, hb⟩; refine ⟨_, rfl, ?_⟩; have n0_ := aA (Kd.S_elder' (by (with_reducible repeat (first | apply Kd.S_alloc | apply Kd.S_drewN | apply Kd.S_drew)); exact Jd.out) (Kd.R_base ho0) hb); have n1_ := aA (Kd.R_lower ho0 (below_size (blw HB.out))); have n2_ := aA (below_step (blw HB.out) hb); clear Jd HB; have Jd := n0_; have Jj := n1_; have HB := n2_; clear n0_ n1_ n2_; (try clear hb); (try clear hb2); (try clear hk); (try clear hi); (try clear ho0)))
    go_ret3
    exact ⟨_, by first | rfl | (simp [errW_none, errW_some] <;> rfl) | (simp [*, errW_none, errW_some] <;> rfl), by first | exact Kd.S_nil _ _ _ _ _ | exact Kd.N_nil _ _ _ _ _ | exact Kd.V_nil _ _ _ _ _ | exact Kd.Q_nil _ _ _ _ _ | exact Kd.R_nil _ _ _ _ _, by repeat (first | (with_reducible first | exact HB.out | apply below_alloc | apply pw_below_drewN | apply below_drew1) | exact HB.out)⟩

/-! ### treillageref09_Parse: function 12 -/
def treillageref09_Parse.l0 : Nat → ByteArray → List (List (S61)) → Int → Option ((List (List (S61))) × Int × Int)
 | 0, _, _, _ => none
 | k + 1, x0, x5, x6 => (treillageref09_row.f k x0 x6).bind fun Jk => (if Jk.2.2 = true then (if x5.length < 5864062014805 then ((some (x5 ++ [Jk.1] : List (List (S61)))).bind fun Js => (if Jk.2.1 = (x0.size : Int) then (some (Js, 0, 0)) else (treillageref09_Parse.l0 k x0 Js (wrap64 (Jk.2.1 + 1))))) else (none)) else (some (([] : List (List (S61))), Jk.2.1, 90)))
def treillageref09_Parse.f (k : Nat) (a0 : ByteArray) : Option ((List (List (S61))) × Int × Int) := treillageref09_Parse.l0 k a0 (([] : List (List (S61)))) 0
theorem treillageref09_Parse.mono_l : ∀ k, (∀ y0 y1 y2, LeO (treillageref09_Parse.l0 k y0 y1 y2) (treillageref09_Parse.l0 (k + 1) y0 y1 y2))
 | 0 => fun _ _ _ r h => by simp [treillageref09_Parse.l0] at h
 | k + 1 => by
  have ih0 := treillageref09_Parse.mono_l k
  ·intro y0 y1 y2
   unfold treillageref09_Parse.l0; repeat' first
   | (with_reducible exact ih0 _ _ _)
   | (with_reducible exact treillageref09_row.mono _ _ _)
   | (with_reducible exact LeO.refl _)
   | (with_reducible exact LeO.none _)
   | (with_reducible refine LeO.ite ?_ ?_)
   | (with_reducible refine LeO.exB (fun _ => ?_))
   | (with_reducible refine LeO.bind ?_ (fun _ => ?_))
   | exact ih0 _ _ _
   | exact treillageref09_row.mono _ _ _
   | exact LeO.none _
   | refine LeO.ite ?_ ?_
   | refine LeO.bind ?_ (fun _ => ?_)
theorem treillageref09_Parse.mono : ∀ a0 k, LeO (treillageref09_Parse.f k a0) (treillageref09_Parse.f (k + 1) a0) := by
 intro a0 k
 have ih0 := treillageref09_Parse.mono_l k; unfold treillageref09_Parse.f
 repeat' first
   | (with_reducible exact ih0 _ _ _)
   | (with_reducible exact treillageref09_row.mono _ _ _)
   | (with_reducible exact LeO.refl _)
   | (with_reducible exact LeO.none _)
   | (with_reducible refine LeO.ite ?_ ?_)
   | (with_reducible refine LeO.exB (fun _ => ?_))
   | (with_reducible refine LeO.bind ?_ (fun _ => ?_))
   | exact ih0 _ _ _
   | exact treillageref09_row.mono _ _ _
   | exact LeO.none _
   | refine LeO.ite ?_ ?_
   | refine LeO.bind ?_ (fun _ => ?_)
set_option maxHeartbeats 8000000 in
set_option maxRecDepth 100000 in
theorem treillageref09_Parse.calls (k : Nat) (a0 : ByteArray) (r1 : List (List (S61))) (r2 : Int) (r3 : Int) (w : World) (h : treillageref09_Parse.f k a0 = some (r1, r2, r3)) :
  Calls Try.prog 12 #[.string a0] w fun e w' => ∃ v0_ : Value, e = .returned (.tuple #[v0_, .int .i64 r2, .int .i64 r3]) ∧ Kd.R (Kd.slice 61 k61) 56 w' w.heap.size (fun _ => True) v0_ r1 ∧ Below w.heap.size w w' := by
 have HB := aA (Below.refl w.heap.size w); have H : (treillageref09_Parse.l0 k a0 (([] : List (List (S61)))) 0) = some (r1, r2, r3) := h; clear h; obtain ⟨y427, hy427⟩ : ∃ y_ : List (List (S61)), y_ = (([] : List (List (S61)))) := ⟨_, rfl⟩; replace H : (treillageref09_Parse.l0 k a0 y427 0) = some (r1, r2, r3) := by first | (rw [hy427]; with_reducible exact H) | (have H2_ := (Option.bind_some _ _).symm.trans H; rw [hy427]; with_reducible exact H2_) | (have H2_ := (Option.bind_some _ _).symm.trans H; with_reducible exact H2_) | with_reducible exact H | (rw [hy427]; exact H) | exact H
 have Ny427 := aA hy427; clear hy427; have H' := aA H; clear H; go_enter Try.func12, Try.ntmps12; go_wp2_with (first | ((with_reducible refine gate_dst (N := 10) rfl ?_); refine Kd.R_lit (Kd.slice 61 k61) _ 56 ?hg (N := 10) ?hd (xs := ([] : List (List (S61)))) (inner := []) (ok := fun _ => True) (okp := fun _ => True) ?hr ?hp (fun _ hk => hk) trivial (Below.refl _ _) (Nat.le_refl _) (by simp) ?_; (case hd => rfl); (case hg => rfl); (case hr => first | (go_simp; done) | (go_simp; rfl)); (case hp => exact (Reps.none _ _)); intro v428 w2 ho3 hb hg_ hnew_; clear hg_ hnew_; (first | rw [← Ny427.out] at ho3 | (simp only [Int.reduceToNat] at ho3; rw [← Ny427.out] at ho3)); have n0_ := aA (Kd.R_lower ho3 (below_size (blw HB.out))); have n1_ := aA (below_step (blw HB.out) hb); clear HB; have HO429 := n0_; have HB := n1_; clear n0_ n1_ hb ho3))
 go_loopg [5, 6] k (fun kq v5 v6 w' => ∃ (x5_1 : List (List (S61))) (x6_1 : Int), v6 = .int .i64 x6_1 ∧ Aside0 (treillageref09_Parse.l0 kq a0 x5_1 x6_1 = some (r1, r2, r3)) ∧ Aside0 (kq ≤ k) ∧ Aside0 (Kd.R (Kd.slice 61 k61) 56 w' w.heap.size (fun _ => True) v5 x5_1) ∧ Aside0 (Below w.heap.size w w'))
 case atStart => exact ⟨(y427), (0), (by first | rfl | (simp; done) | (simp [*]; done)), H', ⟨Nat.le_refl _⟩, ⟨by (with_reducible repeat (first | apply Kd.R_alloc | apply Kd.R_drewN | apply Kd.R_drew)); exact HO429.out⟩, ⟨by repeat (first | (with_reducible first | exact HB.out | apply below_alloc | apply pw_below_drewN | apply below_drew1) | exact HB.out)⟩⟩
 case round =>
  clear H'; try clear c1
  try clear p2
  obtain ⟨x5_1, x6_1, rfl, HA, HK1, HO_5, HB⟩ := hrel; cases gk with
  | zero => exact absurd HA.out (by simp [treillageref09_Parse.l0])
  | succ k1 =>
   have H := HA.out; clear HA; simp only [treillageref09_Parse.l0] at H; replace H := Option.bind_eq_some_iff.mp H; obtain ⟨⟨t430, t431, t432⟩, A40, H⟩ := H; replace H : (if t432 = true then (if x5_1.length < 5864062014805 then ((some (x5_1 ++ [t430] : List (List (S61)))).bind fun y435 => (if t431 = (a0.size : Int) then (some (y435, 0, 0)) else (treillageref09_Parse.l0 k1 a0 y435 (wrap64 (t431 + 1))))) else (none)) else (some (([] : List (List (S61))), t431, 90))) = some (r1, r2, r3) := H; have A4 := aA A40; clear A40; by_cases c5 : t432 = true
   ·subst c5; have H1 : (if x5_1.length < 5864062014805 then ((some (x5_1 ++ [t430] : List (List (S61)))).bind fun y435 => (if t431 = (a0.size : Int) then (some (y435, 0, 0)) else (treillageref09_Parse.l0 k1 a0 y435 (wrap64 (t431 + 1))))) else (none)) = some (r1, r2, r3) := by rw [if_pos rfl] at H; exact H
    clear H; have H := H1; clear H1; by_cases c6 : x5_1.length < 5864062014805
    rotate_left
    ·rw [if_neg c6] at H; exact absurd H (by simp)
    rw [if_pos c6] at H; have LMc6 := aA c6; clear c6; obtain ⟨y435, hy435⟩ : ∃ y_ : List (List (S61)), y_ = (x5_1 ++ [t430]) := ⟨_, rfl⟩; replace H : (if t431 = (a0.size : Int) then (some (y435, 0, 0)) else (treillageref09_Parse.l0 k1 a0 y435 (wrap64 (t431 + 1)))) = some (r1, r2, r3) := by first | (rw [hy435]; with_reducible exact H) | (have H2_ := (Option.bind_some _ _).symm.trans H; rw [hy435]; with_reducible exact H2_) | (have H2_ := (Option.bind_some _ _).symm.trans H; with_reducible exact H2_) | with_reducible exact H | (rw [hy435]; exact H) | exact H
    have Ny435 := aA hy435; clear hy435; by_cases c7 : t431 = (a0.size : Int)
    ·rw [if_pos c7] at H; have c7b0 : (t431 == (a0.size : Int)) = true := beq_iff_eq.mpr c7; have c7b1 : (t431 != (a0.size : Int)) = false := bne_eq_false_iff_eq.mpr c7; clear c7; simp only [Option.some.injEq, Prod.mk.injEq] at H; obtain ⟨rfl, rfl, rfl⟩ := H; go_wp2_with (first | ((with_reducible refine gate_callee (f := 22) rfl ?_); refine goesL_ (some 16) rfl rfl Try.func22 (by kernel_rfl) rfl #[.string a0, .int .i64 x6_1] rfl (by (try simp only [List.map_toArray, List.map_cons, List.map_nil]); first | done | rfl | (simp only [List.length_drop, List.length_take]; rfl)) ?_; (with_reducible refine (treillageref09_row.calls k1 a0 x6_1 t430 t431 true _ A4.out).mono ?_); rintro e w8 ⟨v433, rfl, ho0, hb⟩; refine ⟨_, rfl, ?_⟩; have n0_ := aA (Kd.R_elder' (rlu HO_5.out) (Kd.S_base ho0) hb); have n1_ := aA (Kd.S_lower ho0 (below_size (blw HB.out))); have n2_ := aA (below_step (blw HB.out) hb); clear HO_5 HB; have HO_5 := n0_; have HO434 := n1_; have HB := n2_; clear n0_ n1_ n2_; (try clear hb); (try clear hb2); (try clear hk); (try clear hi); (try clear ho0); obtain ⟨Ao10, co10, eo10⟩ := Kd.S_slice HO434.out; subst eo10) | ((with_reducible refine gate_builtin (b := .append) (xs := #[.tmp 23, .tmp 25]) rfl ?_); at_builtin; refine Kd.R_append (Kd.slice 61 k61) (w0 := w) w.heap.size rfl (.tmp 23) (.tmp 25) 29 56 (.slice none 0 0) 24 rfl Try.underlying29 info56 rfl (by decide) (by omega) u5 x5_1 t430 [.slice Ao10 t430.length co10] (fun _ => True) (fun k_ => ((fun _ => True)) k_ ∧ some k_ ≠ (u5 : Value).ownBlock) rfl rfl ?aP (fun _ hk => hk) ?aF ?aO ?aB ?aS ?aL ?_; (case aP => exact Kd.M_row (Kd.R_mono (Kd.R_apart' ((Kd.S_R HO434.out)) (Kd.R_typed HO_5.out) (by decide)) (fun k_ hk => ⟨trivial, hk.2⟩))); (case aB => exact (blw HB.out)); (case aF => exact (fun _ _ => trivial)); (case aO => exact (rlu (Kd.R_mono HO_5.out (fun _ hk => trivial)))); (case aS => exact (below_size (blw HB.out))); (case aL => have := LMc6.out; omega); intro v436 w9 ho hb hg hat; rw [← Ny435.out] at ho; have n0_ := aA (hb); have n1_ := aA (ho); clear HB HO_5 HO434; have HB := n0_; have HO437 := n1_; clear n0_ n1_ ho hb hg hat))
     go_ret3
     exact ⟨_, by first | rfl | (simp [errW_none, errW_some] <;> rfl) | (simp [*, errW_none, errW_some] <;> rfl), by (with_reducible repeat (first | apply Kd.R_alloc | apply Kd.R_drewN | apply Kd.R_drew)); exact HO437.out, by repeat (first | (with_reducible first | exact HB.out | apply below_alloc | apply pw_below_drewN | apply below_drew1) | exact HB.out)⟩
    ·rw [if_neg c7] at H; have c7b0 : (t431 == (a0.size : Int)) = false := beq_eq_false_iff_ne.mpr c7; have c7b1 : (t431 != (a0.size : Int)) = true := bne_iff_ne.mpr c7; have H' := aA H; clear H; go_wp2_with (first | ((with_reducible refine gate_callee (f := 22) rfl ?_); refine goesL_ (some 16) rfl rfl Try.func22 (by kernel_rfl) rfl #[.string a0, .int .i64 x6_1] rfl (by (try simp only [List.map_toArray, List.map_cons, List.map_nil]); first | done | rfl | (simp only [List.length_drop, List.length_take]; rfl)) ?_; (with_reducible refine (treillageref09_row.calls k1 a0 x6_1 t430 t431 true _ A4.out).mono ?_); rintro e w11 ⟨v433, rfl, ho0, hb⟩; refine ⟨_, rfl, ?_⟩; have n0_ := aA (Kd.R_elder' (rlu HO_5.out) (Kd.S_base ho0) hb); have n1_ := aA (Kd.S_lower ho0 (below_size (blw HB.out))); have n2_ := aA (below_step (blw HB.out) hb); clear HO_5 HB; have HO_5 := n0_; have HO434 := n1_; have HB := n2_; clear n0_ n1_ n2_; (try clear hb); (try clear hb2); (try clear hk); (try clear hi); (try clear ho0); obtain ⟨Ao13, co13, eo13⟩ := Kd.S_slice HO434.out; subst eo13) | ((with_reducible refine gate_builtin (b := .append) (xs := #[.tmp 23, .tmp 25]) rfl ?_); at_builtin; refine Kd.R_append (Kd.slice 61 k61) (w0 := w) w.heap.size rfl (.tmp 23) (.tmp 25) 29 56 (.slice none 0 0) 24 rfl Try.underlying29 info56 rfl (by decide) (by omega) u5 x5_1 t430 [.slice Ao13 t430.length co13] (fun _ => True) (fun k_ => ((fun _ => True)) k_ ∧ some k_ ≠ (u5 : Value).ownBlock) rfl rfl ?aP (fun _ hk => hk) ?aF ?aO ?aB ?aS ?aL ?_; (case aP => exact Kd.M_row (Kd.R_mono (Kd.R_apart' ((Kd.S_R HO434.out)) (Kd.R_typed HO_5.out) (by decide)) (fun k_ hk => ⟨trivial, hk.2⟩))); (case aB => exact (blw HB.out)); (case aF => exact (fun _ _ => trivial)); (case aO => exact (rlu (Kd.R_mono HO_5.out (fun _ hk => trivial)))); (case aS => exact (below_size (blw HB.out))); (case aL => have := LMc6.out; omega); intro v436 w12 ho hb hg hat; rw [← Ny435.out] at ho; have n0_ := aA (hb); have n1_ := aA (ho); clear HB HO_5 HO434; have HB := n0_; have HO437 := n1_; clear n0_ n1_ ho hb hg hat))
     go_roundg k1
     case measure => have := HK1.out; omega
     case rel => exact ⟨(y435), (wrap64 (t431 + 1)), (by first | rfl | (simp; done) | (simp [*]; done)), H', ⟨by have := HK1.out; omega⟩, ⟨by (with_reducible repeat (first | apply Kd.R_alloc | apply Kd.R_drewN | apply Kd.R_drew)); exact HO437.out⟩, ⟨by repeat (first | (with_reducible first | exact HB.out | apply below_alloc | apply pw_below_drewN | apply below_drew1) | exact HB.out)⟩⟩
   ·replace c5 := Bool.eq_false_iff.mpr c5; subst c5; have H1 : (some (([] : List (List (S61))), t431, 90)) = some (r1, r2, r3) := by rw [if_neg (show ¬ (false = true) by decide)] at H; exact H
    clear H; have H := H1; clear H1; simp only [Option.some.injEq, Prod.mk.injEq] at H; obtain ⟨rfl, rfl, rfl⟩ := H; go_wp2_with (first | ((with_reducible refine gate_callee (f := 22) rfl ?_); refine goesL_ (some 16) rfl rfl Try.func22 (by kernel_rfl) rfl #[.string a0, .int .i64 x6_1] rfl (by (try simp only [List.map_toArray, List.map_cons, List.map_nil]); first | done | rfl | (simp only [List.length_drop, List.length_take]; rfl)) ?_; (with_reducible refine (treillageref09_row.calls k1 a0 x6_1 t430 t431 false _ A4.out).mono ?_); rintro e w14 ⟨v433, rfl, ho0, hb⟩; refine ⟨_, rfl, ?_⟩; have n0_ := aA (Kd.R_elder' (rlu HO_5.out) (Kd.S_base ho0) hb); have n1_ := aA (Kd.S_lower ho0 (below_size (blw HB.out))); have n2_ := aA (below_step (blw HB.out) hb); clear HO_5 HB; have HO_5 := n0_; have HO434 := n1_; have HB := n2_; clear n0_ n1_ n2_; (try clear hb); (try clear hb2); (try clear hk); (try clear hi); (try clear ho0)))
    go_ret3
    exact ⟨_, by first | rfl | (simp [errW_none, errW_some] <;> rfl) | (simp [*, errW_none, errW_some] <;> rfl), by first | exact Kd.R_nil _ _ _ _ _ | exact Kd.N_nil _ _ _ _ _ | exact Kd.V_nil _ _ _ _ _ | exact Kd.Q_nil _ _ _ _ _ | exact Kd.S_nil _ _ _ _ _, by repeat (first | (with_reducible first | exact HB.out | apply below_alloc | apply pw_below_drewN | apply below_drew1) | exact HB.out)⟩

end Go.Proofs.Ytjiejmkkaekefaa.PA
