-- Written by wip/hprint/hprint.py (a program of this session, over the print): not typed by hand
import Derived.Test.YthopfipaaboffaaPAx0
import Derived.Test.YthopfipaaboffaaPAx1
import Derived.Test.YthopfipaaboffaaPAx2
namespace Go.Proofs.Ythopfipaaboffaa.PA
open Go.RowKit Go.Proofs.YthopfipaaboffaaW.PrintWords Go.Proofs.YthopfipaaboffaaW.PrintLast Go.Proofs.YthopfipaaboffaaW.PrintMore
attribute [local go_sem] max2_int min2_int max_two min_two max_three min_three max_four min_four   -- for this text's walks alone
open Go.Proofs.YthopfipaaboffaaH
set_option linter.unusedVariables false
set_option linter.unusedSimpArgs false

/-! ### treillagelaw01_PackTurns: function 7 -/
def treillagelaw01_PackTurns.l0 : Nat → Int → Int → Int → Int → Option (Bool)
  | 0, _, _, _, _ => none
  | k + 1, x0, x1, x5, x6 => if x6 < (wrap64 (x1)) then ((pack_Next.f x5).bind fun t147 => (if t147 = x5 then (some false) else ((pack_Index.f t147).bind fun t148 => ((pack_Index.f x0).bind fun t149 => (if t148 = t149 then ((pack_Gen.f t147).bind fun t150 => ((pack_Gen.f x5).bind fun t151 => (if t150 = (Int.tmod (IntKind.u64.wrap (t151 + 1)) 1099511627776) then (treillagelaw01_PackTurns.l0 k x0 x1 t147 (wrap64 (x6 + 1))) else (some false)))) else (some false)))))) else (if ((x1 == 0) == (x5 == x0)) = true then ((treillagelaw01_shown.f k).bind fun t146 => (some t146)) else (some false))
def treillagelaw01_PackTurns.f (k : Nat) (a0 : Int) (a1 : Int) : Option (Bool) := treillagelaw01_PackTurns.l0 k a0 a1 a0 0
theorem treillagelaw01_PackTurns.mono_l : ∀ k, (∀ y0 y1 y2 y3, LeO (treillagelaw01_PackTurns.l0 k y0 y1 y2 y3) (treillagelaw01_PackTurns.l0 (k + 1) y0 y1 y2 y3))
  | 0 => fun _ _ _ _ r h => by simp [treillagelaw01_PackTurns.l0] at h
  | k + 1 => by
    have ih0 := treillagelaw01_PackTurns.mono_l k
    · intro y0 y1 y2 y3
      unfold treillagelaw01_PackTurns.l0
      repeat' first
      | (with_reducible exact ih0 _ _ _ _)
      | (with_reducible exact treillagelaw01_shown.mono _)
      | (with_reducible exact LeO.refl _)
      | (with_reducible exact LeO.none _)
      | (with_reducible refine LeO.ite ?_ ?_)
      | (with_reducible refine LeO.bind ?_ (fun _ => ?_))
      | exact ih0 _ _ _ _
      | exact treillagelaw01_shown.mono _
      | exact LeO.none _
      | refine LeO.ite ?_ ?_
      | refine LeO.bind ?_ (fun _ => ?_)
theorem treillagelaw01_PackTurns.mono : ∀ a0 a1 k, LeO (treillagelaw01_PackTurns.f k a0 a1) (treillagelaw01_PackTurns.f (k + 1) a0 a1) := by
  intro a0 a1 k
  have ih0 := treillagelaw01_PackTurns.mono_l k
  unfold treillagelaw01_PackTurns.f
  repeat' first
      | (with_reducible exact ih0 _ _ _ _)
      | (with_reducible exact treillagelaw01_shown.mono _)
      | (with_reducible exact LeO.refl _)
      | (with_reducible exact LeO.none _)
      | (with_reducible refine LeO.ite ?_ ?_)
      | (with_reducible refine LeO.bind ?_ (fun _ => ?_))
      | exact ih0 _ _ _ _
      | exact treillagelaw01_shown.mono _
      | exact LeO.none _
      | refine LeO.ite ?_ ?_
      | refine LeO.bind ?_ (fun _ => ?_)
set_option maxHeartbeats 8000000 in
set_option maxRecDepth 100000 in
theorem treillagelaw01_PackTurns.calls (k : Nat) (a0 : Int) (a1 : Int) (r : Bool) (w : World) (h : treillagelaw01_PackTurns.f k a0 a1 = some r) :
    Calls Try.prog 7 #[.int .u64 a0, .int .u8 a1] w fun e w' => e = .returned (.bool r) ∧ Below w.heap.size w w' := by
  have HB := Aside0.mk (Below.refl w.heap.size w)
  have H : (treillagelaw01_PackTurns.l0 k a0 a1 a0 0) = some r := h
  clear h
  have H' := Aside0.mk H
  clear H
  go_enter Try.func7, Try.ntmps7
  go_wp2
  go_loopg [5, 6] k (fun kq v5 v6 w' => ∃ (x5_1 : Int) (x6_1 : Int), v5 = .int .u64 x5_1 ∧ v6 = .int .i64 x6_1 ∧ Aside0 (treillagelaw01_PackTurns.l0 kq a0 a1 x5_1 x6_1 = some r) ∧ Aside0 (kq ≤ k) ∧ Aside0 (Below w.heap.size w w'))
  case atStart => exact ⟨(a0), (0), (by first | rfl | (simp; done) | (simp [*]; done)), (by first | rfl | (simp; done) | (simp [*]; done)), H', ⟨Nat.le_refl _⟩, ⟨by repeat (first | (with_reducible first | exact HB.out | apply below_alloc | apply pw_below_drewN | apply below_drew1) | exact HB.out)⟩⟩
  case round =>
    clear H'
    try clear p2
    obtain ⟨x5_1, x6_1, rfl, rfl, HA, HK1, HB⟩ := hrel
    cases gk with
    | zero => exact absurd HA.out (by simp [treillagelaw01_PackTurns.l0])
    | succ k1 =>
      have H := HA.out
      clear HA
      simp only [treillagelaw01_PackTurns.l0] at H
      by_cases c3 : x6_1 < (wrap64 (a1))
      · rw [if_pos c3] at H
        have c3b0 : decide (x6_1 < (wrap64 (a1))) = true := decide_eq_true c3
        clear c3
        replace H := Option.bind_eq_some_iff.mp H
        obtain ⟨t147, A40, H⟩ := H
        replace H : (if t147 = x5_1 then (some false) else ((pack_Index.f t147).bind fun t148 => ((pack_Index.f a0).bind fun t149 => (if t148 = t149 then ((pack_Gen.f t147).bind fun t150 => ((pack_Gen.f x5_1).bind fun t151 => (if t150 = (Int.tmod (IntKind.u64.wrap (t151 + 1)) 1099511627776) then (treillagelaw01_PackTurns.l0 k1 a0 a1 t147 (wrap64 (x6_1 + 1))) else (some false)))) else (some false))))) = some r := H
        have A4 := Aside0.mk A40
        clear A40
        by_cases c5 : t147 = x5_1
        · rw [if_pos c5] at H
          have c5b0 : (t147 == x5_1) = true := beq_iff_eq.mpr c5
          have c5b1 : (t147 != x5_1) = false := bne_eq_false_iff_eq.mpr c5
          clear c5
          obtain rfl := Option.some.inj H
          go_wp2_with (first | ((with_reducible refine gate_callee (f := 23) rfl ?_); refine goesL_ (some 16) rfl rfl Try.func23 (by kernel_rfl) rfl #[.int .u64 x5_1] rfl (by (try simp only [List.map_toArray, List.map_cons, List.map_nil]); first | done | rfl | (simp only [List.length_drop, List.length_take]; rfl)) ?_; (with_reducible refine (pack_Next.calls x5_1 t147 _ A4.out).mono ?_); rintro e w' ⟨rfl, ⟨nd, rfl⟩⟩; refine ⟨_, rfl, ?_⟩))
          go_ret
          exact ⟨by first | rfl | (simp [errW_none, errW_some] <;> rfl) | (simp [*, errW_none, errW_some] <;> rfl), by repeat (first | (with_reducible first | exact HB.out | apply below_alloc | apply pw_below_drewN | apply below_drew1) | exact HB.out)⟩
        · rw [if_neg c5] at H
          have c5b0 : (t147 == x5_1) = false := beq_eq_false_iff_ne.mpr c5
          have c5b1 : (t147 != x5_1) = true := bne_iff_ne.mpr c5
          replace H := Option.bind_eq_some_iff.mp H
          obtain ⟨t148, A60, H⟩ := H
          replace H : ((pack_Index.f a0).bind fun t149 => (if t148 = t149 then ((pack_Gen.f t147).bind fun t150 => ((pack_Gen.f x5_1).bind fun t151 => (if t150 = (Int.tmod (IntKind.u64.wrap (t151 + 1)) 1099511627776) then (treillagelaw01_PackTurns.l0 k1 a0 a1 t147 (wrap64 (x6_1 + 1))) else (some false)))) else (some false))) = some r := H
          have A6 := Aside0.mk A60
          clear A60
          replace H := Option.bind_eq_some_iff.mp H
          obtain ⟨t149, A70, H⟩ := H
          replace H : (if t148 = t149 then ((pack_Gen.f t147).bind fun t150 => ((pack_Gen.f x5_1).bind fun t151 => (if t150 = (Int.tmod (IntKind.u64.wrap (t151 + 1)) 1099511627776) then (treillagelaw01_PackTurns.l0 k1 a0 a1 t147 (wrap64 (x6_1 + 1))) else (some false)))) else (some false)) = some r := H
          have A7 := Aside0.mk A70
          clear A70
          by_cases c8 : t148 = t149
          · rw [if_pos c8] at H
            have c8b0 : (t148 == t149) = true := beq_iff_eq.mpr c8
            have c8b1 : (t148 != t149) = false := bne_eq_false_iff_eq.mpr c8
            clear c8
            replace H := Option.bind_eq_some_iff.mp H
            obtain ⟨t150, A90, H⟩ := H
            replace H : ((pack_Gen.f x5_1).bind fun t151 => (if t150 = (Int.tmod (IntKind.u64.wrap (t151 + 1)) 1099511627776) then (treillagelaw01_PackTurns.l0 k1 a0 a1 t147 (wrap64 (x6_1 + 1))) else (some false))) = some r := H
            have A9 := Aside0.mk A90
            clear A90
            replace H := Option.bind_eq_some_iff.mp H
            obtain ⟨t151, A100, H⟩ := H
            replace H : (if t150 = (Int.tmod (IntKind.u64.wrap (t151 + 1)) 1099511627776) then (treillagelaw01_PackTurns.l0 k1 a0 a1 t147 (wrap64 (x6_1 + 1))) else (some false)) = some r := H
            have A10 := Aside0.mk A100
            clear A100
            by_cases c11 : t150 = (Int.tmod (IntKind.u64.wrap (t151 + 1)) 1099511627776)
            · rw [if_pos c11] at H
              have c11b0 : (t150 == (Int.tmod (IntKind.u64.wrap (t151 + 1)) 1099511627776)) = true := beq_iff_eq.mpr c11
              have c11b1 : (t150 != (Int.tmod (IntKind.u64.wrap (t151 + 1)) 1099511627776)) = false := bne_eq_false_iff_eq.mpr c11
              clear c11
              have H' := Aside0.mk H
              clear H
              go_wp2_with (first | ((with_reducible refine gate_callee (f := 23) rfl ?_); refine goesL_ (some 16) rfl rfl Try.func23 (by kernel_rfl) rfl #[.int .u64 x5_1] rfl (by (try simp only [List.map_toArray, List.map_cons, List.map_nil]); first | done | rfl | (simp only [List.length_drop, List.length_take]; rfl)) ?_; (with_reducible refine (pack_Next.calls x5_1 t147 _ A4.out).mono ?_); rintro e w' ⟨rfl, ⟨nd, rfl⟩⟩; refine ⟨_, rfl, ?_⟩) | (go_at_call 18; (with_reducible refine (pack_Index.calls t147 t148 _ A6.out).mono ?_); rintro e w' ⟨rfl, ⟨nd, rfl⟩⟩) | (go_at_call 18; (with_reducible refine (pack_Index.calls a0 t149 _ A7.out).mono ?_); rintro e w' ⟨rfl, ⟨nd, rfl⟩⟩) | (go_at_call 19; (with_reducible refine (pack_Gen.calls t147 t150 _ A9.out).mono ?_); rintro e w' ⟨rfl, ⟨nd, rfl⟩⟩) | (go_at_call 19; (with_reducible refine (pack_Gen.calls x5_1 t151 _ A10.out).mono ?_); rintro e w' ⟨rfl, ⟨nd, rfl⟩⟩))
              go_roundg k1
              case measure => have := HK1.out; omega
              case rel => exact ⟨(t147), (wrap64 (x6_1 + 1)), (by first | rfl | (simp; done) | (simp [*]; done)), (by first | rfl | (simp; done) | (simp [*]; done)), H', ⟨by have := HK1.out; omega⟩, ⟨by repeat (first | (with_reducible first | exact HB.out | apply below_alloc | apply pw_below_drewN | apply below_drew1) | exact HB.out)⟩⟩
            · rw [if_neg c11] at H
              have c11b0 : (t150 == (Int.tmod (IntKind.u64.wrap (t151 + 1)) 1099511627776)) = false := beq_eq_false_iff_ne.mpr c11
              have c11b1 : (t150 != (Int.tmod (IntKind.u64.wrap (t151 + 1)) 1099511627776)) = true := bne_iff_ne.mpr c11
              obtain rfl := Option.some.inj H
              go_wp2_with (first | ((with_reducible refine gate_callee (f := 23) rfl ?_); refine goesL_ (some 16) rfl rfl Try.func23 (by kernel_rfl) rfl #[.int .u64 x5_1] rfl (by (try simp only [List.map_toArray, List.map_cons, List.map_nil]); first | done | rfl | (simp only [List.length_drop, List.length_take]; rfl)) ?_; (with_reducible refine (pack_Next.calls x5_1 t147 _ A4.out).mono ?_); rintro e w' ⟨rfl, ⟨nd, rfl⟩⟩; refine ⟨_, rfl, ?_⟩) | (go_at_call 18; (with_reducible refine (pack_Index.calls t147 t148 _ A6.out).mono ?_); rintro e w' ⟨rfl, ⟨nd, rfl⟩⟩) | (go_at_call 18; (with_reducible refine (pack_Index.calls a0 t149 _ A7.out).mono ?_); rintro e w' ⟨rfl, ⟨nd, rfl⟩⟩) | (go_at_call 19; (with_reducible refine (pack_Gen.calls t147 t150 _ A9.out).mono ?_); rintro e w' ⟨rfl, ⟨nd, rfl⟩⟩) | (go_at_call 19; (with_reducible refine (pack_Gen.calls x5_1 t151 _ A10.out).mono ?_); rintro e w' ⟨rfl, ⟨nd, rfl⟩⟩))
              go_ret
              exact ⟨by first | rfl | (simp [errW_none, errW_some] <;> rfl) | (simp [*, errW_none, errW_some] <;> rfl), by repeat (first | (with_reducible first | exact HB.out | apply below_alloc | apply pw_below_drewN | apply below_drew1) | exact HB.out)⟩
          · rw [if_neg c8] at H
            have c8b0 : (t148 == t149) = false := beq_eq_false_iff_ne.mpr c8
            have c8b1 : (t148 != t149) = true := bne_iff_ne.mpr c8
            obtain rfl := Option.some.inj H
            go_wp2_with (first | ((with_reducible refine gate_callee (f := 23) rfl ?_); refine goesL_ (some 16) rfl rfl Try.func23 (by kernel_rfl) rfl #[.int .u64 x5_1] rfl (by (try simp only [List.map_toArray, List.map_cons, List.map_nil]); first | done | rfl | (simp only [List.length_drop, List.length_take]; rfl)) ?_; (with_reducible refine (pack_Next.calls x5_1 t147 _ A4.out).mono ?_); rintro e w' ⟨rfl, ⟨nd, rfl⟩⟩; refine ⟨_, rfl, ?_⟩) | (go_at_call 18; (with_reducible refine (pack_Index.calls t147 t148 _ A6.out).mono ?_); rintro e w' ⟨rfl, ⟨nd, rfl⟩⟩) | (go_at_call 18; (with_reducible refine (pack_Index.calls a0 t149 _ A7.out).mono ?_); rintro e w' ⟨rfl, ⟨nd, rfl⟩⟩))
            go_ret
            exact ⟨by first | rfl | (simp [errW_none, errW_some] <;> rfl) | (simp [*, errW_none, errW_some] <;> rfl), by repeat (first | (with_reducible first | exact HB.out | apply below_alloc | apply pw_below_drewN | apply below_drew1) | exact HB.out)⟩
      · rw [if_neg c3] at H
        have c3b0 : decide (x6_1 < (wrap64 (a1))) = false := decide_eq_false c3
        clear c3
        by_cases c12 : ((a1 == 0) == (x5_1 == a0)) = true
        · rw [if_pos c12] at H
          have c12b0 : ((a1 == 0) == (x5_1 == a0)) = true := c12
          (try (have c12b1 : decide ((a1 == 0) = (x5_1 == a0)) = true := by simpa using c12))
          (try (have c12b2 : ((a1 == 0) == (x5_1 == a0)) = true := by simpa using c12))
          clear c12
          replace H := Option.bind_eq_some_iff.mp H
          obtain ⟨t146, A130, H⟩ := H
          replace H : (some t146) = some r := H
          have A13 := Aside0.mk A130
          clear A130
          obtain rfl := Option.some.inj H
          go_wp2_with (first | (go_at_call 12; (with_reducible refine (treillagelaw01_shown.calls k1  t146 _ A13.out).mono ?_); rintro e w14 ⟨rfl, hb⟩; have n0_ := Aside0.mk (below_step (by repeat (first | (with_reducible first | exact HB.out | apply below_alloc | apply pw_below_drewN | apply below_drew1) | exact HB.out)) hb); clear HB; have HB := n0_; clear n0_; (try clear hb); (try clear hb2); (try clear hk); (try clear hi)))
          go_ret
          exact ⟨by first | rfl | (simp [errW_none, errW_some] <;> rfl) | (simp [*, errW_none, errW_some] <;> rfl), by repeat (first | (with_reducible first | exact HB.out | apply below_alloc | apply pw_below_drewN | apply below_drew1) | exact HB.out)⟩
        · rw [if_neg c12] at H
          have c12b0 : ((a1 == 0) == (x5_1 == a0)) = false := by simpa using c12
          (try (have c12b1 : decide ((a1 == 0) = (x5_1 == a0)) = false := by simpa using c12))
          (try (have c12b2 : ((a1 == 0) == (x5_1 == a0)) = false := by simpa using c12))
          (try (have c12b3 : ¬ ((a1 == 0) = (x5_1 == a0)) := by simpa using c12))
          clear c12
          obtain rfl := Option.some.inj H
          go_wp2
          go_ret
          exact ⟨by first | rfl | (simp [errW_none, errW_some] <;> rfl) | (simp [*, errW_none, errW_some] <;> rfl), by repeat (first | (with_reducible first | exact HB.out | apply below_alloc | apply pw_below_drewN | apply below_drew1) | exact HB.out)⟩

/-- THE ONE PURE STATEMENT of treillagelaw01_PackTurns: yours. -/
def treillagelaw01_PackTurns.Pure : Prop := ∀ (a0 : Int) (a1 : Int), (Lit.int .u64 a0).wf = true → (Lit.int .u8 a1).wf = true → ∃ k, treillagelaw01_PackTurns.f k a0 a1 = some true
theorem treillagelaw01_PackTurns.walk (P : treillagelaw01_PackTurns.Pure) (a0 : Int) (a1 : Int) (w : World) (w0 : (Lit.int .u64 a0).wf = true) (w1 : (Lit.int .u8 a1).wf = true) :
    Calls Try.prog 7 #[.int .u64 a0, .int .u8 a1] w fun e w' => e = .returned (.bool true) ∧ Below w.heap.size w w' := by
  obtain ⟨k, h⟩ := P a0 a1 w0 w1
  refine (treillagelaw01_PackTurns.calls k a0 a1 true w h).mono ?_
  rintro e w' ⟨rfl, hd⟩
  exact ⟨rfl, hd⟩

/-! ### pack_Digit: function 25 -/
def pack_Digit.f (a0 : Int) (a1 : Int) : Option (Int) := if a1 < 0 then (some 0) else (if a1 > 15 then (some 0) else (if 0 ≤ (wrap64 (2 * a1)) then (some (wrap64 (Go.bits .and .u32 (shr .u32 a0 (wrap64 (2 * a1))) 3))) else (none)))
set_option maxHeartbeats 8000000 in
set_option maxRecDepth 100000 in
theorem pack_Digit.calls (a0 : Int) (a1 : Int) (r : Int) (w : World) (h : pack_Digit.f a0 a1 = some r) :
    Calls Try.prog 25 #[.int .u32 a0, .int .i64 a1] w fun e w' => e = .returned (.int .i64 r) ∧ Drawn0 w w' := by
  have H : (if a1 < 0 then (some 0) else (if a1 > 15 then (some 0) else (if 0 ≤ (wrap64 (2 * a1)) then (some (wrap64 (Go.bits .and .u32 (shr .u32 a0 (wrap64 (2 * a1))) 3))) else (none)))) = some r := h
  clear h
  by_cases c3 : a1 < 0
  · rw [if_pos c3] at H
    have c3b0 : decide (a1 < 0) = true := decide_eq_true c3
    clear c3
    obtain rfl := Option.some.inj H
    go_enter Try.func25, Try.ntmps25
    go_wp2
    go_ret
    exact ⟨by first | rfl | (simp; done) | (simp [*]; done), by repeat (first | exact Drawn0.refl _ | apply Drawn0.step)⟩
  · rw [if_neg c3] at H
    have c3b0 : decide (a1 < 0) = false := decide_eq_false c3
    clear c3
    by_cases c4 : a1 > 15
    · rw [if_pos c4] at H
      have c4b0 : decide (15 < a1) = true := decide_eq_true c4
      clear c4
      obtain rfl := Option.some.inj H
      go_enter Try.func25, Try.ntmps25
      go_wp2
      go_ret
      exact ⟨by first | rfl | (simp; done) | (simp [*]; done), by repeat (first | exact Drawn0.refl _ | apply Drawn0.step)⟩
    · rw [if_neg c4] at H
      have c4b0 : decide (15 < a1) = false := decide_eq_false c4
      clear c4
      obtain ⟨ji5, hji5⟩ : ∃ j_ : Int, (wrap64 (2 * a1)) = j_ := ⟨_, rfl⟩
      replace H : (if 0 ≤ (ji5) then (some (wrap64 (Go.bits .and .u32 (shr .u32 a0 (ji5)) 3))) else (none)) = some r := by first | (rw [hji5] at H; exact H) | (simp only [hji5] at H ⊢; exact H)
      have hji5w : (IntKind.i64.wrap (2 * a1)) = ji5 := (i64_w _).trans hji5
      by_cases c6 : 0 ≤ (ji5)
      · rw [if_pos c6] at H
        have c6b0 := eq_true c6
        have c6b1 : decide (0 ≤ (ji5)) = true := decide_eq_true c6
        clear c6
        obtain ⟨ji7, hji7⟩ : ∃ j_ : Int, (shr .u32 a0 (ji5)) = j_ := ⟨_, rfl⟩
        replace H : (some (wrap64 (Go.bits .and .u32 (ji7) 3))) = some r := by first | (rw [hji7] at H; exact H) | (simp only [hji7] at H ⊢; exact H)
        have hji7_ : (a0 / 2 ^ min (ji5).toNat 32) = ji7 := hji7
        have hji7z : (ji5) ≤ 32 → (a0 / 2 ^ (ji5).toNat) = ji7 := shr_small hji7
        obtain rfl := Option.some.inj H
        go_enter Try.func25, Try.ntmps25
        go_wp2
        go_ret
        exact ⟨by first | rfl | (simp; done) | (simp only [← hji5, ← hji7] <;> (first | rfl | simp)) | (simp [*]; done), by repeat (first | exact Drawn0.refl _ | apply Drawn0.step)⟩
      · rw [if_neg c6] at H
        exact absurd H (by simp)

/-! ### treillageref01_Digit: function 26 -/
mutual
def treillageref01_Digit.j0 : Nat → Int → Int → Bool → Option (Int)
  | 0, _, _, _ => none
  | k + 1, x0, x1, x11 => if x11 = true then (some 0) else (treillageref01_Digit.l0 k x0 x1 0)
def treillageref01_Digit.l0 : Nat → Int → Int → Int → Option (Int)
  | 0, _, _, _ => none
  | k + 1, x0, x1, x5 => if x5 < x1 then (treillageref01_Digit.l0 k ((Int.tdiv x0 4) % 4294967296) x1 (wrap64 (x5 + 1))) else (some (wrap64 (Int.tmod x0 4)))
end
def treillageref01_Digit.f (k : Nat) (a0 : Int) (a1 : Int) : Option (Int) := if a1 < 0 then (treillageref01_Digit.j0 k a0 a1 true) else (treillageref01_Digit.j0 k a0 a1 (decide (a1 > 15)))
theorem treillageref01_Digit.mono_l : ∀ k, (∀ y0 y1 y2, LeO (treillageref01_Digit.j0 k y0 y1 y2) (treillageref01_Digit.j0 (k + 1) y0 y1 y2)) ∧ (∀ y0 y1 y2, LeO (treillageref01_Digit.l0 k y0 y1 y2) (treillageref01_Digit.l0 (k + 1) y0 y1 y2))
  | 0 => ⟨fun _ _ _ r h => by simp [treillageref01_Digit.j0] at h, fun _ _ _ r h => by simp [treillageref01_Digit.l0] at h⟩
  | k + 1 => by
    obtain ⟨ih0, ih1⟩ := treillageref01_Digit.mono_l k
    refine ⟨?_, ?_⟩
    · intro y0 y1 y2
      unfold treillageref01_Digit.j0
      repeat' first
      | (with_reducible exact ih0 _ _ _)
      | (with_reducible exact ih1 _ _ _)
      | (with_reducible exact LeO.refl _)
      | (with_reducible exact LeO.none _)
      | (with_reducible refine LeO.ite ?_ ?_)
      | (with_reducible refine LeO.bind ?_ (fun _ => ?_))
      | exact ih0 _ _ _
      | exact ih1 _ _ _
      | exact LeO.none _
      | refine LeO.ite ?_ ?_
      | refine LeO.bind ?_ (fun _ => ?_)
    · intro y0 y1 y2
      unfold treillageref01_Digit.l0
      repeat' first
      | (with_reducible exact ih0 _ _ _)
      | (with_reducible exact ih1 _ _ _)
      | (with_reducible exact LeO.refl _)
      | (with_reducible exact LeO.none _)
      | (with_reducible refine LeO.ite ?_ ?_)
      | (with_reducible refine LeO.bind ?_ (fun _ => ?_))
      | exact ih0 _ _ _
      | exact ih1 _ _ _
      | exact LeO.none _
      | refine LeO.ite ?_ ?_
      | refine LeO.bind ?_ (fun _ => ?_)
theorem treillageref01_Digit.mono : ∀ a0 a1 k, LeO (treillageref01_Digit.f k a0 a1) (treillageref01_Digit.f (k + 1) a0 a1) := by
  intro a0 a1 k
  obtain ⟨ih0, ih1⟩ := treillageref01_Digit.mono_l k
  unfold treillageref01_Digit.f
  repeat' first
      | (with_reducible exact ih0 _ _ _)
      | (with_reducible exact ih1 _ _ _)
      | (with_reducible exact LeO.refl _)
      | (with_reducible exact LeO.none _)
      | (with_reducible refine LeO.ite ?_ ?_)
      | (with_reducible refine LeO.bind ?_ (fun _ => ?_))
      | exact ih0 _ _ _
      | exact ih1 _ _ _
      | exact LeO.none _
      | refine LeO.ite ?_ ?_
      | refine LeO.bind ?_ (fun _ => ?_)
set_option maxHeartbeats 8000000 in
set_option maxRecDepth 100000 in
theorem treillageref01_Digit.calls (k : Nat) (a0 : Int) (a1 : Int) (r : Int) (w : World) (h : treillageref01_Digit.f k a0 a1 = some r) :
    Calls Try.prog 26 #[.int .u32 a0, .int .i64 a1] w fun e w' => e = .returned (.int .i64 r) ∧ Drawn0 w w' := by
  have H : (if a1 < 0 then (treillageref01_Digit.j0 k a0 a1 true) else (treillageref01_Digit.j0 k a0 a1 (decide (a1 > 15)))) = some r := h
  clear h
  have HC3 := Aside0.mk H
  clear H
  go_enter Try.func26, Try.ntmps26
  go_upto_region 1 with (fail)
  go_cut [11] (fun v11 wc => ∃ (kq : Nat) (x11_2 : Bool), v11 = .bool x11_2 ∧ Aside0 (treillageref01_Digit.j0 kq a0 a1 x11_2 = some r) ∧ Aside0 (kq ≤ k) ∧ Drawn0 w wc)
  case first =>
    have H := HC3.out
    clear HC3
    by_cases c4 : a1 < 0
    · rw [if_pos c4] at H
      have c4b0 : decide (a1 < 0) = true := decide_eq_true c4
      clear c4
      (first | rw [c4b0] | (simp only [i64_w, i32_w]; rw [c4b0]) | skip)
      have H' := Aside0.mk H
      clear H
      go_wp2
      go_meet
      case rel => exact ⟨_, (true), (by first | rfl | (simp; done) | (simp [*]; done)), H', ⟨by first | omega | exact Nat.le_refl _⟩, by repeat (first | exact Drawn0.refl _ | apply Drawn0.step)⟩
    · rw [if_neg c4] at H
      have c4b0 : decide (a1 < 0) = false := decide_eq_false c4
      clear c4
      (first | rw [c4b0] | (simp only [i64_w, i32_w]; rw [c4b0]) | skip)
      have H' := Aside0.mk H
      clear H
      go_wp2
      go_meet
      case rel => exact ⟨_, (decide (a1 > 15)), (by first | rfl | (simp; done) | (simp [*]; done)), H', ⟨by first | omega | exact Nat.le_refl _⟩, by repeat (first | exact Drawn0.refl _ | apply Drawn0.step)⟩
  case rest =>
    clear HC3
    try clear c2
    try clear p2
    try clear c4
    try clear c4b0
    obtain ⟨kq, x11_2, rfl, HA, HJ2, ⟨mc2, rfl⟩⟩ := hcut
    cases kq with
    | zero => exact absurd HA.out (by simp [treillageref01_Digit.j0])
    | succ kj2 =>
      have H := HA.out
      clear HA
      simp only [treillageref01_Digit.j0] at H
      by_cases c5 : x11_2 = true
      · subst c5
        have H1 : (some 0) = some r := by rw [if_pos rfl] at H; exact H
        clear H
        have H := H1
        clear H1
        obtain rfl := Option.some.inj H
        go_wp2
        go_ret
        exact ⟨by first | rfl | (simp; done) | (simp [*]; done), by repeat (first | exact Drawn0.refl _ | apply Drawn0.step)⟩
      · replace c5 := Bool.eq_false_iff.mpr c5
        subst c5
        have H1 : (treillageref01_Digit.l0 kj2 a0 a1 0) = some r := by rw [if_neg (show ¬ (false = true) by decide)] at H; exact H
        clear H
        have H := H1
        clear H1
        have H' := Aside0.mk H
        clear H
        go_wp2
        go_loopg [0, 5] kj2 (fun kq v0 v5 w' => ∃ (x0_2 : Int) (x5_2 : Int), v0 = .int .u32 x0_2 ∧ v5 = .int .i64 x5_2 ∧ Aside0 (treillageref01_Digit.l0 kq x0_2 a1 x5_2 = some r) ∧ Aside0 (kq ≤ kj2) ∧ Drawn0 w w')
        case atStart => exact ⟨(a0), (0), (by first | rfl | (simp; done) | (simp [*]; done)), (by first | rfl | (simp; done) | (simp [*]; done)), H', ⟨Nat.le_refl _⟩, by repeat (first | exact Drawn0.refl _ | apply Drawn0.step)⟩
        case round =>
          clear H'
          try clear c2
          try clear p2
          try clear c4
          try clear c4b0
          try clear c5
          try clear p2
          obtain ⟨x0_2, x5_2, rfl, rfl, HA, HK2, ⟨m2, rfl⟩⟩ := hrel
          cases gk with
          | zero => exact absurd HA.out (by simp [treillageref01_Digit.l0])
          | succ k2 =>
            have H := HA.out
            clear HA
            simp only [treillageref01_Digit.l0] at H
            by_cases c6 : x5_2 < a1
            · rw [if_pos c6] at H
              have c6b0 : decide (x5_2 < a1) = true := decide_eq_true c6
              clear c6
              have H' := Aside0.mk H
              clear H
              go_wp2
              go_roundg k2
              case measure => have := HJ2.out; have := HK2.out; omega
              case rel => exact ⟨((Int.tdiv x0_2 4) % 4294967296), (wrap64 (x5_2 + 1)), (by first | rfl | (simp; done) | (simp [*]; done)), (by first | rfl | (simp; done) | (simp [*]; done)), H', ⟨by have := HJ2.out; have := HK2.out; omega⟩, by repeat (first | exact Drawn0.refl _ | apply Drawn0.step)⟩
            · rw [if_neg c6] at H
              have c6b0 : decide (x5_2 < a1) = false := decide_eq_false c6
              clear c6
              obtain rfl := Option.some.inj H
              go_wp2
              go_ret
              exact ⟨by first | rfl | (simp; done) | (simp [*]; done), by repeat (first | exact Drawn0.refl _ | apply Drawn0.step)⟩

/-! ### treillageref01_Levels: function 28 -/
def treillageref01_Levels.l0 : Nat → Int → Int → Int → Option (Int)
  | 0, _, _, _ => none
  | k + 1, x0, x3, x4 => if x0 > 0 then (if x4 < (IntKind.u64.wrap (x0)) then (if x3 < 32 then (treillageref01_Levels.l0 k x0 (wrap64 (x3 + 1)) (IntKind.u64.wrap (x4 * 4))) else (some x3)) else (some x3)) else (some x3)
def treillageref01_Levels.f (k : Nat) (a0 : Int) : Option (Int) := treillageref01_Levels.l0 k a0 0 1
theorem treillageref01_Levels.mono_l : ∀ k, (∀ y0 y1 y2, LeO (treillageref01_Levels.l0 k y0 y1 y2) (treillageref01_Levels.l0 (k + 1) y0 y1 y2))
  | 0 => fun _ _ _ r h => by simp [treillageref01_Levels.l0] at h
  | k + 1 => by
    have ih0 := treillageref01_Levels.mono_l k
    · intro y0 y1 y2
      unfold treillageref01_Levels.l0
      repeat' first
      | (with_reducible exact ih0 _ _ _)
      | (with_reducible exact LeO.refl _)
      | (with_reducible exact LeO.none _)
      | (with_reducible refine LeO.ite ?_ ?_)
      | (with_reducible refine LeO.bind ?_ (fun _ => ?_))
      | exact ih0 _ _ _
      | exact LeO.none _
      | refine LeO.ite ?_ ?_
      | refine LeO.bind ?_ (fun _ => ?_)
theorem treillageref01_Levels.mono : ∀ a0 k, LeO (treillageref01_Levels.f k a0) (treillageref01_Levels.f (k + 1) a0) := by
  intro a0 k
  have ih0 := treillageref01_Levels.mono_l k
  unfold treillageref01_Levels.f
  repeat' first
      | (with_reducible exact ih0 _ _ _)
      | (with_reducible exact LeO.refl _)
      | (with_reducible exact LeO.none _)
      | (with_reducible refine LeO.ite ?_ ?_)
      | (with_reducible refine LeO.bind ?_ (fun _ => ?_))
      | exact ih0 _ _ _
      | exact LeO.none _
      | refine LeO.ite ?_ ?_
      | refine LeO.bind ?_ (fun _ => ?_)
set_option maxHeartbeats 8000000 in
set_option maxRecDepth 100000 in
theorem treillageref01_Levels.calls (k : Nat) (a0 : Int) (r : Int) (w : World) (h : treillageref01_Levels.f k a0 = some r) :
    Calls Try.prog 28 #[.int .i64 a0] w fun e w' => e = .returned (.int .i64 r) ∧ Drawn0 w w' := by
  have H : (treillageref01_Levels.l0 k a0 0 1) = some r := h
  clear h
  have H' := Aside0.mk H
  clear H
  go_enter Try.func28, Try.ntmps28
  go_wp2
  go_loopg [3, 4] k (fun kq v3 v4 w' => ∃ (x3_1 : Int) (x4_1 : Int), v3 = .int .i64 x3_1 ∧ v4 = .int .u64 x4_1 ∧ Aside0 (treillageref01_Levels.l0 kq a0 x3_1 x4_1 = some r) ∧ Aside0 (kq ≤ k) ∧ Drawn0 w w')
  case atStart => exact ⟨(0), (1), (by first | rfl | (simp; done) | (simp [*]; done)), (by first | rfl | (simp; done) | (simp [*]; done)), H', ⟨Nat.le_refl _⟩, by repeat (first | exact Drawn0.refl _ | apply Drawn0.step)⟩
  case round =>
    clear H'
    obtain ⟨x3_1, x4_1, rfl, rfl, HA, HK1, ⟨m1, rfl⟩⟩ := hrel
    cases gk with
    | zero => exact absurd HA.out (by simp [treillageref01_Levels.l0])
    | succ k1 =>
      have H := HA.out
      clear HA
      simp only [treillageref01_Levels.l0] at H
      by_cases c2 : a0 > 0
      · rw [if_pos c2] at H
        have c2b0 : decide (0 < a0) = true := decide_eq_true c2
        clear c2
        by_cases c3 : x4_1 < (IntKind.u64.wrap (a0))
        · rw [if_pos c3] at H
          have c3b0 : decide (x4_1 < (IntKind.u64.wrap (a0))) = true := decide_eq_true c3
          clear c3
          by_cases c4 : x3_1 < 32
          · rw [if_pos c4] at H
            have c4b0 : decide (x3_1 < 32) = true := decide_eq_true c4
            clear c4
            have H' := Aside0.mk H
            clear H
            go_wp2
            go_roundg k1
            case measure => have := HK1.out; omega
            case rel => exact ⟨(wrap64 (x3_1 + 1)), (IntKind.u64.wrap (x4_1 * 4)), (by first | rfl | (simp; done) | (simp [*]; done)), (by first | rfl | (simp; done) | (simp [*]; done)), H', ⟨by have := HK1.out; omega⟩, by repeat (first | exact Drawn0.refl _ | apply Drawn0.step)⟩
          · rw [if_neg c4] at H
            have c4b0 : decide (x3_1 < 32) = false := decide_eq_false c4
            clear c4
            obtain rfl := Option.some.inj H
            go_wp2
            go_ret
            exact ⟨by first | rfl | (simp; done) | (simp [*]; done), by repeat (first | exact Drawn0.refl _ | apply Drawn0.step)⟩
        · rw [if_neg c3] at H
          have c3b0 : decide (x4_1 < (IntKind.u64.wrap (a0))) = false := decide_eq_false c3
          clear c3
          obtain rfl := Option.some.inj H
          go_wp2
          go_ret
          exact ⟨by first | rfl | (simp; done) | (simp [*]; done), by repeat (first | exact Drawn0.refl _ | apply Drawn0.step)⟩
      · rw [if_neg c2] at H
        have c2b0 : decide (0 < a0) = false := decide_eq_false c2
        clear c2
        obtain rfl := Option.some.inj H
        go_wp2
        go_ret
        exact ⟨by first | rfl | (simp; done) | (simp [*]; done), by repeat (first | exact Drawn0.refl _ | apply Drawn0.step)⟩

/-! ### treillagelaw01_PackDigits: function 8 -/
def treillagelaw01_PackDigits.l0 : Nat → Int → Int → Int → Int → Int → Option (Bool)
  | 0, _, _, _, _, _ => none
  | k + 1, x0, x1, x2, x7, x8 => if x8 ≥ 0 then ((pack_Digit.f x0 x8).bind fun t152 => (treillagelaw01_PackDigits.l0 k x0 x1 x2 (IntKind.u64.wrap ((IntKind.u64.wrap (x7 * 4)) + (IntKind.u64.wrap (t152)))) (wrap64 (x8 - 1)))) else ((pack_Digit.f x0 x1).bind fun t153 => ((treillageref01_Digit.f k x0 x1).bind fun t154 => (if t153 = t154 then ((pack_Levels.f k x2).bind fun t155 => ((treillageref01_Levels.f k x2).bind fun t156 => (if t155 = t156 then (if x7 = (IntKind.u64.wrap (x0)) then ((treillagelaw01_shown.f k).bind fun t157 => (some t157)) else (some false)) else (some false)))) else (some false))))
def treillagelaw01_PackDigits.f (k : Nat) (a0 : Int) (a1 : Int) (a2 : Int) : Option (Bool) := treillagelaw01_PackDigits.l0 k a0 a1 a2 0 15
theorem treillagelaw01_PackDigits.mono_l : ∀ k, (∀ y0 y1 y2 y3 y4, LeO (treillagelaw01_PackDigits.l0 k y0 y1 y2 y3 y4) (treillagelaw01_PackDigits.l0 (k + 1) y0 y1 y2 y3 y4))
  | 0 => fun _ _ _ _ _ r h => by simp [treillagelaw01_PackDigits.l0] at h
  | k + 1 => by
    have ih0 := treillagelaw01_PackDigits.mono_l k
    · intro y0 y1 y2 y3 y4
      unfold treillagelaw01_PackDigits.l0
      repeat' first
      | (with_reducible exact ih0 _ _ _ _ _)
      | (with_reducible exact pack_Levels.mono _ _)
      | (with_reducible exact treillagelaw01_shown.mono _)
      | (with_reducible exact treillageref01_Digit.mono _ _ _)
      | (with_reducible exact treillageref01_Levels.mono _ _)
      | (with_reducible exact LeO.refl _)
      | (with_reducible exact LeO.none _)
      | (with_reducible refine LeO.ite ?_ ?_)
      | (with_reducible refine LeO.bind ?_ (fun _ => ?_))
      | exact ih0 _ _ _ _ _
      | exact pack_Levels.mono _ _
      | exact treillagelaw01_shown.mono _
      | exact treillageref01_Digit.mono _ _ _
      | exact treillageref01_Levels.mono _ _
      | exact LeO.none _
      | refine LeO.ite ?_ ?_
      | refine LeO.bind ?_ (fun _ => ?_)
theorem treillagelaw01_PackDigits.mono : ∀ a0 a1 a2 k, LeO (treillagelaw01_PackDigits.f k a0 a1 a2) (treillagelaw01_PackDigits.f (k + 1) a0 a1 a2) := by
  intro a0 a1 a2 k
  have ih0 := treillagelaw01_PackDigits.mono_l k
  unfold treillagelaw01_PackDigits.f
  repeat' first
      | (with_reducible exact ih0 _ _ _ _ _)
      | (with_reducible exact pack_Levels.mono _ _)
      | (with_reducible exact treillagelaw01_shown.mono _)
      | (with_reducible exact treillageref01_Digit.mono _ _ _)
      | (with_reducible exact treillageref01_Levels.mono _ _)
      | (with_reducible exact LeO.refl _)
      | (with_reducible exact LeO.none _)
      | (with_reducible refine LeO.ite ?_ ?_)
      | (with_reducible refine LeO.bind ?_ (fun _ => ?_))
      | exact ih0 _ _ _ _ _
      | exact pack_Levels.mono _ _
      | exact treillagelaw01_shown.mono _
      | exact treillageref01_Digit.mono _ _ _
      | exact treillageref01_Levels.mono _ _
      | exact LeO.none _
      | refine LeO.ite ?_ ?_
      | refine LeO.bind ?_ (fun _ => ?_)
set_option maxHeartbeats 8000000 in
set_option maxRecDepth 100000 in
theorem treillagelaw01_PackDigits.calls (k : Nat) (a0 : Int) (a1 : Int) (a2 : Int) (r : Bool) (w : World) (h : treillagelaw01_PackDigits.f k a0 a1 a2 = some r) :
    Calls Try.prog 8 #[.int .u32 a0, .int .i64 a1, .int .i64 a2] w fun e w' => e = .returned (.bool r) ∧ Below w.heap.size w w' := by
  have HB := Aside0.mk (Below.refl w.heap.size w)
  have H : (treillagelaw01_PackDigits.l0 k a0 a1 a2 0 15) = some r := h
  clear h
  have H' := Aside0.mk H
  clear H
  go_enter Try.func8, Try.ntmps8
  go_wp2
  go_loopg [7, 8] k (fun kq v7 v8 w' => ∃ (x7_1 : Int) (x8_1 : Int), v7 = .int .u64 x7_1 ∧ v8 = .int .i64 x8_1 ∧ Aside0 (treillagelaw01_PackDigits.l0 kq a0 a1 a2 x7_1 x8_1 = some r) ∧ Aside0 (kq ≤ k) ∧ Aside0 (Below w.heap.size w w'))
  case atStart => exact ⟨(0), (15), (by first | rfl | (simp; done) | (simp [*]; done)), (by first | rfl | (simp; done) | (simp [*]; done)), H', ⟨Nat.le_refl _⟩, ⟨by repeat (first | (with_reducible first | exact HB.out | apply below_alloc | apply pw_below_drewN | apply below_drew1) | exact HB.out)⟩⟩
  case round =>
    clear H'
    try clear p2
    obtain ⟨x7_1, x8_1, rfl, rfl, HA, HK1, HB⟩ := hrel
    cases gk with
    | zero => exact absurd HA.out (by simp [treillagelaw01_PackDigits.l0])
    | succ k1 =>
      have H := HA.out
      clear HA
      simp only [treillagelaw01_PackDigits.l0] at H
      by_cases c4 : x8_1 ≥ 0
      · rw [if_pos c4] at H
        have c4b0 : decide (0 ≤ x8_1) = true := decide_eq_true c4
        clear c4
        replace H := Option.bind_eq_some_iff.mp H
        obtain ⟨t152, A50, H⟩ := H
        replace H : (treillagelaw01_PackDigits.l0 k1 a0 a1 a2 (IntKind.u64.wrap ((IntKind.u64.wrap (x7_1 * 4)) + (IntKind.u64.wrap (t152)))) (wrap64 (x8_1 - 1))) = some r := H
        have A5 := Aside0.mk A50
        clear A50
        have H' := Aside0.mk H
        clear H
        go_wp2_with (first | ((with_reducible refine gate_callee (f := 25) rfl ?_); refine goesL_ (some 17) rfl rfl Try.func25 (by kernel_rfl) rfl #[.int .u32 a0, .int .i64 x8_1] rfl (by (try simp only [List.map_toArray, List.map_cons, List.map_nil]); first | done | rfl | (simp only [List.length_drop, List.length_take]; rfl)) ?_; (with_reducible refine (pack_Digit.calls a0 x8_1 t152 _ A5.out).mono ?_); rintro e w' ⟨rfl, ⟨nd, rfl⟩⟩; refine ⟨_, rfl, ?_⟩))
        go_roundg k1
        case measure => have := HK1.out; omega
        case rel => exact ⟨(IntKind.u64.wrap ((IntKind.u64.wrap (x7_1 * 4)) + (IntKind.u64.wrap (t152)))), (wrap64 (x8_1 - 1)), (by first | rfl | (simp; done) | (simp [*]; done)), (by first | rfl | (simp; done) | (simp [*]; done)), H', ⟨by have := HK1.out; omega⟩, ⟨by repeat (first | (with_reducible first | exact HB.out | apply below_alloc | apply pw_below_drewN | apply below_drew1) | exact HB.out)⟩⟩
      · rw [if_neg c4] at H
        have c4b0 : decide (0 ≤ x8_1) = false := decide_eq_false c4
        clear c4
        replace H := Option.bind_eq_some_iff.mp H
        obtain ⟨t153, A60, H⟩ := H
        replace H : ((treillageref01_Digit.f k1 a0 a1).bind fun t154 => (if t153 = t154 then ((pack_Levels.f k1 a2).bind fun t155 => ((treillageref01_Levels.f k1 a2).bind fun t156 => (if t155 = t156 then (if x7_1 = (IntKind.u64.wrap (a0)) then ((treillagelaw01_shown.f k1).bind fun t157 => (some t157)) else (some false)) else (some false)))) else (some false))) = some r := H
        have A6 := Aside0.mk A60
        clear A60
        replace H := Option.bind_eq_some_iff.mp H
        obtain ⟨t154, A70, H⟩ := H
        replace H : (if t153 = t154 then ((pack_Levels.f k1 a2).bind fun t155 => ((treillageref01_Levels.f k1 a2).bind fun t156 => (if t155 = t156 then (if x7_1 = (IntKind.u64.wrap (a0)) then ((treillagelaw01_shown.f k1).bind fun t157 => (some t157)) else (some false)) else (some false)))) else (some false)) = some r := H
        have A7 := Aside0.mk A70
        clear A70
        by_cases c8 : t153 = t154
        · rw [if_pos c8] at H
          have c8b0 : (t153 == t154) = true := beq_iff_eq.mpr c8
          have c8b1 : (t153 != t154) = false := bne_eq_false_iff_eq.mpr c8
          clear c8
          replace H := Option.bind_eq_some_iff.mp H
          obtain ⟨t155, A90, H⟩ := H
          replace H : ((treillageref01_Levels.f k1 a2).bind fun t156 => (if t155 = t156 then (if x7_1 = (IntKind.u64.wrap (a0)) then ((treillagelaw01_shown.f k1).bind fun t157 => (some t157)) else (some false)) else (some false))) = some r := H
          have A9 := Aside0.mk A90
          clear A90
          replace H := Option.bind_eq_some_iff.mp H
          obtain ⟨t156, A100, H⟩ := H
          replace H : (if t155 = t156 then (if x7_1 = (IntKind.u64.wrap (a0)) then ((treillagelaw01_shown.f k1).bind fun t157 => (some t157)) else (some false)) else (some false)) = some r := H
          have A10 := Aside0.mk A100
          clear A100
          by_cases c11 : t155 = t156
          · rw [if_pos c11] at H
            have c11b0 : (t155 == t156) = true := beq_iff_eq.mpr c11
            have c11b1 : (t155 != t156) = false := bne_eq_false_iff_eq.mpr c11
            clear c11
            by_cases c12 : x7_1 = (IntKind.u64.wrap (a0))
            · rw [if_pos c12] at H
              have c12b0 : (x7_1 == (IntKind.u64.wrap (a0))) = true := beq_iff_eq.mpr c12
              have c12b1 : (x7_1 != (IntKind.u64.wrap (a0))) = false := bne_eq_false_iff_eq.mpr c12
              clear c12
              replace H := Option.bind_eq_some_iff.mp H
              obtain ⟨t157, A130, H⟩ := H
              replace H : (some t157) = some r := H
              have A13 := Aside0.mk A130
              clear A130
              obtain rfl := Option.some.inj H
              go_wp2_with (first | ((with_reducible refine gate_callee (f := 25) rfl ?_); refine goesL_ (some 22) rfl rfl Try.func25 (by kernel_rfl) rfl #[.int .u32 a0, .int .i64 a1] rfl (by (try simp only [List.map_toArray, List.map_cons, List.map_nil]); first | done | rfl | (simp only [List.length_drop, List.length_take]; rfl)) ?_; (with_reducible refine (pack_Digit.calls a0 a1 t153 _ A6.out).mono ?_); rintro e w' ⟨rfl, ⟨nd, rfl⟩⟩; refine ⟨_, rfl, ?_⟩) | ((with_reducible refine gate_callee (f := 26) rfl ?_); refine goesL_ (some 25) rfl rfl Try.func26 (by kernel_rfl) rfl #[.int .u32 a0, .int .i64 a1] rfl (by (try simp only [List.map_toArray, List.map_cons, List.map_nil]); first | done | rfl | (simp only [List.length_drop, List.length_take]; rfl)) ?_; (with_reducible refine (treillageref01_Digit.calls k1 a0 a1 t154 _ A7.out).mono ?_); rintro e w' ⟨rfl, ⟨nd, rfl⟩⟩; refine ⟨_, rfl, ?_⟩) | (go_at_call 27; (with_reducible refine (pack_Levels.calls k1 a2 t155 _ A9.out).mono ?_); rintro e w' ⟨rfl, ⟨nd, rfl⟩⟩) | (go_at_call 28; (with_reducible refine (treillageref01_Levels.calls k1 a2 t156 _ A10.out).mono ?_); rintro e w' ⟨rfl, ⟨nd, rfl⟩⟩) | (go_at_call 12; (with_reducible refine (treillagelaw01_shown.calls k1  t157 _ A13.out).mono ?_); rintro e w14 ⟨rfl, hb⟩; have n0_ := Aside0.mk (below_step (by repeat (first | (with_reducible first | exact HB.out | apply below_alloc | apply pw_below_drewN | apply below_drew1) | exact HB.out)) hb); clear HB; have HB := n0_; clear n0_; (try clear hb); (try clear hb2); (try clear hk); (try clear hi)))
              go_ret
              exact ⟨by first | rfl | (simp [errW_none, errW_some] <;> rfl) | (simp [*, errW_none, errW_some] <;> rfl), by repeat (first | (with_reducible first | exact HB.out | apply below_alloc | apply pw_below_drewN | apply below_drew1) | exact HB.out)⟩
            · rw [if_neg c12] at H
              have c12b0 : (x7_1 == (IntKind.u64.wrap (a0))) = false := beq_eq_false_iff_ne.mpr c12
              have c12b1 : (x7_1 != (IntKind.u64.wrap (a0))) = true := bne_iff_ne.mpr c12
              obtain rfl := Option.some.inj H
              go_wp2_with (first | ((with_reducible refine gate_callee (f := 25) rfl ?_); refine goesL_ (some 22) rfl rfl Try.func25 (by kernel_rfl) rfl #[.int .u32 a0, .int .i64 a1] rfl (by (try simp only [List.map_toArray, List.map_cons, List.map_nil]); first | done | rfl | (simp only [List.length_drop, List.length_take]; rfl)) ?_; (with_reducible refine (pack_Digit.calls a0 a1 t153 _ A6.out).mono ?_); rintro e w' ⟨rfl, ⟨nd, rfl⟩⟩; refine ⟨_, rfl, ?_⟩) | ((with_reducible refine gate_callee (f := 26) rfl ?_); refine goesL_ (some 25) rfl rfl Try.func26 (by kernel_rfl) rfl #[.int .u32 a0, .int .i64 a1] rfl (by (try simp only [List.map_toArray, List.map_cons, List.map_nil]); first | done | rfl | (simp only [List.length_drop, List.length_take]; rfl)) ?_; (with_reducible refine (treillageref01_Digit.calls k1 a0 a1 t154 _ A7.out).mono ?_); rintro e w' ⟨rfl, ⟨nd, rfl⟩⟩; refine ⟨_, rfl, ?_⟩) | (go_at_call 27; (with_reducible refine (pack_Levels.calls k1 a2 t155 _ A9.out).mono ?_); rintro e w' ⟨rfl, ⟨nd, rfl⟩⟩) | (go_at_call 28; (with_reducible refine (treillageref01_Levels.calls k1 a2 t156 _ A10.out).mono ?_); rintro e w' ⟨rfl, ⟨nd, rfl⟩⟩))
              go_ret
              exact ⟨by first | rfl | (simp [errW_none, errW_some] <;> rfl) | (simp [*, errW_none, errW_some] <;> rfl), by repeat (first | (with_reducible first | exact HB.out | apply below_alloc | apply pw_below_drewN | apply below_drew1) | exact HB.out)⟩
          · rw [if_neg c11] at H
            have c11b0 : (t155 == t156) = false := beq_eq_false_iff_ne.mpr c11
            have c11b1 : (t155 != t156) = true := bne_iff_ne.mpr c11
            obtain rfl := Option.some.inj H
            go_wp2_with (first | ((with_reducible refine gate_callee (f := 25) rfl ?_); refine goesL_ (some 22) rfl rfl Try.func25 (by kernel_rfl) rfl #[.int .u32 a0, .int .i64 a1] rfl (by (try simp only [List.map_toArray, List.map_cons, List.map_nil]); first | done | rfl | (simp only [List.length_drop, List.length_take]; rfl)) ?_; (with_reducible refine (pack_Digit.calls a0 a1 t153 _ A6.out).mono ?_); rintro e w' ⟨rfl, ⟨nd, rfl⟩⟩; refine ⟨_, rfl, ?_⟩) | ((with_reducible refine gate_callee (f := 26) rfl ?_); refine goesL_ (some 25) rfl rfl Try.func26 (by kernel_rfl) rfl #[.int .u32 a0, .int .i64 a1] rfl (by (try simp only [List.map_toArray, List.map_cons, List.map_nil]); first | done | rfl | (simp only [List.length_drop, List.length_take]; rfl)) ?_; (with_reducible refine (treillageref01_Digit.calls k1 a0 a1 t154 _ A7.out).mono ?_); rintro e w' ⟨rfl, ⟨nd, rfl⟩⟩; refine ⟨_, rfl, ?_⟩) | (go_at_call 27; (with_reducible refine (pack_Levels.calls k1 a2 t155 _ A9.out).mono ?_); rintro e w' ⟨rfl, ⟨nd, rfl⟩⟩) | (go_at_call 28; (with_reducible refine (treillageref01_Levels.calls k1 a2 t156 _ A10.out).mono ?_); rintro e w' ⟨rfl, ⟨nd, rfl⟩⟩))
            go_ret
            exact ⟨by first | rfl | (simp [errW_none, errW_some] <;> rfl) | (simp [*, errW_none, errW_some] <;> rfl), by repeat (first | (with_reducible first | exact HB.out | apply below_alloc | apply pw_below_drewN | apply below_drew1) | exact HB.out)⟩
        · rw [if_neg c8] at H
          have c8b0 : (t153 == t154) = false := beq_eq_false_iff_ne.mpr c8
          have c8b1 : (t153 != t154) = true := bne_iff_ne.mpr c8
          obtain rfl := Option.some.inj H
          go_wp2_with (first | ((with_reducible refine gate_callee (f := 25) rfl ?_); refine goesL_ (some 22) rfl rfl Try.func25 (by kernel_rfl) rfl #[.int .u32 a0, .int .i64 a1] rfl (by (try simp only [List.map_toArray, List.map_cons, List.map_nil]); first | done | rfl | (simp only [List.length_drop, List.length_take]; rfl)) ?_; (with_reducible refine (pack_Digit.calls a0 a1 t153 _ A6.out).mono ?_); rintro e w' ⟨rfl, ⟨nd, rfl⟩⟩; refine ⟨_, rfl, ?_⟩) | ((with_reducible refine gate_callee (f := 26) rfl ?_); refine goesL_ (some 25) rfl rfl Try.func26 (by kernel_rfl) rfl #[.int .u32 a0, .int .i64 a1] rfl (by (try simp only [List.map_toArray, List.map_cons, List.map_nil]); first | done | rfl | (simp only [List.length_drop, List.length_take]; rfl)) ?_; (with_reducible refine (treillageref01_Digit.calls k1 a0 a1 t154 _ A7.out).mono ?_); rintro e w' ⟨rfl, ⟨nd, rfl⟩⟩; refine ⟨_, rfl, ?_⟩))
          go_ret
          exact ⟨by first | rfl | (simp [errW_none, errW_some] <;> rfl) | (simp [*, errW_none, errW_some] <;> rfl), by repeat (first | (with_reducible first | exact HB.out | apply below_alloc | apply pw_below_drewN | apply below_drew1) | exact HB.out)⟩

/-- THE ONE PURE STATEMENT of treillagelaw01_PackDigits: yours. -/
def treillagelaw01_PackDigits.Pure : Prop := ∀ (a0 : Int) (a1 : Int) (a2 : Int), (Lit.int .u32 a0).wf = true → (Lit.int .i64 a1).wf = true → (Lit.int .i64 a2).wf = true → ∃ k, treillagelaw01_PackDigits.f k a0 a1 a2 = some true
theorem treillagelaw01_PackDigits.walk (P : treillagelaw01_PackDigits.Pure) (a0 : Int) (a1 : Int) (a2 : Int) (w : World) (w0 : (Lit.int .u32 a0).wf = true) (w1 : (Lit.int .i64 a1).wf = true) (w2 : (Lit.int .i64 a2).wf = true) :
    Calls Try.prog 8 #[.int .u32 a0, .int .i64 a1, .int .i64 a2] w fun e w' => e = .returned (.bool true) ∧ Below w.heap.size w w' := by
  obtain ⟨k, h⟩ := P a0 a1 a2 w0 w1 w2
  refine (treillagelaw01_PackDigits.calls k a0 a1 a2 true w h).mono ?_
  rintro e w' ⟨rfl, hd⟩
  exact ⟨rfl, hd⟩

/-! ### pack_Narrow: function 29 -/
def pack_Narrow.f (a0 : Int) (a1 : Int) : Option (Int) := if a1 = 8 then (some (wrap64 (IntKind.i8.wrap (a0)))) else (if a1 = 16 then (some (wrap64 (IntKind.i16.wrap (a0)))) else (if a1 = 32 then (some (wrap64 (wrap32 (a0)))) else (some a0)))
set_option maxHeartbeats 8000000 in
set_option maxRecDepth 100000 in
theorem pack_Narrow.calls (a0 : Int) (a1 : Int) (r : Int) (w : World) (h : pack_Narrow.f a0 a1 = some r) :
    Calls Try.prog 29 #[.int .i64 a0, .int .i64 a1] w fun e w' => e = .returned (.int .i64 r) ∧ Drawn0 w w' := by
  have H : (if a1 = 8 then (some (wrap64 (IntKind.i8.wrap (a0)))) else (if a1 = 16 then (some (wrap64 (IntKind.i16.wrap (a0)))) else (if a1 = 32 then (some (wrap64 (wrap32 (a0)))) else (some a0)))) = some r := h
  clear h
  by_cases c3 : a1 = 8
  · rw [if_pos c3] at H
    have c3b0 : (a1 == 8) = true := beq_iff_eq.mpr c3
    have c3b1 : (a1 != 8) = false := bne_eq_false_iff_eq.mpr c3
    clear c3
    obtain rfl := Option.some.inj H
    go_enter Try.func29, Try.ntmps29
    go_wp2
    go_ret
    exact ⟨by first | rfl | (simp; done) | (simp [*]; done), by repeat (first | exact Drawn0.refl _ | apply Drawn0.step)⟩
  · rw [if_neg c3] at H
    have c3b0 : (a1 == 8) = false := beq_eq_false_iff_ne.mpr c3
    have c3b1 : (a1 != 8) = true := bne_iff_ne.mpr c3
    by_cases c4 : a1 = 16
    · rw [if_pos c4] at H
      have c4b0 : (a1 == 16) = true := beq_iff_eq.mpr c4
      have c4b1 : (a1 != 16) = false := bne_eq_false_iff_eq.mpr c4
      clear c4
      obtain rfl := Option.some.inj H
      go_enter Try.func29, Try.ntmps29
      go_wp2
      go_ret
      exact ⟨by first | rfl | (simp; done) | (simp [*]; done), by repeat (first | exact Drawn0.refl _ | apply Drawn0.step)⟩
    · rw [if_neg c4] at H
      have c4b0 : (a1 == 16) = false := beq_eq_false_iff_ne.mpr c4
      have c4b1 : (a1 != 16) = true := bne_iff_ne.mpr c4
      by_cases c5 : a1 = 32
      · rw [if_pos c5] at H
        have c5b0 : (a1 == 32) = true := beq_iff_eq.mpr c5
        have c5b1 : (a1 != 32) = false := bne_eq_false_iff_eq.mpr c5
        clear c5
        obtain rfl := Option.some.inj H
        go_enter Try.func29, Try.ntmps29
        go_wp2
        go_ret
        exact ⟨by first | rfl | (simp; done) | (simp [*]; done), by repeat (first | exact Drawn0.refl _ | apply Drawn0.step)⟩
      · rw [if_neg c5] at H
        have c5b0 : (a1 == 32) = false := beq_eq_false_iff_ne.mpr c5
        have c5b1 : (a1 != 32) = true := bne_iff_ne.mpr c5
        obtain rfl := Option.some.inj H
        go_enter Try.func29, Try.ntmps29
        go_wp2
        go_ret
        exact ⟨by first | rfl | (simp; done) | (simp [*]; done), by repeat (first | exact Drawn0.refl _ | apply Drawn0.step)⟩

/-! ### treillageref01_Narrow: function 30 -/
def treillageref01_Narrow.j0 : Nat → Int → Int → Bool → Option (Int)
  | 0, _, _, _ => none
  | k + 1, x0, x1, x16 => if x16 = true then (some x0) else ((treillageref01_power.f k x1).bind fun t158 => (if (wrap64 (t158)) = 0 then (none) else (if (Int.tmod x0 (wrap64 (t158))) < 0 then (if (wrap64 ((Int.tmod x0 (wrap64 (t158))) + (wrap64 (t158)))) ≥ (wrap64 (Int.tdiv (wrap64 (t158)) 2)) then (some (wrap64 ((wrap64 ((Int.tmod x0 (wrap64 (t158))) + (wrap64 (t158)))) - (wrap64 (t158))))) else (some (wrap64 ((Int.tmod x0 (wrap64 (t158))) + (wrap64 (t158)))))) else (if (Int.tmod x0 (wrap64 (t158))) ≥ (wrap64 (Int.tdiv (wrap64 (t158)) 2)) then (some (wrap64 ((Int.tmod x0 (wrap64 (t158))) - (wrap64 (t158))))) else (some (Int.tmod x0 (wrap64 (t158))))))))
def treillageref01_Narrow.f (k : Nat) (a0 : Int) (a1 : Int) : Option (Int) := if a1 = 8 then (treillageref01_Narrow.j0 k a0 a1 false) else (if a1 = 16 then (treillageref01_Narrow.j0 k a0 a1 false) else (treillageref01_Narrow.j0 k a0 a1 (a1 != 32)))
theorem treillageref01_Narrow.mono_l : ∀ k, (∀ y0 y1 y2, LeO (treillageref01_Narrow.j0 k y0 y1 y2) (treillageref01_Narrow.j0 (k + 1) y0 y1 y2))
  | 0 => fun _ _ _ r h => by simp [treillageref01_Narrow.j0] at h
  | k + 1 => by
    have ih0 := treillageref01_Narrow.mono_l k
    · intro y0 y1 y2
      unfold treillageref01_Narrow.j0
      repeat' first
      | (with_reducible exact ih0 _ _ _)
      | (with_reducible exact treillageref01_power.mono _ _)
      | (with_reducible exact LeO.refl _)
      | (with_reducible exact LeO.none _)
      | (with_reducible refine LeO.ite ?_ ?_)
      | (with_reducible refine LeO.bind ?_ (fun _ => ?_))
      | exact ih0 _ _ _
      | exact treillageref01_power.mono _ _
      | exact LeO.none _
      | refine LeO.ite ?_ ?_
      | refine LeO.bind ?_ (fun _ => ?_)
theorem treillageref01_Narrow.mono : ∀ a0 a1 k, LeO (treillageref01_Narrow.f k a0 a1) (treillageref01_Narrow.f (k + 1) a0 a1) := by
  intro a0 a1 k
  have ih0 := treillageref01_Narrow.mono_l k
  unfold treillageref01_Narrow.f
  repeat' first
      | (with_reducible exact ih0 _ _ _)
      | (with_reducible exact treillageref01_power.mono _ _)
      | (with_reducible exact LeO.refl _)
      | (with_reducible exact LeO.none _)
      | (with_reducible refine LeO.ite ?_ ?_)
      | (with_reducible refine LeO.bind ?_ (fun _ => ?_))
      | exact ih0 _ _ _
      | exact treillageref01_power.mono _ _
      | exact LeO.none _
      | refine LeO.ite ?_ ?_
      | refine LeO.bind ?_ (fun _ => ?_)
set_option maxHeartbeats 8000000 in
set_option maxRecDepth 100000 in
theorem treillageref01_Narrow.calls (k : Nat) (a0 : Int) (a1 : Int) (r : Int) (w : World) (h : treillageref01_Narrow.f k a0 a1 = some r) :
    Calls Try.prog 30 #[.int .i64 a0, .int .i64 a1] w fun e w' => e = .returned (.int .i64 r) ∧ Drawn0 w w' := by
  have H : (if a1 = 8 then (treillageref01_Narrow.j0 k a0 a1 false) else (if a1 = 16 then (treillageref01_Narrow.j0 k a0 a1 false) else (treillageref01_Narrow.j0 k a0 a1 (a1 != 32)))) = some r := h
  clear h
  have HC3 := Aside0.mk H
  clear H
  go_enter Try.func30, Try.ntmps30
  go_upto_region 1 with (fail)
  go_cut [16] (fun v16 wc => ∃ (kq : Nat) (x16_2 : Bool), v16 = .bool x16_2 ∧ Aside0 (treillageref01_Narrow.j0 kq a0 a1 x16_2 = some r) ∧ Aside0 (kq ≤ k) ∧ Drawn0 w wc)
  case first =>
    have H := HC3.out
    clear HC3
    by_cases c4 : a1 = 8
    · rw [if_pos c4] at H
      have c4b0 : (a1 == 8) = true := beq_iff_eq.mpr c4
      have c4b1 : (a1 != 8) = false := bne_eq_false_iff_eq.mpr c4
      clear c4
      (first | rw [c4b0] | (simp only [i64_w, i32_w]; rw [c4b0]) | skip)
      have H' := Aside0.mk H
      clear H
      go_wp2
      go_meet
      case rel => exact ⟨_, (false), (by first | rfl | (simp; done) | (simp [*]; done)), H', ⟨by first | omega | exact Nat.le_refl _⟩, by repeat (first | exact Drawn0.refl _ | apply Drawn0.step)⟩
    · rw [if_neg c4] at H
      have c4b0 : (a1 == 8) = false := beq_eq_false_iff_ne.mpr c4
      have c4b1 : (a1 != 8) = true := bne_iff_ne.mpr c4
      (first | rw [c4b0] | (simp only [i64_w, i32_w]; rw [c4b0]) | skip)
      by_cases c5 : a1 = 16
      · rw [if_pos c5] at H
        have c5b0 : (a1 == 16) = true := beq_iff_eq.mpr c5
        have c5b1 : (a1 != 16) = false := bne_eq_false_iff_eq.mpr c5
        clear c5
        have H' := Aside0.mk H
        clear H
        go_wp2
        go_meet
        case rel => exact ⟨_, (false), (by first | rfl | (simp; done) | (simp [*]; done)), H', ⟨by first | omega | exact Nat.le_refl _⟩, by repeat (first | exact Drawn0.refl _ | apply Drawn0.step)⟩
      · rw [if_neg c5] at H
        have c5b0 : (a1 == 16) = false := beq_eq_false_iff_ne.mpr c5
        have c5b1 : (a1 != 16) = true := bne_iff_ne.mpr c5
        have H' := Aside0.mk H
        clear H
        go_wp2
        go_meet
        case rel => exact ⟨_, ((a1 != 32)), (by first | rfl | (simp; done) | (simp [*]; done)), H', ⟨by first | omega | exact Nat.le_refl _⟩, by repeat (first | exact Drawn0.refl _ | apply Drawn0.step)⟩
  case rest =>
    clear HC3
    try clear p2
    try clear c3
    try clear c4
    try clear c4b0
    try clear c4b1
    try clear c5
    try clear c5b0
    try clear c5b1
    obtain ⟨kq, x16_2, rfl, HA, HJ2, ⟨mc2, rfl⟩⟩ := hcut
    cases kq with
    | zero => exact absurd HA.out (by simp [treillageref01_Narrow.j0])
    | succ kj2 =>
      have H := HA.out
      clear HA
      simp only [treillageref01_Narrow.j0] at H
      by_cases c6 : x16_2 = true
      · subst c6
        have H1 : (some a0) = some r := by rw [if_pos rfl] at H; exact H
        clear H
        have H := H1
        clear H1
        obtain rfl := Option.some.inj H
        go_wp2
        go_ret
        exact ⟨by first | rfl | (simp; done) | (simp [*]; done), by repeat (first | exact Drawn0.refl _ | apply Drawn0.step)⟩
      · replace c6 := Bool.eq_false_iff.mpr c6
        subst c6
        have H1 : ((treillageref01_power.f kj2 a1).bind fun t158 => (if (wrap64 (t158)) = 0 then (none) else (if (Int.tmod a0 (wrap64 (t158))) < 0 then (if (wrap64 ((Int.tmod a0 (wrap64 (t158))) + (wrap64 (t158)))) ≥ (wrap64 (Int.tdiv (wrap64 (t158)) 2)) then (some (wrap64 ((wrap64 ((Int.tmod a0 (wrap64 (t158))) + (wrap64 (t158)))) - (wrap64 (t158))))) else (some (wrap64 ((Int.tmod a0 (wrap64 (t158))) + (wrap64 (t158)))))) else (if (Int.tmod a0 (wrap64 (t158))) ≥ (wrap64 (Int.tdiv (wrap64 (t158)) 2)) then (some (wrap64 ((Int.tmod a0 (wrap64 (t158))) - (wrap64 (t158))))) else (some (Int.tmod a0 (wrap64 (t158)))))))) = some r := by rw [if_neg (show ¬ (false = true) by decide)] at H; exact H
        clear H
        have H := H1
        clear H1
        replace H := Option.bind_eq_some_iff.mp H
        obtain ⟨t158, A70, H⟩ := H
        replace H : (if (wrap64 (t158)) = 0 then (none) else (if (Int.tmod a0 (wrap64 (t158))) < 0 then (if (wrap64 ((Int.tmod a0 (wrap64 (t158))) + (wrap64 (t158)))) ≥ (wrap64 (Int.tdiv (wrap64 (t158)) 2)) then (some (wrap64 ((wrap64 ((Int.tmod a0 (wrap64 (t158))) + (wrap64 (t158)))) - (wrap64 (t158))))) else (some (wrap64 ((Int.tmod a0 (wrap64 (t158))) + (wrap64 (t158)))))) else (if (Int.tmod a0 (wrap64 (t158))) ≥ (wrap64 (Int.tdiv (wrap64 (t158)) 2)) then (some (wrap64 ((Int.tmod a0 (wrap64 (t158))) - (wrap64 (t158))))) else (some (Int.tmod a0 (wrap64 (t158))))))) = some r := H
        have A7 := Aside0.mk A70
        clear A70
        by_cases c8 : (wrap64 (t158)) = 0
        · rw [if_pos c8] at H
          exact absurd H (by simp)
        · rw [if_neg c8] at H
          have c8b0 : ((wrap64 (t158)) == 0) = false := beq_eq_false_iff_ne.mpr c8
          have c8b1 : ((wrap64 (t158)) != 0) = true := bne_iff_ne.mpr c8
          by_cases c9 : (Int.tmod a0 (wrap64 (t158))) < 0
          · rw [if_pos c9] at H
            have c9b0 : decide ((Int.tmod a0 (wrap64 (t158))) < 0) = true := decide_eq_true c9
            clear c9
            by_cases c10 : (wrap64 ((Int.tmod a0 (wrap64 (t158))) + (wrap64 (t158)))) ≥ (wrap64 (Int.tdiv (wrap64 (t158)) 2))
            · rw [if_pos c10] at H
              have c10b0 : decide ((wrap64 (Int.tdiv (wrap64 (t158)) 2)) ≤ (wrap64 ((Int.tmod a0 (wrap64 (t158))) + (wrap64 (t158))))) = true := decide_eq_true c10
              clear c10
              obtain rfl := Option.some.inj H
              go_wp2_with (first | ((with_reducible refine gate_callee (f := 35) rfl ?_); refine goesL_ (some 19) rfl rfl Try.func35 (by kernel_rfl) rfl #[.int .i64 a1] rfl (by (try simp only [List.map_toArray, List.map_cons, List.map_nil]); first | done | rfl | (simp only [List.length_drop, List.length_take]; rfl)) ?_; (with_reducible refine (treillageref01_power.calls kj2 a1 t158 _ A7.out).mono ?_); rintro e w' ⟨rfl, ⟨nd, rfl⟩⟩; refine ⟨_, rfl, ?_⟩))
              go_ret
              exact ⟨by first | rfl | (simp; done) | (simp [*]; done), by repeat (first | exact Drawn0.refl _ | apply Drawn0.step)⟩
            · rw [if_neg c10] at H
              have c10b0 : decide ((wrap64 (Int.tdiv (wrap64 (t158)) 2)) ≤ (wrap64 ((Int.tmod a0 (wrap64 (t158))) + (wrap64 (t158))))) = false := decide_eq_false c10
              clear c10
              obtain rfl := Option.some.inj H
              go_wp2_with (first | ((with_reducible refine gate_callee (f := 35) rfl ?_); refine goesL_ (some 19) rfl rfl Try.func35 (by kernel_rfl) rfl #[.int .i64 a1] rfl (by (try simp only [List.map_toArray, List.map_cons, List.map_nil]); first | done | rfl | (simp only [List.length_drop, List.length_take]; rfl)) ?_; (with_reducible refine (treillageref01_power.calls kj2 a1 t158 _ A7.out).mono ?_); rintro e w' ⟨rfl, ⟨nd, rfl⟩⟩; refine ⟨_, rfl, ?_⟩))
              go_ret
              exact ⟨by first | rfl | (simp; done) | (simp [*]; done), by repeat (first | exact Drawn0.refl _ | apply Drawn0.step)⟩
          · rw [if_neg c9] at H
            have c9b0 : decide ((Int.tmod a0 (wrap64 (t158))) < 0) = false := decide_eq_false c9
            clear c9
            by_cases c11 : (Int.tmod a0 (wrap64 (t158))) ≥ (wrap64 (Int.tdiv (wrap64 (t158)) 2))
            · rw [if_pos c11] at H
              have c11b0 : decide ((wrap64 (Int.tdiv (wrap64 (t158)) 2)) ≤ (Int.tmod a0 (wrap64 (t158)))) = true := decide_eq_true c11
              clear c11
              obtain rfl := Option.some.inj H
              go_wp2_with (first | ((with_reducible refine gate_callee (f := 35) rfl ?_); refine goesL_ (some 19) rfl rfl Try.func35 (by kernel_rfl) rfl #[.int .i64 a1] rfl (by (try simp only [List.map_toArray, List.map_cons, List.map_nil]); first | done | rfl | (simp only [List.length_drop, List.length_take]; rfl)) ?_; (with_reducible refine (treillageref01_power.calls kj2 a1 t158 _ A7.out).mono ?_); rintro e w' ⟨rfl, ⟨nd, rfl⟩⟩; refine ⟨_, rfl, ?_⟩))
              go_ret
              exact ⟨by first | rfl | (simp; done) | (simp [*]; done), by repeat (first | exact Drawn0.refl _ | apply Drawn0.step)⟩
            · rw [if_neg c11] at H
              have c11b0 : decide ((wrap64 (Int.tdiv (wrap64 (t158)) 2)) ≤ (Int.tmod a0 (wrap64 (t158)))) = false := decide_eq_false c11
              clear c11
              obtain rfl := Option.some.inj H
              go_wp2_with (first | ((with_reducible refine gate_callee (f := 35) rfl ?_); refine goesL_ (some 19) rfl rfl Try.func35 (by kernel_rfl) rfl #[.int .i64 a1] rfl (by (try simp only [List.map_toArray, List.map_cons, List.map_nil]); first | done | rfl | (simp only [List.length_drop, List.length_take]; rfl)) ?_; (with_reducible refine (treillageref01_power.calls kj2 a1 t158 _ A7.out).mono ?_); rintro e w' ⟨rfl, ⟨nd, rfl⟩⟩; refine ⟨_, rfl, ?_⟩))
              go_ret
              exact ⟨by first | rfl | (simp; done) | (simp [*]; done), by repeat (first | exact Drawn0.refl _ | apply Drawn0.step)⟩

end Go.Proofs.Ythopfipaaboffaa.PA
