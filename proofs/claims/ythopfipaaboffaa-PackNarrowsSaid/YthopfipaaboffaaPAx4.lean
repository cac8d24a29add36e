-- Written by wip/hprint/hprint.py (a program of this session, over the print): not typed by hand
import Derived.Test.YthopfipaaboffaaPAx0
import Derived.Test.YthopfipaaboffaaPAx1
import Derived.Test.YthopfipaaboffaaPAx3
namespace Go.Proofs.Ythopfipaaboffaa.PA
open Go.RowKit Go.Proofs.YthopfipaaboffaaW.PrintWords Go.Proofs.YthopfipaaboffaaW.PrintLast Go.Proofs.YthopfipaaboffaaW.PrintMore
attribute [local go_sem] max2_int min2_int max_two min_two max_three min_three max_four min_four   -- for this text's walks alone
open Go.Proofs.YthopfipaaboffaaH
set_option linter.unusedVariables false
set_option linter.unusedSimpArgs false

/-! ### treillagelaw01_PackNarrows: function 9 -/
def treillagelaw01_PackNarrows.f (k : Nat) (a0 : Int) (a1 : Int) : Option (Bool) := (pack_Narrow.f a0 a1).bind fun t159 => ((treillageref01_Narrow.f k a0 a1).bind fun t160 => (if t159 = t160 then ((pack_Narrow.f t159 a1).bind fun t161 => (if t161 = t159 then ((treillagelaw01_shown.f k).bind fun t162 => (some t162)) else (some false))) else (some false)))
theorem treillagelaw01_PackNarrows.mono : ∀ a0 a1 k, LeO (treillagelaw01_PackNarrows.f k a0 a1) (treillagelaw01_PackNarrows.f (k + 1) a0 a1) := by
  intro a0 a1 k
  unfold treillagelaw01_PackNarrows.f
  repeat' first
      | (with_reducible exact treillagelaw01_shown.mono _)
      | (with_reducible exact treillageref01_Narrow.mono _ _ _)
      | (with_reducible exact LeO.refl _)
      | (with_reducible exact LeO.none _)
      | (with_reducible refine LeO.ite ?_ ?_)
      | (with_reducible refine LeO.bind ?_ (fun _ => ?_))
      | exact treillagelaw01_shown.mono _
      | exact treillageref01_Narrow.mono _ _ _
      | exact LeO.none _
      | refine LeO.ite ?_ ?_
      | refine LeO.bind ?_ (fun _ => ?_)
set_option maxHeartbeats 8000000 in
set_option maxRecDepth 100000 in
theorem treillagelaw01_PackNarrows.calls (k : Nat) (a0 : Int) (a1 : Int) (r : Bool) (w : World) (h : treillagelaw01_PackNarrows.f k a0 a1 = some r) :
    Calls Try.prog 9 #[.int .i64 a0, .int .i64 a1] w fun e w' => e = .returned (.bool r) ∧ Below w.heap.size w w' := by
  have HB := Aside0.mk (Below.refl w.heap.size w)
  have H : ((pack_Narrow.f a0 a1).bind fun t159 => ((treillageref01_Narrow.f k a0 a1).bind fun t160 => (if t159 = t160 then ((pack_Narrow.f t159 a1).bind fun t161 => (if t161 = t159 then ((treillagelaw01_shown.f k).bind fun t162 => (some t162)) else (some false))) else (some false)))) = some r := h
  clear h
  replace H := Option.bind_eq_some_iff.mp H
  obtain ⟨t159, A30, H⟩ := H
  replace H : ((treillageref01_Narrow.f k a0 a1).bind fun t160 => (if t159 = t160 then ((pack_Narrow.f t159 a1).bind fun t161 => (if t161 = t159 then ((treillagelaw01_shown.f k).bind fun t162 => (some t162)) else (some false))) else (some false))) = some r := H
  have A3 := Aside0.mk A30
  clear A30
  replace H := Option.bind_eq_some_iff.mp H
  obtain ⟨t160, A40, H⟩ := H
  replace H : (if t159 = t160 then ((pack_Narrow.f t159 a1).bind fun t161 => (if t161 = t159 then ((treillagelaw01_shown.f k).bind fun t162 => (some t162)) else (some false))) else (some false)) = some r := H
  have A4 := Aside0.mk A40
  clear A40
  by_cases c5 : t159 = t160
  · rw [if_pos c5] at H
    have c5b0 : (t159 == t160) = true := beq_iff_eq.mpr c5
    have c5b1 : (t159 != t160) = false := bne_eq_false_iff_eq.mpr c5
    clear c5
    replace H := Option.bind_eq_some_iff.mp H
    obtain ⟨t161, A60, H⟩ := H
    replace H : (if t161 = t159 then ((treillagelaw01_shown.f k).bind fun t162 => (some t162)) else (some false)) = some r := H
    have A6 := Aside0.mk A60
    clear A60
    by_cases c7 : t161 = t159
    · rw [if_pos c7] at H
      have c7b0 : (t161 == t159) = true := beq_iff_eq.mpr c7
      have c7b1 : (t161 != t159) = false := bne_eq_false_iff_eq.mpr c7
      clear c7
      replace H := Option.bind_eq_some_iff.mp H
      obtain ⟨t162, A80, H⟩ := H
      replace H : (some t162) = some r := H
      have A8 := Aside0.mk A80
      clear A80
      obtain rfl := Option.some.inj H
      go_enter Try.func9, Try.ntmps9
      go_wp2_with (first | ((with_reducible refine gate_callee (f := 29) rfl ?_); refine goesL_ (some 8) rfl rfl Try.func29 (by kernel_rfl) rfl #[.int .i64 a0, .int .i64 a1] rfl (by (try simp only [List.map_toArray, List.map_cons, List.map_nil]); first | done | rfl | (simp only [List.length_drop, List.length_take]; rfl)) ?_; (with_reducible refine (pack_Narrow.calls a0 a1 t159 _ A3.out).mono ?_); rintro e w' ⟨rfl, ⟨nd, rfl⟩⟩; refine ⟨_, rfl, ?_⟩) | ((with_reducible refine gate_callee (f := 30) rfl ?_); refine goesL_ (some 12) rfl rfl Try.func30 (by kernel_rfl) rfl #[.int .i64 a0, .int .i64 a1] rfl (by (try simp only [List.map_toArray, List.map_cons, List.map_nil]); first | done | rfl | (simp only [List.length_drop, List.length_take]; rfl)) ?_; (with_reducible refine (treillageref01_Narrow.calls k a0 a1 t160 _ A4.out).mono ?_); rintro e w' ⟨rfl, ⟨nd, rfl⟩⟩; refine ⟨_, rfl, ?_⟩) | (go_at_call 29; (with_reducible refine (pack_Narrow.calls t159 a1 t161 _ A6.out).mono ?_); rintro e w' ⟨rfl, ⟨nd, rfl⟩⟩) | (go_at_call 12; (with_reducible refine (treillagelaw01_shown.calls k  t162 _ A8.out).mono ?_); rintro e w9 ⟨rfl, hb⟩; have n0_ := Aside0.mk (below_step (by repeat (first | (with_reducible first | exact HB.out | apply below_alloc | apply pw_below_drewN | apply below_drew1) | exact HB.out)) hb); clear HB; have HB := n0_; clear n0_; (try clear hb); (try clear hb2); (try clear hk); (try clear hi)))
      go_ret
      exact ⟨by first | rfl | (simp [errW_none, errW_some] <;> rfl) | (simp [*, errW_none, errW_some] <;> rfl), by repeat (first | (with_reducible first | exact HB.out | apply below_alloc | apply pw_below_drewN | apply below_drew1) | exact HB.out)⟩
    · rw [if_neg c7] at H
      have c7b0 : (t161 == t159) = false := beq_eq_false_iff_ne.mpr c7
      have c7b1 : (t161 != t159) = true := bne_iff_ne.mpr c7
      obtain rfl := Option.some.inj H
      go_enter Try.func9, Try.ntmps9
      go_wp2_with (first | ((with_reducible refine gate_callee (f := 29) rfl ?_); refine goesL_ (some 8) rfl rfl Try.func29 (by kernel_rfl) rfl #[.int .i64 a0, .int .i64 a1] rfl (by (try simp only [List.map_toArray, List.map_cons, List.map_nil]); first | done | rfl | (simp only [List.length_drop, List.length_take]; rfl)) ?_; (with_reducible refine (pack_Narrow.calls a0 a1 t159 _ A3.out).mono ?_); rintro e w' ⟨rfl, ⟨nd, rfl⟩⟩; refine ⟨_, rfl, ?_⟩) | ((with_reducible refine gate_callee (f := 30) rfl ?_); refine goesL_ (some 12) rfl rfl Try.func30 (by kernel_rfl) rfl #[.int .i64 a0, .int .i64 a1] rfl (by (try simp only [List.map_toArray, List.map_cons, List.map_nil]); first | done | rfl | (simp only [List.length_drop, List.length_take]; rfl)) ?_; (with_reducible refine (treillageref01_Narrow.calls k a0 a1 t160 _ A4.out).mono ?_); rintro e w' ⟨rfl, ⟨nd, rfl⟩⟩; refine ⟨_, rfl, ?_⟩) | (go_at_call 29; (with_reducible refine (pack_Narrow.calls t159 a1 t161 _ A6.out).mono ?_); rintro e w' ⟨rfl, ⟨nd, rfl⟩⟩))
      go_ret
      exact ⟨by first | rfl | (simp [errW_none, errW_some] <;> rfl) | (simp [*, errW_none, errW_some] <;> rfl), by repeat (first | (with_reducible first | exact HB.out | apply below_alloc | apply pw_below_drewN | apply below_drew1) | exact HB.out)⟩
  · rw [if_neg c5] at H
    have c5b0 : (t159 == t160) = false := beq_eq_false_iff_ne.mpr c5
    have c5b1 : (t159 != t160) = true := bne_iff_ne.mpr c5
    obtain rfl := Option.some.inj H
    go_enter Try.func9, Try.ntmps9
    go_wp2_with (first | ((with_reducible refine gate_callee (f := 29) rfl ?_); refine goesL_ (some 8) rfl rfl Try.func29 (by kernel_rfl) rfl #[.int .i64 a0, .int .i64 a1] rfl (by (try simp only [List.map_toArray, List.map_cons, List.map_nil]); first | done | rfl | (simp only [List.length_drop, List.length_take]; rfl)) ?_; (with_reducible refine (pack_Narrow.calls a0 a1 t159 _ A3.out).mono ?_); rintro e w' ⟨rfl, ⟨nd, rfl⟩⟩; refine ⟨_, rfl, ?_⟩) | ((with_reducible refine gate_callee (f := 30) rfl ?_); refine goesL_ (some 12) rfl rfl Try.func30 (by kernel_rfl) rfl #[.int .i64 a0, .int .i64 a1] rfl (by (try simp only [List.map_toArray, List.map_cons, List.map_nil]); first | done | rfl | (simp only [List.length_drop, List.length_take]; rfl)) ?_; (with_reducible refine (treillageref01_Narrow.calls k a0 a1 t160 _ A4.out).mono ?_); rintro e w' ⟨rfl, ⟨nd, rfl⟩⟩; refine ⟨_, rfl, ?_⟩))
    go_ret
    exact ⟨by first | rfl | (simp [errW_none, errW_some] <;> rfl) | (simp [*, errW_none, errW_some] <;> rfl), by repeat (first | (with_reducible first | exact HB.out | apply below_alloc | apply pw_below_drewN | apply below_drew1) | exact HB.out)⟩

/-- THE ONE PURE STATEMENT of treillagelaw01_PackNarrows: yours. -/
def treillagelaw01_PackNarrows.Pure : Prop := ∀ (a0 : Int) (a1 : Int), (Lit.int .i64 a0).wf = true → (Lit.int .i64 a1).wf = true → ∃ k, treillagelaw01_PackNarrows.f k a0 a1 = some true
theorem treillagelaw01_PackNarrows.walk (P : treillagelaw01_PackNarrows.Pure) (a0 : Int) (a1 : Int) (w : World) (w0 : (Lit.int .i64 a0).wf = true) (w1 : (Lit.int .i64 a1).wf = true) :
    Calls Try.prog 9 #[.int .i64 a0, .int .i64 a1] w fun e w' => e = .returned (.bool true) ∧ Below w.heap.size w w' := by
  obtain ⟨k, h⟩ := P a0 a1 w0 w1
  refine (treillagelaw01_PackNarrows.calls k a0 a1 true w h).mono ?_
  rintro e w' ⟨rfl, hd⟩
  exact ⟨rfl, hd⟩

/-! ### treillagelaw01_PackBits: function 10 -/
def treillagelaw01_PackBits.f (k : Nat) (a0 : Int) (a1 : Int) : Option (Bool) := (some (([8, 16, 32] : List Int) : List Int)).bind fun y163 => (if 0 ≤ (Int.tmod a1 3) then (if (Int.tmod a1 3) < (y163.length : Int) then (if 0 ≤ (wrap64 ((rd y163 (Int.tmod a1 3)) - 1)) then ((pack_Narrow.f a0 (rd y163 (Int.tmod a1 3))).bind fun t167 => (if t167 ≥ (wrap64 (-(shl .i64 1 (wrap64 ((rd y163 (Int.tmod a1 3)) - 1))))) then (if t167 < (shl .i64 1 (wrap64 ((rd y163 (Int.tmod a1 3)) - 1))) then (if a0 ≥ (wrap64 (-(shl .i64 1 (wrap64 ((rd y163 (Int.tmod a1 3)) - 1))))) then (if ((t167 == a0) == (decide (a0 < (shl .i64 1 (wrap64 ((rd y163 (Int.tmod a1 3)) - 1)))))) = true then ((pack_Narrow.f (wrap64 (t167)) 64).bind fun t168 => (if t168 = t167 then ((treillagelaw01_shown.f k).bind fun t169 => (some t169)) else (some false))) else (some false)) else (if ((t167 == a0) == false) = true then ((pack_Narrow.f (wrap64 (t167)) 64).bind fun t170 => (if t170 = t167 then ((treillagelaw01_shown.f k).bind fun t171 => (some t171)) else (some false))) else (some false))) else (some false)) else (some false))) else (none)) else (none)) else (none))
theorem treillagelaw01_PackBits.mono : ∀ a0 a1 k, LeO (treillagelaw01_PackBits.f k a0 a1) (treillagelaw01_PackBits.f (k + 1) a0 a1) := by
  intro a0 a1 k
  unfold treillagelaw01_PackBits.f
  repeat' first
      | (with_reducible exact treillagelaw01_shown.mono _)
      | (with_reducible exact LeO.refl _)
      | (with_reducible exact LeO.none _)
      | (with_reducible refine LeO.ite ?_ ?_)
      | (with_reducible refine LeO.bind ?_ (fun _ => ?_))
      | exact treillagelaw01_shown.mono _
      | exact LeO.none _
      | refine LeO.ite ?_ ?_
      | refine LeO.bind ?_ (fun _ => ?_)
set_option maxHeartbeats 8000000 in
set_option maxRecDepth 100000 in
theorem treillagelaw01_PackBits.calls (k : Nat) (a0 : Int) (a1 : Int) (r : Bool) (w : World) (h : treillagelaw01_PackBits.f k a0 a1 = some r) :
    Calls Try.prog 10 #[.int .i64 a0, .int .u8 a1] w fun e w' => e = .returned (.bool r) ∧ Below w.heap.size w w' := by
  have HB := Aside0.mk (Below.refl w.heap.size w)
  have H : ((some (([8, 16, 32] : List Int) : List Int)).bind fun y163 => (if 0 ≤ (Int.tmod a1 3) then (if (Int.tmod a1 3) < (y163.length : Int) then (if 0 ≤ (wrap64 ((rd y163 (Int.tmod a1 3)) - 1)) then ((pack_Narrow.f a0 (rd y163 (Int.tmod a1 3))).bind fun t167 => (if t167 ≥ (wrap64 (-(shl .i64 1 (wrap64 ((rd y163 (Int.tmod a1 3)) - 1))))) then (if t167 < (shl .i64 1 (wrap64 ((rd y163 (Int.tmod a1 3)) - 1))) then (if a0 ≥ (wrap64 (-(shl .i64 1 (wrap64 ((rd y163 (Int.tmod a1 3)) - 1))))) then (if ((t167 == a0) == (decide (a0 < (shl .i64 1 (wrap64 ((rd y163 (Int.tmod a1 3)) - 1)))))) = true then ((pack_Narrow.f (wrap64 (t167)) 64).bind fun t168 => (if t168 = t167 then ((treillagelaw01_shown.f k).bind fun t169 => (some t169)) else (some false))) else (some false)) else (if ((t167 == a0) == false) = true then ((pack_Narrow.f (wrap64 (t167)) 64).bind fun t170 => (if t170 = t167 then ((treillagelaw01_shown.f k).bind fun t171 => (some t171)) else (some false))) else (some false))) else (some false)) else (some false))) else (none)) else (none)) else (none))) = some r := h
  clear h
  obtain ⟨y163, hy163⟩ : ∃ y_ : List Int, y_ = (([8, 16, 32] : List Int)) := ⟨_, rfl⟩
  replace H : (if 0 ≤ (Int.tmod a1 3) then (if (Int.tmod a1 3) < (y163.length : Int) then (if 0 ≤ (wrap64 ((rd y163 (Int.tmod a1 3)) - 1)) then ((pack_Narrow.f a0 (rd y163 (Int.tmod a1 3))).bind fun t167 => (if t167 ≥ (wrap64 (-(shl .i64 1 (wrap64 ((rd y163 (Int.tmod a1 3)) - 1))))) then (if t167 < (shl .i64 1 (wrap64 ((rd y163 (Int.tmod a1 3)) - 1))) then (if a0 ≥ (wrap64 (-(shl .i64 1 (wrap64 ((rd y163 (Int.tmod a1 3)) - 1))))) then (if ((t167 == a0) == (decide (a0 < (shl .i64 1 (wrap64 ((rd y163 (Int.tmod a1 3)) - 1)))))) = true then ((pack_Narrow.f (wrap64 (t167)) 64).bind fun t168 => (if t168 = t167 then ((treillagelaw01_shown.f k).bind fun t169 => (some t169)) else (some false))) else (some false)) else (if ((t167 == a0) == false) = true then ((pack_Narrow.f (wrap64 (t167)) 64).bind fun t170 => (if t170 = t167 then ((treillagelaw01_shown.f k).bind fun t171 => (some t171)) else (some false))) else (some false))) else (some false)) else (some false))) else (none)) else (none)) else (none)) = some r := by first | (rw [hy163]; with_reducible exact H) | (have H2_ := (Option.bind_some _ _).symm.trans H; rw [hy163]; with_reducible exact H2_) | (have H2_ := (Option.bind_some _ _).symm.trans H; with_reducible exact H2_) | with_reducible exact H | (rw [hy163]; exact H) | exact H
  have Ny163 := Aside0.mk hy163
  clear hy163
  obtain ⟨ji3, hji3⟩ : ∃ j_ : Int, (Int.tmod a1 3) = j_ := ⟨_, rfl⟩
  replace H : (if 0 ≤ (ji3) then (if (ji3) < (y163.length : Int) then (if 0 ≤ (wrap64 ((rd y163 (ji3)) - 1)) then ((pack_Narrow.f a0 (rd y163 (ji3))).bind fun t167 => (if t167 ≥ (wrap64 (-(shl .i64 1 (wrap64 ((rd y163 (ji3)) - 1))))) then (if t167 < (shl .i64 1 (wrap64 ((rd y163 (ji3)) - 1))) then (if a0 ≥ (wrap64 (-(shl .i64 1 (wrap64 ((rd y163 (ji3)) - 1))))) then (if ((t167 == a0) == (decide (a0 < (shl .i64 1 (wrap64 ((rd y163 (ji3)) - 1)))))) = true then ((pack_Narrow.f (wrap64 (t167)) 64).bind fun t168 => (if t168 = t167 then ((treillagelaw01_shown.f k).bind fun t169 => (some t169)) else (some false))) else (some false)) else (if ((t167 == a0) == false) = true then ((pack_Narrow.f (wrap64 (t167)) 64).bind fun t170 => (if t170 = t167 then ((treillagelaw01_shown.f k).bind fun t171 => (some t171)) else (some false))) else (some false))) else (some false)) else (some false))) else (none)) else (none)) else (none)) = some r := by first | (rw [hji3] at H; exact H) | (simp only [hji3] at H ⊢; exact H)
  by_cases c4 : 0 ≤ (ji3)
  · rw [if_pos c4] at H
    have c4b0 : decide (0 ≤ (ji3)) = true := decide_eq_true c4
    clear c4
    by_cases c5 : (ji3) < (y163.length : Int)
    · rw [if_pos c5] at H
      have c5b0 : decide ((ji3) < (y163.length : Int)) = true := decide_eq_true c5
      clear c5
      obtain ⟨ji6, hji6⟩ : ∃ j_ : Int, (wrap64 ((rd y163 (ji3)) - 1)) = j_ := ⟨_, rfl⟩
      replace H : (if 0 ≤ (ji6) then ((pack_Narrow.f a0 (rd y163 (ji3))).bind fun t167 => (if t167 ≥ (wrap64 (-(shl .i64 1 (ji6)))) then (if t167 < (shl .i64 1 (ji6)) then (if a0 ≥ (wrap64 (-(shl .i64 1 (ji6)))) then (if ((t167 == a0) == (decide (a0 < (shl .i64 1 (ji6))))) = true then ((pack_Narrow.f (wrap64 (t167)) 64).bind fun t168 => (if t168 = t167 then ((treillagelaw01_shown.f k).bind fun t169 => (some t169)) else (some false))) else (some false)) else (if ((t167 == a0) == false) = true then ((pack_Narrow.f (wrap64 (t167)) 64).bind fun t170 => (if t170 = t167 then ((treillagelaw01_shown.f k).bind fun t171 => (some t171)) else (some false))) else (some false))) else (some false)) else (some false))) else (none)) = some r := by first | (rw [hji6] at H; exact H) | (simp only [hji6] at H ⊢; exact H)
      have hji6w : (IntKind.i64.wrap ((rd y163 (ji3)) - 1)) = ji6 := (i64_w _).trans hji6
      by_cases c7 : 0 ≤ (ji6)
      · rw [if_pos c7] at H
        have c7b0 := eq_true c7
        have c7b1 : decide (0 ≤ (ji6)) = true := decide_eq_true c7
        clear c7
        obtain ⟨ji8, hji8⟩ : ∃ j_ : Int, (shl .i64 1 (ji6)) = j_ := ⟨_, rfl⟩
        replace H : ((pack_Narrow.f a0 (rd y163 (ji3))).bind fun t167 => (if t167 ≥ (wrap64 (-(ji8))) then (if t167 < (ji8) then (if a0 ≥ (wrap64 (-(ji8))) then (if ((t167 == a0) == (decide (a0 < (ji8)))) = true then ((pack_Narrow.f (wrap64 (t167)) 64).bind fun t168 => (if t168 = t167 then ((treillagelaw01_shown.f k).bind fun t169 => (some t169)) else (some false))) else (some false)) else (if ((t167 == a0) == false) = true then ((pack_Narrow.f (wrap64 (t167)) 64).bind fun t170 => (if t170 = t167 then ((treillagelaw01_shown.f k).bind fun t171 => (some t171)) else (some false))) else (some false))) else (some false)) else (some false))) = some r := by first | (rw [hji8] at H; exact H) | (simp only [hji8] at H ⊢; exact H)
        have hji8_ : (IntKind.i64.wrap (1 * 2 ^ min (ji6).toNat 64)) = ji8 := hji8
        have hji8z : (ji6) ≤ 64 → (IntKind.i64.wrap (1 * 2 ^ (ji6).toNat)) = ji8 := shl_small hji8
        have hji8u : (IntKind.i64.wrap (2 ^ min (ji6).toNat 64)) = ji8 := by have h_ := hji8_; rw [Int.one_mul] at h_; exact h_
        have hji8v : (ji6) ≤ 64 → (IntKind.i64.wrap (2 ^ (ji6).toNat)) = ji8 := fun hle_ => by have h_ := hji8z hle_; rw [Int.one_mul] at h_; exact h_
        have hji8y : (wrap64 (1 * 2 ^ min (ji6).toNat 64)) = ji8 := (i64_w _).symm.trans hji8_
        have hji8x : (ji6) ≤ 64 → (wrap64 (1 * 2 ^ (ji6).toNat)) = ji8 := fun h_ => (i64_w _).symm.trans (hji8z h_)
        replace H := Option.bind_eq_some_iff.mp H
        obtain ⟨t167, A90, H⟩ := H
        replace H : (if t167 ≥ (wrap64 (-(ji8))) then (if t167 < (ji8) then (if a0 ≥ (wrap64 (-(ji8))) then (if ((t167 == a0) == (decide (a0 < (ji8)))) = true then ((pack_Narrow.f (wrap64 (t167)) 64).bind fun t168 => (if t168 = t167 then ((treillagelaw01_shown.f k).bind fun t169 => (some t169)) else (some false))) else (some false)) else (if ((t167 == a0) == false) = true then ((pack_Narrow.f (wrap64 (t167)) 64).bind fun t170 => (if t170 = t167 then ((treillagelaw01_shown.f k).bind fun t171 => (some t171)) else (some false))) else (some false))) else (some false)) else (some false)) = some r := H
        have A9 := Aside0.mk A90
        clear A90
        by_cases c10 : t167 ≥ (wrap64 (-(ji8)))
        · rw [if_pos c10] at H
          have c10b0 : decide ((wrap64 (-(ji8))) ≤ t167) = true := decide_eq_true c10
          clear c10
          by_cases c11 : t167 < (ji8)
          · rw [if_pos c11] at H
            have c11b0 : decide (t167 < (ji8)) = true := decide_eq_true c11
            clear c11
            by_cases c12 : a0 ≥ (wrap64 (-(ji8)))
            · rw [if_pos c12] at H
              have c12b0 : decide ((wrap64 (-(ji8))) ≤ a0) = true := decide_eq_true c12
              clear c12
              by_cases c13 : ((t167 == a0) == (decide (a0 < (ji8)))) = true
              · rw [if_pos c13] at H
                have c13b0 : ((t167 == a0) == (decide (a0 < (ji8)))) = true := c13
                (try (have c13b1 : decide ((t167 == a0) = (decide (a0 < (ji8)))) = true := by simpa using c13))
                (try (have c13b2 : ((t167 == a0) == (decide (a0 < (ji8)))) = true := by simpa using c13))
                clear c13
                replace H := Option.bind_eq_some_iff.mp H
                obtain ⟨t168, A140, H⟩ := H
                replace H : (if t168 = t167 then ((treillagelaw01_shown.f k).bind fun t169 => (some t169)) else (some false)) = some r := H
                have A14 := Aside0.mk A140
                clear A140
                by_cases c15 : t168 = t167
                · rw [if_pos c15] at H
                  have c15b0 : (t168 == t167) = true := beq_iff_eq.mpr c15
                  have c15b1 : (t168 != t167) = false := bne_eq_false_iff_eq.mpr c15
                  clear c15
                  replace H := Option.bind_eq_some_iff.mp H
                  obtain ⟨t169, A160, H⟩ := H
                  replace H : (some t169) = some r := H
                  have A16 := Aside0.mk A160
                  clear A160
                  obtain rfl := Option.some.inj H
                  go_enter Try.func10, Try.ntmps10
                  go_wp2_with (first | ((with_reducible refine gate_dst (N := 8) rfl ?_); refine Kd.R_lit (Kd.int .i64) _ 3 ?hg (N := 8) ?hd (xs := ([8, 16, 32] : List Int)) (inner := [.int .i64 8, .int .i64 16, .int .i64 32]) (ok := fun _ => True) (okp := fun _ => True) ?hr ?hp (fun _ hk => hk) trivial (Below.refl _ _) (Nat.le_refl _) (by simp) ?_; (case hd => rfl); (case hg => rfl); (case hr => first | (go_simp; done) | (go_simp; rfl)); (case hp => exact (Reps.one (show Kd.M (Kd.int .i64) _ _ _ 8 [.int .i64 8] from rfl) (Reps.one (show Kd.M (Kd.int .i64) _ _ _ 16 [.int .i64 16] from rfl) (Reps.one (show Kd.M (Kd.int .i64) _ _ _ 32 [.int .i64 32] from rfl) (Reps.none _ _))))); intro v164 w17 ho18 hb hg_ hnew_; clear hg_ hnew_; (first | rw [← Ny163.out] at ho18 | (simp only [Int.reduceToNat] at ho18; rw [← Ny163.out] at ho18)); have n0_ := Aside0.mk (Kd.R_lower ho18 (below_size (by repeat (first | (with_reducible first | exact HB.out | apply below_alloc | apply pw_below_drewN | apply below_drew1) | exact HB.out)))); have n1_ := Aside0.mk (below_step (by repeat (first | (with_reducible first | exact HB.out | apply below_alloc | apply pw_below_drewN | apply below_drew1) | exact HB.out)) hb); clear HB; have HO165 := n0_; have HB := n1_; clear n0_ n1_; clear hb ho18; obtain ⟨Ao19, co19, eo19⟩ := Kd.R_slice HO165.out; subst eo19; have p166 : 0 ≤ ((ji3) : Int) := of_decide_eq_true (by first | (with_reducible assumption) | assumption); have q166 : (ji3) < (y163.length : Int) := of_decide_eq_true (by first | (with_reducible assumption) | assumption); obtain ⟨ad166, e166, hx166_0⟩ := Kd.at_int (Kd.R_reads' HO165.out).2.2 (ji3) p166 q166; cases e166; replace p166 := eq_true p166; replace q166 := eq_true q166) | ((with_reducible refine gate_callee (f := 29) rfl ?_); refine goesL_ (some 18) rfl rfl Try.func29 (by kernel_rfl) rfl #[.int .i64 a0, .int .i64 (rd y163 (ji3))] rfl (by (try simp only [List.map_toArray, List.map_cons, List.map_nil]); first | done | (simp only [hji3]; rfl) | rfl | (simp only [List.length_drop, List.length_take]; rfl)) ?_; (with_reducible refine (pack_Narrow.calls a0 (rd y163 (ji3)) t167 _ A9.out).mono ?_); rintro e w' ⟨rfl, ⟨nd, rfl⟩⟩; refine ⟨_, rfl, ?_⟩) | (go_at_call 29; (with_reducible refine (pack_Narrow.calls (wrap64 (t167)) 64 t168 _ A14.out).mono ?_); rintro e w' ⟨rfl, ⟨nd, rfl⟩⟩) | (go_at_call 12; (with_reducible refine (treillagelaw01_shown.calls k  t169 _ A16.out).mono ?_); rintro e w20 ⟨rfl, hb⟩; have n0_ := Aside0.mk (Kd.R_below (by (with_reducible repeat (first | apply Kd.R_alloc | apply Kd.R_drewN | apply Kd.R_drew)); exact HO165.out) hb); have n1_ := Aside0.mk (below_step (by repeat (first | (with_reducible first | exact HB.out | apply below_alloc | apply pw_below_drewN | apply below_drew1) | exact HB.out)) hb); clear HO165; clear HB; have HO165 := n0_; have HB := n1_; clear n0_ n1_; (try clear hb); (try clear hb2); (try clear hk); (try clear hi)))
                  go_ret
                  exact ⟨by first | rfl | (simp [errW_none, errW_some] <;> rfl) | (simp only [← hji3, ← hji6, ← hji8]; first | rfl | (simp [errW_none, errW_some] <;> rfl)) | (simp [*, errW_none, errW_some] <;> rfl), by repeat (first | (with_reducible first | exact HB.out | apply below_alloc | apply pw_below_drewN | apply below_drew1) | exact HB.out)⟩
                · rw [if_neg c15] at H
                  have c15b0 : (t168 == t167) = false := beq_eq_false_iff_ne.mpr c15
                  have c15b1 : (t168 != t167) = true := bne_iff_ne.mpr c15
                  obtain rfl := Option.some.inj H
                  go_enter Try.func10, Try.ntmps10
                  go_wp2_with (first | ((with_reducible refine gate_dst (N := 8) rfl ?_); refine Kd.R_lit (Kd.int .i64) _ 3 ?hg (N := 8) ?hd (xs := ([8, 16, 32] : List Int)) (inner := [.int .i64 8, .int .i64 16, .int .i64 32]) (ok := fun _ => True) (okp := fun _ => True) ?hr ?hp (fun _ hk => hk) trivial (Below.refl _ _) (Nat.le_refl _) (by simp) ?_; (case hd => rfl); (case hg => rfl); (case hr => first | (go_simp; done) | (go_simp; rfl)); (case hp => exact (Reps.one (show Kd.M (Kd.int .i64) _ _ _ 8 [.int .i64 8] from rfl) (Reps.one (show Kd.M (Kd.int .i64) _ _ _ 16 [.int .i64 16] from rfl) (Reps.one (show Kd.M (Kd.int .i64) _ _ _ 32 [.int .i64 32] from rfl) (Reps.none _ _))))); intro v164 w21 ho22 hb hg_ hnew_; clear hg_ hnew_; (first | rw [← Ny163.out] at ho22 | (simp only [Int.reduceToNat] at ho22; rw [← Ny163.out] at ho22)); have n0_ := Aside0.mk (Kd.R_lower ho22 (below_size (by repeat (first | (with_reducible first | exact HB.out | apply below_alloc | apply pw_below_drewN | apply below_drew1) | exact HB.out)))); have n1_ := Aside0.mk (below_step (by repeat (first | (with_reducible first | exact HB.out | apply below_alloc | apply pw_below_drewN | apply below_drew1) | exact HB.out)) hb); clear HB; have HO165 := n0_; have HB := n1_; clear n0_ n1_; clear hb ho22; obtain ⟨Ao23, co23, eo23⟩ := Kd.R_slice HO165.out; subst eo23; have p166 : 0 ≤ ((ji3) : Int) := of_decide_eq_true (by first | (with_reducible assumption) | assumption); have q166 : (ji3) < (y163.length : Int) := of_decide_eq_true (by first | (with_reducible assumption) | assumption); obtain ⟨ad166, e166, hx166_0⟩ := Kd.at_int (Kd.R_reads' HO165.out).2.2 (ji3) p166 q166; cases e166; replace p166 := eq_true p166; replace q166 := eq_true q166) | ((with_reducible refine gate_callee (f := 29) rfl ?_); refine goesL_ (some 18) rfl rfl Try.func29 (by kernel_rfl) rfl #[.int .i64 a0, .int .i64 (rd y163 (ji3))] rfl (by (try simp only [List.map_toArray, List.map_cons, List.map_nil]); first | done | (simp only [hji3]; rfl) | rfl | (simp only [List.length_drop, List.length_take]; rfl)) ?_; (with_reducible refine (pack_Narrow.calls a0 (rd y163 (ji3)) t167 _ A9.out).mono ?_); rintro e w' ⟨rfl, ⟨nd, rfl⟩⟩; refine ⟨_, rfl, ?_⟩) | (go_at_call 29; (with_reducible refine (pack_Narrow.calls (wrap64 (t167)) 64 t168 _ A14.out).mono ?_); rintro e w' ⟨rfl, ⟨nd, rfl⟩⟩))
                  go_ret
                  exact ⟨by first | rfl | (simp [errW_none, errW_some] <;> rfl) | (simp only [← hji3, ← hji6, ← hji8]; first | rfl | (simp [errW_none, errW_some] <;> rfl)) | (simp [*, errW_none, errW_some] <;> rfl), by repeat (first | (with_reducible first | exact HB.out | apply below_alloc | apply pw_below_drewN | apply below_drew1) | exact HB.out)⟩
              · rw [if_neg c13] at H
                have c13b0 : ((t167 == a0) == (decide (a0 < (ji8)))) = false := by simpa using c13
                (try (have c13b1 : decide ((t167 == a0) = (decide (a0 < (ji8)))) = false := by simpa using c13))
                (try (have c13b2 : ((t167 == a0) == (decide (a0 < (ji8)))) = false := by simpa using c13))
                (try (have c13b3 : ¬ ((t167 == a0) = (decide (a0 < (ji8)))) := by simpa using c13))
                clear c13
                obtain rfl := Option.some.inj H
                go_enter Try.func10, Try.ntmps10
                go_wp2_with (first | ((with_reducible refine gate_dst (N := 8) rfl ?_); refine Kd.R_lit (Kd.int .i64) _ 3 ?hg (N := 8) ?hd (xs := ([8, 16, 32] : List Int)) (inner := [.int .i64 8, .int .i64 16, .int .i64 32]) (ok := fun _ => True) (okp := fun _ => True) ?hr ?hp (fun _ hk => hk) trivial (Below.refl _ _) (Nat.le_refl _) (by simp) ?_; (case hd => rfl); (case hg => rfl); (case hr => first | (go_simp; done) | (go_simp; rfl)); (case hp => exact (Reps.one (show Kd.M (Kd.int .i64) _ _ _ 8 [.int .i64 8] from rfl) (Reps.one (show Kd.M (Kd.int .i64) _ _ _ 16 [.int .i64 16] from rfl) (Reps.one (show Kd.M (Kd.int .i64) _ _ _ 32 [.int .i64 32] from rfl) (Reps.none _ _))))); intro v164 w24 ho25 hb hg_ hnew_; clear hg_ hnew_; (first | rw [← Ny163.out] at ho25 | (simp only [Int.reduceToNat] at ho25; rw [← Ny163.out] at ho25)); have n0_ := Aside0.mk (Kd.R_lower ho25 (below_size (by repeat (first | (with_reducible first | exact HB.out | apply below_alloc | apply pw_below_drewN | apply below_drew1) | exact HB.out)))); have n1_ := Aside0.mk (below_step (by repeat (first | (with_reducible first | exact HB.out | apply below_alloc | apply pw_below_drewN | apply below_drew1) | exact HB.out)) hb); clear HB; have HO165 := n0_; have HB := n1_; clear n0_ n1_; clear hb ho25; obtain ⟨Ao26, co26, eo26⟩ := Kd.R_slice HO165.out; subst eo26; have p166 : 0 ≤ ((ji3) : Int) := of_decide_eq_true (by first | (with_reducible assumption) | assumption); have q166 : (ji3) < (y163.length : Int) := of_decide_eq_true (by first | (with_reducible assumption) | assumption); obtain ⟨ad166, e166, hx166_0⟩ := Kd.at_int (Kd.R_reads' HO165.out).2.2 (ji3) p166 q166; cases e166; replace p166 := eq_true p166; replace q166 := eq_true q166) | ((with_reducible refine gate_callee (f := 29) rfl ?_); refine goesL_ (some 18) rfl rfl Try.func29 (by kernel_rfl) rfl #[.int .i64 a0, .int .i64 (rd y163 (ji3))] rfl (by (try simp only [List.map_toArray, List.map_cons, List.map_nil]); first | done | (simp only [hji3]; rfl) | rfl | (simp only [List.length_drop, List.length_take]; rfl)) ?_; (with_reducible refine (pack_Narrow.calls a0 (rd y163 (ji3)) t167 _ A9.out).mono ?_); rintro e w' ⟨rfl, ⟨nd, rfl⟩⟩; refine ⟨_, rfl, ?_⟩))
                go_ret
                exact ⟨by first | rfl | (simp [errW_none, errW_some] <;> rfl) | (simp only [← hji3, ← hji6, ← hji8]; first | rfl | (simp [errW_none, errW_some] <;> rfl)) | (simp [*, errW_none, errW_some] <;> rfl), by repeat (first | (with_reducible first | exact HB.out | apply below_alloc | apply pw_below_drewN | apply below_drew1) | exact HB.out)⟩
            · rw [if_neg c12] at H
              have c12b0 : decide ((wrap64 (-(ji8))) ≤ a0) = false := decide_eq_false c12
              clear c12
              by_cases c27 : ((t167 == a0) == false) = true
              · rw [if_pos c27] at H
                have c27b0 : ((t167 == a0) == false) = true := c27
                (try (have c27b1 : decide ((t167 == a0) = false) = true := by simpa using c27))
                (try (have c27b2 : ((t167 == a0) == false) = true := by simpa using c27))
                clear c27
                replace H := Option.bind_eq_some_iff.mp H
                obtain ⟨t170, A280, H⟩ := H
                replace H : (if t170 = t167 then ((treillagelaw01_shown.f k).bind fun t171 => (some t171)) else (some false)) = some r := H
                have A28 := Aside0.mk A280
                clear A280
                by_cases c29 : t170 = t167
                · rw [if_pos c29] at H
                  have c29b0 : (t170 == t167) = true := beq_iff_eq.mpr c29
                  have c29b1 : (t170 != t167) = false := bne_eq_false_iff_eq.mpr c29
                  clear c29
                  replace H := Option.bind_eq_some_iff.mp H
                  obtain ⟨t171, A300, H⟩ := H
                  replace H : (some t171) = some r := H
                  have A30 := Aside0.mk A300
                  clear A300
                  obtain rfl := Option.some.inj H
                  go_enter Try.func10, Try.ntmps10
                  go_wp2_with (first | ((with_reducible refine gate_dst (N := 8) rfl ?_); refine Kd.R_lit (Kd.int .i64) _ 3 ?hg (N := 8) ?hd (xs := ([8, 16, 32] : List Int)) (inner := [.int .i64 8, .int .i64 16, .int .i64 32]) (ok := fun _ => True) (okp := fun _ => True) ?hr ?hp (fun _ hk => hk) trivial (Below.refl _ _) (Nat.le_refl _) (by simp) ?_; (case hd => rfl); (case hg => rfl); (case hr => first | (go_simp; done) | (go_simp; rfl)); (case hp => exact (Reps.one (show Kd.M (Kd.int .i64) _ _ _ 8 [.int .i64 8] from rfl) (Reps.one (show Kd.M (Kd.int .i64) _ _ _ 16 [.int .i64 16] from rfl) (Reps.one (show Kd.M (Kd.int .i64) _ _ _ 32 [.int .i64 32] from rfl) (Reps.none _ _))))); intro v164 w31 ho32 hb hg_ hnew_; clear hg_ hnew_; (first | rw [← Ny163.out] at ho32 | (simp only [Int.reduceToNat] at ho32; rw [← Ny163.out] at ho32)); have n0_ := Aside0.mk (Kd.R_lower ho32 (below_size (by repeat (first | (with_reducible first | exact HB.out | apply below_alloc | apply pw_below_drewN | apply below_drew1) | exact HB.out)))); have n1_ := Aside0.mk (below_step (by repeat (first | (with_reducible first | exact HB.out | apply below_alloc | apply pw_below_drewN | apply below_drew1) | exact HB.out)) hb); clear HB; have HO165 := n0_; have HB := n1_; clear n0_ n1_; clear hb ho32; obtain ⟨Ao33, co33, eo33⟩ := Kd.R_slice HO165.out; subst eo33; have p166 : 0 ≤ ((ji3) : Int) := of_decide_eq_true (by first | (with_reducible assumption) | assumption); have q166 : (ji3) < (y163.length : Int) := of_decide_eq_true (by first | (with_reducible assumption) | assumption); obtain ⟨ad166, e166, hx166_0⟩ := Kd.at_int (Kd.R_reads' HO165.out).2.2 (ji3) p166 q166; cases e166; replace p166 := eq_true p166; replace q166 := eq_true q166) | ((with_reducible refine gate_callee (f := 29) rfl ?_); refine goesL_ (some 18) rfl rfl Try.func29 (by kernel_rfl) rfl #[.int .i64 a0, .int .i64 (rd y163 (ji3))] rfl (by (try simp only [List.map_toArray, List.map_cons, List.map_nil]); first | done | (simp only [hji3]; rfl) | rfl | (simp only [List.length_drop, List.length_take]; rfl)) ?_; (with_reducible refine (pack_Narrow.calls a0 (rd y163 (ji3)) t167 _ A9.out).mono ?_); rintro e w' ⟨rfl, ⟨nd, rfl⟩⟩; refine ⟨_, rfl, ?_⟩) | (go_at_call 29; (with_reducible refine (pack_Narrow.calls (wrap64 (t167)) 64 t170 _ A28.out).mono ?_); rintro e w' ⟨rfl, ⟨nd, rfl⟩⟩) | (go_at_call 12; (with_reducible refine (treillagelaw01_shown.calls k  t171 _ A30.out).mono ?_); rintro e w34 ⟨rfl, hb⟩; have n0_ := Aside0.mk (Kd.R_below (by (with_reducible repeat (first | apply Kd.R_alloc | apply Kd.R_drewN | apply Kd.R_drew)); exact HO165.out) hb); have n1_ := Aside0.mk (below_step (by repeat (first | (with_reducible first | exact HB.out | apply below_alloc | apply pw_below_drewN | apply below_drew1) | exact HB.out)) hb); clear HO165; clear HB; have HO165 := n0_; have HB := n1_; clear n0_ n1_; (try clear hb); (try clear hb2); (try clear hk); (try clear hi)))
                  go_ret
                  exact ⟨by first | rfl | (simp [errW_none, errW_some] <;> rfl) | (simp only [← hji3, ← hji6, ← hji8]; first | rfl | (simp [errW_none, errW_some] <;> rfl)) | (simp [*, errW_none, errW_some] <;> rfl), by repeat (first | (with_reducible first | exact HB.out | apply below_alloc | apply pw_below_drewN | apply below_drew1) | exact HB.out)⟩
                · rw [if_neg c29] at H
                  have c29b0 : (t170 == t167) = false := beq_eq_false_iff_ne.mpr c29
                  have c29b1 : (t170 != t167) = true := bne_iff_ne.mpr c29
                  obtain rfl := Option.some.inj H
                  go_enter Try.func10, Try.ntmps10
                  go_wp2_with (first | ((with_reducible refine gate_dst (N := 8) rfl ?_); refine Kd.R_lit (Kd.int .i64) _ 3 ?hg (N := 8) ?hd (xs := ([8, 16, 32] : List Int)) (inner := [.int .i64 8, .int .i64 16, .int .i64 32]) (ok := fun _ => True) (okp := fun _ => True) ?hr ?hp (fun _ hk => hk) trivial (Below.refl _ _) (Nat.le_refl _) (by simp) ?_; (case hd => rfl); (case hg => rfl); (case hr => first | (go_simp; done) | (go_simp; rfl)); (case hp => exact (Reps.one (show Kd.M (Kd.int .i64) _ _ _ 8 [.int .i64 8] from rfl) (Reps.one (show Kd.M (Kd.int .i64) _ _ _ 16 [.int .i64 16] from rfl) (Reps.one (show Kd.M (Kd.int .i64) _ _ _ 32 [.int .i64 32] from rfl) (Reps.none _ _))))); intro v164 w35 ho36 hb hg_ hnew_; clear hg_ hnew_; (first | rw [← Ny163.out] at ho36 | (simp only [Int.reduceToNat] at ho36; rw [← Ny163.out] at ho36)); have n0_ := Aside0.mk (Kd.R_lower ho36 (below_size (by repeat (first | (with_reducible first | exact HB.out | apply below_alloc | apply pw_below_drewN | apply below_drew1) | exact HB.out)))); have n1_ := Aside0.mk (below_step (by repeat (first | (with_reducible first | exact HB.out | apply below_alloc | apply pw_below_drewN | apply below_drew1) | exact HB.out)) hb); clear HB; have HO165 := n0_; have HB := n1_; clear n0_ n1_; clear hb ho36; obtain ⟨Ao37, co37, eo37⟩ := Kd.R_slice HO165.out; subst eo37; have p166 : 0 ≤ ((ji3) : Int) := of_decide_eq_true (by first | (with_reducible assumption) | assumption); have q166 : (ji3) < (y163.length : Int) := of_decide_eq_true (by first | (with_reducible assumption) | assumption); obtain ⟨ad166, e166, hx166_0⟩ := Kd.at_int (Kd.R_reads' HO165.out).2.2 (ji3) p166 q166; cases e166; replace p166 := eq_true p166; replace q166 := eq_true q166) | ((with_reducible refine gate_callee (f := 29) rfl ?_); refine goesL_ (some 18) rfl rfl Try.func29 (by kernel_rfl) rfl #[.int .i64 a0, .int .i64 (rd y163 (ji3))] rfl (by (try simp only [List.map_toArray, List.map_cons, List.map_nil]); first | done | (simp only [hji3]; rfl) | rfl | (simp only [List.length_drop, List.length_take]; rfl)) ?_; (with_reducible refine (pack_Narrow.calls a0 (rd y163 (ji3)) t167 _ A9.out).mono ?_); rintro e w' ⟨rfl, ⟨nd, rfl⟩⟩; refine ⟨_, rfl, ?_⟩) | (go_at_call 29; (with_reducible refine (pack_Narrow.calls (wrap64 (t167)) 64 t170 _ A28.out).mono ?_); rintro e w' ⟨rfl, ⟨nd, rfl⟩⟩))
                  go_ret
                  exact ⟨by first | rfl | (simp [errW_none, errW_some] <;> rfl) | (simp only [← hji3, ← hji6, ← hji8]; first | rfl | (simp [errW_none, errW_some] <;> rfl)) | (simp [*, errW_none, errW_some] <;> rfl), by repeat (first | (with_reducible first | exact HB.out | apply below_alloc | apply pw_below_drewN | apply below_drew1) | exact HB.out)⟩
              · rw [if_neg c27] at H
                have c27b0 : ((t167 == a0) == false) = false := by simpa using c27
                (try (have c27b1 : decide ((t167 == a0) = false) = false := by simpa using c27))
                (try (have c27b2 : ((t167 == a0) == false) = false := by simpa using c27))
                (try (have c27b3 : ¬ ((t167 == a0) = false) := by simpa using c27))
                clear c27
                obtain rfl := Option.some.inj H
                go_enter Try.func10, Try.ntmps10
                go_wp2_with (first | ((with_reducible refine gate_dst (N := 8) rfl ?_); refine Kd.R_lit (Kd.int .i64) _ 3 ?hg (N := 8) ?hd (xs := ([8, 16, 32] : List Int)) (inner := [.int .i64 8, .int .i64 16, .int .i64 32]) (ok := fun _ => True) (okp := fun _ => True) ?hr ?hp (fun _ hk => hk) trivial (Below.refl _ _) (Nat.le_refl _) (by simp) ?_; (case hd => rfl); (case hg => rfl); (case hr => first | (go_simp; done) | (go_simp; rfl)); (case hp => exact (Reps.one (show Kd.M (Kd.int .i64) _ _ _ 8 [.int .i64 8] from rfl) (Reps.one (show Kd.M (Kd.int .i64) _ _ _ 16 [.int .i64 16] from rfl) (Reps.one (show Kd.M (Kd.int .i64) _ _ _ 32 [.int .i64 32] from rfl) (Reps.none _ _))))); intro v164 w38 ho39 hb hg_ hnew_; clear hg_ hnew_; (first | rw [← Ny163.out] at ho39 | (simp only [Int.reduceToNat] at ho39; rw [← Ny163.out] at ho39)); have n0_ := Aside0.mk (Kd.R_lower ho39 (below_size (by repeat (first | (with_reducible first | exact HB.out | apply below_alloc | apply pw_below_drewN | apply below_drew1) | exact HB.out)))); have n1_ := Aside0.mk (below_step (by repeat (first | (with_reducible first | exact HB.out | apply below_alloc | apply pw_below_drewN | apply below_drew1) | exact HB.out)) hb); clear HB; have HO165 := n0_; have HB := n1_; clear n0_ n1_; clear hb ho39; obtain ⟨Ao40, co40, eo40⟩ := Kd.R_slice HO165.out; subst eo40; have p166 : 0 ≤ ((ji3) : Int) := of_decide_eq_true (by first | (with_reducible assumption) | assumption); have q166 : (ji3) < (y163.length : Int) := of_decide_eq_true (by first | (with_reducible assumption) | assumption); obtain ⟨ad166, e166, hx166_0⟩ := Kd.at_int (Kd.R_reads' HO165.out).2.2 (ji3) p166 q166; cases e166; replace p166 := eq_true p166; replace q166 := eq_true q166) | ((with_reducible refine gate_callee (f := 29) rfl ?_); refine goesL_ (some 18) rfl rfl Try.func29 (by kernel_rfl) rfl #[.int .i64 a0, .int .i64 (rd y163 (ji3))] rfl (by (try simp only [List.map_toArray, List.map_cons, List.map_nil]); first | done | (simp only [hji3]; rfl) | rfl | (simp only [List.length_drop, List.length_take]; rfl)) ?_; (with_reducible refine (pack_Narrow.calls a0 (rd y163 (ji3)) t167 _ A9.out).mono ?_); rintro e w' ⟨rfl, ⟨nd, rfl⟩⟩; refine ⟨_, rfl, ?_⟩))
                go_ret
                exact ⟨by first | rfl | (simp [errW_none, errW_some] <;> rfl) | (simp only [← hji3, ← hji6, ← hji8]; first | rfl | (simp [errW_none, errW_some] <;> rfl)) | (simp [*, errW_none, errW_some] <;> rfl), by repeat (first | (with_reducible first | exact HB.out | apply below_alloc | apply pw_below_drewN | apply below_drew1) | exact HB.out)⟩
          · rw [if_neg c11] at H
            have c11b0 : decide (t167 < (ji8)) = false := decide_eq_false c11
            clear c11
            obtain rfl := Option.some.inj H
            go_enter Try.func10, Try.ntmps10
            go_wp2_with (first | ((with_reducible refine gate_dst (N := 8) rfl ?_); refine Kd.R_lit (Kd.int .i64) _ 3 ?hg (N := 8) ?hd (xs := ([8, 16, 32] : List Int)) (inner := [.int .i64 8, .int .i64 16, .int .i64 32]) (ok := fun _ => True) (okp := fun _ => True) ?hr ?hp (fun _ hk => hk) trivial (Below.refl _ _) (Nat.le_refl _) (by simp) ?_; (case hd => rfl); (case hg => rfl); (case hr => first | (go_simp; done) | (go_simp; rfl)); (case hp => exact (Reps.one (show Kd.M (Kd.int .i64) _ _ _ 8 [.int .i64 8] from rfl) (Reps.one (show Kd.M (Kd.int .i64) _ _ _ 16 [.int .i64 16] from rfl) (Reps.one (show Kd.M (Kd.int .i64) _ _ _ 32 [.int .i64 32] from rfl) (Reps.none _ _))))); intro v164 w41 ho42 hb hg_ hnew_; clear hg_ hnew_; (first | rw [← Ny163.out] at ho42 | (simp only [Int.reduceToNat] at ho42; rw [← Ny163.out] at ho42)); have n0_ := Aside0.mk (Kd.R_lower ho42 (below_size (by repeat (first | (with_reducible first | exact HB.out | apply below_alloc | apply pw_below_drewN | apply below_drew1) | exact HB.out)))); have n1_ := Aside0.mk (below_step (by repeat (first | (with_reducible first | exact HB.out | apply below_alloc | apply pw_below_drewN | apply below_drew1) | exact HB.out)) hb); clear HB; have HO165 := n0_; have HB := n1_; clear n0_ n1_; clear hb ho42; obtain ⟨Ao43, co43, eo43⟩ := Kd.R_slice HO165.out; subst eo43; have p166 : 0 ≤ ((ji3) : Int) := of_decide_eq_true (by first | (with_reducible assumption) | assumption); have q166 : (ji3) < (y163.length : Int) := of_decide_eq_true (by first | (with_reducible assumption) | assumption); obtain ⟨ad166, e166, hx166_0⟩ := Kd.at_int (Kd.R_reads' HO165.out).2.2 (ji3) p166 q166; cases e166; replace p166 := eq_true p166; replace q166 := eq_true q166) | ((with_reducible refine gate_callee (f := 29) rfl ?_); refine goesL_ (some 18) rfl rfl Try.func29 (by kernel_rfl) rfl #[.int .i64 a0, .int .i64 (rd y163 (ji3))] rfl (by (try simp only [List.map_toArray, List.map_cons, List.map_nil]); first | done | (simp only [hji3]; rfl) | rfl | (simp only [List.length_drop, List.length_take]; rfl)) ?_; (with_reducible refine (pack_Narrow.calls a0 (rd y163 (ji3)) t167 _ A9.out).mono ?_); rintro e w' ⟨rfl, ⟨nd, rfl⟩⟩; refine ⟨_, rfl, ?_⟩))
            go_ret
            exact ⟨by first | rfl | (simp [errW_none, errW_some] <;> rfl) | (simp only [← hji3, ← hji6, ← hji8]; first | rfl | (simp [errW_none, errW_some] <;> rfl)) | (simp [*, errW_none, errW_some] <;> rfl), by repeat (first | (with_reducible first | exact HB.out | apply below_alloc | apply pw_below_drewN | apply below_drew1) | exact HB.out)⟩
        · rw [if_neg c10] at H
          have c10b0 : decide ((wrap64 (-(ji8))) ≤ t167) = false := decide_eq_false c10
          clear c10
          obtain rfl := Option.some.inj H
          go_enter Try.func10, Try.ntmps10
          go_wp2_with (first | ((with_reducible refine gate_dst (N := 8) rfl ?_); refine Kd.R_lit (Kd.int .i64) _ 3 ?hg (N := 8) ?hd (xs := ([8, 16, 32] : List Int)) (inner := [.int .i64 8, .int .i64 16, .int .i64 32]) (ok := fun _ => True) (okp := fun _ => True) ?hr ?hp (fun _ hk => hk) trivial (Below.refl _ _) (Nat.le_refl _) (by simp) ?_; (case hd => rfl); (case hg => rfl); (case hr => first | (go_simp; done) | (go_simp; rfl)); (case hp => exact (Reps.one (show Kd.M (Kd.int .i64) _ _ _ 8 [.int .i64 8] from rfl) (Reps.one (show Kd.M (Kd.int .i64) _ _ _ 16 [.int .i64 16] from rfl) (Reps.one (show Kd.M (Kd.int .i64) _ _ _ 32 [.int .i64 32] from rfl) (Reps.none _ _))))); intro v164 w44 ho45 hb hg_ hnew_; clear hg_ hnew_; (first | rw [← Ny163.out] at ho45 | (simp only [Int.reduceToNat] at ho45; rw [← Ny163.out] at ho45)); have n0_ := Aside0.mk (Kd.R_lower ho45 (below_size (by repeat (first | (with_reducible first | exact HB.out | apply below_alloc | apply pw_below_drewN | apply below_drew1) | exact HB.out)))); have n1_ := Aside0.mk (below_step (by repeat (first | (with_reducible first | exact HB.out | apply below_alloc | apply pw_below_drewN | apply below_drew1) | exact HB.out)) hb); clear HB; have HO165 := n0_; have HB := n1_; clear n0_ n1_; clear hb ho45; obtain ⟨Ao46, co46, eo46⟩ := Kd.R_slice HO165.out; subst eo46; have p166 : 0 ≤ ((ji3) : Int) := of_decide_eq_true (by first | (with_reducible assumption) | assumption); have q166 : (ji3) < (y163.length : Int) := of_decide_eq_true (by first | (with_reducible assumption) | assumption); obtain ⟨ad166, e166, hx166_0⟩ := Kd.at_int (Kd.R_reads' HO165.out).2.2 (ji3) p166 q166; cases e166; replace p166 := eq_true p166; replace q166 := eq_true q166) | ((with_reducible refine gate_callee (f := 29) rfl ?_); refine goesL_ (some 18) rfl rfl Try.func29 (by kernel_rfl) rfl #[.int .i64 a0, .int .i64 (rd y163 (ji3))] rfl (by (try simp only [List.map_toArray, List.map_cons, List.map_nil]); first | done | (simp only [hji3]; rfl) | rfl | (simp only [List.length_drop, List.length_take]; rfl)) ?_; (with_reducible refine (pack_Narrow.calls a0 (rd y163 (ji3)) t167 _ A9.out).mono ?_); rintro e w' ⟨rfl, ⟨nd, rfl⟩⟩; refine ⟨_, rfl, ?_⟩))
          go_ret
          exact ⟨by first | rfl | (simp [errW_none, errW_some] <;> rfl) | (simp only [← hji3, ← hji6, ← hji8]; first | rfl | (simp [errW_none, errW_some] <;> rfl)) | (simp [*, errW_none, errW_some] <;> rfl), by repeat (first | (with_reducible first | exact HB.out | apply below_alloc | apply pw_below_drewN | apply below_drew1) | exact HB.out)⟩
      · rw [if_neg c7] at H
        exact absurd H (by simp)
    · rw [if_neg c5] at H
      exact absurd H (by simp)
  · rw [if_neg c4] at H
    exact absurd H (by simp)

/-- THE ONE PURE STATEMENT of treillagelaw01_PackBits: yours. -/
def treillagelaw01_PackBits.Pure : Prop := ∀ (a0 : Int) (a1 : Int), (Lit.int .i64 a0).wf = true → (Lit.int .u8 a1).wf = true → ∃ k, treillagelaw01_PackBits.f k a0 a1 = some true
theorem treillagelaw01_PackBits.walk (P : treillagelaw01_PackBits.Pure) (a0 : Int) (a1 : Int) (w : World) (w0 : (Lit.int .i64 a0).wf = true) (w1 : (Lit.int .u8 a1).wf = true) :
    Calls Try.prog 10 #[.int .i64 a0, .int .u8 a1] w fun e w' => e = .returned (.bool true) ∧ Below w.heap.size w w' := by
  obtain ⟨k, h⟩ := P a0 a1 w0 w1
  refine (treillagelaw01_PackBits.calls k a0 a1 true w h).mono ?_
  rintro e w' ⟨rfl, hd⟩
  exact ⟨rfl, hd⟩

/-! ### pack_Back: function 31 -/
mutual
def pack_Back.j0 : Nat → ByteArray → Int → Bool → Option (Int × Bool)
  | 0, _, _, _ => none
  | k + 1, x0, x2, x21 => if x21 = true then (some (0, false)) else (pack_Back.l0 k x0 x2 (wrap64 ((x0.size : Int) - 1)))
def pack_Back.l0 : Nat → ByteArray → Int → Int → Option (Int × Bool)
  | 0, _, _, _ => none
  | k + 1, x0, x2, x4 => if x4 > 0 then (if 0 ≤ x4 then (if x4 < (x0.size : Int) then (pack_Back.l0 k x0 (Go.bits .or .u64 (IntKind.u64.wrap (x2 * 256)) (IntKind.u64.wrap (bt x0 x4))) (wrap64 (x4 - 1))) else (none)) else (none)) else ((pack_size.f k x2).bind fun t172 => (if t172 = (wrap64 ((x0.size : Int) - 1)) then (some (x2, true)) else (some (0, false))))
end
def pack_Back.f (k : Nat) (a0 : ByteArray) : Option (Int × Bool) := if (a0.size : Int) = 0 then (pack_Back.j0 k a0 0 true) else (if (a0.size : Int) > 9 then (pack_Back.j0 k a0 0 true) else (if 0 < (a0.size : Int) then (pack_Back.j0 k a0 0 ((wrap64 (bt a0 0)) != (wrap64 ((a0.size : Int) - 1)))) else (none)))
theorem pack_Back.mono_l : ∀ k, (∀ y0 y1 y2, LeO (pack_Back.j0 k y0 y1 y2) (pack_Back.j0 (k + 1) y0 y1 y2)) ∧ (∀ y0 y1 y2, LeO (pack_Back.l0 k y0 y1 y2) (pack_Back.l0 (k + 1) y0 y1 y2))
  | 0 => ⟨fun _ _ _ r h => by simp [pack_Back.j0] at h, fun _ _ _ r h => by simp [pack_Back.l0] at h⟩
  | k + 1 => by
    obtain ⟨ih0, ih1⟩ := pack_Back.mono_l k
    refine ⟨?_, ?_⟩
    · intro y0 y1 y2
      unfold pack_Back.j0
      repeat' first
      | (with_reducible exact ih0 _ _ _)
      | (with_reducible exact ih1 _ _ _)
      | (with_reducible exact pack_size.mono _ _)
      | (with_reducible exact LeO.refl _)
      | (with_reducible exact LeO.none _)
      | (with_reducible refine LeO.ite ?_ ?_)
      | (with_reducible refine LeO.bind ?_ (fun _ => ?_))
      | exact ih0 _ _ _
      | exact ih1 _ _ _
      | exact pack_size.mono _ _
      | exact LeO.none _
      | refine LeO.ite ?_ ?_
      | refine LeO.bind ?_ (fun _ => ?_)
    · intro y0 y1 y2
      unfold pack_Back.l0
      repeat' first
      | (with_reducible exact ih0 _ _ _)
      | (with_reducible exact ih1 _ _ _)
      | (with_reducible exact pack_size.mono _ _)
      | (with_reducible exact LeO.refl _)
      | (with_reducible exact LeO.none _)
      | (with_reducible refine LeO.ite ?_ ?_)
      | (with_reducible refine LeO.bind ?_ (fun _ => ?_))
      | exact ih0 _ _ _
      | exact ih1 _ _ _
      | exact pack_size.mono _ _
      | exact LeO.none _
      | refine LeO.ite ?_ ?_
      | refine LeO.bind ?_ (fun _ => ?_)
theorem pack_Back.mono : ∀ a0 k, LeO (pack_Back.f k a0) (pack_Back.f (k + 1) a0) := by
  intro a0 k
  obtain ⟨ih0, ih1⟩ := pack_Back.mono_l k
  unfold pack_Back.f
  repeat' first
      | (with_reducible exact ih0 _ _ _)
      | (with_reducible exact ih1 _ _ _)
      | (with_reducible exact pack_size.mono _ _)
      | (with_reducible exact LeO.refl _)
      | (with_reducible exact LeO.none _)
      | (with_reducible refine LeO.ite ?_ ?_)
      | (with_reducible refine LeO.bind ?_ (fun _ => ?_))
      | exact ih0 _ _ _
      | exact ih1 _ _ _
      | exact pack_size.mono _ _
      | exact LeO.none _
      | refine LeO.ite ?_ ?_
      | refine LeO.bind ?_ (fun _ => ?_)
set_option maxHeartbeats 8000000 in
set_option maxRecDepth 100000 in
theorem pack_Back.calls (k : Nat) (a0 : ByteArray) (r1 : Int) (r2 : Bool) (w : World) (h : pack_Back.f k a0 = some (r1, r2)) :
    Calls Try.prog 31 #[.string a0] w fun e w' => e = .returned (.tuple #[.int .u64 r1, .bool r2]) ∧ Drawn0 w w' := by
  have H : (if (a0.size : Int) = 0 then (pack_Back.j0 k a0 0 true) else (if (a0.size : Int) > 9 then (pack_Back.j0 k a0 0 true) else (if 0 < (a0.size : Int) then (pack_Back.j0 k a0 0 ((wrap64 (bt a0 0)) != (wrap64 ((a0.size : Int) - 1)))) else (none)))) = some (r1, r2) := h
  clear h
  have HC2 := Aside0.mk H
  clear H
  go_enter Try.func31, Try.ntmps31
  go_upto_region 1 with (fail)
  go_cut [21] (fun v21 wc => ∃ (kq : Nat) (x21_1 : Bool), v21 = .bool x21_1 ∧ Aside0 (pack_Back.j0 kq a0 0 x21_1 = some (r1, r2)) ∧ Aside0 (kq ≤ k) ∧ Drawn0 w wc)
  case first =>
    have H := HC2.out
    clear HC2
    by_cases c3 : (a0.size : Int) = 0
    · rw [if_pos c3] at H
      have c3b0 : ((a0.size : Int) == 0) = true := beq_iff_eq.mpr c3
      have c3b1 : ((a0.size : Int) != 0) = false := bne_eq_false_iff_eq.mpr c3
      clear c3
      (first | rw [c3b0] | (simp only [i64_w, i32_w]; rw [c3b0]) | skip)
      have H' := Aside0.mk H
      clear H
      go_wp2
      go_meet
      case rel => exact ⟨_, (true), (by first | rfl | (simp; done) | (simp [*]; done)), H', ⟨by first | omega | exact Nat.le_refl _⟩, by repeat (first | exact Drawn0.refl _ | apply Drawn0.step)⟩
    · rw [if_neg c3] at H
      have c3b0 : ((a0.size : Int) == 0) = false := beq_eq_false_iff_ne.mpr c3
      have c3b1 : ((a0.size : Int) != 0) = true := bne_iff_ne.mpr c3
      (first | rw [c3b0] | (simp only [i64_w, i32_w]; rw [c3b0]) | skip)
      by_cases c4 : (a0.size : Int) > 9
      · rw [if_pos c4] at H
        have c4b0 : decide (9 < (a0.size : Int)) = true := decide_eq_true c4
        have c4b1 : decide (9 < a0.size) = true := decide_eq_true (by omega)
        clear c4
        have H' := Aside0.mk H
        clear H
        go_wp2
        go_meet
        case rel => exact ⟨_, (true), (by first | rfl | (simp; done) | (simp [*]; done)), H', ⟨by first | omega | exact Nat.le_refl _⟩, by repeat (first | exact Drawn0.refl _ | apply Drawn0.step)⟩
      · rw [if_neg c4] at H
        have c4b0 : decide (9 < (a0.size : Int)) = false := decide_eq_false c4
        have c4b1 : decide (9 < a0.size) = false := decide_eq_false (by omega)
        clear c4
        by_cases c5 : 0 < (a0.size : Int)
        · rw [if_pos c5] at H
          have c5b0 : decide (0 < (a0.size : Int)) = true := decide_eq_true c5
          have c5b1 : decide (0 < a0.size) = true := decide_eq_true (by omega)
          clear c5
          have H' := Aside0.mk H
          clear H
          have p6 : 0 ≤ (0 : Int) := (by omega)
          have q6 : 0 < a0.size := (by have : (0 : Int) < (a0.size : Int) := of_decide_eq_true (by first | (with_reducible assumption) | assumption); omega)
          have hx6 : ∀ h : 0 < a0.size, ((a0[0]'h).toNat : Int) = bt a0 0 := bt_at a0 0
          clear p6
          have qi6 : (0 < (a0.size : Int)) = True := eq_true (of_decide_eq_true (by first | (with_reducible assumption) | assumption))
          replace q6 := eq_true q6
          go_wp2
          go_meet
          case rel => exact ⟨_, (((wrap64 (bt a0 0)) != (wrap64 ((a0.size : Int) - 1)))), (by first | rfl | (simp; done) | (simp [*]; done)), H', ⟨by first | omega | exact Nat.le_refl _⟩, by repeat (first | exact Drawn0.refl _ | apply Drawn0.step)⟩
        · rw [if_neg c5] at H
          exact absurd H (by simp)
  case rest =>
    clear HC2
    try clear p2
    try clear c3
    try clear c3b0
    try clear c3b1
    try clear c4
    try clear c4b0
    try clear c4b1
    try clear c5
    try clear c5b0
    try clear c5b1
    try clear p6
    try clear q6
    try clear hx6
    try clear qi6
    try clear p6
    try clear q6
    obtain ⟨kq, x21_1, rfl, HA, HJ1, ⟨mc1, rfl⟩⟩ := hcut
    cases kq with
    | zero => exact absurd HA.out (by simp [pack_Back.j0])
    | succ kj1 =>
      have H := HA.out
      clear HA
      simp only [pack_Back.j0] at H
      by_cases c7 : x21_1 = true
      · subst c7
        have H1 : (some (0, false)) = some (r1, r2) := by rw [if_pos rfl] at H; exact H
        clear H
        have H := H1
        clear H1
        simp only [Option.some.injEq, Prod.mk.injEq] at H
        obtain ⟨rfl, rfl⟩ := H
        go_wp2
        go_ret2
        exact ⟨by first | rfl | (simp; done) | (simp [*]; done), by repeat (first | exact Drawn0.refl _ | apply Drawn0.step)⟩
      · replace c7 := Bool.eq_false_iff.mpr c7
        subst c7
        have H1 : (pack_Back.l0 kj1 a0 0 (wrap64 ((a0.size : Int) - 1))) = some (r1, r2) := by rw [if_neg (show ¬ (false = true) by decide)] at H; exact H
        clear H
        have H := H1
        clear H1
        have H' := Aside0.mk H
        clear H
        go_wp2
        go_loopg [2, 4] kj1 (fun kq v2 v4 w' => ∃ (x2_2 : Int) (x4_2 : Int), v2 = .int .u64 x2_2 ∧ v4 = .int .i64 x4_2 ∧ Aside0 (pack_Back.l0 kq a0 x2_2 x4_2 = some (r1, r2)) ∧ Aside0 (kq ≤ kj1) ∧ Drawn0 w w')
        case atStart => exact ⟨(0), (wrap64 ((a0.size : Int) - 1)), (by first | rfl | (simp; done) | (simp [*]; done)), (by first | rfl | (simp; done) | (simp [*]; done)), H', ⟨Nat.le_refl _⟩, by repeat (first | exact Drawn0.refl _ | apply Drawn0.step)⟩
        case round =>
          clear H'
          try clear c1
          try clear p2
          try clear c3
          try clear c3b0
          try clear c3b1
          try clear c4
          try clear c4b0
          try clear c4b1
          try clear c5
          try clear c5b0
          try clear c5b1
          try clear p6
          try clear q6
          try clear hx6
          try clear qi6
          try clear c7
          try clear p2
          try clear p6
          try clear q6
          obtain ⟨x2_2, x4_2, rfl, rfl, HA, HK2, ⟨m2, rfl⟩⟩ := hrel
          cases gk with
          | zero => exact absurd HA.out (by simp [pack_Back.l0])
          | succ k2 =>
            have H := HA.out
            clear HA
            simp only [pack_Back.l0] at H
            by_cases c8 : x4_2 > 0
            · rw [if_pos c8] at H
              have c8b0 : decide (0 < x4_2) = true := decide_eq_true c8
              clear c8
              by_cases c9 : 0 ≤ x4_2
              · rw [if_pos c9] at H
                have c9b0 : decide (0 ≤ x4_2) = true := decide_eq_true c9
                clear c9
                by_cases c10 : x4_2 < (a0.size : Int)
                · rw [if_pos c10] at H
                  have c10b0 : decide (x4_2 < (a0.size : Int)) = true := decide_eq_true c10
                  clear c10
                  have H' := Aside0.mk H
                  clear H
                  have p11 : 0 ≤ (x4_2 : Int) := of_decide_eq_true (by first | (with_reducible assumption) | assumption)
                  have q11 : x4_2 < (a0.size : Int) := of_decide_eq_true (by first | (with_reducible assumption) | assumption)
                  have hx11 := bt_at a0 x4_2
                  replace p11 := eq_true p11
                  replace q11 := eq_true q11
                  go_wp2
                  go_roundg k2
                  case measure => have := HJ1.out; have := HK2.out; omega
                  case rel => exact ⟨(Go.bits .or .u64 (IntKind.u64.wrap (x2_2 * 256)) (IntKind.u64.wrap (bt a0 x4_2))), (wrap64 (x4_2 - 1)), (by first | rfl | (simp; done) | (simp [*]; done)), (by first | rfl | (simp; done) | (simp [*]; done)), H', ⟨by have := HJ1.out; have := HK2.out; omega⟩, by repeat (first | exact Drawn0.refl _ | apply Drawn0.step)⟩
                · rw [if_neg c10] at H
                  exact absurd H (by simp)
              · rw [if_neg c9] at H
                exact absurd H (by simp)
            · rw [if_neg c8] at H
              have c8b0 : decide (0 < x4_2) = false := decide_eq_false c8
              clear c8
              replace H := Option.bind_eq_some_iff.mp H
              obtain ⟨t172, A120, H⟩ := H
              replace H : (if t172 = (wrap64 ((a0.size : Int) - 1)) then (some (x2_2, true)) else (some (0, false))) = some (r1, r2) := H
              have A12 := Aside0.mk A120
              clear A120
              by_cases c13 : t172 = (wrap64 ((a0.size : Int) - 1))
              · rw [if_pos c13] at H
                have c13b0 : (t172 == (wrap64 ((a0.size : Int) - 1))) = true := beq_iff_eq.mpr c13
                have c13b1 : (t172 != (wrap64 ((a0.size : Int) - 1))) = false := bne_eq_false_iff_eq.mpr c13
                clear c13
                simp only [Option.some.injEq, Prod.mk.injEq] at H
                obtain ⟨rfl, rfl⟩ := H
                go_wp2_with (first | ((with_reducible refine gate_callee (f := 36) rfl ?_); refine goesL_ (some 37) rfl rfl Try.func36 (by kernel_rfl) rfl #[.int .u64 x2_2] rfl (by (try simp only [List.map_toArray, List.map_cons, List.map_nil]); first | done | rfl | (simp only [List.length_drop, List.length_take]; rfl)) ?_; (with_reducible refine (pack_size.calls k2 x2_2 t172 _ A12.out).mono ?_); rintro e w' ⟨rfl, ⟨nd, rfl⟩⟩; refine ⟨_, rfl, ?_⟩))
                go_ret2
                exact ⟨by first | rfl | (simp; done) | (simp [*]; done), by repeat (first | exact Drawn0.refl _ | apply Drawn0.step)⟩
              · rw [if_neg c13] at H
                have c13b0 : (t172 == (wrap64 ((a0.size : Int) - 1))) = false := beq_eq_false_iff_ne.mpr c13
                have c13b1 : (t172 != (wrap64 ((a0.size : Int) - 1))) = true := bne_iff_ne.mpr c13
                simp only [Option.some.injEq, Prod.mk.injEq] at H
                obtain ⟨rfl, rfl⟩ := H
                go_wp2_with (first | ((with_reducible refine gate_callee (f := 36) rfl ?_); refine goesL_ (some 37) rfl rfl Try.func36 (by kernel_rfl) rfl #[.int .u64 x2_2] rfl (by (try simp only [List.map_toArray, List.map_cons, List.map_nil]); first | done | rfl | (simp only [List.length_drop, List.length_take]; rfl)) ?_; (with_reducible refine (pack_size.calls k2 x2_2 t172 _ A12.out).mono ?_); rintro e w' ⟨rfl, ⟨nd, rfl⟩⟩; refine ⟨_, rfl, ?_⟩))
                go_ret2
                exact ⟨by first | rfl | (simp; done) | (simp [*]; done), by repeat (first | exact Drawn0.refl _ | apply Drawn0.step)⟩

/-! ### treillageref01_Bytes: function 34 -/
def treillageref01_Bytes.l0 : Nat → Int → List Int → Option (ByteArray)
  | 0, _, _ => none
  | k + 1, x0, x3 => if x0 > 0 then (if x3.length < 140737488355328 then ((some (x3 ++ [(Int.tmod x0 256) % 256] : List Int)).bind fun y176 => (if 0 < (y176.length : Int) then (treillageref01_Bytes.l0 k (IntKind.u64.wrap (Int.tdiv x0 256)) (y176.set (0 : Int).toNat (((rd y176 0) + 1) % 256))) else (none))) else (none)) else (some (strOfNums x3))
def treillageref01_Bytes.f (k : Nat) (a0 : Int) : Option (ByteArray) := treillageref01_Bytes.l0 k a0 (([0] : List Int))
theorem treillageref01_Bytes.mono_l : ∀ k, (∀ y0 y1, LeO (treillageref01_Bytes.l0 k y0 y1) (treillageref01_Bytes.l0 (k + 1) y0 y1))
  | 0 => fun _ _ r h => by simp [treillageref01_Bytes.l0] at h
  | k + 1 => by
    have ih0 := treillageref01_Bytes.mono_l k
    · intro y0 y1
      unfold treillageref01_Bytes.l0
      repeat' first
      | (with_reducible exact ih0 _ _)
      | (with_reducible exact LeO.refl _)
      | (with_reducible exact LeO.none _)
      | (with_reducible refine LeO.ite ?_ ?_)
      | (with_reducible refine LeO.bind ?_ (fun _ => ?_))
      | exact ih0 _ _
      | exact LeO.none _
      | refine LeO.ite ?_ ?_
      | refine LeO.bind ?_ (fun _ => ?_)
theorem treillageref01_Bytes.mono : ∀ a0 k, LeO (treillageref01_Bytes.f k a0) (treillageref01_Bytes.f (k + 1) a0) := by
  intro a0 k
  have ih0 := treillageref01_Bytes.mono_l k
  unfold treillageref01_Bytes.f
  repeat' first
      | (with_reducible exact ih0 _ _)
      | (with_reducible exact LeO.refl _)
      | (with_reducible exact LeO.none _)
      | (with_reducible refine LeO.ite ?_ ?_)
      | (with_reducible refine LeO.bind ?_ (fun _ => ?_))
      | exact ih0 _ _
      | exact LeO.none _
      | refine LeO.ite ?_ ?_
      | refine LeO.bind ?_ (fun _ => ?_)
set_option maxHeartbeats 8000000 in
set_option maxRecDepth 100000 in
theorem treillageref01_Bytes.calls (k : Nat) (a0 : Int) (r : ByteArray) (w : World) (h : treillageref01_Bytes.f k a0 = some r) :
    Calls Try.prog 34 #[.int .u64 a0] w fun e w' => e = .returned (.string r) ∧ Below w.heap.size w w' := by
  have HB := Aside0.mk (Below.refl w.heap.size w)
  have H : (treillageref01_Bytes.l0 k a0 (([0] : List Int))) = some r := h
  clear h
  obtain ⟨y173, hy173⟩ : ∃ y_ : List Int, y_ = (([0] : List Int)) := ⟨_, rfl⟩
  replace H : (treillageref01_Bytes.l0 k a0 y173) = some r := by first | (rw [hy173]; with_reducible exact H) | (have H2_ := (Option.bind_some _ _).symm.trans H; rw [hy173]; with_reducible exact H2_) | (have H2_ := (Option.bind_some _ _).symm.trans H; with_reducible exact H2_) | with_reducible exact H | (rw [hy173]; exact H) | exact H
  have Ny173 := Aside0.mk hy173
  clear hy173
  have H' := Aside0.mk H
  clear H
  go_enter Try.func34, Try.ntmps34
  go_wp2_with (first | ((with_reducible refine gate_dst (N := 4) rfl ?_); refine Kd.R_lit (Kd.int .u8) _ 5 ?hg (N := 4) ?hd (xs := ([0] : List Int)) (inner := [.int .u8 0]) (ok := fun _ => True) (okp := fun _ => True) ?hr ?hp (fun _ hk => hk) trivial (Below.refl _ _) (Nat.le_refl _) (by simp) ?_; (case hd => rfl); (case hg => rfl); (case hr => first | (go_simp; done) | (go_simp; rfl)); (case hp => exact (Reps.one (show Kd.M (Kd.int .u8) _ _ _ 0 [.int .u8 0] from rfl) (Reps.none _ _))); intro v174 w2 ho3 hb hg_ hnew_; clear hg_ hnew_; (first | rw [← Ny173.out] at ho3 | (simp only [Int.reduceToNat] at ho3; rw [← Ny173.out] at ho3)); have n0_ := Aside0.mk (Kd.R_lower ho3 (below_size (by repeat (first | (with_reducible first | exact HB.out | apply below_alloc | apply pw_below_drewN | apply below_drew1) | exact HB.out)))); have n1_ := Aside0.mk (below_step (by repeat (first | (with_reducible first | exact HB.out | apply below_alloc | apply pw_below_drewN | apply below_drew1) | exact HB.out)) hb); clear HB; have HO175 := n0_; have HB := n1_; clear n0_ n1_; clear hb ho3))
  go_loopg [0, 3] k (fun kq v0 v3 w' => ∃ (x0_1 : Int) (x3_1 : List Int), v0 = .int .u64 x0_1 ∧ Aside0 (treillageref01_Bytes.l0 kq x0_1 x3_1 = some r) ∧ Aside0 (kq ≤ k) ∧ Aside0 (Kd.R (Kd.int .u8) 5 w' w.heap.size (fun _ => True) v3 x3_1) ∧ Aside0 (Below w.heap.size w w'))
  case atStart => exact ⟨(a0), (y173), (by first | rfl | (simp; done) | (simp [*]; done)), H', ⟨Nat.le_refl _⟩, ⟨by (with_reducible repeat (first | apply Kd.R_alloc | apply Kd.R_drewN | apply Kd.R_drew)); exact HO175.out⟩, ⟨by repeat (first | (with_reducible first | exact HB.out | apply below_alloc | apply pw_below_drewN | apply below_drew1) | exact HB.out)⟩⟩
  case round =>
    clear H'
    try clear p2
    try clear c3
    obtain ⟨x0_1, x3_1, rfl, HA, HK1, HO_3, HB⟩ := hrel
    cases gk with
    | zero => exact absurd HA.out (by simp [treillageref01_Bytes.l0])
    | succ k1 =>
      have H := HA.out
      clear HA
      simp only [treillageref01_Bytes.l0] at H
      by_cases c4 : x0_1 > 0
      · rw [if_pos c4] at H
        have c4b0 : decide (0 < x0_1) = true := decide_eq_true c4
        clear c4
        by_cases c5 : x3_1.length < 140737488355328
        · rw [if_pos c5] at H
          have LMc5 := Aside0.mk c5
          clear c5
          obtain ⟨y176, hy176⟩ : ∃ y_ : List Int, y_ = (x3_1 ++ [(Int.tmod x0_1 256) % 256]) := ⟨_, rfl⟩
          replace H : (if 0 < (y176.length : Int) then (treillageref01_Bytes.l0 k1 (IntKind.u64.wrap (Int.tdiv x0_1 256)) (y176.set (0 : Int).toNat (((rd y176 0) + 1) % 256))) else (none)) = some r := by first | (rw [hy176]; with_reducible exact H) | (have H2_ := (Option.bind_some _ _).symm.trans H; rw [hy176]; with_reducible exact H2_) | (have H2_ := (Option.bind_some _ _).symm.trans H; with_reducible exact H2_) | with_reducible exact H | (rw [hy176]; exact H) | exact H
          have Ny176 := Aside0.mk hy176
          clear hy176
          by_cases c6 : 0 < (y176.length : Int)
          · rw [if_pos c6] at H
            have c6b0 : decide (0 < (y176.length : Int)) = true := decide_eq_true c6
            have c6b1 : decide (0 < y176.length) = true := decide_eq_true (by omega)
            clear c6
            obtain ⟨y180, hy180⟩ : ∃ y_ : List Int, y_ = (y176.set (0 : Int).toNat (((rd y176 0) + 1) % 256)) := ⟨_, rfl⟩
            replace H : (treillageref01_Bytes.l0 k1 (IntKind.u64.wrap (Int.tdiv x0_1 256)) y180) = some r := by first | (rw [hy180]; with_reducible exact H) | (have H2_ := (Option.bind_some _ _).symm.trans H; rw [hy180]; with_reducible exact H2_) | (have H2_ := (Option.bind_some _ _).symm.trans H; with_reducible exact H2_) | with_reducible exact H | (rw [hy180]; exact H) | exact H
            have Ny180 := Aside0.mk hy180
            clear hy180
            have H' := Aside0.mk H
            clear H
            go_wp2_with (first | ((with_reducible refine gate_builtin (b := .append) (xs := #[.tmp 7, .tmp 11]) rfl ?_); at_builtin; refine Kd.R_append (Kd.int .u8) (w0 := w) w.heap.size rfl (.tmp 7) (.tmp 11) 51 5 (.int .u8 0) 1 rfl Try.underlying51 info5 rfl (by decide) (by omega) u3 x3_1 ((Int.tmod x0_1 256) % 256) [.int .u8 ((Int.tmod x0_1 256) % 256)] (fun _ => True) (fun _ => False) rfl rfl ?aP (fun _ hk => hk.elim) ?aF ?aO ?aB ?aS ?aL ?_; (case aP => exact rfl); (case aB => exact (by repeat (first | (with_reducible first | exact HB.out | apply below_alloc | apply pw_below_drewN | apply below_drew1) | exact HB.out))); (case aF => exact (fun _ _ => trivial)); (case aO => exact (by (with_reducible repeat (first | apply Kd.R_alloc | apply Kd.R_drewN | apply Kd.R_drew)); exact HO_3.out)); (case aS => exact (below_size (by repeat (first | (with_reducible first | exact HB.out | apply below_alloc | apply pw_below_drewN | apply below_drew1) | exact HB.out)))); (case aL => have := LMc5.out; omega); intro v177 w8 ho hb hg hat; rw [← Ny176.out] at ho; have n0_ := Aside0.mk (hb); have n1_ := Aside0.mk (ho); clear HB; clear HO_3; have HB := n0_; have HO178 := n1_; clear n0_ n1_; clear ho hb hg hat; obtain ⟨Ao9, co9, eo9⟩ := Kd.R_slice HO178.out; subst eo9; have p179 : 0 ≤ (0 : Int) := (by omega); have q179 : 0 < (y176.length : Int) := of_decide_eq_true (by first | (with_reducible assumption) | assumption); obtain ⟨ad179, e179, hx179_0⟩ := Kd.at_int (Kd.R_reads' HO178.out).2.2 0 p179 q179; cases e179; have qi179 : (0 < y176.length) = True := eq_true (by omega); (try rw [show ((0 : Int)).toNat = 0 from rfl] at hx179_0); (try rw [Addr.add_zero'] at hx179_0); replace p179 := eq_true p179; replace q179 := eq_true q179; have p7 : 0 ≤ (0 : Int) := (by omega); have q7 : (0 : Int) < ((y176.length : Int) : Int) := of_decide_eq_true (by first | (with_reducible assumption) | assumption); have qi7 : (0 < y176.length) = True := eq_true (by omega); obtain ⟨go7, co7, eo7, gb7, gl7, cl7, HG7⟩ := Kd.R_form HO178.out (by omega); (first | cases eo7 | (injection eo7 with ea_ en_ ec_; (first | subst ea_ | (injection ea_ with ea_; subst ea_)); subst ec_; clear en_)); have GB7 := Aside0.mk gb7; have GG7 := Aside0.mk HG7; clear gb7 gl7 HG7; (first | simp only [add_plain] at hx179_0 | skip); obtain ⟨hx7_0, hf7_0⟩ := Kd.R_celln 0 HO178.out (0 : Int) p7 q7; (try rw [show ((0 : Int)).toNat = 0 from rfl] at hx7_0); (try simp only [Nat.reduceMul, Nat.zero_mul, Nat.zero_add, Nat.reduceAdd] at hx7_0); (try rw [show ((0 : Int)).toNat = 0 from rfl] at hf7_0); (try simp only [Nat.reduceMul, Nat.zero_mul, Nat.zero_add, Nat.reduceAdd] at hf7_0); replace p7 := eq_true p7; replace q7 := eq_true q7; obtain ⟨hy10_, hz10_⟩ := Kd.R_celln 0 HO178.out (0 : Int) (by omega) (of_decide_eq_true (by first | (with_reducible assumption) | assumption)); (try simp only [Int.reduceToNat, Int.toNat_zero, Int.toNat_ofNat, Nat.reduceMul, Nat.zero_mul, Nat.zero_add] at hy10_ hz10_); (try rw [show ((0 : Int)).toNat = 0 from rfl] at hy10_); (try rw [show ((0 : Int)).toNat = 0 from rfl] at hz10_); have HP10 := Kd.R_putg HO178.out (0 : Int) (((rd y176 0) + 1) % 256)) | ((with_reducible refine gate_store (t := 5) (p := 19) rfl ?_); refine store_event (t := 5) (p := 19) (v := ?vo_w11) (w1 := (w8.setCell ⟨go7, (0 : Int).toNat, none⟩ (.int .u8 (((rd y176 0) + 1) % 256)))) ?hg ?ho ?hn ?hr ?_; (case ho => rfl); (case hg => rfl); (case hn => rfl); (case hr => first | (go_simp; done) | (go_simp; rfl)); intro w11 hw; have hg : w8.grownBy w11 (some go7) := (by rw [hw]; exact HP10.2); have hp_ : Kd.R (Kd.int .u8) 5 w11 w.heap.size (fun _ => True) (.slice (some ⟨go7, 0, none⟩) y176.length co9) y180 := (by rw [hw, Ny180.out]; exact HP10.1); clear HP10; have n0_ := Aside0.mk (hp_); have n1_ := Aside0.mk ((by rw [hw]; exact below_set (HB.out) GB7.out : Below w.heap.size w w11)); clear HO178; clear HB; have HO178 := n0_; have HB := n1_; clear n0_ n1_; clear hg hw hp_))
            go_roundg k1
            case measure => have := HK1.out; omega
            case rel => exact ⟨(IntKind.u64.wrap (Int.tdiv x0_1 256)), (y180), (by first | rfl | (simp; done) | (simp [*]; done)), H', ⟨by have := HK1.out; omega⟩, ⟨by (with_reducible repeat (first | apply Kd.R_alloc | apply Kd.R_drewN | apply Kd.R_drew)); exact HO178.out⟩, ⟨by repeat (first | (with_reducible first | exact HB.out | apply below_alloc | apply pw_below_drewN | apply below_drew1) | exact HB.out)⟩⟩
          · rw [if_neg c6] at H
            exact absurd H (by simp)
        · rw [if_neg c5] at H
          exact absurd H (by simp)
      · rw [if_neg c4] at H
        have c4b0 : decide (0 < x0_1) = false := decide_eq_false c4
        clear c4
        obtain rfl := Option.some.inj H
        have hcv12 := own_string (P := Try.prog) Try.underlying51 Try.underlying5 Try.underlying9 (Kd.own_of_R HO_3.out)
        go_wp2
        go_ret
        exact ⟨by first | rfl | (simp [errW_none, errW_some] <;> rfl) | (simp [*, errW_none, errW_some] <;> rfl), by repeat (first | (with_reducible first | exact HB.out | apply below_alloc | apply pw_below_drewN | apply below_drew1) | exact HB.out)⟩

/-! ### treillageref01_Back: function 32 -/
def treillageref01_Back.l0 : Nat → ByteArray → Int → Int → Option (Int × Bool)
  | 0, _, _, _ => none
  | k + 1, x0, x4, x5 => if x5 ≥ 1 then (if (x0.size : Int) ≤ 9 then (if 0 ≤ x5 then (if x5 < (x0.size : Int) then (treillageref01_Back.l0 k x0 (IntKind.u64.wrap ((IntKind.u64.wrap (x4 * 256)) + (IntKind.u64.wrap (bt x0 x5)))) (wrap64 (x5 - 1))) else (none)) else (none)) else ((treillageref01_Bytes.f k x4).bind fun t181 => (if t181.toList = x0.toList then (some (x4, true)) else (some (0, false))))) else ((treillageref01_Bytes.f k x4).bind fun t182 => (if t182.toList = x0.toList then (some (x4, true)) else (some (0, false))))
def treillageref01_Back.f (k : Nat) (a0 : ByteArray) : Option (Int × Bool) := treillageref01_Back.l0 k a0 0 (wrap64 ((a0.size : Int) - 1))
theorem treillageref01_Back.mono_l : ∀ k, (∀ y0 y1 y2, LeO (treillageref01_Back.l0 k y0 y1 y2) (treillageref01_Back.l0 (k + 1) y0 y1 y2))
  | 0 => fun _ _ _ r h => by simp [treillageref01_Back.l0] at h
  | k + 1 => by
    have ih0 := treillageref01_Back.mono_l k
    · intro y0 y1 y2
      unfold treillageref01_Back.l0
      repeat' first
      | (with_reducible exact ih0 _ _ _)
      | (with_reducible exact treillageref01_Bytes.mono _ _)
      | (with_reducible exact LeO.refl _)
      | (with_reducible exact LeO.none _)
      | (with_reducible refine LeO.ite ?_ ?_)
      | (with_reducible refine LeO.bind ?_ (fun _ => ?_))
      | exact ih0 _ _ _
      | exact treillageref01_Bytes.mono _ _
      | exact LeO.none _
      | refine LeO.ite ?_ ?_
      | refine LeO.bind ?_ (fun _ => ?_)
theorem treillageref01_Back.mono : ∀ a0 k, LeO (treillageref01_Back.f k a0) (treillageref01_Back.f (k + 1) a0) := by
  intro a0 k
  have ih0 := treillageref01_Back.mono_l k
  unfold treillageref01_Back.f
  repeat' first
      | (with_reducible exact ih0 _ _ _)
      | (with_reducible exact treillageref01_Bytes.mono _ _)
      | (with_reducible exact LeO.refl _)
      | (with_reducible exact LeO.none _)
      | (with_reducible refine LeO.ite ?_ ?_)
      | (with_reducible refine LeO.bind ?_ (fun _ => ?_))
      | exact ih0 _ _ _
      | exact treillageref01_Bytes.mono _ _
      | exact LeO.none _
      | refine LeO.ite ?_ ?_
      | refine LeO.bind ?_ (fun _ => ?_)
set_option maxHeartbeats 8000000 in
set_option maxRecDepth 100000 in
theorem treillageref01_Back.calls (k : Nat) (a0 : ByteArray) (r1 : Int) (r2 : Bool) (w : World) (h : treillageref01_Back.f k a0 = some (r1, r2)) :
    Calls Try.prog 32 #[.string a0] w fun e w' => e = .returned (.tuple #[.int .u64 r1, .bool r2]) ∧ Below w.heap.size w w' := by
  have HB := Aside0.mk (Below.refl w.heap.size w)
  have H : (treillageref01_Back.l0 k a0 0 (wrap64 ((a0.size : Int) - 1))) = some (r1, r2) := h
  clear h
  have H' := Aside0.mk H
  clear H
  go_enter Try.func32, Try.ntmps32
  go_wp2
  go_loopg [4, 5] k (fun kq v4 v5 w' => ∃ (x4_1 : Int) (x5_1 : Int), v4 = .int .u64 x4_1 ∧ v5 = .int .i64 x5_1 ∧ Aside0 (treillageref01_Back.l0 kq a0 x4_1 x5_1 = some (r1, r2)) ∧ Aside0 (kq ≤ k) ∧ Aside0 (Below w.heap.size w w'))
  case atStart => exact ⟨(0), (wrap64 ((a0.size : Int) - 1)), (by first | rfl | (simp; done) | (simp [*]; done)), (by first | rfl | (simp; done) | (simp [*]; done)), H', ⟨Nat.le_refl _⟩, ⟨by repeat (first | (with_reducible first | exact HB.out | apply below_alloc | apply pw_below_drewN | apply below_drew1) | exact HB.out)⟩⟩
  case round =>
    clear H'
    obtain ⟨x4_1, x5_1, rfl, rfl, HA, HK1, HB⟩ := hrel
    cases gk with
    | zero => exact absurd HA.out (by simp [treillageref01_Back.l0])
    | succ k1 =>
      have H := HA.out
      clear HA
      simp only [treillageref01_Back.l0] at H
      by_cases c2 : x5_1 ≥ 1
      · rw [if_pos c2] at H
        have c2b0 : decide (1 ≤ x5_1) = true := decide_eq_true c2
        clear c2
        by_cases c3 : (a0.size : Int) ≤ 9
        · rw [if_pos c3] at H
          have c3b0 : decide ((a0.size : Int) ≤ 9) = true := decide_eq_true c3
          have c3b1 : decide (a0.size ≤ 9) = true := decide_eq_true (by omega)
          clear c3
          by_cases c4 : 0 ≤ x5_1
          · rw [if_pos c4] at H
            have c4b0 : decide (0 ≤ x5_1) = true := decide_eq_true c4
            clear c4
            by_cases c5 : x5_1 < (a0.size : Int)
            · rw [if_pos c5] at H
              have c5b0 : decide (x5_1 < (a0.size : Int)) = true := decide_eq_true c5
              clear c5
              have H' := Aside0.mk H
              clear H
              have p6 : 0 ≤ (x5_1 : Int) := of_decide_eq_true (by first | (with_reducible assumption) | assumption)
              have q6 : x5_1 < (a0.size : Int) := of_decide_eq_true (by first | (with_reducible assumption) | assumption)
              have hx6 := bt_at a0 x5_1
              replace p6 := eq_true p6
              replace q6 := eq_true q6
              go_wp2
              go_roundg k1
              case measure => have := HK1.out; omega
              case rel => exact ⟨(IntKind.u64.wrap ((IntKind.u64.wrap (x4_1 * 256)) + (IntKind.u64.wrap (bt a0 x5_1)))), (wrap64 (x5_1 - 1)), (by first | rfl | (simp; done) | (simp [*]; done)), (by first | rfl | (simp; done) | (simp [*]; done)), H', ⟨by have := HK1.out; omega⟩, ⟨by repeat (first | (with_reducible first | exact HB.out | apply below_alloc | apply pw_below_drewN | apply below_drew1) | exact HB.out)⟩⟩
            · rw [if_neg c5] at H
              exact absurd H (by simp)
          · rw [if_neg c4] at H
            exact absurd H (by simp)
        · rw [if_neg c3] at H
          have c3b0 : decide ((a0.size : Int) ≤ 9) = false := decide_eq_false c3
          have c3b1 : decide (a0.size ≤ 9) = false := decide_eq_false (by omega)
          clear c3
          replace H := Option.bind_eq_some_iff.mp H
          obtain ⟨t181, A70, H⟩ := H
          replace H : (if t181.toList = a0.toList then (some (x4_1, true)) else (some (0, false))) = some (r1, r2) := H
          have A7 := Aside0.mk A70
          clear A70
          by_cases c8 : t181.toList = a0.toList
          · rw [if_pos c8] at H
            have c8b0 : (t181.toList == a0.toList) = true := beq_iff_eq.mpr c8
            have c8b1 : (t181.toList != a0.toList) = false := bne_eq_false_iff_eq.mpr c8
            clear c8
            simp only [Option.some.injEq, Prod.mk.injEq] at H
            obtain ⟨rfl, rfl⟩ := H
            go_wp2_with (first | ((with_reducible refine gate_callee (f := 34) rfl ?_); refine goesL_ (some 26) rfl rfl Try.func34 (by kernel_rfl) rfl #[.int .u64 x4_1] rfl (by (try simp only [List.map_toArray, List.map_cons, List.map_nil]); first | done | rfl | (simp only [List.length_drop, List.length_take]; rfl)) ?_; (with_reducible refine (treillageref01_Bytes.calls k1 x4_1 t181 _ A7.out).mono ?_); rintro e w9 ⟨rfl, hb⟩; refine ⟨_, rfl, ?_⟩; have n0_ := Aside0.mk (below_step (by repeat (first | (with_reducible first | exact HB.out | apply below_alloc | apply pw_below_drewN | apply below_drew1) | exact HB.out)) hb); clear HB; have HB := n0_; clear n0_; (try clear hb); (try clear hb2); (try clear hk); (try clear hi)))
            go_ret2
            exact ⟨by first | rfl | (simp [errW_none, errW_some] <;> rfl) | (simp [*, errW_none, errW_some] <;> rfl), by repeat (first | (with_reducible first | exact HB.out | apply below_alloc | apply pw_below_drewN | apply below_drew1) | exact HB.out)⟩
          · rw [if_neg c8] at H
            have c8b0 : (t181.toList == a0.toList) = false := beq_eq_false_iff_ne.mpr c8
            have c8b1 : (t181.toList != a0.toList) = true := bne_iff_ne.mpr c8
            simp only [Option.some.injEq, Prod.mk.injEq] at H
            obtain ⟨rfl, rfl⟩ := H
            go_wp2_with (first | ((with_reducible refine gate_callee (f := 34) rfl ?_); refine goesL_ (some 26) rfl rfl Try.func34 (by kernel_rfl) rfl #[.int .u64 x4_1] rfl (by (try simp only [List.map_toArray, List.map_cons, List.map_nil]); first | done | rfl | (simp only [List.length_drop, List.length_take]; rfl)) ?_; (with_reducible refine (treillageref01_Bytes.calls k1 x4_1 t181 _ A7.out).mono ?_); rintro e w10 ⟨rfl, hb⟩; refine ⟨_, rfl, ?_⟩; have n0_ := Aside0.mk (below_step (by repeat (first | (with_reducible first | exact HB.out | apply below_alloc | apply pw_below_drewN | apply below_drew1) | exact HB.out)) hb); clear HB; have HB := n0_; clear n0_; (try clear hb); (try clear hb2); (try clear hk); (try clear hi)))
            go_ret2
            exact ⟨by first | rfl | (simp [errW_none, errW_some] <;> rfl) | (simp [*, errW_none, errW_some] <;> rfl), by repeat (first | (with_reducible first | exact HB.out | apply below_alloc | apply pw_below_drewN | apply below_drew1) | exact HB.out)⟩
      · rw [if_neg c2] at H
        have c2b0 : decide (1 ≤ x5_1) = false := decide_eq_false c2
        clear c2
        replace H := Option.bind_eq_some_iff.mp H
        obtain ⟨t182, A110, H⟩ := H
        replace H : (if t182.toList = a0.toList then (some (x4_1, true)) else (some (0, false))) = some (r1, r2) := H
        have A11 := Aside0.mk A110
        clear A110
        by_cases c12 : t182.toList = a0.toList
        · rw [if_pos c12] at H
          have c12b0 : (t182.toList == a0.toList) = true := beq_iff_eq.mpr c12
          have c12b1 : (t182.toList != a0.toList) = false := bne_eq_false_iff_eq.mpr c12
          clear c12
          simp only [Option.some.injEq, Prod.mk.injEq] at H
          obtain ⟨rfl, rfl⟩ := H
          go_wp2_with (first | ((with_reducible refine gate_callee (f := 34) rfl ?_); refine goesL_ (some 26) rfl rfl Try.func34 (by kernel_rfl) rfl #[.int .u64 x4_1] rfl (by (try simp only [List.map_toArray, List.map_cons, List.map_nil]); first | done | rfl | (simp only [List.length_drop, List.length_take]; rfl)) ?_; (with_reducible refine (treillageref01_Bytes.calls k1 x4_1 t182 _ A11.out).mono ?_); rintro e w13 ⟨rfl, hb⟩; refine ⟨_, rfl, ?_⟩; have n0_ := Aside0.mk (below_step (by repeat (first | (with_reducible first | exact HB.out | apply below_alloc | apply pw_below_drewN | apply below_drew1) | exact HB.out)) hb); clear HB; have HB := n0_; clear n0_; (try clear hb); (try clear hb2); (try clear hk); (try clear hi)))
          go_ret2
          exact ⟨by first | rfl | (simp [errW_none, errW_some] <;> rfl) | (simp [*, errW_none, errW_some] <;> rfl), by repeat (first | (with_reducible first | exact HB.out | apply below_alloc | apply pw_below_drewN | apply below_drew1) | exact HB.out)⟩
        · rw [if_neg c12] at H
          have c12b0 : (t182.toList == a0.toList) = false := beq_eq_false_iff_ne.mpr c12
          have c12b1 : (t182.toList != a0.toList) = true := bne_iff_ne.mpr c12
          simp only [Option.some.injEq, Prod.mk.injEq] at H
          obtain ⟨rfl, rfl⟩ := H
          go_wp2_with (first | ((with_reducible refine gate_callee (f := 34) rfl ?_); refine goesL_ (some 26) rfl rfl Try.func34 (by kernel_rfl) rfl #[.int .u64 x4_1] rfl (by (try simp only [List.map_toArray, List.map_cons, List.map_nil]); first | done | rfl | (simp only [List.length_drop, List.length_take]; rfl)) ?_; (with_reducible refine (treillageref01_Bytes.calls k1 x4_1 t182 _ A11.out).mono ?_); rintro e w14 ⟨rfl, hb⟩; refine ⟨_, rfl, ?_⟩; have n0_ := Aside0.mk (below_step (by repeat (first | (with_reducible first | exact HB.out | apply below_alloc | apply pw_below_drewN | apply below_drew1) | exact HB.out)) hb); clear HB; have HB := n0_; clear n0_; (try clear hb); (try clear hb2); (try clear hk); (try clear hi)))
          go_ret2
          exact ⟨by first | rfl | (simp [errW_none, errW_some] <;> rfl) | (simp [*, errW_none, errW_some] <;> rfl), by repeat (first | (with_reducible first | exact HB.out | apply below_alloc | apply pw_below_drewN | apply below_drew1) | exact HB.out)⟩

end Go.Proofs.Ythopfipaaboffaa.PA
