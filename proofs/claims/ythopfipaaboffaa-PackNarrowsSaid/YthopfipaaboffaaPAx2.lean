-- Written by wip/hprint/hprint.py (a program of this session, over the print): not typed by hand
import Derived.Test.YthopfipaaboffaaPAx0
import Derived.Test.YthopfipaaboffaaPAx1
namespace Go.Proofs.Ythopfipaaboffaa.PA
open Go.RowKit Go.Proofs.YthopfipaaboffaaW.PrintWords Go.Proofs.YthopfipaaboffaaW.PrintLast Go.Proofs.YthopfipaaboffaaW.PrintMore
attribute [local go_sem] max2_int min2_int max_two min_two max_three min_three max_four min_four   -- for this text's walks alone
open Go.Proofs.YthopfipaaboffaaH
set_option linter.unusedVariables false
set_option linter.unusedSimpArgs false

/-! ### treillagelaw01_PackZigs: function 4 -/
def treillagelaw01_PackZigs.f (k : Nat) (a0 : Int) (a1 : Int) : Option (Bool) := (pack_Zig.f a0).bind fun t113 => ((treillageref01_Zig.f a0).bind fun t114 => (if t113 = t114 then ((pack_Zag.f a1).bind fun t115 => ((treillageref01_Zag.f a1).bind fun t116 => (if t115 = t116 then ((pack_Zag.f t113).bind fun t117 => (if t117 = a0 then ((pack_Zig.f t115).bind fun t118 => (if t118 = a1 then ((treillagelaw01_shown.f k).bind fun t119 => (some t119)) else (some false))) else (some false))) else (some false)))) else (some false)))
theorem treillagelaw01_PackZigs.mono : ∀ a0 a1 k, LeO (treillagelaw01_PackZigs.f k a0 a1) (treillagelaw01_PackZigs.f (k + 1) a0 a1) := by
  intro a0 a1 k
  unfold treillagelaw01_PackZigs.f
  repeat' first
      | (with_reducible exact treillagelaw01_shown.mono _)
      | (with_reducible exact LeO.refl _)
      | (with_reducible exact LeO.none _)
      | (with_reducible refine LeO.ite ?_ ?_)
      | (with_reducible refine LeO.bind ?_ (fun _ => ?_))
      | exact treillagelaw01_shown.mono _
      | exact LeO.none _
      | refine LeO.ite ?_ ?_
      | refine LeO.bind ?_ (fun _ => ?_)
set_option maxHeartbeats 8000000 in
set_option maxRecDepth 100000 in
theorem treillagelaw01_PackZigs.calls (k : Nat) (a0 : Int) (a1 : Int) (r : Bool) (w : World) (h : treillagelaw01_PackZigs.f k a0 a1 = some r) :
    Calls Try.prog 4 #[.int .i64 a0, .int .u64 a1] w fun e w' => e = .returned (.bool r) ∧ Below w.heap.size w w' := by
  have HB := Aside0.mk (Below.refl w.heap.size w)
  have H : ((pack_Zig.f a0).bind fun t113 => ((treillageref01_Zig.f a0).bind fun t114 => (if t113 = t114 then ((pack_Zag.f a1).bind fun t115 => ((treillageref01_Zag.f a1).bind fun t116 => (if t115 = t116 then ((pack_Zag.f t113).bind fun t117 => (if t117 = a0 then ((pack_Zig.f t115).bind fun t118 => (if t118 = a1 then ((treillagelaw01_shown.f k).bind fun t119 => (some t119)) else (some false))) else (some false))) else (some false)))) else (some false)))) = some r := h
  clear h
  replace H := Option.bind_eq_some_iff.mp H
  obtain ⟨t113, A30, H⟩ := H
  replace H : ((treillageref01_Zig.f a0).bind fun t114 => (if t113 = t114 then ((pack_Zag.f a1).bind fun t115 => ((treillageref01_Zag.f a1).bind fun t116 => (if t115 = t116 then ((pack_Zag.f t113).bind fun t117 => (if t117 = a0 then ((pack_Zig.f t115).bind fun t118 => (if t118 = a1 then ((treillagelaw01_shown.f k).bind fun t119 => (some t119)) else (some false))) else (some false))) else (some false)))) else (some false))) = some r := H
  have A3 := Aside0.mk A30
  clear A30
  replace H := Option.bind_eq_some_iff.mp H
  obtain ⟨t114, A40, H⟩ := H
  replace H : (if t113 = t114 then ((pack_Zag.f a1).bind fun t115 => ((treillageref01_Zag.f a1).bind fun t116 => (if t115 = t116 then ((pack_Zag.f t113).bind fun t117 => (if t117 = a0 then ((pack_Zig.f t115).bind fun t118 => (if t118 = a1 then ((treillagelaw01_shown.f k).bind fun t119 => (some t119)) else (some false))) else (some false))) else (some false)))) else (some false)) = some r := H
  have A4 := Aside0.mk A40
  clear A40
  by_cases c5 : t113 = t114
  · rw [if_pos c5] at H
    have c5b0 : (t113 == t114) = true := beq_iff_eq.mpr c5
    have c5b1 : (t113 != t114) = false := bne_eq_false_iff_eq.mpr c5
    clear c5
    replace H := Option.bind_eq_some_iff.mp H
    obtain ⟨t115, A60, H⟩ := H
    replace H : ((treillageref01_Zag.f a1).bind fun t116 => (if t115 = t116 then ((pack_Zag.f t113).bind fun t117 => (if t117 = a0 then ((pack_Zig.f t115).bind fun t118 => (if t118 = a1 then ((treillagelaw01_shown.f k).bind fun t119 => (some t119)) else (some false))) else (some false))) else (some false))) = some r := H
    have A6 := Aside0.mk A60
    clear A60
    replace H := Option.bind_eq_some_iff.mp H
    obtain ⟨t116, A70, H⟩ := H
    replace H : (if t115 = t116 then ((pack_Zag.f t113).bind fun t117 => (if t117 = a0 then ((pack_Zig.f t115).bind fun t118 => (if t118 = a1 then ((treillagelaw01_shown.f k).bind fun t119 => (some t119)) else (some false))) else (some false))) else (some false)) = some r := H
    have A7 := Aside0.mk A70
    clear A70
    by_cases c8 : t115 = t116
    · rw [if_pos c8] at H
      have c8b0 : (t115 == t116) = true := beq_iff_eq.mpr c8
      have c8b1 : (t115 != t116) = false := bne_eq_false_iff_eq.mpr c8
      clear c8
      replace H := Option.bind_eq_some_iff.mp H
      obtain ⟨t117, A90, H⟩ := H
      replace H : (if t117 = a0 then ((pack_Zig.f t115).bind fun t118 => (if t118 = a1 then ((treillagelaw01_shown.f k).bind fun t119 => (some t119)) else (some false))) else (some false)) = some r := H
      have A9 := Aside0.mk A90
      clear A90
      by_cases c10 : t117 = a0
      · rw [if_pos c10] at H
        have c10b0 : (t117 == a0) = true := beq_iff_eq.mpr c10
        have c10b1 : (t117 != a0) = false := bne_eq_false_iff_eq.mpr c10
        clear c10
        replace H := Option.bind_eq_some_iff.mp H
        obtain ⟨t118, A110, H⟩ := H
        replace H : (if t118 = a1 then ((treillagelaw01_shown.f k).bind fun t119 => (some t119)) else (some false)) = some r := H
        have A11 := Aside0.mk A110
        clear A110
        by_cases c12 : t118 = a1
        · rw [if_pos c12] at H
          have c12b0 : (t118 == a1) = true := beq_iff_eq.mpr c12
          have c12b1 : (t118 != a1) = false := bne_eq_false_iff_eq.mpr c12
          clear c12
          replace H := Option.bind_eq_some_iff.mp H
          obtain ⟨t119, A130, H⟩ := H
          replace H : (some t119) = some r := H
          have A13 := Aside0.mk A130
          clear A130
          obtain rfl := Option.some.inj H
          go_enter Try.func4, Try.ntmps4
          go_wp2_with (first | (go_at_call 13; (with_reducible refine (pack_Zig.calls a0 t113 _ A3.out).mono ?_); rintro e w' ⟨rfl, ⟨nd, rfl⟩⟩) | ((with_reducible refine gate_callee (f := 14) rfl ?_); refine goesL_ (some 8) rfl rfl Try.func14 (by kernel_rfl) rfl #[.int .i64 a0] rfl (by (try simp only [List.map_toArray, List.map_cons, List.map_nil]); first | done | rfl | (simp only [List.length_drop, List.length_take]; rfl)) ?_; (with_reducible refine (treillageref01_Zig.calls a0 t114 _ A4.out).mono ?_); rintro e w' ⟨rfl, ⟨nd, rfl⟩⟩; refine ⟨_, rfl, ?_⟩) | (go_at_call 15; (with_reducible refine (pack_Zag.calls a1 t115 _ A6.out).mono ?_); rintro e w' ⟨rfl, ⟨nd, rfl⟩⟩) | (go_at_call 16; (with_reducible refine (treillageref01_Zag.calls a1 t116 _ A7.out).mono ?_); rintro e w' ⟨rfl, ⟨nd, rfl⟩⟩) | (go_at_call 15; (with_reducible refine (pack_Zag.calls t113 t117 _ A9.out).mono ?_); rintro e w' ⟨rfl, ⟨nd, rfl⟩⟩) | (go_at_call 13; (with_reducible refine (pack_Zig.calls t115 t118 _ A11.out).mono ?_); rintro e w' ⟨rfl, ⟨nd, rfl⟩⟩) | (go_at_call 12; (with_reducible refine (treillagelaw01_shown.calls k  t119 _ A13.out).mono ?_); rintro e w14 ⟨rfl, hb⟩; have n0_ := Aside0.mk (below_step (by repeat (first | (with_reducible first | exact HB.out | apply below_alloc | apply pw_below_drewN | apply below_drew1) | exact HB.out)) hb); clear HB; have HB := n0_; clear n0_; (try clear hb); (try clear hb2); (try clear hk); (try clear hi)))
          go_ret
          exact ⟨by first | rfl | (simp [errW_none, errW_some] <;> rfl) | (simp [*, errW_none, errW_some] <;> rfl), by repeat (first | (with_reducible first | exact HB.out | apply below_alloc | apply pw_below_drewN | apply below_drew1) | exact HB.out)⟩
        · rw [if_neg c12] at H
          have c12b0 : (t118 == a1) = false := beq_eq_false_iff_ne.mpr c12
          have c12b1 : (t118 != a1) = true := bne_iff_ne.mpr c12
          obtain rfl := Option.some.inj H
          go_enter Try.func4, Try.ntmps4
          go_wp2_with (first | (go_at_call 13; (with_reducible refine (pack_Zig.calls a0 t113 _ A3.out).mono ?_); rintro e w' ⟨rfl, ⟨nd, rfl⟩⟩) | ((with_reducible refine gate_callee (f := 14) rfl ?_); refine goesL_ (some 8) rfl rfl Try.func14 (by kernel_rfl) rfl #[.int .i64 a0] rfl (by (try simp only [List.map_toArray, List.map_cons, List.map_nil]); first | done | rfl | (simp only [List.length_drop, List.length_take]; rfl)) ?_; (with_reducible refine (treillageref01_Zig.calls a0 t114 _ A4.out).mono ?_); rintro e w' ⟨rfl, ⟨nd, rfl⟩⟩; refine ⟨_, rfl, ?_⟩) | (go_at_call 15; (with_reducible refine (pack_Zag.calls a1 t115 _ A6.out).mono ?_); rintro e w' ⟨rfl, ⟨nd, rfl⟩⟩) | (go_at_call 16; (with_reducible refine (treillageref01_Zag.calls a1 t116 _ A7.out).mono ?_); rintro e w' ⟨rfl, ⟨nd, rfl⟩⟩) | (go_at_call 15; (with_reducible refine (pack_Zag.calls t113 t117 _ A9.out).mono ?_); rintro e w' ⟨rfl, ⟨nd, rfl⟩⟩) | (go_at_call 13; (with_reducible refine (pack_Zig.calls t115 t118 _ A11.out).mono ?_); rintro e w' ⟨rfl, ⟨nd, rfl⟩⟩))
          go_ret
          exact ⟨by first | rfl | (simp [errW_none, errW_some] <;> rfl) | (simp [*, errW_none, errW_some] <;> rfl), by repeat (first | (with_reducible first | exact HB.out | apply below_alloc | apply pw_below_drewN | apply below_drew1) | exact HB.out)⟩
      · rw [if_neg c10] at H
        have c10b0 : (t117 == a0) = false := beq_eq_false_iff_ne.mpr c10
        have c10b1 : (t117 != a0) = true := bne_iff_ne.mpr c10
        obtain rfl := Option.some.inj H
        go_enter Try.func4, Try.ntmps4
        go_wp2_with (first | (go_at_call 13; (with_reducible refine (pack_Zig.calls a0 t113 _ A3.out).mono ?_); rintro e w' ⟨rfl, ⟨nd, rfl⟩⟩) | ((with_reducible refine gate_callee (f := 14) rfl ?_); refine goesL_ (some 8) rfl rfl Try.func14 (by kernel_rfl) rfl #[.int .i64 a0] rfl (by (try simp only [List.map_toArray, List.map_cons, List.map_nil]); first | done | rfl | (simp only [List.length_drop, List.length_take]; rfl)) ?_; (with_reducible refine (treillageref01_Zig.calls a0 t114 _ A4.out).mono ?_); rintro e w' ⟨rfl, ⟨nd, rfl⟩⟩; refine ⟨_, rfl, ?_⟩) | (go_at_call 15; (with_reducible refine (pack_Zag.calls a1 t115 _ A6.out).mono ?_); rintro e w' ⟨rfl, ⟨nd, rfl⟩⟩) | (go_at_call 16; (with_reducible refine (treillageref01_Zag.calls a1 t116 _ A7.out).mono ?_); rintro e w' ⟨rfl, ⟨nd, rfl⟩⟩) | (go_at_call 15; (with_reducible refine (pack_Zag.calls t113 t117 _ A9.out).mono ?_); rintro e w' ⟨rfl, ⟨nd, rfl⟩⟩))
        go_ret
        exact ⟨by first | rfl | (simp [errW_none, errW_some] <;> rfl) | (simp [*, errW_none, errW_some] <;> rfl), by repeat (first | (with_reducible first | exact HB.out | apply below_alloc | apply pw_below_drewN | apply below_drew1) | exact HB.out)⟩
    · rw [if_neg c8] at H
      have c8b0 : (t115 == t116) = false := beq_eq_false_iff_ne.mpr c8
      have c8b1 : (t115 != t116) = true := bne_iff_ne.mpr c8
      obtain rfl := Option.some.inj H
      go_enter Try.func4, Try.ntmps4
      go_wp2_with (first | (go_at_call 13; (with_reducible refine (pack_Zig.calls a0 t113 _ A3.out).mono ?_); rintro e w' ⟨rfl, ⟨nd, rfl⟩⟩) | ((with_reducible refine gate_callee (f := 14) rfl ?_); refine goesL_ (some 8) rfl rfl Try.func14 (by kernel_rfl) rfl #[.int .i64 a0] rfl (by (try simp only [List.map_toArray, List.map_cons, List.map_nil]); first | done | rfl | (simp only [List.length_drop, List.length_take]; rfl)) ?_; (with_reducible refine (treillageref01_Zig.calls a0 t114 _ A4.out).mono ?_); rintro e w' ⟨rfl, ⟨nd, rfl⟩⟩; refine ⟨_, rfl, ?_⟩) | (go_at_call 15; (with_reducible refine (pack_Zag.calls a1 t115 _ A6.out).mono ?_); rintro e w' ⟨rfl, ⟨nd, rfl⟩⟩) | (go_at_call 16; (with_reducible refine (treillageref01_Zag.calls a1 t116 _ A7.out).mono ?_); rintro e w' ⟨rfl, ⟨nd, rfl⟩⟩))
      go_ret
      exact ⟨by first | rfl | (simp [errW_none, errW_some] <;> rfl) | (simp [*, errW_none, errW_some] <;> rfl), by repeat (first | (with_reducible first | exact HB.out | apply below_alloc | apply pw_below_drewN | apply below_drew1) | exact HB.out)⟩
  · rw [if_neg c5] at H
    have c5b0 : (t113 == t114) = false := beq_eq_false_iff_ne.mpr c5
    have c5b1 : (t113 != t114) = true := bne_iff_ne.mpr c5
    obtain rfl := Option.some.inj H
    go_enter Try.func4, Try.ntmps4
    go_wp2_with (first | (go_at_call 13; (with_reducible refine (pack_Zig.calls a0 t113 _ A3.out).mono ?_); rintro e w' ⟨rfl, ⟨nd, rfl⟩⟩) | ((with_reducible refine gate_callee (f := 14) rfl ?_); refine goesL_ (some 8) rfl rfl Try.func14 (by kernel_rfl) rfl #[.int .i64 a0] rfl (by (try simp only [List.map_toArray, List.map_cons, List.map_nil]); first | done | rfl | (simp only [List.length_drop, List.length_take]; rfl)) ?_; (with_reducible refine (treillageref01_Zig.calls a0 t114 _ A4.out).mono ?_); rintro e w' ⟨rfl, ⟨nd, rfl⟩⟩; refine ⟨_, rfl, ?_⟩))
    go_ret
    exact ⟨by first | rfl | (simp [errW_none, errW_some] <;> rfl) | (simp [*, errW_none, errW_some] <;> rfl), by repeat (first | (with_reducible first | exact HB.out | apply below_alloc | apply pw_below_drewN | apply below_drew1) | exact HB.out)⟩

/-- THE ONE PURE STATEMENT of treillagelaw01_PackZigs: yours. -/
def treillagelaw01_PackZigs.Pure : Prop := ∀ (a0 : Int) (a1 : Int), (Lit.int .i64 a0).wf = true → (Lit.int .u64 a1).wf = true → ∃ k, treillagelaw01_PackZigs.f k a0 a1 = some true
theorem treillagelaw01_PackZigs.walk (P : treillagelaw01_PackZigs.Pure) (a0 : Int) (a1 : Int) (w : World) (w0 : (Lit.int .i64 a0).wf = true) (w1 : (Lit.int .u64 a1).wf = true) :
    Calls Try.prog 4 #[.int .i64 a0, .int .u64 a1] w fun e w' => e = .returned (.bool true) ∧ Below w.heap.size w w' := by
  obtain ⟨k, h⟩ := P a0 a1 w0 w1
  refine (treillagelaw01_PackZigs.calls k a0 a1 true w h).mono ?_
  rintro e w' ⟨rfl, hd⟩
  exact ⟨rfl, hd⟩

/-! ### pack_Index: function 18 -/
def pack_Index.f (a0 : Int) : Option (Int) := some (wrap64 (Go.bits .and .u64 a0 16777215))
set_option maxHeartbeats 8000000 in
set_option maxRecDepth 100000 in
theorem pack_Index.calls (a0 : Int) (r : Int) (w : World) (h : pack_Index.f a0 = some r) :
    Calls Try.prog 18 #[.int .u64 a0] w fun e w' => e = .returned (.int .i64 r) ∧ Drawn0 w w' := by
  have H : (some (wrap64 (Go.bits .and .u64 a0 16777215))) = some r := h
  clear h
  obtain rfl := Option.some.inj H
  go_enter Try.func18, Try.ntmps18
  go_wp2
  go_ret
  exact ⟨by first | rfl | (simp; done) | (simp [*]; done), by repeat (first | exact Drawn0.refl _ | apply Drawn0.step)⟩

/-! ### pack_Gen: function 19 -/
def pack_Gen.f (a0 : Int) : Option (Int) := some (a0 / 16777216)
set_option maxHeartbeats 8000000 in
set_option maxRecDepth 100000 in
theorem pack_Gen.calls (a0 : Int) (r : Int) (w : World) (h : pack_Gen.f a0 = some r) :
    Calls Try.prog 19 #[.int .u64 a0] w fun e w' => e = .returned (.int .u64 r) ∧ Drawn0 w w' := by
  have H : (some (a0 / 16777216)) = some r := h
  clear h
  obtain rfl := Option.some.inj H
  go_enter Try.func19, Try.ntmps19
  go_wp2
  go_ret
  exact ⟨by first | rfl | (simp; done) | (simp [*]; done), by repeat (first | exact Drawn0.refl _ | apply Drawn0.step)⟩

/-! ### treillagelaw01_PackParts: function 5 -/
def treillagelaw01_PackParts.f (k : Nat) (a0 : Int) (a1 : Int) : Option (Bool) := (pack_Index.f a0).bind fun t120 => ((pack_Gen.f a0).bind fun t121 => ((pack_Of.f t120 t121).bind fun bt122 => (if bt122.1 = a0 then (if bt122.2 = true then ((pack_Index.f a1).bind fun t124 => (if t120 = t124 then ((pack_Gen.f a1).bind fun t125 => (if ((a0 == a1) == (t121 == t125)) = true then ((treillagelaw01_shown.f k).bind fun t126 => (some t126)) else (some false))) else (if ((a0 == a1) == false) = true then ((treillagelaw01_shown.f k).bind fun t127 => (some t127)) else (some false)))) else (some false)) else (some false))))
theorem treillagelaw01_PackParts.mono : ∀ a0 a1 k, LeO (treillagelaw01_PackParts.f k a0 a1) (treillagelaw01_PackParts.f (k + 1) a0 a1) := by
  intro a0 a1 k
  unfold treillagelaw01_PackParts.f
  repeat' first
      | (with_reducible exact treillagelaw01_shown.mono _)
      | (with_reducible exact LeO.refl _)
      | (with_reducible exact LeO.none _)
      | (with_reducible refine LeO.ite ?_ ?_)
      | (with_reducible refine LeO.bind ?_ (fun _ => ?_))
      | exact treillagelaw01_shown.mono _
      | exact LeO.none _
      | refine LeO.ite ?_ ?_
      | refine LeO.bind ?_ (fun _ => ?_)
set_option maxHeartbeats 8000000 in
set_option maxRecDepth 100000 in
theorem treillagelaw01_PackParts.calls (k : Nat) (a0 : Int) (a1 : Int) (r : Bool) (w : World) (h : treillagelaw01_PackParts.f k a0 a1 = some r) :
    Calls Try.prog 5 #[.int .u64 a0, .int .u64 a1] w fun e w' => e = .returned (.bool r) ∧ Below w.heap.size w w' := by
  have HB := Aside0.mk (Below.refl w.heap.size w)
  have H : ((pack_Index.f a0).bind fun t120 => ((pack_Gen.f a0).bind fun t121 => ((pack_Of.f t120 t121).bind fun bt122 => (if bt122.1 = a0 then (if bt122.2 = true then ((pack_Index.f a1).bind fun t124 => (if t120 = t124 then ((pack_Gen.f a1).bind fun t125 => (if ((a0 == a1) == (t121 == t125)) = true then ((treillagelaw01_shown.f k).bind fun t126 => (some t126)) else (some false))) else (if ((a0 == a1) == false) = true then ((treillagelaw01_shown.f k).bind fun t127 => (some t127)) else (some false)))) else (some false)) else (some false))))) = some r := h
  clear h
  replace H := Option.bind_eq_some_iff.mp H
  obtain ⟨t120, A30, H⟩ := H
  replace H : ((pack_Gen.f a0).bind fun t121 => ((pack_Of.f t120 t121).bind fun bt122 => (if bt122.1 = a0 then (if bt122.2 = true then ((pack_Index.f a1).bind fun t124 => (if t120 = t124 then ((pack_Gen.f a1).bind fun t125 => (if ((a0 == a1) == (t121 == t125)) = true then ((treillagelaw01_shown.f k).bind fun t126 => (some t126)) else (some false))) else (if ((a0 == a1) == false) = true then ((treillagelaw01_shown.f k).bind fun t127 => (some t127)) else (some false)))) else (some false)) else (some false)))) = some r := H
  have A3 := Aside0.mk A30
  clear A30
  replace H := Option.bind_eq_some_iff.mp H
  obtain ⟨t121, A40, H⟩ := H
  replace H : ((pack_Of.f t120 t121).bind fun bt122 => (if bt122.1 = a0 then (if bt122.2 = true then ((pack_Index.f a1).bind fun t124 => (if t120 = t124 then ((pack_Gen.f a1).bind fun t125 => (if ((a0 == a1) == (t121 == t125)) = true then ((treillagelaw01_shown.f k).bind fun t126 => (some t126)) else (some false))) else (if ((a0 == a1) == false) = true then ((treillagelaw01_shown.f k).bind fun t127 => (some t127)) else (some false)))) else (some false)) else (some false))) = some r := H
  have A4 := Aside0.mk A40
  clear A40
  replace H := Option.bind_eq_some_iff.mp H
  obtain ⟨⟨t122, t123⟩, A50, H⟩ := H
  replace H : (if t122 = a0 then (if t123 = true then ((pack_Index.f a1).bind fun t124 => (if t120 = t124 then ((pack_Gen.f a1).bind fun t125 => (if ((a0 == a1) == (t121 == t125)) = true then ((treillagelaw01_shown.f k).bind fun t126 => (some t126)) else (some false))) else (if ((a0 == a1) == false) = true then ((treillagelaw01_shown.f k).bind fun t127 => (some t127)) else (some false)))) else (some false)) else (some false)) = some r := H
  have A5 := Aside0.mk A50
  clear A50
  by_cases c6 : t122 = a0
  · rw [if_pos c6] at H
    have c6b0 : (t122 == a0) = true := beq_iff_eq.mpr c6
    have c6b1 : (t122 != a0) = false := bne_eq_false_iff_eq.mpr c6
    clear c6
    by_cases c7 : t123 = true
    · subst c7
      have H1 : ((pack_Index.f a1).bind fun t124 => (if t120 = t124 then ((pack_Gen.f a1).bind fun t125 => (if ((a0 == a1) == (t121 == t125)) = true then ((treillagelaw01_shown.f k).bind fun t126 => (some t126)) else (some false))) else (if ((a0 == a1) == false) = true then ((treillagelaw01_shown.f k).bind fun t127 => (some t127)) else (some false)))) = some r := by rw [if_pos rfl] at H; exact H
      clear H
      have H := H1
      clear H1
      replace H := Option.bind_eq_some_iff.mp H
      obtain ⟨t124, A80, H⟩ := H
      replace H : (if t120 = t124 then ((pack_Gen.f a1).bind fun t125 => (if ((a0 == a1) == (t121 == t125)) = true then ((treillagelaw01_shown.f k).bind fun t126 => (some t126)) else (some false))) else (if ((a0 == a1) == false) = true then ((treillagelaw01_shown.f k).bind fun t127 => (some t127)) else (some false))) = some r := H
      have A8 := Aside0.mk A80
      clear A80
      by_cases c9 : t120 = t124
      · rw [if_pos c9] at H
        have c9b0 : (t120 == t124) = true := beq_iff_eq.mpr c9
        have c9b1 : (t120 != t124) = false := bne_eq_false_iff_eq.mpr c9
        clear c9
        replace H := Option.bind_eq_some_iff.mp H
        obtain ⟨t125, A100, H⟩ := H
        replace H : (if ((a0 == a1) == (t121 == t125)) = true then ((treillagelaw01_shown.f k).bind fun t126 => (some t126)) else (some false)) = some r := H
        have A10 := Aside0.mk A100
        clear A100
        by_cases c11 : ((a0 == a1) == (t121 == t125)) = true
        · rw [if_pos c11] at H
          have c11b0 : ((a0 == a1) == (t121 == t125)) = true := c11
          (try (have c11b1 : decide ((a0 == a1) = (t121 == t125)) = true := by simpa using c11))
          (try (have c11b2 : ((a0 == a1) == (t121 == t125)) = true := by simpa using c11))
          clear c11
          replace H := Option.bind_eq_some_iff.mp H
          obtain ⟨t126, A120, H⟩ := H
          replace H : (some t126) = some r := H
          have A12 := Aside0.mk A120
          clear A120
          obtain rfl := Option.some.inj H
          go_enter Try.func5, Try.ntmps5
          go_wp2_with (first | (go_at_call 18; (with_reducible refine (pack_Index.calls a0 t120 _ A3.out).mono ?_); rintro e w' ⟨rfl, ⟨nd, rfl⟩⟩) | (go_at_call 19; (with_reducible refine (pack_Gen.calls a0 t121 _ A4.out).mono ?_); rintro e w' ⟨rfl, ⟨nd, rfl⟩⟩) | ((with_reducible refine gate_callee (f := 17) rfl ?_); refine goesL_ (some 12) rfl rfl Try.func17 (by kernel_rfl) rfl #[.int .i64 t120, .int .u64 t121] rfl (by (try simp only [List.map_toArray, List.map_cons, List.map_nil]); first | done | rfl | (simp only [List.length_drop, List.length_take]; rfl)) ?_; (with_reducible refine (pack_Of.calls t120 t121 t122 true _ A5.out).mono ?_); rintro e w' ⟨rfl, ⟨nd, rfl⟩⟩; refine ⟨_, rfl, ?_⟩) | (go_at_call 18; (with_reducible refine (pack_Index.calls a1 t124 _ A8.out).mono ?_); rintro e w' ⟨rfl, ⟨nd, rfl⟩⟩) | (go_at_call 19; (with_reducible refine (pack_Gen.calls a1 t125 _ A10.out).mono ?_); rintro e w' ⟨rfl, ⟨nd, rfl⟩⟩) | (go_at_call 12; (with_reducible refine (treillagelaw01_shown.calls k  t126 _ A12.out).mono ?_); rintro e w13 ⟨rfl, hb⟩; have n0_ := Aside0.mk (below_step (by repeat (first | (with_reducible first | exact HB.out | apply below_alloc | apply pw_below_drewN | apply below_drew1) | exact HB.out)) hb); clear HB; have HB := n0_; clear n0_; (try clear hb); (try clear hb2); (try clear hk); (try clear hi)))
          go_ret
          exact ⟨by first | rfl | (simp [errW_none, errW_some] <;> rfl) | (simp [*, errW_none, errW_some] <;> rfl), by repeat (first | (with_reducible first | exact HB.out | apply below_alloc | apply pw_below_drewN | apply below_drew1) | exact HB.out)⟩
        · rw [if_neg c11] at H
          have c11b0 : ((a0 == a1) == (t121 == t125)) = false := by simpa using c11
          (try (have c11b1 : decide ((a0 == a1) = (t121 == t125)) = false := by simpa using c11))
          (try (have c11b2 : ((a0 == a1) == (t121 == t125)) = false := by simpa using c11))
          (try (have c11b3 : ¬ ((a0 == a1) = (t121 == t125)) := by simpa using c11))
          clear c11
          obtain rfl := Option.some.inj H
          go_enter Try.func5, Try.ntmps5
          go_wp2_with (first | (go_at_call 18; (with_reducible refine (pack_Index.calls a0 t120 _ A3.out).mono ?_); rintro e w' ⟨rfl, ⟨nd, rfl⟩⟩) | (go_at_call 19; (with_reducible refine (pack_Gen.calls a0 t121 _ A4.out).mono ?_); rintro e w' ⟨rfl, ⟨nd, rfl⟩⟩) | ((with_reducible refine gate_callee (f := 17) rfl ?_); refine goesL_ (some 12) rfl rfl Try.func17 (by kernel_rfl) rfl #[.int .i64 t120, .int .u64 t121] rfl (by (try simp only [List.map_toArray, List.map_cons, List.map_nil]); first | done | rfl | (simp only [List.length_drop, List.length_take]; rfl)) ?_; (with_reducible refine (pack_Of.calls t120 t121 t122 true _ A5.out).mono ?_); rintro e w' ⟨rfl, ⟨nd, rfl⟩⟩; refine ⟨_, rfl, ?_⟩) | (go_at_call 18; (with_reducible refine (pack_Index.calls a1 t124 _ A8.out).mono ?_); rintro e w' ⟨rfl, ⟨nd, rfl⟩⟩) | (go_at_call 19; (with_reducible refine (pack_Gen.calls a1 t125 _ A10.out).mono ?_); rintro e w' ⟨rfl, ⟨nd, rfl⟩⟩))
          go_ret
          exact ⟨by first | rfl | (simp [errW_none, errW_some] <;> rfl) | (simp [*, errW_none, errW_some] <;> rfl), by repeat (first | (with_reducible first | exact HB.out | apply below_alloc | apply pw_below_drewN | apply below_drew1) | exact HB.out)⟩
      · rw [if_neg c9] at H
        have c9b0 : (t120 == t124) = false := beq_eq_false_iff_ne.mpr c9
        have c9b1 : (t120 != t124) = true := bne_iff_ne.mpr c9
        by_cases c14 : ((a0 == a1) == false) = true
        · rw [if_pos c14] at H
          have c14b0 : ((a0 == a1) == false) = true := c14
          (try (have c14b1 : decide ((a0 == a1) = false) = true := by simpa using c14))
          (try (have c14b2 : ((a0 == a1) == false) = true := by simpa using c14))
          clear c14
          replace H := Option.bind_eq_some_iff.mp H
          obtain ⟨t127, A150, H⟩ := H
          replace H : (some t127) = some r := H
          have A15 := Aside0.mk A150
          clear A150
          obtain rfl := Option.some.inj H
          go_enter Try.func5, Try.ntmps5
          go_wp2_with (first | (go_at_call 18; (with_reducible refine (pack_Index.calls a0 t120 _ A3.out).mono ?_); rintro e w' ⟨rfl, ⟨nd, rfl⟩⟩) | (go_at_call 19; (with_reducible refine (pack_Gen.calls a0 t121 _ A4.out).mono ?_); rintro e w' ⟨rfl, ⟨nd, rfl⟩⟩) | ((with_reducible refine gate_callee (f := 17) rfl ?_); refine goesL_ (some 12) rfl rfl Try.func17 (by kernel_rfl) rfl #[.int .i64 t120, .int .u64 t121] rfl (by (try simp only [List.map_toArray, List.map_cons, List.map_nil]); first | done | rfl | (simp only [List.length_drop, List.length_take]; rfl)) ?_; (with_reducible refine (pack_Of.calls t120 t121 t122 true _ A5.out).mono ?_); rintro e w' ⟨rfl, ⟨nd, rfl⟩⟩; refine ⟨_, rfl, ?_⟩) | (go_at_call 18; (with_reducible refine (pack_Index.calls a1 t124 _ A8.out).mono ?_); rintro e w' ⟨rfl, ⟨nd, rfl⟩⟩) | (go_at_call 12; (with_reducible refine (treillagelaw01_shown.calls k  t127 _ A15.out).mono ?_); rintro e w16 ⟨rfl, hb⟩; have n0_ := Aside0.mk (below_step (by repeat (first | (with_reducible first | exact HB.out | apply below_alloc | apply pw_below_drewN | apply below_drew1) | exact HB.out)) hb); clear HB; have HB := n0_; clear n0_; (try clear hb); (try clear hb2); (try clear hk); (try clear hi)))
          go_ret
          exact ⟨by first | rfl | (simp [errW_none, errW_some] <;> rfl) | (simp [*, errW_none, errW_some] <;> rfl), by repeat (first | (with_reducible first | exact HB.out | apply below_alloc | apply pw_below_drewN | apply below_drew1) | exact HB.out)⟩
        · rw [if_neg c14] at H
          have c14b0 : ((a0 == a1) == false) = false := by simpa using c14
          (try (have c14b1 : decide ((a0 == a1) = false) = false := by simpa using c14))
          (try (have c14b2 : ((a0 == a1) == false) = false := by simpa using c14))
          (try (have c14b3 : ¬ ((a0 == a1) = false) := by simpa using c14))
          clear c14
          obtain rfl := Option.some.inj H
          go_enter Try.func5, Try.ntmps5
          go_wp2_with (first | (go_at_call 18; (with_reducible refine (pack_Index.calls a0 t120 _ A3.out).mono ?_); rintro e w' ⟨rfl, ⟨nd, rfl⟩⟩) | (go_at_call 19; (with_reducible refine (pack_Gen.calls a0 t121 _ A4.out).mono ?_); rintro e w' ⟨rfl, ⟨nd, rfl⟩⟩) | ((with_reducible refine gate_callee (f := 17) rfl ?_); refine goesL_ (some 12) rfl rfl Try.func17 (by kernel_rfl) rfl #[.int .i64 t120, .int .u64 t121] rfl (by (try simp only [List.map_toArray, List.map_cons, List.map_nil]); first | done | rfl | (simp only [List.length_drop, List.length_take]; rfl)) ?_; (with_reducible refine (pack_Of.calls t120 t121 t122 true _ A5.out).mono ?_); rintro e w' ⟨rfl, ⟨nd, rfl⟩⟩; refine ⟨_, rfl, ?_⟩) | (go_at_call 18; (with_reducible refine (pack_Index.calls a1 t124 _ A8.out).mono ?_); rintro e w' ⟨rfl, ⟨nd, rfl⟩⟩))
          go_ret
          exact ⟨by first | rfl | (simp [errW_none, errW_some] <;> rfl) | (simp [*, errW_none, errW_some] <;> rfl), by repeat (first | (with_reducible first | exact HB.out | apply below_alloc | apply pw_below_drewN | apply below_drew1) | exact HB.out)⟩
    · replace c7 := Bool.eq_false_iff.mpr c7
      subst c7
      have H1 : (some false) = some r := by rw [if_neg (show ¬ (false = true) by decide)] at H; exact H
      clear H
      have H := H1
      clear H1
      obtain rfl := Option.some.inj H
      go_enter Try.func5, Try.ntmps5
      go_wp2_with (first | (go_at_call 18; (with_reducible refine (pack_Index.calls a0 t120 _ A3.out).mono ?_); rintro e w' ⟨rfl, ⟨nd, rfl⟩⟩) | (go_at_call 19; (with_reducible refine (pack_Gen.calls a0 t121 _ A4.out).mono ?_); rintro e w' ⟨rfl, ⟨nd, rfl⟩⟩) | ((with_reducible refine gate_callee (f := 17) rfl ?_); refine goesL_ (some 12) rfl rfl Try.func17 (by kernel_rfl) rfl #[.int .i64 t120, .int .u64 t121] rfl (by (try simp only [List.map_toArray, List.map_cons, List.map_nil]); first | done | rfl | (simp only [List.length_drop, List.length_take]; rfl)) ?_; (with_reducible refine (pack_Of.calls t120 t121 t122 false _ A5.out).mono ?_); rintro e w' ⟨rfl, ⟨nd, rfl⟩⟩; refine ⟨_, rfl, ?_⟩))
      go_ret
      exact ⟨by first | rfl | (simp [errW_none, errW_some] <;> rfl) | (simp [*, errW_none, errW_some] <;> rfl), by repeat (first | (with_reducible first | exact HB.out | apply below_alloc | apply pw_below_drewN | apply below_drew1) | exact HB.out)⟩
  · rw [if_neg c6] at H
    have c6b0 : (t122 == a0) = false := beq_eq_false_iff_ne.mpr c6
    have c6b1 : (t122 != a0) = true := bne_iff_ne.mpr c6
    obtain rfl := Option.some.inj H
    go_enter Try.func5, Try.ntmps5
    go_wp2_with (first | (go_at_call 18; (with_reducible refine (pack_Index.calls a0 t120 _ A3.out).mono ?_); rintro e w' ⟨rfl, ⟨nd, rfl⟩⟩) | (go_at_call 19; (with_reducible refine (pack_Gen.calls a0 t121 _ A4.out).mono ?_); rintro e w' ⟨rfl, ⟨nd, rfl⟩⟩) | ((with_reducible refine gate_callee (f := 17) rfl ?_); refine goesL_ (some 12) rfl rfl Try.func17 (by kernel_rfl) rfl #[.int .i64 t120, .int .u64 t121] rfl (by (try simp only [List.map_toArray, List.map_cons, List.map_nil]); first | done | rfl | (simp only [List.length_drop, List.length_take]; rfl)) ?_; (with_reducible refine (pack_Of.calls t120 t121 t122 t123 _ A5.out).mono ?_); rintro e w' ⟨rfl, ⟨nd, rfl⟩⟩; refine ⟨_, rfl, ?_⟩))
    go_ret
    exact ⟨by first | rfl | (simp [errW_none, errW_some] <;> rfl) | (simp [*, errW_none, errW_some] <;> rfl), by repeat (first | (with_reducible first | exact HB.out | apply below_alloc | apply pw_below_drewN | apply below_drew1) | exact HB.out)⟩

/-- THE ONE PURE STATEMENT of treillagelaw01_PackParts: yours. -/
def treillagelaw01_PackParts.Pure : Prop := ∀ (a0 : Int) (a1 : Int), (Lit.int .u64 a0).wf = true → (Lit.int .u64 a1).wf = true → ∃ k, treillagelaw01_PackParts.f k a0 a1 = some true
theorem treillagelaw01_PackParts.walk (P : treillagelaw01_PackParts.Pure) (a0 : Int) (a1 : Int) (w : World) (w0 : (Lit.int .u64 a0).wf = true) (w1 : (Lit.int .u64 a1).wf = true) :
    Calls Try.prog 5 #[.int .u64 a0, .int .u64 a1] w fun e w' => e = .returned (.bool true) ∧ Below w.heap.size w w' := by
  obtain ⟨k, h⟩ := P a0 a1 w0 w1
  refine (treillagelaw01_PackParts.calls k a0 a1 true w h).mono ?_
  rintro e w' ⟨rfl, hd⟩
  exact ⟨rfl, hd⟩

/-! ### treillageref01_power: function 35 -/
def treillageref01_power.l0 : Nat → Int → Int → Int → Option (Int)
  | 0, _, _, _ => none
  | k + 1, x0, x3, x4 => if x4 < x0 then (treillageref01_power.l0 k x0 (IntKind.u64.wrap (x3 * 2)) (wrap64 (x4 + 1))) else (some x3)
def treillageref01_power.f (k : Nat) (a0 : Int) : Option (Int) := treillageref01_power.l0 k a0 1 0
theorem treillageref01_power.mono_l : ∀ k, (∀ y0 y1 y2, LeO (treillageref01_power.l0 k y0 y1 y2) (treillageref01_power.l0 (k + 1) y0 y1 y2))
  | 0 => fun _ _ _ r h => by simp [treillageref01_power.l0] at h
  | k + 1 => by
    have ih0 := treillageref01_power.mono_l k
    · intro y0 y1 y2
      unfold treillageref01_power.l0
      repeat' first
      | (with_reducible exact ih0 _ _ _)
      | (with_reducible exact LeO.refl _)
      | (with_reducible exact LeO.none _)
      | (with_reducible refine LeO.ite ?_ ?_)
      | (with_reducible refine LeO.bind ?_ (fun _ => ?_))
      | exact ih0 _ _ _
      | exact LeO.none _
      | refine LeO.ite ?_ ?_
      | refine LeO.bind ?_ (fun _ => ?_)
theorem treillageref01_power.mono : ∀ a0 k, LeO (treillageref01_power.f k a0) (treillageref01_power.f (k + 1) a0) := by
  intro a0 k
  have ih0 := treillageref01_power.mono_l k
  unfold treillageref01_power.f
  repeat' first
      | (with_reducible exact ih0 _ _ _)
      | (with_reducible exact LeO.refl _)
      | (with_reducible exact LeO.none _)
      | (with_reducible refine LeO.ite ?_ ?_)
      | (with_reducible refine LeO.bind ?_ (fun _ => ?_))
      | exact ih0 _ _ _
      | exact LeO.none _
      | refine LeO.ite ?_ ?_
      | refine LeO.bind ?_ (fun _ => ?_)
set_option maxHeartbeats 8000000 in
set_option maxRecDepth 100000 in
theorem treillageref01_power.calls (k : Nat) (a0 : Int) (r : Int) (w : World) (h : treillageref01_power.f k a0 = some r) :
    Calls Try.prog 35 #[.int .i64 a0] w fun e w' => e = .returned (.int .u64 r) ∧ Drawn0 w w' := by
  have H : (treillageref01_power.l0 k a0 1 0) = some r := h
  clear h
  have H' := Aside0.mk H
  clear H
  go_enter Try.func35, Try.ntmps35
  go_wp2
  go_loopg [3, 4] k (fun kq v3 v4 w' => ∃ (x3_1 : Int) (x4_1 : Int), v3 = .int .u64 x3_1 ∧ v4 = .int .i64 x4_1 ∧ Aside0 (treillageref01_power.l0 kq a0 x3_1 x4_1 = some r) ∧ Aside0 (kq ≤ k) ∧ Drawn0 w w')
  case atStart => exact ⟨(1), (0), (by first | rfl | (simp; done) | (simp [*]; done)), (by first | rfl | (simp; done) | (simp [*]; done)), H', ⟨Nat.le_refl _⟩, by repeat (first | exact Drawn0.refl _ | apply Drawn0.step)⟩
  case round =>
    clear H'
    obtain ⟨x3_1, x4_1, rfl, rfl, HA, HK1, ⟨m1, rfl⟩⟩ := hrel
    cases gk with
    | zero => exact absurd HA.out (by simp [treillageref01_power.l0])
    | succ k1 =>
      have H := HA.out
      clear HA
      simp only [treillageref01_power.l0] at H
      by_cases c2 : x4_1 < a0
      · rw [if_pos c2] at H
        have c2b0 : decide (x4_1 < a0) = true := decide_eq_true c2
        clear c2
        have H' := Aside0.mk H
        clear H
        go_wp2
        go_roundg k1
        case measure => have := HK1.out; omega
        case rel => exact ⟨(IntKind.u64.wrap (x3_1 * 2)), (wrap64 (x4_1 + 1)), (by first | rfl | (simp; done) | (simp [*]; done)), (by first | rfl | (simp; done) | (simp [*]; done)), H', ⟨by have := HK1.out; omega⟩, by repeat (first | exact Drawn0.refl _ | apply Drawn0.step)⟩
      · rw [if_neg c2] at H
        have c2b0 : decide (x4_1 < a0) = false := decide_eq_false c2
        clear c2
        obtain rfl := Option.some.inj H
        go_wp2
        go_ret
        exact ⟨by first | rfl | (simp; done) | (simp [*]; done), by repeat (first | exact Drawn0.refl _ | apply Drawn0.step)⟩

/-! ### treillageref01_Of: function 20 -/
def treillageref01_Of.f (k : Nat) (a0 : Int) (a1 : Int) : Option (Int × Bool) := if a0 < 0 then (some (0, false)) else ((treillageref01_power.f k 24).bind fun t128 => (if (IntKind.u64.wrap (a0)) ≥ t128 then (some (0, false)) else ((treillageref01_power.f k 40).bind fun t129 => (if a1 ≥ t129 then (some (0, false)) else (some (IntKind.u64.wrap ((IntKind.u64.wrap (a1 * t128)) + (IntKind.u64.wrap (a0))), true))))))
theorem treillageref01_Of.mono : ∀ a0 a1 k, LeO (treillageref01_Of.f k a0 a1) (treillageref01_Of.f (k + 1) a0 a1) := by
  intro a0 a1 k
  unfold treillageref01_Of.f
  repeat' first
      | (with_reducible exact treillageref01_power.mono _ _)
      | (with_reducible exact LeO.refl _)
      | (with_reducible exact LeO.none _)
      | (with_reducible refine LeO.ite ?_ ?_)
      | (with_reducible refine LeO.bind ?_ (fun _ => ?_))
      | exact treillageref01_power.mono _ _
      | exact LeO.none _
      | refine LeO.ite ?_ ?_
      | refine LeO.bind ?_ (fun _ => ?_)
set_option maxHeartbeats 8000000 in
set_option maxRecDepth 100000 in
theorem treillageref01_Of.calls (k : Nat) (a0 : Int) (a1 : Int) (r1 : Int) (r2 : Bool) (w : World) (h : treillageref01_Of.f k a0 a1 = some (r1, r2)) :
    Calls Try.prog 20 #[.int .i64 a0, .int .u64 a1] w fun e w' => e = .returned (.tuple #[.int .u64 r1, .bool r2]) ∧ Drawn0 w w' := by
  have H : (if a0 < 0 then (some (0, false)) else ((treillageref01_power.f k 24).bind fun t128 => (if (IntKind.u64.wrap (a0)) ≥ t128 then (some (0, false)) else ((treillageref01_power.f k 40).bind fun t129 => (if a1 ≥ t129 then (some (0, false)) else (some (IntKind.u64.wrap ((IntKind.u64.wrap (a1 * t128)) + (IntKind.u64.wrap (a0))), true))))))) = some (r1, r2) := h
  clear h
  by_cases c3 : a0 < 0
  · rw [if_pos c3] at H
    have c3b0 : decide (a0 < 0) = true := decide_eq_true c3
    clear c3
    simp only [Option.some.injEq, Prod.mk.injEq] at H
    obtain ⟨rfl, rfl⟩ := H
    go_enter Try.func20, Try.ntmps20
    go_wp2
    go_ret2
    exact ⟨by first | rfl | (simp; done) | (simp [*]; done), by repeat (first | exact Drawn0.refl _ | apply Drawn0.step)⟩
  · rw [if_neg c3] at H
    have c3b0 : decide (a0 < 0) = false := decide_eq_false c3
    clear c3
    replace H := Option.bind_eq_some_iff.mp H
    obtain ⟨t128, A40, H⟩ := H
    replace H : (if (IntKind.u64.wrap (a0)) ≥ t128 then (some (0, false)) else ((treillageref01_power.f k 40).bind fun t129 => (if a1 ≥ t129 then (some (0, false)) else (some (IntKind.u64.wrap ((IntKind.u64.wrap (a1 * t128)) + (IntKind.u64.wrap (a0))), true))))) = some (r1, r2) := H
    have A4 := Aside0.mk A40
    clear A40
    by_cases c5 : (IntKind.u64.wrap (a0)) ≥ t128
    · rw [if_pos c5] at H
      have c5b0 : decide (t128 ≤ (IntKind.u64.wrap (a0))) = true := decide_eq_true c5
      clear c5
      simp only [Option.some.injEq, Prod.mk.injEq] at H
      obtain ⟨rfl, rfl⟩ := H
      go_enter Try.func20, Try.ntmps20
      go_wp2_with (first | (go_at_call 35; (with_reducible refine (treillageref01_power.calls k 24 t128 _ A4.out).mono ?_); rintro e w' ⟨rfl, ⟨nd, rfl⟩⟩))
      go_ret2
      exact ⟨by first | rfl | (simp; done) | (simp [*]; done), by repeat (first | exact Drawn0.refl _ | apply Drawn0.step)⟩
    · rw [if_neg c5] at H
      have c5b0 : decide (t128 ≤ (IntKind.u64.wrap (a0))) = false := decide_eq_false c5
      clear c5
      replace H := Option.bind_eq_some_iff.mp H
      obtain ⟨t129, A60, H⟩ := H
      replace H : (if a1 ≥ t129 then (some (0, false)) else (some (IntKind.u64.wrap ((IntKind.u64.wrap (a1 * t128)) + (IntKind.u64.wrap (a0))), true))) = some (r1, r2) := H
      have A6 := Aside0.mk A60
      clear A60
      by_cases c7 : a1 ≥ t129
      · rw [if_pos c7] at H
        have c7b0 : decide (t129 ≤ a1) = true := decide_eq_true c7
        clear c7
        simp only [Option.some.injEq, Prod.mk.injEq] at H
        obtain ⟨rfl, rfl⟩ := H
        go_enter Try.func20, Try.ntmps20
        go_wp2_with (first | (go_at_call 35; (with_reducible refine (treillageref01_power.calls k 24 t128 _ A4.out).mono ?_); rintro e w' ⟨rfl, ⟨nd, rfl⟩⟩) | (go_at_call 35; (with_reducible refine (treillageref01_power.calls k 40 t129 _ A6.out).mono ?_); rintro e w' ⟨rfl, ⟨nd, rfl⟩⟩))
        go_ret2
        exact ⟨by first | rfl | (simp; done) | (simp [*]; done), by repeat (first | exact Drawn0.refl _ | apply Drawn0.step)⟩
      · rw [if_neg c7] at H
        have c7b0 : decide (t129 ≤ a1) = false := decide_eq_false c7
        clear c7
        simp only [Option.some.injEq, Prod.mk.injEq] at H
        obtain ⟨rfl, rfl⟩ := H
        go_enter Try.func20, Try.ntmps20
        go_wp2_with (first | (go_at_call 35; (with_reducible refine (treillageref01_power.calls k 24 t128 _ A4.out).mono ?_); rintro e w' ⟨rfl, ⟨nd, rfl⟩⟩) | (go_at_call 35; (with_reducible refine (treillageref01_power.calls k 40 t129 _ A6.out).mono ?_); rintro e w' ⟨rfl, ⟨nd, rfl⟩⟩))
        go_ret2
        exact ⟨by first | rfl | (simp; done) | (simp [*]; done), by repeat (first | exact Drawn0.refl _ | apply Drawn0.step)⟩

/-! ### treillageref01_Index: function 21 -/
def treillageref01_Index.f (k : Nat) (a0 : Int) : Option (Int) := (treillageref01_power.f k 24).bind fun t130 => (if t130 = 0 then (none) else (some (wrap64 (Int.tmod a0 t130))))
theorem treillageref01_Index.mono : ∀ a0 k, LeO (treillageref01_Index.f k a0) (treillageref01_Index.f (k + 1) a0) := by
  intro a0 k
  unfold treillageref01_Index.f
  repeat' first
      | (with_reducible exact treillageref01_power.mono _ _)
      | (with_reducible exact LeO.refl _)
      | (with_reducible exact LeO.none _)
      | (with_reducible refine LeO.ite ?_ ?_)
      | (with_reducible refine LeO.bind ?_ (fun _ => ?_))
      | exact treillageref01_power.mono _ _
      | exact LeO.none _
      | refine LeO.ite ?_ ?_
      | refine LeO.bind ?_ (fun _ => ?_)
set_option maxHeartbeats 8000000 in
set_option maxRecDepth 100000 in
theorem treillageref01_Index.calls (k : Nat) (a0 : Int) (r : Int) (w : World) (h : treillageref01_Index.f k a0 = some r) :
    Calls Try.prog 21 #[.int .u64 a0] w fun e w' => e = .returned (.int .i64 r) ∧ Drawn0 w w' := by
  have H : ((treillageref01_power.f k 24).bind fun t130 => (if t130 = 0 then (none) else (some (wrap64 (Int.tmod a0 t130))))) = some r := h
  clear h
  replace H := Option.bind_eq_some_iff.mp H
  obtain ⟨t130, A20, H⟩ := H
  replace H : (if t130 = 0 then (none) else (some (wrap64 (Int.tmod a0 t130)))) = some r := H
  have A2 := Aside0.mk A20
  clear A20
  by_cases c3 : t130 = 0
  · rw [if_pos c3] at H
    exact absurd H (by simp)
  · rw [if_neg c3] at H
    have c3b0 : (t130 == 0) = false := beq_eq_false_iff_ne.mpr c3
    have c3b1 : (t130 != 0) = true := bne_iff_ne.mpr c3
    obtain rfl := Option.some.inj H
    go_enter Try.func21, Try.ntmps21
    go_wp2_with (first | ((with_reducible refine gate_callee (f := 35) rfl ?_); refine goesL_ (some 4) rfl rfl Try.func35 (by kernel_rfl) rfl #[.int .i64 24] rfl (by (try simp only [List.map_toArray, List.map_cons, List.map_nil]); first | done | rfl | (simp only [List.length_drop, List.length_take]; rfl)) ?_; (with_reducible refine (treillageref01_power.calls k 24 t130 _ A2.out).mono ?_); rintro e w' ⟨rfl, ⟨nd, rfl⟩⟩; refine ⟨_, rfl, ?_⟩))
    go_ret
    exact ⟨by first | rfl | (simp; done) | (simp [*]; done), by repeat (first | exact Drawn0.refl _ | apply Drawn0.step)⟩

/-! ### treillageref01_Gen: function 22 -/
def treillageref01_Gen.f (k : Nat) (a0 : Int) : Option (Int) := (treillageref01_power.f k 24).bind fun t131 => (if t131 = 0 then (none) else (some (IntKind.u64.wrap (Int.tdiv a0 t131))))
theorem treillageref01_Gen.mono : ∀ a0 k, LeO (treillageref01_Gen.f k a0) (treillageref01_Gen.f (k + 1) a0) := by
  intro a0 k
  unfold treillageref01_Gen.f
  repeat' first
      | (with_reducible exact treillageref01_power.mono _ _)
      | (with_reducible exact LeO.refl _)
      | (with_reducible exact LeO.none _)
      | (with_reducible refine LeO.ite ?_ ?_)
      | (with_reducible refine LeO.bind ?_ (fun _ => ?_))
      | exact treillageref01_power.mono _ _
      | exact LeO.none _
      | refine LeO.ite ?_ ?_
      | refine LeO.bind ?_ (fun _ => ?_)
set_option maxHeartbeats 8000000 in
set_option maxRecDepth 100000 in
theorem treillageref01_Gen.calls (k : Nat) (a0 : Int) (r : Int) (w : World) (h : treillageref01_Gen.f k a0 = some r) :
    Calls Try.prog 22 #[.int .u64 a0] w fun e w' => e = .returned (.int .u64 r) ∧ Drawn0 w w' := by
  have H : ((treillageref01_power.f k 24).bind fun t131 => (if t131 = 0 then (none) else (some (IntKind.u64.wrap (Int.tdiv a0 t131))))) = some r := h
  clear h
  replace H := Option.bind_eq_some_iff.mp H
  obtain ⟨t131, A20, H⟩ := H
  replace H : (if t131 = 0 then (none) else (some (IntKind.u64.wrap (Int.tdiv a0 t131)))) = some r := H
  have A2 := Aside0.mk A20
  clear A20
  by_cases c3 : t131 = 0
  · rw [if_pos c3] at H
    exact absurd H (by simp)
  · rw [if_neg c3] at H
    have c3b0 : (t131 == 0) = false := beq_eq_false_iff_ne.mpr c3
    have c3b1 : (t131 != 0) = true := bne_iff_ne.mpr c3
    obtain rfl := Option.some.inj H
    go_enter Try.func22, Try.ntmps22
    go_wp2_with (first | ((with_reducible refine gate_callee (f := 35) rfl ?_); refine goesL_ (some 4) rfl rfl Try.func35 (by kernel_rfl) rfl #[.int .i64 24] rfl (by (try simp only [List.map_toArray, List.map_cons, List.map_nil]); first | done | rfl | (simp only [List.length_drop, List.length_take]; rfl)) ?_; (with_reducible refine (treillageref01_power.calls k 24 t131 _ A2.out).mono ?_); rintro e w' ⟨rfl, ⟨nd, rfl⟩⟩; refine ⟨_, rfl, ?_⟩))
    go_ret
    exact ⟨by first | rfl | (simp; done) | (simp [*]; done), by repeat (first | exact Drawn0.refl _ | apply Drawn0.step)⟩

/-! ### pack_Next: function 23 -/
def pack_Next.f (a0 : Int) : Option (Int) := some (Go.bits .or .u64 (Go.bits .and .u64 a0 16777215) (IntKind.u64.wrap ((IntKind.u64.wrap ((a0 / 16777216) + 1)) * 16777216)))
set_option maxHeartbeats 8000000 in
set_option maxRecDepth 100000 in
theorem pack_Next.calls (a0 : Int) (r : Int) (w : World) (h : pack_Next.f a0 = some r) :
    Calls Try.prog 23 #[.int .u64 a0] w fun e w' => e = .returned (.int .u64 r) ∧ Drawn0 w w' := by
  have H : (some (Go.bits .or .u64 (Go.bits .and .u64 a0 16777215) (IntKind.u64.wrap ((IntKind.u64.wrap ((a0 / 16777216) + 1)) * 16777216)))) = some r := h
  clear h
  obtain rfl := Option.some.inj H
  go_enter Try.func23, Try.ntmps23
  go_wp2
  go_ret
  exact ⟨by first | rfl | (simp; done) | (simp [*]; done), by repeat (first | exact Drawn0.refl _ | apply Drawn0.step)⟩

/-! ### treillageref01_Next: function 24 -/
def treillageref01_Next.f (k : Nat) (a0 : Int) : Option (Int) := (treillageref01_Gen.f k a0).bind fun t132 => ((treillageref01_power.f k 40).bind fun t133 => (if t133 = 0 then (none) else ((treillageref01_power.f k 24).bind fun t134 => (if t134 = 0 then (none) else (some (IntKind.u64.wrap ((IntKind.u64.wrap ((Int.tmod (IntKind.u64.wrap (t132 + 1)) t133) * t134)) + (Int.tmod a0 t134))))))))
theorem treillageref01_Next.mono : ∀ a0 k, LeO (treillageref01_Next.f k a0) (treillageref01_Next.f (k + 1) a0) := by
  intro a0 k
  unfold treillageref01_Next.f
  repeat' first
      | (with_reducible exact treillageref01_Gen.mono _ _)
      | (with_reducible exact treillageref01_power.mono _ _)
      | (with_reducible exact LeO.refl _)
      | (with_reducible exact LeO.none _)
      | (with_reducible refine LeO.ite ?_ ?_)
      | (with_reducible refine LeO.bind ?_ (fun _ => ?_))
      | exact treillageref01_Gen.mono _ _
      | exact treillageref01_power.mono _ _
      | exact LeO.none _
      | refine LeO.ite ?_ ?_
      | refine LeO.bind ?_ (fun _ => ?_)
set_option maxHeartbeats 8000000 in
set_option maxRecDepth 100000 in
theorem treillageref01_Next.calls (k : Nat) (a0 : Int) (r : Int) (w : World) (h : treillageref01_Next.f k a0 = some r) :
    Calls Try.prog 24 #[.int .u64 a0] w fun e w' => e = .returned (.int .u64 r) ∧ Drawn0 w w' := by
  have H : ((treillageref01_Gen.f k a0).bind fun t132 => ((treillageref01_power.f k 40).bind fun t133 => (if t133 = 0 then (none) else ((treillageref01_power.f k 24).bind fun t134 => (if t134 = 0 then (none) else (some (IntKind.u64.wrap ((IntKind.u64.wrap ((Int.tmod (IntKind.u64.wrap (t132 + 1)) t133) * t134)) + (Int.tmod a0 t134))))))))) = some r := h
  clear h
  replace H := Option.bind_eq_some_iff.mp H
  obtain ⟨t132, A20, H⟩ := H
  replace H : ((treillageref01_power.f k 40).bind fun t133 => (if t133 = 0 then (none) else ((treillageref01_power.f k 24).bind fun t134 => (if t134 = 0 then (none) else (some (IntKind.u64.wrap ((IntKind.u64.wrap ((Int.tmod (IntKind.u64.wrap (t132 + 1)) t133) * t134)) + (Int.tmod a0 t134)))))))) = some r := H
  have A2 := Aside0.mk A20
  clear A20
  replace H := Option.bind_eq_some_iff.mp H
  obtain ⟨t133, A30, H⟩ := H
  replace H : (if t133 = 0 then (none) else ((treillageref01_power.f k 24).bind fun t134 => (if t134 = 0 then (none) else (some (IntKind.u64.wrap ((IntKind.u64.wrap ((Int.tmod (IntKind.u64.wrap (t132 + 1)) t133) * t134)) + (Int.tmod a0 t134))))))) = some r := H
  have A3 := Aside0.mk A30
  clear A30
  by_cases c4 : t133 = 0
  · rw [if_pos c4] at H
    exact absurd H (by simp)
  · rw [if_neg c4] at H
    have c4b0 : (t133 == 0) = false := beq_eq_false_iff_ne.mpr c4
    have c4b1 : (t133 != 0) = true := bne_iff_ne.mpr c4
    replace H := Option.bind_eq_some_iff.mp H
    obtain ⟨t134, A50, H⟩ := H
    replace H : (if t134 = 0 then (none) else (some (IntKind.u64.wrap ((IntKind.u64.wrap ((Int.tmod (IntKind.u64.wrap (t132 + 1)) t133) * t134)) + (Int.tmod a0 t134))))) = some r := H
    have A5 := Aside0.mk A50
    clear A50
    by_cases c6 : t134 = 0
    · rw [if_pos c6] at H
      exact absurd H (by simp)
    · rw [if_neg c6] at H
      have c6b0 : (t134 == 0) = false := beq_eq_false_iff_ne.mpr c6
      have c6b1 : (t134 != 0) = true := bne_iff_ne.mpr c6
      obtain rfl := Option.some.inj H
      go_enter Try.func24, Try.ntmps24
      go_wp2_with (first | (go_at_call 22; (with_reducible refine (treillageref01_Gen.calls k a0 t132 _ A2.out).mono ?_); rintro e w' ⟨rfl, ⟨nd, rfl⟩⟩; (try first | exact ⟨rfl, _, World.drewN_drewN _ _ _⟩ | exact ⟨rfl, _, Eq.trans (World.drewN_drewN _ _ _) (congrArg (World.drewN _) (Nat.add_assoc _ _ _))⟩)) | (go_at_call 35; (with_reducible refine (treillageref01_power.calls k 40 t133 _ A3.out).mono ?_); rintro e w' ⟨rfl, ⟨nd, rfl⟩⟩; (try first | exact ⟨rfl, _, World.drewN_drewN _ _ _⟩ | exact ⟨rfl, _, Eq.trans (World.drewN_drewN _ _ _) (congrArg (World.drewN _) (Nat.add_assoc _ _ _))⟩)) | (go_at_call 35; (with_reducible refine (treillageref01_power.calls k 24 t134 _ A5.out).mono ?_); rintro e w' ⟨rfl, ⟨nd, rfl⟩⟩; (try first | exact ⟨rfl, _, World.drewN_drewN _ _ _⟩ | exact ⟨rfl, _, Eq.trans (World.drewN_drewN _ _ _) (congrArg (World.drewN _) (Nat.add_assoc _ _ _))⟩)))
      repeat (go_quiet (first | (go_at_call 22; (with_reducible refine (treillageref01_Gen.calls k a0 t132 _ A2.out).mono ?_); rintro e w' ⟨rfl, ⟨nd, rfl⟩⟩; (try first | exact ⟨rfl, _, World.drewN_drewN _ _ _⟩ | exact ⟨rfl, _, Eq.trans (World.drewN_drewN _ _ _) (congrArg (World.drewN _) (Nat.add_assoc _ _ _))⟩)) | (go_at_call 35; (with_reducible refine (treillageref01_power.calls k 40 t133 _ A3.out).mono ?_); rintro e w' ⟨rfl, ⟨nd, rfl⟩⟩; (try first | exact ⟨rfl, _, World.drewN_drewN _ _ _⟩ | exact ⟨rfl, _, Eq.trans (World.drewN_drewN _ _ _) (congrArg (World.drewN _) (Nat.add_assoc _ _ _))⟩)) | (go_at_call 35; (with_reducible refine (treillageref01_power.calls k 24 t134 _ A5.out).mono ?_); rintro e w' ⟨rfl, ⟨nd, rfl⟩⟩; (try first | exact ⟨rfl, _, World.drewN_drewN _ _ _⟩ | exact ⟨rfl, _, Eq.trans (World.drewN_drewN _ _ _) (congrArg (World.drewN _) (Nat.add_assoc _ _ _))⟩))); try go_wp2_with (first | (go_at_call 22; (with_reducible refine (treillageref01_Gen.calls k a0 t132 _ A2.out).mono ?_); rintro e w' ⟨rfl, ⟨nd, rfl⟩⟩; (try first | exact ⟨rfl, _, World.drewN_drewN _ _ _⟩ | exact ⟨rfl, _, Eq.trans (World.drewN_drewN _ _ _) (congrArg (World.drewN _) (Nat.add_assoc _ _ _))⟩)) | (go_at_call 35; (with_reducible refine (treillageref01_power.calls k 40 t133 _ A3.out).mono ?_); rintro e w' ⟨rfl, ⟨nd, rfl⟩⟩; (try first | exact ⟨rfl, _, World.drewN_drewN _ _ _⟩ | exact ⟨rfl, _, Eq.trans (World.drewN_drewN _ _ _) (congrArg (World.drewN _) (Nat.add_assoc _ _ _))⟩)) | (go_at_call 35; (with_reducible refine (treillageref01_power.calls k 24 t134 _ A5.out).mono ?_); rintro e w' ⟨rfl, ⟨nd, rfl⟩⟩; (try first | exact ⟨rfl, _, World.drewN_drewN _ _ _⟩ | exact ⟨rfl, _, Eq.trans (World.drewN_drewN _ _ _) (congrArg (World.drewN _) (Nat.add_assoc _ _ _))⟩))))
      go_ret
      exact ⟨by first | rfl | (simp; done) | (simp [*]; done), by repeat (first | exact Drawn0.refl _ | apply Drawn0.step)⟩

/-! ### treillagelaw01_PackHandles: function 6 -/
def treillagelaw01_PackHandles.f (k : Nat) (a0 : Int) (a1 : Int) (a2 : Int) : Option (Bool) := (pack_Of.f a0 a1).bind fun bt135 => ((treillageref01_Of.f k a0 a1).bind fun bt137 => (if bt135.1 = bt137.1 then (if (bt135.2 == bt137.2) = true then ((pack_Index.f a2).bind fun t139 => ((treillageref01_Index.f k a2).bind fun t140 => (if t139 = t140 then ((pack_Gen.f a2).bind fun t141 => ((treillageref01_Gen.f k a2).bind fun t142 => (if t141 = t142 then ((pack_Next.f a2).bind fun t143 => ((treillageref01_Next.f k a2).bind fun t144 => (if t143 = t144 then ((treillagelaw01_shown.f k).bind fun t145 => (some t145)) else (some false)))) else (some false)))) else (some false)))) else (some false)) else (some false)))
theorem treillagelaw01_PackHandles.mono : ∀ a0 a1 a2 k, LeO (treillagelaw01_PackHandles.f k a0 a1 a2) (treillagelaw01_PackHandles.f (k + 1) a0 a1 a2) := by
  intro a0 a1 a2 k
  unfold treillagelaw01_PackHandles.f
  repeat' first
      | (with_reducible exact treillagelaw01_shown.mono _)
      | (with_reducible exact treillageref01_Gen.mono _ _)
      | (with_reducible exact treillageref01_Index.mono _ _)
      | (with_reducible exact treillageref01_Next.mono _ _)
      | (with_reducible exact treillageref01_Of.mono _ _ _)
      | (with_reducible exact LeO.refl _)
      | (with_reducible exact LeO.none _)
      | (with_reducible refine LeO.ite ?_ ?_)
      | (with_reducible refine LeO.bind ?_ (fun _ => ?_))
      | exact treillagelaw01_shown.mono _
      | exact treillageref01_Gen.mono _ _
      | exact treillageref01_Index.mono _ _
      | exact treillageref01_Next.mono _ _
      | exact treillageref01_Of.mono _ _ _
      | exact LeO.none _
      | refine LeO.ite ?_ ?_
      | refine LeO.bind ?_ (fun _ => ?_)
set_option maxHeartbeats 8000000 in
set_option maxRecDepth 100000 in
theorem treillagelaw01_PackHandles.calls (k : Nat) (a0 : Int) (a1 : Int) (a2 : Int) (r : Bool) (w : World) (h : treillagelaw01_PackHandles.f k a0 a1 a2 = some r) :
    Calls Try.prog 6 #[.int .i64 a0, .int .u64 a1, .int .u64 a2] w fun e w' => e = .returned (.bool r) ∧ Below w.heap.size w w' := by
  have HB := Aside0.mk (Below.refl w.heap.size w)
  have H : ((pack_Of.f a0 a1).bind fun bt135 => ((treillageref01_Of.f k a0 a1).bind fun bt137 => (if bt135.1 = bt137.1 then (if (bt135.2 == bt137.2) = true then ((pack_Index.f a2).bind fun t139 => ((treillageref01_Index.f k a2).bind fun t140 => (if t139 = t140 then ((pack_Gen.f a2).bind fun t141 => ((treillageref01_Gen.f k a2).bind fun t142 => (if t141 = t142 then ((pack_Next.f a2).bind fun t143 => ((treillageref01_Next.f k a2).bind fun t144 => (if t143 = t144 then ((treillagelaw01_shown.f k).bind fun t145 => (some t145)) else (some false)))) else (some false)))) else (some false)))) else (some false)) else (some false)))) = some r := h
  clear h
  replace H := Option.bind_eq_some_iff.mp H
  obtain ⟨⟨t135, t136⟩, A40, H⟩ := H
  replace H : ((treillageref01_Of.f k a0 a1).bind fun bt137 => (if t135 = bt137.1 then (if (t136 == bt137.2) = true then ((pack_Index.f a2).bind fun t139 => ((treillageref01_Index.f k a2).bind fun t140 => (if t139 = t140 then ((pack_Gen.f a2).bind fun t141 => ((treillageref01_Gen.f k a2).bind fun t142 => (if t141 = t142 then ((pack_Next.f a2).bind fun t143 => ((treillageref01_Next.f k a2).bind fun t144 => (if t143 = t144 then ((treillagelaw01_shown.f k).bind fun t145 => (some t145)) else (some false)))) else (some false)))) else (some false)))) else (some false)) else (some false))) = some r := H
  have A4 := Aside0.mk A40
  clear A40
  replace H := Option.bind_eq_some_iff.mp H
  obtain ⟨⟨t137, t138⟩, A50, H⟩ := H
  replace H : (if t135 = t137 then (if (t136 == t138) = true then ((pack_Index.f a2).bind fun t139 => ((treillageref01_Index.f k a2).bind fun t140 => (if t139 = t140 then ((pack_Gen.f a2).bind fun t141 => ((treillageref01_Gen.f k a2).bind fun t142 => (if t141 = t142 then ((pack_Next.f a2).bind fun t143 => ((treillageref01_Next.f k a2).bind fun t144 => (if t143 = t144 then ((treillagelaw01_shown.f k).bind fun t145 => (some t145)) else (some false)))) else (some false)))) else (some false)))) else (some false)) else (some false)) = some r := H
  have A5 := Aside0.mk A50
  clear A50
  by_cases c6 : t135 = t137
  · rw [if_pos c6] at H
    have c6b0 : (t135 == t137) = true := beq_iff_eq.mpr c6
    have c6b1 : (t135 != t137) = false := bne_eq_false_iff_eq.mpr c6
    clear c6
    by_cases c7 : (t136 == t138) = true
    · rw [if_pos c7] at H
      have c7b0 : (t136 == t138) = true := c7
      (try (have c7b1 : decide (t136 = t138) = true := by simpa using c7))
      (try (have c7b2 : (t136 == t138) = true := by simpa using c7))
      clear c7
      replace H := Option.bind_eq_some_iff.mp H
      obtain ⟨t139, A80, H⟩ := H
      replace H : ((treillageref01_Index.f k a2).bind fun t140 => (if t139 = t140 then ((pack_Gen.f a2).bind fun t141 => ((treillageref01_Gen.f k a2).bind fun t142 => (if t141 = t142 then ((pack_Next.f a2).bind fun t143 => ((treillageref01_Next.f k a2).bind fun t144 => (if t143 = t144 then ((treillagelaw01_shown.f k).bind fun t145 => (some t145)) else (some false)))) else (some false)))) else (some false))) = some r := H
      have A8 := Aside0.mk A80
      clear A80
      replace H := Option.bind_eq_some_iff.mp H
      obtain ⟨t140, A90, H⟩ := H
      replace H : (if t139 = t140 then ((pack_Gen.f a2).bind fun t141 => ((treillageref01_Gen.f k a2).bind fun t142 => (if t141 = t142 then ((pack_Next.f a2).bind fun t143 => ((treillageref01_Next.f k a2).bind fun t144 => (if t143 = t144 then ((treillagelaw01_shown.f k).bind fun t145 => (some t145)) else (some false)))) else (some false)))) else (some false)) = some r := H
      have A9 := Aside0.mk A90
      clear A90
      by_cases c10 : t139 = t140
      · rw [if_pos c10] at H
        have c10b0 : (t139 == t140) = true := beq_iff_eq.mpr c10
        have c10b1 : (t139 != t140) = false := bne_eq_false_iff_eq.mpr c10
        clear c10
        replace H := Option.bind_eq_some_iff.mp H
        obtain ⟨t141, A110, H⟩ := H
        replace H : ((treillageref01_Gen.f k a2).bind fun t142 => (if t141 = t142 then ((pack_Next.f a2).bind fun t143 => ((treillageref01_Next.f k a2).bind fun t144 => (if t143 = t144 then ((treillagelaw01_shown.f k).bind fun t145 => (some t145)) else (some false)))) else (some false))) = some r := H
        have A11 := Aside0.mk A110
        clear A110
        replace H := Option.bind_eq_some_iff.mp H
        obtain ⟨t142, A120, H⟩ := H
        replace H : (if t141 = t142 then ((pack_Next.f a2).bind fun t143 => ((treillageref01_Next.f k a2).bind fun t144 => (if t143 = t144 then ((treillagelaw01_shown.f k).bind fun t145 => (some t145)) else (some false)))) else (some false)) = some r := H
        have A12 := Aside0.mk A120
        clear A120
        by_cases c13 : t141 = t142
        · rw [if_pos c13] at H
          have c13b0 : (t141 == t142) = true := beq_iff_eq.mpr c13
          have c13b1 : (t141 != t142) = false := bne_eq_false_iff_eq.mpr c13
          clear c13
          replace H := Option.bind_eq_some_iff.mp H
          obtain ⟨t143, A140, H⟩ := H
          replace H : ((treillageref01_Next.f k a2).bind fun t144 => (if t143 = t144 then ((treillagelaw01_shown.f k).bind fun t145 => (some t145)) else (some false))) = some r := H
          have A14 := Aside0.mk A140
          clear A140
          replace H := Option.bind_eq_some_iff.mp H
          obtain ⟨t144, A150, H⟩ := H
          replace H : (if t143 = t144 then ((treillagelaw01_shown.f k).bind fun t145 => (some t145)) else (some false)) = some r := H
          have A15 := Aside0.mk A150
          clear A150
          by_cases c16 : t143 = t144
          · rw [if_pos c16] at H
            have c16b0 : (t143 == t144) = true := beq_iff_eq.mpr c16
            have c16b1 : (t143 != t144) = false := bne_eq_false_iff_eq.mpr c16
            clear c16
            replace H := Option.bind_eq_some_iff.mp H
            obtain ⟨t145, A170, H⟩ := H
            replace H : (some t145) = some r := H
            have A17 := Aside0.mk A170
            clear A170
            obtain rfl := Option.some.inj H
            go_enter Try.func6, Try.ntmps6
            go_wp2_with (first | ((with_reducible refine gate_callee (f := 17) rfl ?_); refine goesL_ (some 14) rfl rfl Try.func17 (by kernel_rfl) rfl #[.int .i64 a0, .int .u64 a1] rfl (by (try simp only [List.map_toArray, List.map_cons, List.map_nil]); first | done | rfl | (simp only [List.length_drop, List.length_take]; rfl)) ?_; (with_reducible refine (pack_Of.calls a0 a1 t135 t136 _ A4.out).mono ?_); rintro e w' ⟨rfl, ⟨nd, rfl⟩⟩; refine ⟨_, rfl, ?_⟩) | ((with_reducible refine gate_callee (f := 20) rfl ?_); refine goesL_ (some 20) rfl rfl Try.func20 (by kernel_rfl) rfl #[.int .i64 a0, .int .u64 a1] rfl (by (try simp only [List.map_toArray, List.map_cons, List.map_nil]); first | done | rfl | (simp only [List.length_drop, List.length_take]; rfl)) ?_; (with_reducible refine (treillageref01_Of.calls k a0 a1 t137 t138 _ A5.out).mono ?_); rintro e w' ⟨rfl, ⟨nd, rfl⟩⟩; refine ⟨_, rfl, ?_⟩) | (go_at_call 18; (with_reducible refine (pack_Index.calls a2 t139 _ A8.out).mono ?_); rintro e w' ⟨rfl, ⟨nd, rfl⟩⟩) | (go_at_call 21; (with_reducible refine (treillageref01_Index.calls k a2 t140 _ A9.out).mono ?_); rintro e w' ⟨rfl, ⟨nd, rfl⟩⟩) | (go_at_call 19; (with_reducible refine (pack_Gen.calls a2 t141 _ A11.out).mono ?_); rintro e w' ⟨rfl, ⟨nd, rfl⟩⟩) | (go_at_call 22; (with_reducible refine (treillageref01_Gen.calls k a2 t142 _ A12.out).mono ?_); rintro e w' ⟨rfl, ⟨nd, rfl⟩⟩) | (go_at_call 23; (with_reducible refine (pack_Next.calls a2 t143 _ A14.out).mono ?_); rintro e w' ⟨rfl, ⟨nd, rfl⟩⟩) | (go_at_call 24; (with_reducible refine (treillageref01_Next.calls k a2 t144 _ A15.out).mono ?_); rintro e w' ⟨rfl, ⟨nd, rfl⟩⟩) | (go_at_call 12; (with_reducible refine (treillagelaw01_shown.calls k  t145 _ A17.out).mono ?_); rintro e w18 ⟨rfl, hb⟩; have n0_ := Aside0.mk (below_step (by repeat (first | (with_reducible first | exact HB.out | apply below_alloc | apply pw_below_drewN | apply below_drew1) | exact HB.out)) hb); clear HB; have HB := n0_; clear n0_; (try clear hb); (try clear hb2); (try clear hk); (try clear hi)))
            go_ret
            exact ⟨by first | rfl | (simp [errW_none, errW_some] <;> rfl) | (simp [*, errW_none, errW_some] <;> rfl), by repeat (first | (with_reducible first | exact HB.out | apply below_alloc | apply pw_below_drewN | apply below_drew1) | exact HB.out)⟩
          · rw [if_neg c16] at H
            have c16b0 : (t143 == t144) = false := beq_eq_false_iff_ne.mpr c16
            have c16b1 : (t143 != t144) = true := bne_iff_ne.mpr c16
            obtain rfl := Option.some.inj H
            go_enter Try.func6, Try.ntmps6
            go_wp2_with (first | ((with_reducible refine gate_callee (f := 17) rfl ?_); refine goesL_ (some 14) rfl rfl Try.func17 (by kernel_rfl) rfl #[.int .i64 a0, .int .u64 a1] rfl (by (try simp only [List.map_toArray, List.map_cons, List.map_nil]); first | done | rfl | (simp only [List.length_drop, List.length_take]; rfl)) ?_; (with_reducible refine (pack_Of.calls a0 a1 t135 t136 _ A4.out).mono ?_); rintro e w' ⟨rfl, ⟨nd, rfl⟩⟩; refine ⟨_, rfl, ?_⟩) | ((with_reducible refine gate_callee (f := 20) rfl ?_); refine goesL_ (some 20) rfl rfl Try.func20 (by kernel_rfl) rfl #[.int .i64 a0, .int .u64 a1] rfl (by (try simp only [List.map_toArray, List.map_cons, List.map_nil]); first | done | rfl | (simp only [List.length_drop, List.length_take]; rfl)) ?_; (with_reducible refine (treillageref01_Of.calls k a0 a1 t137 t138 _ A5.out).mono ?_); rintro e w' ⟨rfl, ⟨nd, rfl⟩⟩; refine ⟨_, rfl, ?_⟩) | (go_at_call 18; (with_reducible refine (pack_Index.calls a2 t139 _ A8.out).mono ?_); rintro e w' ⟨rfl, ⟨nd, rfl⟩⟩) | (go_at_call 21; (with_reducible refine (treillageref01_Index.calls k a2 t140 _ A9.out).mono ?_); rintro e w' ⟨rfl, ⟨nd, rfl⟩⟩) | (go_at_call 19; (with_reducible refine (pack_Gen.calls a2 t141 _ A11.out).mono ?_); rintro e w' ⟨rfl, ⟨nd, rfl⟩⟩) | (go_at_call 22; (with_reducible refine (treillageref01_Gen.calls k a2 t142 _ A12.out).mono ?_); rintro e w' ⟨rfl, ⟨nd, rfl⟩⟩) | (go_at_call 23; (with_reducible refine (pack_Next.calls a2 t143 _ A14.out).mono ?_); rintro e w' ⟨rfl, ⟨nd, rfl⟩⟩) | (go_at_call 24; (with_reducible refine (treillageref01_Next.calls k a2 t144 _ A15.out).mono ?_); rintro e w' ⟨rfl, ⟨nd, rfl⟩⟩))
            go_ret
            exact ⟨by first | rfl | (simp [errW_none, errW_some] <;> rfl) | (simp [*, errW_none, errW_some] <;> rfl), by repeat (first | (with_reducible first | exact HB.out | apply below_alloc | apply pw_below_drewN | apply below_drew1) | exact HB.out)⟩
        · rw [if_neg c13] at H
          have c13b0 : (t141 == t142) = false := beq_eq_false_iff_ne.mpr c13
          have c13b1 : (t141 != t142) = true := bne_iff_ne.mpr c13
          obtain rfl := Option.some.inj H
          go_enter Try.func6, Try.ntmps6
          go_wp2_with (first | ((with_reducible refine gate_callee (f := 17) rfl ?_); refine goesL_ (some 14) rfl rfl Try.func17 (by kernel_rfl) rfl #[.int .i64 a0, .int .u64 a1] rfl (by (try simp only [List.map_toArray, List.map_cons, List.map_nil]); first | done | rfl | (simp only [List.length_drop, List.length_take]; rfl)) ?_; (with_reducible refine (pack_Of.calls a0 a1 t135 t136 _ A4.out).mono ?_); rintro e w' ⟨rfl, ⟨nd, rfl⟩⟩; refine ⟨_, rfl, ?_⟩) | ((with_reducible refine gate_callee (f := 20) rfl ?_); refine goesL_ (some 20) rfl rfl Try.func20 (by kernel_rfl) rfl #[.int .i64 a0, .int .u64 a1] rfl (by (try simp only [List.map_toArray, List.map_cons, List.map_nil]); first | done | rfl | (simp only [List.length_drop, List.length_take]; rfl)) ?_; (with_reducible refine (treillageref01_Of.calls k a0 a1 t137 t138 _ A5.out).mono ?_); rintro e w' ⟨rfl, ⟨nd, rfl⟩⟩; refine ⟨_, rfl, ?_⟩) | (go_at_call 18; (with_reducible refine (pack_Index.calls a2 t139 _ A8.out).mono ?_); rintro e w' ⟨rfl, ⟨nd, rfl⟩⟩) | (go_at_call 21; (with_reducible refine (treillageref01_Index.calls k a2 t140 _ A9.out).mono ?_); rintro e w' ⟨rfl, ⟨nd, rfl⟩⟩) | (go_at_call 19; (with_reducible refine (pack_Gen.calls a2 t141 _ A11.out).mono ?_); rintro e w' ⟨rfl, ⟨nd, rfl⟩⟩) | (go_at_call 22; (with_reducible refine (treillageref01_Gen.calls k a2 t142 _ A12.out).mono ?_); rintro e w' ⟨rfl, ⟨nd, rfl⟩⟩))
          go_ret
          exact ⟨by first | rfl | (simp [errW_none, errW_some] <;> rfl) | (simp [*, errW_none, errW_some] <;> rfl), by repeat (first | (with_reducible first | exact HB.out | apply below_alloc | apply pw_below_drewN | apply below_drew1) | exact HB.out)⟩
      · rw [if_neg c10] at H
        have c10b0 : (t139 == t140) = false := beq_eq_false_iff_ne.mpr c10
        have c10b1 : (t139 != t140) = true := bne_iff_ne.mpr c10
        obtain rfl := Option.some.inj H
        go_enter Try.func6, Try.ntmps6
        go_wp2_with (first | ((with_reducible refine gate_callee (f := 17) rfl ?_); refine goesL_ (some 14) rfl rfl Try.func17 (by kernel_rfl) rfl #[.int .i64 a0, .int .u64 a1] rfl (by (try simp only [List.map_toArray, List.map_cons, List.map_nil]); first | done | rfl | (simp only [List.length_drop, List.length_take]; rfl)) ?_; (with_reducible refine (pack_Of.calls a0 a1 t135 t136 _ A4.out).mono ?_); rintro e w' ⟨rfl, ⟨nd, rfl⟩⟩; refine ⟨_, rfl, ?_⟩) | ((with_reducible refine gate_callee (f := 20) rfl ?_); refine goesL_ (some 20) rfl rfl Try.func20 (by kernel_rfl) rfl #[.int .i64 a0, .int .u64 a1] rfl (by (try simp only [List.map_toArray, List.map_cons, List.map_nil]); first | done | rfl | (simp only [List.length_drop, List.length_take]; rfl)) ?_; (with_reducible refine (treillageref01_Of.calls k a0 a1 t137 t138 _ A5.out).mono ?_); rintro e w' ⟨rfl, ⟨nd, rfl⟩⟩; refine ⟨_, rfl, ?_⟩) | (go_at_call 18; (with_reducible refine (pack_Index.calls a2 t139 _ A8.out).mono ?_); rintro e w' ⟨rfl, ⟨nd, rfl⟩⟩) | (go_at_call 21; (with_reducible refine (treillageref01_Index.calls k a2 t140 _ A9.out).mono ?_); rintro e w' ⟨rfl, ⟨nd, rfl⟩⟩))
        go_ret
        exact ⟨by first | rfl | (simp [errW_none, errW_some] <;> rfl) | (simp [*, errW_none, errW_some] <;> rfl), by repeat (first | (with_reducible first | exact HB.out | apply below_alloc | apply pw_below_drewN | apply below_drew1) | exact HB.out)⟩
    · rw [if_neg c7] at H
      have c7b0 : (t136 == t138) = false := by simpa using c7
      (try (have c7b1 : decide (t136 = t138) = false := by simpa using c7))
      (try (have c7b2 : (t136 == t138) = false := by simpa using c7))
      (try (have c7b3 : ¬ (t136 = t138) := by simpa using c7))
      clear c7
      obtain rfl := Option.some.inj H
      go_enter Try.func6, Try.ntmps6
      go_wp2_with (first | ((with_reducible refine gate_callee (f := 17) rfl ?_); refine goesL_ (some 14) rfl rfl Try.func17 (by kernel_rfl) rfl #[.int .i64 a0, .int .u64 a1] rfl (by (try simp only [List.map_toArray, List.map_cons, List.map_nil]); first | done | rfl | (simp only [List.length_drop, List.length_take]; rfl)) ?_; (with_reducible refine (pack_Of.calls a0 a1 t135 t136 _ A4.out).mono ?_); rintro e w' ⟨rfl, ⟨nd, rfl⟩⟩; refine ⟨_, rfl, ?_⟩) | ((with_reducible refine gate_callee (f := 20) rfl ?_); refine goesL_ (some 20) rfl rfl Try.func20 (by kernel_rfl) rfl #[.int .i64 a0, .int .u64 a1] rfl (by (try simp only [List.map_toArray, List.map_cons, List.map_nil]); first | done | rfl | (simp only [List.length_drop, List.length_take]; rfl)) ?_; (with_reducible refine (treillageref01_Of.calls k a0 a1 t137 t138 _ A5.out).mono ?_); rintro e w' ⟨rfl, ⟨nd, rfl⟩⟩; refine ⟨_, rfl, ?_⟩))
      go_ret
      exact ⟨by first | rfl | (simp [errW_none, errW_some] <;> rfl) | (simp [*, errW_none, errW_some] <;> rfl), by repeat (first | (with_reducible first | exact HB.out | apply below_alloc | apply pw_below_drewN | apply below_drew1) | exact HB.out)⟩
  · rw [if_neg c6] at H
    have c6b0 : (t135 == t137) = false := beq_eq_false_iff_ne.mpr c6
    have c6b1 : (t135 != t137) = true := bne_iff_ne.mpr c6
    obtain rfl := Option.some.inj H
    go_enter Try.func6, Try.ntmps6
    go_wp2_with (first | ((with_reducible refine gate_callee (f := 17) rfl ?_); refine goesL_ (some 14) rfl rfl Try.func17 (by kernel_rfl) rfl #[.int .i64 a0, .int .u64 a1] rfl (by (try simp only [List.map_toArray, List.map_cons, List.map_nil]); first | done | rfl | (simp only [List.length_drop, List.length_take]; rfl)) ?_; (with_reducible refine (pack_Of.calls a0 a1 t135 t136 _ A4.out).mono ?_); rintro e w' ⟨rfl, ⟨nd, rfl⟩⟩; refine ⟨_, rfl, ?_⟩) | ((with_reducible refine gate_callee (f := 20) rfl ?_); refine goesL_ (some 20) rfl rfl Try.func20 (by kernel_rfl) rfl #[.int .i64 a0, .int .u64 a1] rfl (by (try simp only [List.map_toArray, List.map_cons, List.map_nil]); first | done | rfl | (simp only [List.length_drop, List.length_take]; rfl)) ?_; (with_reducible refine (treillageref01_Of.calls k a0 a1 t137 t138 _ A5.out).mono ?_); rintro e w' ⟨rfl, ⟨nd, rfl⟩⟩; refine ⟨_, rfl, ?_⟩))
    go_ret
    exact ⟨by first | rfl | (simp [errW_none, errW_some] <;> rfl) | (simp [*, errW_none, errW_some] <;> rfl), by repeat (first | (with_reducible first | exact HB.out | apply below_alloc | apply pw_below_drewN | apply below_drew1) | exact HB.out)⟩

/-- THE ONE PURE STATEMENT of treillagelaw01_PackHandles: yours. -/
def treillagelaw01_PackHandles.Pure : Prop := ∀ (a0 : Int) (a1 : Int) (a2 : Int), (Lit.int .i64 a0).wf = true → (Lit.int .u64 a1).wf = true → (Lit.int .u64 a2).wf = true → ∃ k, treillagelaw01_PackHandles.f k a0 a1 a2 = some true
theorem treillagelaw01_PackHandles.walk (P : treillagelaw01_PackHandles.Pure) (a0 : Int) (a1 : Int) (a2 : Int) (w : World) (w0 : (Lit.int .i64 a0).wf = true) (w1 : (Lit.int .u64 a1).wf = true) (w2 : (Lit.int .u64 a2).wf = true) :
    Calls Try.prog 6 #[.int .i64 a0, .int .u64 a1, .int .u64 a2] w fun e w' => e = .returned (.bool true) ∧ Below w.heap.size w w' := by
  obtain ⟨k, h⟩ := P a0 a1 a2 w0 w1 w2
  refine (treillagelaw01_PackHandles.calls k a0 a1 a2 true w h).mono ?_
  rintro e w' ⟨rfl, hd⟩
  exact ⟨rfl, hd⟩

end Go.Proofs.Ythopfipaaboffaa.PA
