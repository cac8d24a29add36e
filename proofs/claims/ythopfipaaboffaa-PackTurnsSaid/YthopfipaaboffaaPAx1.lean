-- Written by wip/hprint/hprint.py (a program of this session, over the print): not typed by hand
import Derived.Test.YthopfipaaboffaaPAx0
namespace Go.Proofs.Ythopfipaaboffaa.PA
open Go.RowKit Go.Proofs.YthopfipaaboffaaW.PrintWords Go.Proofs.YthopfipaaboffaaW.PrintLast Go.Proofs.YthopfipaaboffaaW.PrintMore
attribute [local go_sem] max2_int min2_int max_two min_two max_three min_three max_four min_four   -- for this text's walks alone
open Go.Proofs.YthopfipaaboffaaH
set_option linter.unusedVariables false
set_option linter.unusedSimpArgs false

/-! ### pack_Zig: function 13 -/
def pack_Zig.f (a0 : Int) : Option (Int) := some (Go.bits .xor .u64 (IntKind.u64.wrap (wrap64 (a0 * 2))) (IntKind.u64.wrap (a0 / 9223372036854775808)))
set_option maxHeartbeats 8000000 in
set_option maxRecDepth 100000 in
theorem pack_Zig.calls (a0 : Int) (r : Int) (w : World) (h : pack_Zig.f a0 = some r) :
    Calls Try.prog 13 #[.int .i64 a0] w fun e w' => e = .returned (.int .u64 r) ∧ Drawn0 w w' := by
  have H : (some (Go.bits .xor .u64 (IntKind.u64.wrap (wrap64 (a0 * 2))) (IntKind.u64.wrap (a0 / 9223372036854775808)))) = some r := h
  clear h
  obtain rfl := Option.some.inj H
  go_enter Try.func13, Try.ntmps13
  go_wp2
  go_ret
  exact ⟨by first | rfl | (simp; done) | (simp [*]; done), by repeat (first | exact Drawn0.refl _ | apply Drawn0.step)⟩

/-! ### pack_Of: function 17 -/
def pack_Of.f (a0 : Int) (a1 : Int) : Option (Int × Bool) := if (Go.bits .andNot .u64 (IntKind.u64.wrap (a0)) 16777215) = 0 then (if (a1 / 1099511627776) = 0 then (some (Go.bits .or .u64 (IntKind.u64.wrap (a1 * 16777216)) (IntKind.u64.wrap (a0)), true)) else (some (0, false))) else (some (0, false))
set_option maxHeartbeats 8000000 in
set_option maxRecDepth 100000 in
theorem pack_Of.calls (a0 : Int) (a1 : Int) (r1 : Int) (r2 : Bool) (w : World) (h : pack_Of.f a0 a1 = some (r1, r2)) :
    Calls Try.prog 17 #[.int .i64 a0, .int .u64 a1] w fun e w' => e = .returned (.tuple #[.int .u64 r1, .bool r2]) ∧ Drawn0 w w' := by
  have H : (if (Go.bits .andNot .u64 (IntKind.u64.wrap (a0)) 16777215) = 0 then (if (a1 / 1099511627776) = 0 then (some (Go.bits .or .u64 (IntKind.u64.wrap (a1 * 16777216)) (IntKind.u64.wrap (a0)), true)) else (some (0, false))) else (some (0, false))) = some (r1, r2) := h
  clear h
  by_cases c3 : (Go.bits .andNot .u64 (IntKind.u64.wrap (a0)) 16777215) = 0
  · rw [if_pos c3] at H
    have c3b0 : ((Go.bits .andNot .u64 (IntKind.u64.wrap (a0)) 16777215) == 0) = true := beq_iff_eq.mpr c3
    have c3b1 : ((Go.bits .andNot .u64 (IntKind.u64.wrap (a0)) 16777215) != 0) = false := bne_eq_false_iff_eq.mpr c3
    clear c3
    by_cases c4 : (a1 / 1099511627776) = 0
    · rw [if_pos c4] at H
      have c4b0 : ((a1 / 1099511627776) == 0) = true := beq_iff_eq.mpr c4
      have c4b1 : ((a1 / 1099511627776) != 0) = false := bne_eq_false_iff_eq.mpr c4
      clear c4
      simp only [Option.some.injEq, Prod.mk.injEq] at H
      obtain ⟨rfl, rfl⟩ := H
      go_enter Try.func17, Try.ntmps17
      go_wp2
      go_ret2
      exact ⟨by first | rfl | (simp; done) | (simp [*]; done), by repeat (first | exact Drawn0.refl _ | apply Drawn0.step)⟩
    · rw [if_neg c4] at H
      have c4b0 : ((a1 / 1099511627776) == 0) = false := beq_eq_false_iff_ne.mpr c4
      have c4b1 : ((a1 / 1099511627776) != 0) = true := bne_iff_ne.mpr c4
      simp only [Option.some.injEq, Prod.mk.injEq] at H
      obtain ⟨rfl, rfl⟩ := H
      go_enter Try.func17, Try.ntmps17
      go_wp2
      go_ret2
      exact ⟨by first | rfl | (simp; done) | (simp [*]; done), by repeat (first | exact Drawn0.refl _ | apply Drawn0.step)⟩
  · rw [if_neg c3] at H
    have c3b0 : ((Go.bits .andNot .u64 (IntKind.u64.wrap (a0)) 16777215) == 0) = false := beq_eq_false_iff_ne.mpr c3
    have c3b1 : ((Go.bits .andNot .u64 (IntKind.u64.wrap (a0)) 16777215) != 0) = true := bne_iff_ne.mpr c3
    simp only [Option.some.injEq, Prod.mk.injEq] at H
    obtain ⟨rfl, rfl⟩ := H
    go_enter Try.func17, Try.ntmps17
    go_wp2
    go_ret2
    exact ⟨by first | rfl | (simp; done) | (simp [*]; done), by repeat (first | exact Drawn0.refl _ | apply Drawn0.step)⟩

/-! ### pack_Levels: function 27 -/
def pack_Levels.l0 : Nat → Int → Int → Option (Int)
  | 0, _, _ => none
  | k + 1, x2, x3 => if x3 > 0 then (pack_Levels.l0 k (wrap64 (x2 + 1)) (x3 / 4)) else (some x2)
def pack_Levels.f (k : Nat) (a0 : Int) : Option (Int) := if a0 < 2 then (some 0) else (pack_Levels.l0 k 0 (IntKind.u64.wrap ((IntKind.u64.wrap (a0)) - 1)))
theorem pack_Levels.mono_l : ∀ k, (∀ y0 y1, LeO (pack_Levels.l0 k y0 y1) (pack_Levels.l0 (k + 1) y0 y1))
  | 0 => fun _ _ r h => by simp [pack_Levels.l0] at h
  | k + 1 => by
    have ih0 := pack_Levels.mono_l k
    · intro y0 y1
      unfold pack_Levels.l0
      repeat' first
      | (with_reducible exact ih0 _ _)
      | (with_reducible exact LeO.refl _)
      | (with_reducible exact LeO.none _)
      | (with_reducible refine LeO.ite ?_ ?_)
      | (with_reducible refine LeO.bind ?_ (fun _ => ?_))
      | exact ih0 _ _
      | exact LeO.none _
      | refine LeO.ite ?_ ?_
      | refine LeO.bind ?_ (fun _ => ?_)
theorem pack_Levels.mono : ∀ a0 k, LeO (pack_Levels.f k a0) (pack_Levels.f (k + 1) a0) := by
  intro a0 k
  have ih0 := pack_Levels.mono_l k
  unfold pack_Levels.f
  repeat' first
      | (with_reducible exact ih0 _ _)
      | (with_reducible exact LeO.refl _)
      | (with_reducible exact LeO.none _)
      | (with_reducible refine LeO.ite ?_ ?_)
      | (with_reducible refine LeO.bind ?_ (fun _ => ?_))
      | exact ih0 _ _
      | exact LeO.none _
      | refine LeO.ite ?_ ?_
      | refine LeO.bind ?_ (fun _ => ?_)
set_option maxHeartbeats 8000000 in
set_option maxRecDepth 100000 in
theorem pack_Levels.calls (k : Nat) (a0 : Int) (r : Int) (w : World) (h : pack_Levels.f k a0 = some r) :
    Calls Try.prog 27 #[.int .i64 a0] w fun e w' => e = .returned (.int .i64 r) ∧ Drawn0 w w' := by
  have H : (if a0 < 2 then (some 0) else (pack_Levels.l0 k 0 (IntKind.u64.wrap ((IntKind.u64.wrap (a0)) - 1)))) = some r := h
  clear h
  by_cases c2 : a0 < 2
  · rw [if_pos c2] at H
    have c2b0 : decide (a0 < 2) = true := decide_eq_true c2
    clear c2
    obtain rfl := Option.some.inj H
    go_enter Try.func27, Try.ntmps27
    go_wp2
    go_ret
    exact ⟨by first | rfl | (simp; done) | (simp [*]; done), by repeat (first | exact Drawn0.refl _ | apply Drawn0.step)⟩
  · rw [if_neg c2] at H
    have c2b0 : decide (a0 < 2) = false := decide_eq_false c2
    clear c2
    have H' := Aside0.mk H
    clear H
    go_enter Try.func27, Try.ntmps27
    go_wp2
    go_loopg [2, 3] k (fun kq v2 v3 w' => ∃ (x2_1 : Int) (x3_1 : Int), v2 = .int .i64 x2_1 ∧ v3 = .int .u64 x3_1 ∧ Aside0 (pack_Levels.l0 kq x2_1 x3_1 = some r) ∧ Aside0 (kq ≤ k) ∧ Drawn0 w w')
    case atStart => exact ⟨(0), (IntKind.u64.wrap ((IntKind.u64.wrap (a0)) - 1)), (by first | rfl | (simp; done) | (simp [*]; done)), (by first | rfl | (simp; done) | (simp [*]; done)), H', ⟨Nat.le_refl _⟩, by repeat (first | exact Drawn0.refl _ | apply Drawn0.step)⟩
    case round =>
      clear H'
      try clear c2
      try clear c2b0
      try clear p2
      obtain ⟨x2_1, x3_1, rfl, rfl, HA, HK1, ⟨m1, rfl⟩⟩ := hrel
      cases gk with
      | zero => exact absurd HA.out (by simp [pack_Levels.l0])
      | succ k1 =>
        have H := HA.out
        clear HA
        simp only [pack_Levels.l0] at H
        by_cases c3 : x3_1 > 0
        · rw [if_pos c3] at H
          have c3b0 : decide (0 < x3_1) = true := decide_eq_true c3
          clear c3
          have H' := Aside0.mk H
          clear H
          go_wp2
          go_roundg k1
          case measure => have := HK1.out; omega
          case rel => exact ⟨(wrap64 (x2_1 + 1)), (x3_1 / 4), (by first | rfl | (simp; done) | (simp [*]; done)), (by first | rfl | (simp; done) | (simp [*]; done)), H', ⟨by have := HK1.out; omega⟩, by repeat (first | exact Drawn0.refl _ | apply Drawn0.step)⟩
        · rw [if_neg c3] at H
          have c3b0 : decide (0 < x3_1) = false := decide_eq_false c3
          clear c3
          obtain rfl := Option.some.inj H
          go_wp2
          go_ret
          exact ⟨by first | rfl | (simp; done) | (simp [*]; done), by repeat (first | exact Drawn0.refl _ | apply Drawn0.step)⟩

/-! ### pack_size: function 36 -/
def pack_size.l0 : Nat → Int → Int → Option (Int)
  | 0, _, _ => none
  | k + 1, x0, x2 => if x0 = 0 then (some x2) else (pack_size.l0 k (x0 / 256) (wrap64 (x2 + 1)))
def pack_size.f (k : Nat) (a0 : Int) : Option (Int) := pack_size.l0 k a0 0
theorem pack_size.mono_l : ∀ k, (∀ y0 y1, LeO (pack_size.l0 k y0 y1) (pack_size.l0 (k + 1) y0 y1))
  | 0 => fun _ _ r h => by simp [pack_size.l0] at h
  | k + 1 => by
    have ih0 := pack_size.mono_l k
    · intro y0 y1
      unfold pack_size.l0
      repeat' first
      | (with_reducible exact ih0 _ _)
      | (with_reducible exact LeO.refl _)
      | (with_reducible exact LeO.none _)
      | (with_reducible refine LeO.ite ?_ ?_)
      | (with_reducible refine LeO.bind ?_ (fun _ => ?_))
      | exact ih0 _ _
      | exact LeO.none _
      | refine LeO.ite ?_ ?_
      | refine LeO.bind ?_ (fun _ => ?_)
theorem pack_size.mono : ∀ a0 k, LeO (pack_size.f k a0) (pack_size.f (k + 1) a0) := by
  intro a0 k
  have ih0 := pack_size.mono_l k
  unfold pack_size.f
  repeat' first
      | (with_reducible exact ih0 _ _)
      | (with_reducible exact LeO.refl _)
      | (with_reducible exact LeO.none _)
      | (with_reducible refine LeO.ite ?_ ?_)
      | (with_reducible refine LeO.bind ?_ (fun _ => ?_))
      | exact ih0 _ _
      | exact LeO.none _
      | refine LeO.ite ?_ ?_
      | refine LeO.bind ?_ (fun _ => ?_)
set_option maxHeartbeats 8000000 in
set_option maxRecDepth 100000 in
theorem pack_size.calls (k : Nat) (a0 : Int) (r : Int) (w : World) (h : pack_size.f k a0 = some r) :
    Calls Try.prog 36 #[.int .u64 a0] w fun e w' => e = .returned (.int .i64 r) ∧ Drawn0 w w' := by
  have H : (pack_size.l0 k a0 0) = some r := h
  clear h
  have H' := Aside0.mk H
  clear H
  go_enter Try.func36, Try.ntmps36
  go_wp2
  go_loopg [0, 2] k (fun kq v0 v2 w' => ∃ (x0_1 : Int) (x2_1 : Int), v0 = .int .u64 x0_1 ∧ v2 = .int .i64 x2_1 ∧ Aside0 (pack_size.l0 kq x0_1 x2_1 = some r) ∧ Aside0 (kq ≤ k) ∧ Drawn0 w w')
  case atStart => exact ⟨(a0), (0), (by first | rfl | (simp; done) | (simp [*]; done)), (by first | rfl | (simp; done) | (simp [*]; done)), H', ⟨Nat.le_refl _⟩, by repeat (first | exact Drawn0.refl _ | apply Drawn0.step)⟩
  case round =>
    clear H'
    obtain ⟨x0_1, x2_1, rfl, rfl, HA, HK1, ⟨m1, rfl⟩⟩ := hrel
    cases gk with
    | zero => exact absurd HA.out (by simp [pack_size.l0])
    | succ k1 =>
      have H := HA.out
      clear HA
      simp only [pack_size.l0] at H
      by_cases c2 : x0_1 = 0
      · rw [if_pos c2] at H
        have c2b0 : (x0_1 == 0) = true := beq_iff_eq.mpr c2
        have c2b1 : (x0_1 != 0) = false := bne_eq_false_iff_eq.mpr c2
        clear c2
        obtain rfl := Option.some.inj H
        go_wp2
        go_ret
        exact ⟨by first | rfl | (simp; done) | (simp [*]; done), by repeat (first | exact Drawn0.refl _ | apply Drawn0.step)⟩
      · rw [if_neg c2] at H
        have c2b0 : (x0_1 == 0) = false := beq_eq_false_iff_ne.mpr c2
        have c2b1 : (x0_1 != 0) = true := bne_iff_ne.mpr c2
        have H' := Aside0.mk H
        clear H
        go_wp2
        go_roundg k1
        case measure => have := HK1.out; omega
        case rel => exact ⟨(x0_1 / 256), (wrap64 (x2_1 + 1)), (by first | rfl | (simp; done) | (simp [*]; done)), (by first | rfl | (simp; done) | (simp [*]; done)), H', ⟨by have := HK1.out; omega⟩, by repeat (first | exact Drawn0.refl _ | apply Drawn0.step)⟩

/-! ### pack_Bytes: function 33 -/
/-- The bytes of a number, behind a byte of how many these are. -/
def packB (n u : Int) : List Int := n :: (List.range n.toNat).map (fun i => u / 256 ^ i % 256)
def pack_Bytes.f (k : Nat) (a0 : Int) : Option ByteArray := (pack_size.f k a0).bind fun n => if 0 ≤ n ∧ n ≤ 8 ∧ 0 ≤ a0 then some (strOfNums (packB n a0)) else none
theorem pack_Bytes.mono : ∀ a0 k, LeO (pack_Bytes.f k a0) (pack_Bytes.f (k + 1) a0) := by
  intro a0 k
  unfold pack_Bytes.f
  exact LeO.bind (pack_size.mono _ _) (fun _ => LeO.refl _)
set_option maxHeartbeats 800000 in
set_option maxRecDepth 100000 in
theorem pack_Bytes_at0 (k : Nat) (u : Int) (w : World) (h0 : 0 ≤ u) (h : pack_size.f k u = some 0) : Calls Try.prog 33 #[.int .u64 u] w fun e w' => e = .returned (.string (strOfNums [0])) ∧ Below w.heap.size w w' := by
  have H := Aside0.mk h
  clear h
  go_enter Try.func33, Try.ntmps33
  go_wp2_with (first
    | ((with_reducible refine gate_dst (N := 3) rfl ?_); refine box_event (N := 3) rfl rfl (cs := #[.int .u8 0, .int .u8 0, .int .u8 0, .int .u8 0, .int .u8 0, .int .u8 0, .int .u8 0, .int .u8 0, .int .u8 0]) (t := 50) (by first | (go_simp; done) | (go_simp; rfl)) ?_; intro g hg w1 hb HB; have HG := Nat.le_of_eq hg.symm; clear hg)
    | (go_at_call 36; refine (pack_size.calls k _ 0 _ H.out).mono ?_; rintro e w2 ⟨rfl, ⟨⟨n, rfl⟩⟩⟩; have hb1 := blk_drewN hb n; have HB1 := pw_below_drewN HB n; clear hb HB; have hb := hb1; have HB := HB1; clear hb1 HB1)
    | ((with_reducible refine gate_store rfl ?_); refine blk_store (w0 := w) (base := w.heap.size) (u := .int _ _) rfl rfl rfl rfl rfl rfl rfl ?ht hb ?hj HB HG ?_; (case ht => kernel_rfl); (case hj => simp); intro w2 hb2 HB2 _; clear hb HB; simp only [List.setIfInBounds_toArray, List.set_cons_zero, List.set_cons_succ] at hb2; have hb := hb2; have HB := HB2; clear hb2 HB2))
  rw [string_of_reads Try.underlying51 Try.underlying5 Try.underlying9 (reads_blk hb [0] (n := 1) rfl (by decide) ?h)]
  case h =>
    intro j hj
    match j, hj with
    | 0, _ => rfl
  go_wp2
  go_ret
  exact ⟨rfl, HB⟩
set_option maxHeartbeats 800000 in
set_option maxRecDepth 100000 in
theorem pack_Bytes_at1 (k : Nat) (u : Int) (w : World) (h0 : 0 ≤ u) (h : pack_size.f k u = some 1) : Calls Try.prog 33 #[.int .u64 u] w fun e w' => e = .returned (.string (strOfNums [1, u % 256])) ∧ Below w.heap.size w w' := by
  have H := Aside0.mk h
  clear h
  go_enter Try.func33, Try.ntmps33
  go_wp2_with (first
    | ((with_reducible refine gate_dst (N := 3) rfl ?_); refine box_event (N := 3) rfl rfl (cs := #[.int .u8 0, .int .u8 0, .int .u8 0, .int .u8 0, .int .u8 0, .int .u8 0, .int .u8 0, .int .u8 0, .int .u8 0]) (t := 50) (by first | (go_simp; done) | (go_simp; rfl)) ?_; intro g hg w1 hb HB; have HG := Nat.le_of_eq hg.symm; clear hg)
    | (go_at_call 36; refine (pack_size.calls k _ 1 _ H.out).mono ?_; rintro e w2 ⟨rfl, ⟨⟨n, rfl⟩⟩⟩; have hb1 := blk_drewN hb n; have HB1 := pw_below_drewN HB n; clear hb HB; have hb := hb1; have HB := HB1; clear hb1 HB1)
    | ((with_reducible refine gate_store rfl ?_); refine blk_store (w0 := w) (base := w.heap.size) (u := .int _ _) rfl rfl rfl rfl rfl rfl rfl ?ht hb ?hj HB HG ?_; (case ht => kernel_rfl); (case hj => simp); intro w2 hb2 HB2 _; clear hb HB; simp only [List.setIfInBounds_toArray, List.set_cons_zero, List.set_cons_succ] at hb2; have hb := hb2; have HB := HB2; clear hb2 HB2))
  rw [string_of_reads Try.underlying51 Try.underlying5 Try.underlying9 (reads_blk hb [1, u % 256] (n := 2) rfl (by decide) ?h)]
  case h =>
    intro j hj
    match j, hj with
    | 0, _ => rfl
    | 1, _ => rfl
  go_wp2
  go_ret
  exact ⟨rfl, HB⟩
set_option maxHeartbeats 800000 in
set_option maxRecDepth 100000 in
theorem pack_Bytes_at2 (k : Nat) (u : Int) (w : World) (h0 : 0 ≤ u) (h : pack_size.f k u = some 2) : Calls Try.prog 33 #[.int .u64 u] w fun e w' => e = .returned (.string (strOfNums [2, u % 256, u / 256 % 256])) ∧ Below w.heap.size w w' := by
  have H := Aside0.mk h
  clear h
  go_enter Try.func33, Try.ntmps33
  go_wp2_with (first
    | ((with_reducible refine gate_dst (N := 3) rfl ?_); refine box_event (N := 3) rfl rfl (cs := #[.int .u8 0, .int .u8 0, .int .u8 0, .int .u8 0, .int .u8 0, .int .u8 0, .int .u8 0, .int .u8 0, .int .u8 0]) (t := 50) (by first | (go_simp; done) | (go_simp; rfl)) ?_; intro g hg w1 hb HB; have HG := Nat.le_of_eq hg.symm; clear hg)
    | (go_at_call 36; refine (pack_size.calls k _ 2 _ H.out).mono ?_; rintro e w2 ⟨rfl, ⟨⟨n, rfl⟩⟩⟩; have hb1 := blk_drewN hb n; have HB1 := pw_below_drewN HB n; clear hb HB; have hb := hb1; have HB := HB1; clear hb1 HB1)
    | ((with_reducible refine gate_store rfl ?_); refine blk_store (w0 := w) (base := w.heap.size) (u := .int _ _) rfl rfl rfl rfl rfl rfl rfl ?ht hb ?hj HB HG ?_; (case ht => kernel_rfl); (case hj => simp); intro w2 hb2 HB2 _; clear hb HB; simp only [List.setIfInBounds_toArray, List.set_cons_zero, List.set_cons_succ] at hb2; have hb := hb2; have HB := HB2; clear hb2 HB2))
  rw [string_of_reads Try.underlying51 Try.underlying5 Try.underlying9 (reads_blk hb [2, u % 256, u / 256 % 256] (n := 3) rfl (by decide) ?h)]
  case h =>
    intro j hj
    match j, hj with
    | 0, _ => rfl
    | 1, _ => rfl
    | 2, _ => rfl
  go_wp2
  go_ret
  exact ⟨rfl, HB⟩
set_option maxHeartbeats 800000 in
set_option maxRecDepth 100000 in
theorem pack_Bytes_at3 (k : Nat) (u : Int) (w : World) (h0 : 0 ≤ u) (h : pack_size.f k u = some 3) : Calls Try.prog 33 #[.int .u64 u] w fun e w' => e = .returned (.string (strOfNums [3, u % 256, u / 256 % 256, u / 65536 % 256])) ∧ Below w.heap.size w w' := by
  have H := Aside0.mk h
  clear h
  go_enter Try.func33, Try.ntmps33
  go_wp2_with (first
    | ((with_reducible refine gate_dst (N := 3) rfl ?_); refine box_event (N := 3) rfl rfl (cs := #[.int .u8 0, .int .u8 0, .int .u8 0, .int .u8 0, .int .u8 0, .int .u8 0, .int .u8 0, .int .u8 0, .int .u8 0]) (t := 50) (by first | (go_simp; done) | (go_simp; rfl)) ?_; intro g hg w1 hb HB; have HG := Nat.le_of_eq hg.symm; clear hg)
    | (go_at_call 36; refine (pack_size.calls k _ 3 _ H.out).mono ?_; rintro e w2 ⟨rfl, ⟨⟨n, rfl⟩⟩⟩; have hb1 := blk_drewN hb n; have HB1 := pw_below_drewN HB n; clear hb HB; have hb := hb1; have HB := HB1; clear hb1 HB1)
    | ((with_reducible refine gate_store rfl ?_); refine blk_store (w0 := w) (base := w.heap.size) (u := .int _ _) rfl rfl rfl rfl rfl rfl rfl ?ht hb ?hj HB HG ?_; (case ht => kernel_rfl); (case hj => simp); intro w2 hb2 HB2 _; clear hb HB; simp only [List.setIfInBounds_toArray, List.set_cons_zero, List.set_cons_succ] at hb2; have hb := hb2; have HB := HB2; clear hb2 HB2))
  rw [string_of_reads Try.underlying51 Try.underlying5 Try.underlying9 (reads_blk hb [3, u % 256, u / 256 % 256, u / 65536 % 256] (n := 4) rfl (by decide) ?h)]
  case h =>
    intro j hj
    match j, hj with
    | 0, _ => rfl
    | 1, _ => rfl
    | 2, _ => rfl
    | 3, _ => rfl
  go_wp2
  go_ret
  exact ⟨rfl, HB⟩
set_option maxHeartbeats 800000 in
set_option maxRecDepth 100000 in
theorem pack_Bytes_at4 (k : Nat) (u : Int) (w : World) (h0 : 0 ≤ u) (h : pack_size.f k u = some 4) : Calls Try.prog 33 #[.int .u64 u] w fun e w' => e = .returned (.string (strOfNums [4, u % 256, u / 256 % 256, u / 65536 % 256, u / 16777216 % 256])) ∧ Below w.heap.size w w' := by
  have H := Aside0.mk h
  clear h
  go_enter Try.func33, Try.ntmps33
  go_wp2_with (first
    | ((with_reducible refine gate_dst (N := 3) rfl ?_); refine box_event (N := 3) rfl rfl (cs := #[.int .u8 0, .int .u8 0, .int .u8 0, .int .u8 0, .int .u8 0, .int .u8 0, .int .u8 0, .int .u8 0, .int .u8 0]) (t := 50) (by first | (go_simp; done) | (go_simp; rfl)) ?_; intro g hg w1 hb HB; have HG := Nat.le_of_eq hg.symm; clear hg)
    | (go_at_call 36; refine (pack_size.calls k _ 4 _ H.out).mono ?_; rintro e w2 ⟨rfl, ⟨⟨n, rfl⟩⟩⟩; have hb1 := blk_drewN hb n; have HB1 := pw_below_drewN HB n; clear hb HB; have hb := hb1; have HB := HB1; clear hb1 HB1)
    | ((with_reducible refine gate_store rfl ?_); refine blk_store (w0 := w) (base := w.heap.size) (u := .int _ _) rfl rfl rfl rfl rfl rfl rfl ?ht hb ?hj HB HG ?_; (case ht => kernel_rfl); (case hj => simp); intro w2 hb2 HB2 _; clear hb HB; simp only [List.setIfInBounds_toArray, List.set_cons_zero, List.set_cons_succ] at hb2; have hb := hb2; have HB := HB2; clear hb2 HB2))
  rw [string_of_reads Try.underlying51 Try.underlying5 Try.underlying9 (reads_blk hb [4, u % 256, u / 256 % 256, u / 65536 % 256, u / 16777216 % 256] (n := 5) rfl (by decide) ?h)]
  case h =>
    intro j hj
    match j, hj with
    | 0, _ => rfl
    | 1, _ => rfl
    | 2, _ => rfl
    | 3, _ => rfl
    | 4, _ => rfl
  go_wp2
  go_ret
  exact ⟨rfl, HB⟩
set_option maxHeartbeats 800000 in
set_option maxRecDepth 100000 in
theorem pack_Bytes_at5 (k : Nat) (u : Int) (w : World) (h0 : 0 ≤ u) (h : pack_size.f k u = some 5) : Calls Try.prog 33 #[.int .u64 u] w fun e w' => e = .returned (.string (strOfNums [5, u % 256, u / 256 % 256, u / 65536 % 256, u / 16777216 % 256, u / 4294967296 % 256])) ∧ Below w.heap.size w w' := by
  have H := Aside0.mk h
  clear h
  go_enter Try.func33, Try.ntmps33
  go_wp2_with (first
    | ((with_reducible refine gate_dst (N := 3) rfl ?_); refine box_event (N := 3) rfl rfl (cs := #[.int .u8 0, .int .u8 0, .int .u8 0, .int .u8 0, .int .u8 0, .int .u8 0, .int .u8 0, .int .u8 0, .int .u8 0]) (t := 50) (by first | (go_simp; done) | (go_simp; rfl)) ?_; intro g hg w1 hb HB; have HG := Nat.le_of_eq hg.symm; clear hg)
    | (go_at_call 36; refine (pack_size.calls k _ 5 _ H.out).mono ?_; rintro e w2 ⟨rfl, ⟨⟨n, rfl⟩⟩⟩; have hb1 := blk_drewN hb n; have HB1 := pw_below_drewN HB n; clear hb HB; have hb := hb1; have HB := HB1; clear hb1 HB1)
    | ((with_reducible refine gate_store rfl ?_); refine blk_store (w0 := w) (base := w.heap.size) (u := .int _ _) rfl rfl rfl rfl rfl rfl rfl ?ht hb ?hj HB HG ?_; (case ht => kernel_rfl); (case hj => simp); intro w2 hb2 HB2 _; clear hb HB; simp only [List.setIfInBounds_toArray, List.set_cons_zero, List.set_cons_succ] at hb2; have hb := hb2; have HB := HB2; clear hb2 HB2))
  rw [string_of_reads Try.underlying51 Try.underlying5 Try.underlying9 (reads_blk hb [5, u % 256, u / 256 % 256, u / 65536 % 256, u / 16777216 % 256, u / 4294967296 % 256] (n := 6) rfl (by decide) ?h)]
  case h =>
    intro j hj
    match j, hj with
    | 0, _ => rfl
    | 1, _ => rfl
    | 2, _ => rfl
    | 3, _ => rfl
    | 4, _ => rfl
    | 5, _ => rfl
  go_wp2
  go_ret
  exact ⟨rfl, HB⟩
set_option maxHeartbeats 800000 in
set_option maxRecDepth 100000 in
theorem pack_Bytes_at6 (k : Nat) (u : Int) (w : World) (h0 : 0 ≤ u) (h : pack_size.f k u = some 6) : Calls Try.prog 33 #[.int .u64 u] w fun e w' => e = .returned (.string (strOfNums [6, u % 256, u / 256 % 256, u / 65536 % 256, u / 16777216 % 256, u / 4294967296 % 256, u / 1099511627776 % 256])) ∧ Below w.heap.size w w' := by
  have H := Aside0.mk h
  clear h
  go_enter Try.func33, Try.ntmps33
  go_wp2_with (first
    | ((with_reducible refine gate_dst (N := 3) rfl ?_); refine box_event (N := 3) rfl rfl (cs := #[.int .u8 0, .int .u8 0, .int .u8 0, .int .u8 0, .int .u8 0, .int .u8 0, .int .u8 0, .int .u8 0, .int .u8 0]) (t := 50) (by first | (go_simp; done) | (go_simp; rfl)) ?_; intro g hg w1 hb HB; have HG := Nat.le_of_eq hg.symm; clear hg)
    | (go_at_call 36; refine (pack_size.calls k _ 6 _ H.out).mono ?_; rintro e w2 ⟨rfl, ⟨⟨n, rfl⟩⟩⟩; have hb1 := blk_drewN hb n; have HB1 := pw_below_drewN HB n; clear hb HB; have hb := hb1; have HB := HB1; clear hb1 HB1)
    | ((with_reducible refine gate_store rfl ?_); refine blk_store (w0 := w) (base := w.heap.size) (u := .int _ _) rfl rfl rfl rfl rfl rfl rfl ?ht hb ?hj HB HG ?_; (case ht => kernel_rfl); (case hj => simp); intro w2 hb2 HB2 _; clear hb HB; simp only [List.setIfInBounds_toArray, List.set_cons_zero, List.set_cons_succ] at hb2; have hb := hb2; have HB := HB2; clear hb2 HB2))
  rw [string_of_reads Try.underlying51 Try.underlying5 Try.underlying9 (reads_blk hb [6, u % 256, u / 256 % 256, u / 65536 % 256, u / 16777216 % 256, u / 4294967296 % 256, u / 1099511627776 % 256] (n := 7) rfl (by decide) ?h)]
  case h =>
    intro j hj
    match j, hj with
    | 0, _ => rfl
    | 1, _ => rfl
    | 2, _ => rfl
    | 3, _ => rfl
    | 4, _ => rfl
    | 5, _ => rfl
    | 6, _ => rfl
  go_wp2
  go_ret
  exact ⟨rfl, HB⟩
set_option maxHeartbeats 800000 in
set_option maxRecDepth 100000 in
theorem pack_Bytes_at7 (k : Nat) (u : Int) (w : World) (h0 : 0 ≤ u) (h : pack_size.f k u = some 7) : Calls Try.prog 33 #[.int .u64 u] w fun e w' => e = .returned (.string (strOfNums [7, u % 256, u / 256 % 256, u / 65536 % 256, u / 16777216 % 256, u / 4294967296 % 256, u / 1099511627776 % 256, u / 281474976710656 % 256])) ∧ Below w.heap.size w w' := by
  have H := Aside0.mk h
  clear h
  go_enter Try.func33, Try.ntmps33
  go_wp2_with (first
    | ((with_reducible refine gate_dst (N := 3) rfl ?_); refine box_event (N := 3) rfl rfl (cs := #[.int .u8 0, .int .u8 0, .int .u8 0, .int .u8 0, .int .u8 0, .int .u8 0, .int .u8 0, .int .u8 0, .int .u8 0]) (t := 50) (by first | (go_simp; done) | (go_simp; rfl)) ?_; intro g hg w1 hb HB; have HG := Nat.le_of_eq hg.symm; clear hg)
    | (go_at_call 36; refine (pack_size.calls k _ 7 _ H.out).mono ?_; rintro e w2 ⟨rfl, ⟨⟨n, rfl⟩⟩⟩; have hb1 := blk_drewN hb n; have HB1 := pw_below_drewN HB n; clear hb HB; have hb := hb1; have HB := HB1; clear hb1 HB1)
    | ((with_reducible refine gate_store rfl ?_); refine blk_store (w0 := w) (base := w.heap.size) (u := .int _ _) rfl rfl rfl rfl rfl rfl rfl ?ht hb ?hj HB HG ?_; (case ht => kernel_rfl); (case hj => simp); intro w2 hb2 HB2 _; clear hb HB; simp only [List.setIfInBounds_toArray, List.set_cons_zero, List.set_cons_succ] at hb2; have hb := hb2; have HB := HB2; clear hb2 HB2))
  rw [string_of_reads Try.underlying51 Try.underlying5 Try.underlying9 (reads_blk hb [7, u % 256, u / 256 % 256, u / 65536 % 256, u / 16777216 % 256, u / 4294967296 % 256, u / 1099511627776 % 256, u / 281474976710656 % 256] (n := 8) rfl (by decide) ?h)]
  case h =>
    intro j hj
    match j, hj with
    | 0, _ => rfl
    | 1, _ => rfl
    | 2, _ => rfl
    | 3, _ => rfl
    | 4, _ => rfl
    | 5, _ => rfl
    | 6, _ => rfl
    | 7, _ => rfl
  go_wp2
  go_ret
  exact ⟨rfl, HB⟩
set_option maxHeartbeats 800000 in
set_option maxRecDepth 100000 in
theorem pack_Bytes_at8 (k : Nat) (u : Int) (w : World) (h0 : 0 ≤ u) (h : pack_size.f k u = some 8) : Calls Try.prog 33 #[.int .u64 u] w fun e w' => e = .returned (.string (strOfNums [8, u % 256, u / 256 % 256, u / 65536 % 256, u / 16777216 % 256, u / 4294967296 % 256, u / 1099511627776 % 256, u / 281474976710656 % 256, u / 72057594037927936 % 256])) ∧ Below w.heap.size w w' := by
  have H := Aside0.mk h
  clear h
  go_enter Try.func33, Try.ntmps33
  go_wp2_with (first
    | ((with_reducible refine gate_dst (N := 3) rfl ?_); refine box_event (N := 3) rfl rfl (cs := #[.int .u8 0, .int .u8 0, .int .u8 0, .int .u8 0, .int .u8 0, .int .u8 0, .int .u8 0, .int .u8 0, .int .u8 0]) (t := 50) (by first | (go_simp; done) | (go_simp; rfl)) ?_; intro g hg w1 hb HB; have HG := Nat.le_of_eq hg.symm; clear hg)
    | (go_at_call 36; refine (pack_size.calls k _ 8 _ H.out).mono ?_; rintro e w2 ⟨rfl, ⟨⟨n, rfl⟩⟩⟩; have hb1 := blk_drewN hb n; have HB1 := pw_below_drewN HB n; clear hb HB; have hb := hb1; have HB := HB1; clear hb1 HB1)
    | ((with_reducible refine gate_store rfl ?_); refine blk_store (w0 := w) (base := w.heap.size) (u := .int _ _) rfl rfl rfl rfl rfl rfl rfl ?ht hb ?hj HB HG ?_; (case ht => kernel_rfl); (case hj => simp); intro w2 hb2 HB2 _; clear hb HB; simp only [List.setIfInBounds_toArray, List.set_cons_zero, List.set_cons_succ] at hb2; have hb := hb2; have HB := HB2; clear hb2 HB2))
  rw [string_of_reads Try.underlying51 Try.underlying5 Try.underlying9 (reads_blk hb [8, u % 256, u / 256 % 256, u / 65536 % 256, u / 16777216 % 256, u / 4294967296 % 256, u / 1099511627776 % 256, u / 281474976710656 % 256, u / 72057594037927936 % 256] (n := 9) rfl (by decide) ?h)]
  case h =>
    intro j hj
    match j, hj with
    | 0, _ => rfl
    | 1, _ => rfl
    | 2, _ => rfl
    | 3, _ => rfl
    | 4, _ => rfl
    | 5, _ => rfl
    | 6, _ => rfl
    | 7, _ => rfl
    | 8, _ => rfl
  go_wp2
  go_ret
  exact ⟨rfl, HB⟩
theorem pack_Bytes.calls (k : Nat) (a0 : Int) (r : ByteArray) (w : World) (h : pack_Bytes.f k a0 = some r) : Calls Try.prog 33 #[.int .u64 a0] w fun e w' => e = .returned (.string r) ∧ Below w.heap.size w w' := by
  unfold pack_Bytes.f at h
  cases hs : pack_size.f k a0 with
  | none => rw [hs] at h; simp at h
  | some n =>
    rw [hs] at h
    simp only [Option.bind_some] at h
    split at h
    · rename_i hc
      obtain ⟨h0, h8, hu⟩ := hc
      obtain rfl := Option.some.inj h
      obtain ⟨m, rfl⟩ := Int.eq_ofNat_of_zero_le h0
      match m, h8, hs with
      | 0, _, hs => simpa [packB, List.range, List.range.loop] using pack_Bytes_at0 k a0 w hu hs
      | 1, _, hs => simpa [packB, List.range, List.range.loop] using pack_Bytes_at1 k a0 w hu hs
      | 2, _, hs => simpa [packB, List.range, List.range.loop] using pack_Bytes_at2 k a0 w hu hs
      | 3, _, hs => simpa [packB, List.range, List.range.loop] using pack_Bytes_at3 k a0 w hu hs
      | 4, _, hs => simpa [packB, List.range, List.range.loop] using pack_Bytes_at4 k a0 w hu hs
      | 5, _, hs => simpa [packB, List.range, List.range.loop] using pack_Bytes_at5 k a0 w hu hs
      | 6, _, hs => simpa [packB, List.range, List.range.loop] using pack_Bytes_at6 k a0 w hu hs
      | 7, _, hs => simpa [packB, List.range, List.range.loop] using pack_Bytes_at7 k a0 w hu hs
      | 8, _, hs => simpa [packB, List.range, List.range.loop] using pack_Bytes_at8 k a0 w hu hs
      | m + 9, h8, _ => omega
    · cases h

/-! ### treillagelaw01_shown: function 12 -/
def treillagelaw01_shown.f (k : Nat)  : Option (Bool) := (pack_Of.f 5 3).bind fun bt101 => (if bt101.2 = true then (if bt101.1 = 50331653 then ((pack_Zig.f (-3)).bind fun t103 => (if t103 = 5 then ((pack_Levels.f k 17).bind fun t104 => (if t104 = 3 then ((pack_Bytes.f k 258).bind fun t105 => (some (t105.toList == ([2, 2, 1] : List UInt8)))) else (some false))) else (some false))) else (some false)) else (some false))
theorem treillagelaw01_shown.mono : ∀ k, LeO (treillagelaw01_shown.f k ) (treillagelaw01_shown.f (k + 1) ) := by
  intro  k
  unfold treillagelaw01_shown.f
  repeat' first
      | (with_reducible exact pack_Bytes.mono _ _)
      | (with_reducible exact pack_Levels.mono _ _)
      | (with_reducible exact LeO.refl _)
      | (with_reducible exact LeO.none _)
      | (with_reducible refine LeO.ite ?_ ?_)
      | (with_reducible refine LeO.bind ?_ (fun _ => ?_))
      | exact pack_Bytes.mono _ _
      | exact pack_Levels.mono _ _
      | exact LeO.none _
      | refine LeO.ite ?_ ?_
      | refine LeO.bind ?_ (fun _ => ?_)
set_option maxHeartbeats 8000000 in
set_option maxRecDepth 100000 in
theorem treillagelaw01_shown.calls (k : Nat)  (r : Bool) (w : World) (h : treillagelaw01_shown.f k  = some r) :
    Calls Try.prog 12 #[] w fun e w' => e = .returned (.bool r) ∧ Below w.heap.size w w' := by
  have HB := Aside0.mk (Below.refl w.heap.size w)
  have H : ((pack_Of.f 5 3).bind fun bt101 => (if bt101.2 = true then (if bt101.1 = 50331653 then ((pack_Zig.f (-3)).bind fun t103 => (if t103 = 5 then ((pack_Levels.f k 17).bind fun t104 => (if t104 = 3 then ((pack_Bytes.f k 258).bind fun t105 => (some (t105.toList == ([2, 2, 1] : List UInt8)))) else (some false))) else (some false))) else (some false)) else (some false))) = some r := h
  clear h
  replace H := Option.bind_eq_some_iff.mp H
  obtain ⟨⟨t101, t102⟩, A10, H⟩ := H
  replace H : (if t102 = true then (if t101 = 50331653 then ((pack_Zig.f (-3)).bind fun t103 => (if t103 = 5 then ((pack_Levels.f k 17).bind fun t104 => (if t104 = 3 then ((pack_Bytes.f k 258).bind fun t105 => (some (t105.toList == ([2, 2, 1] : List UInt8)))) else (some false))) else (some false))) else (some false)) else (some false)) = some r := H
  have A1 := Aside0.mk A10
  clear A10
  by_cases c2 : t102 = true
  · subst c2
    have H1 : (if t101 = 50331653 then ((pack_Zig.f (-3)).bind fun t103 => (if t103 = 5 then ((pack_Levels.f k 17).bind fun t104 => (if t104 = 3 then ((pack_Bytes.f k 258).bind fun t105 => (some (t105.toList == ([2, 2, 1] : List UInt8)))) else (some false))) else (some false))) else (some false)) = some r := by rw [if_pos rfl] at H; exact H
    clear H
    have H := H1
    clear H1
    by_cases c3 : t101 = 50331653
    · rw [if_pos c3] at H
      have c3b0 : (t101 == 50331653) = true := beq_iff_eq.mpr c3
      have c3b1 : (t101 != 50331653) = false := bne_eq_false_iff_eq.mpr c3
      clear c3
      replace H := Option.bind_eq_some_iff.mp H
      obtain ⟨t103, A40, H⟩ := H
      replace H : (if t103 = 5 then ((pack_Levels.f k 17).bind fun t104 => (if t104 = 3 then ((pack_Bytes.f k 258).bind fun t105 => (some (t105.toList == ([2, 2, 1] : List UInt8)))) else (some false))) else (some false)) = some r := H
      have A4 := Aside0.mk A40
      clear A40
      by_cases c5 : t103 = 5
      · rw [if_pos c5] at H
        have c5b0 : (t103 == 5) = true := beq_iff_eq.mpr c5
        have c5b1 : (t103 != 5) = false := bne_eq_false_iff_eq.mpr c5
        clear c5
        replace H := Option.bind_eq_some_iff.mp H
        obtain ⟨t104, A60, H⟩ := H
        replace H : (if t104 = 3 then ((pack_Bytes.f k 258).bind fun t105 => (some (t105.toList == ([2, 2, 1] : List UInt8)))) else (some false)) = some r := H
        have A6 := Aside0.mk A60
        clear A60
        by_cases c7 : t104 = 3
        · rw [if_pos c7] at H
          have c7b0 : (t104 == 3) = true := beq_iff_eq.mpr c7
          have c7b1 : (t104 != 3) = false := bne_eq_false_iff_eq.mpr c7
          clear c7
          replace H := Option.bind_eq_some_iff.mp H
          obtain ⟨t105, A80, H⟩ := H
          replace H : (some (t105.toList == ([2, 2, 1] : List UInt8))) = some r := H
          have A8 := Aside0.mk A80
          clear A80
          obtain rfl := Option.some.inj H
          go_enter Try.func12, Try.ntmps12
          go_wp2_with (first | ((with_reducible refine gate_callee (f := 17) rfl ?_); refine goesL_ (some 4) rfl rfl Try.func17 (by kernel_rfl) rfl #[.int .i64 5, .int .u64 3] rfl (by (try simp only [List.map_toArray, List.map_cons, List.map_nil]); first | done | rfl | (simp only [List.length_drop, List.length_take]; rfl)) ?_; (with_reducible refine (pack_Of.calls 5 3 t101 true _ A1.out).mono ?_); rintro e w' ⟨rfl, ⟨nd, rfl⟩⟩; refine ⟨_, rfl, ?_⟩) | (go_at_call 13; (with_reducible refine (pack_Zig.calls (-3) t103 _ A4.out).mono ?_); rintro e w' ⟨rfl, ⟨nd, rfl⟩⟩) | (go_at_call 27; (with_reducible refine (pack_Levels.calls k 17 t104 _ A6.out).mono ?_); rintro e w' ⟨rfl, ⟨nd, rfl⟩⟩) | (go_at_call 33; (with_reducible refine (pack_Bytes.calls k 258 t105 _ A8.out).mono ?_); rintro e w9 ⟨rfl, hb⟩; have n0_ := Aside0.mk (below_step (by repeat (first | (with_reducible first | exact HB.out | apply below_alloc | apply pw_below_drewN | apply below_drew1) | exact HB.out)) hb); clear HB; have HB := n0_; clear n0_; (try clear hb); (try clear hb2); (try clear hk); (try clear hi)))
          go_ret
          exact ⟨by first | rfl | (simp [errW_none, errW_some] <;> rfl) | (simp [*, errW_none, errW_some] <;> rfl), by repeat (first | (with_reducible first | exact HB.out | apply below_alloc | apply pw_below_drewN | apply below_drew1) | exact HB.out)⟩
        · rw [if_neg c7] at H
          have c7b0 : (t104 == 3) = false := beq_eq_false_iff_ne.mpr c7
          have c7b1 : (t104 != 3) = true := bne_iff_ne.mpr c7
          obtain rfl := Option.some.inj H
          go_enter Try.func12, Try.ntmps12
          go_wp2_with (first | ((with_reducible refine gate_callee (f := 17) rfl ?_); refine goesL_ (some 4) rfl rfl Try.func17 (by kernel_rfl) rfl #[.int .i64 5, .int .u64 3] rfl (by (try simp only [List.map_toArray, List.map_cons, List.map_nil]); first | done | rfl | (simp only [List.length_drop, List.length_take]; rfl)) ?_; (with_reducible refine (pack_Of.calls 5 3 t101 true _ A1.out).mono ?_); rintro e w' ⟨rfl, ⟨nd, rfl⟩⟩; refine ⟨_, rfl, ?_⟩) | (go_at_call 13; (with_reducible refine (pack_Zig.calls (-3) t103 _ A4.out).mono ?_); rintro e w' ⟨rfl, ⟨nd, rfl⟩⟩) | (go_at_call 27; (with_reducible refine (pack_Levels.calls k 17 t104 _ A6.out).mono ?_); rintro e w' ⟨rfl, ⟨nd, rfl⟩⟩))
          go_ret
          exact ⟨by first | rfl | (simp [errW_none, errW_some] <;> rfl) | (simp [*, errW_none, errW_some] <;> rfl), by repeat (first | (with_reducible first | exact HB.out | apply below_alloc | apply pw_below_drewN | apply below_drew1) | exact HB.out)⟩
      · rw [if_neg c5] at H
        have c5b0 : (t103 == 5) = false := beq_eq_false_iff_ne.mpr c5
        have c5b1 : (t103 != 5) = true := bne_iff_ne.mpr c5
        obtain rfl := Option.some.inj H
        go_enter Try.func12, Try.ntmps12
        go_wp2_with (first | ((with_reducible refine gate_callee (f := 17) rfl ?_); refine goesL_ (some 4) rfl rfl Try.func17 (by kernel_rfl) rfl #[.int .i64 5, .int .u64 3] rfl (by (try simp only [List.map_toArray, List.map_cons, List.map_nil]); first | done | rfl | (simp only [List.length_drop, List.length_take]; rfl)) ?_; (with_reducible refine (pack_Of.calls 5 3 t101 true _ A1.out).mono ?_); rintro e w' ⟨rfl, ⟨nd, rfl⟩⟩; refine ⟨_, rfl, ?_⟩) | (go_at_call 13; (with_reducible refine (pack_Zig.calls (-3) t103 _ A4.out).mono ?_); rintro e w' ⟨rfl, ⟨nd, rfl⟩⟩))
        go_ret
        exact ⟨by first | rfl | (simp [errW_none, errW_some] <;> rfl) | (simp [*, errW_none, errW_some] <;> rfl), by repeat (first | (with_reducible first | exact HB.out | apply below_alloc | apply pw_below_drewN | apply below_drew1) | exact HB.out)⟩
    · rw [if_neg c3] at H
      have c3b0 : (t101 == 50331653) = false := beq_eq_false_iff_ne.mpr c3
      have c3b1 : (t101 != 50331653) = true := bne_iff_ne.mpr c3
      obtain rfl := Option.some.inj H
      go_enter Try.func12, Try.ntmps12
      go_wp2_with (first | ((with_reducible refine gate_callee (f := 17) rfl ?_); refine goesL_ (some 4) rfl rfl Try.func17 (by kernel_rfl) rfl #[.int .i64 5, .int .u64 3] rfl (by (try simp only [List.map_toArray, List.map_cons, List.map_nil]); first | done | rfl | (simp only [List.length_drop, List.length_take]; rfl)) ?_; (with_reducible refine (pack_Of.calls 5 3 t101 true _ A1.out).mono ?_); rintro e w' ⟨rfl, ⟨nd, rfl⟩⟩; refine ⟨_, rfl, ?_⟩))
      go_ret
      exact ⟨by first | rfl | (simp [errW_none, errW_some] <;> rfl) | (simp [*, errW_none, errW_some] <;> rfl), by repeat (first | (with_reducible first | exact HB.out | apply below_alloc | apply pw_below_drewN | apply below_drew1) | exact HB.out)⟩
  · replace c2 := Bool.eq_false_iff.mpr c2
    subst c2
    have H1 : (some false) = some r := by rw [if_neg (show ¬ (false = true) by decide)] at H; exact H
    clear H
    have H := H1
    clear H1
    obtain rfl := Option.some.inj H
    go_enter Try.func12, Try.ntmps12
    go_wp2_with (first | ((with_reducible refine gate_callee (f := 17) rfl ?_); refine goesL_ (some 4) rfl rfl Try.func17 (by kernel_rfl) rfl #[.int .i64 5, .int .u64 3] rfl (by (try simp only [List.map_toArray, List.map_cons, List.map_nil]); first | done | rfl | (simp only [List.length_drop, List.length_take]; rfl)) ?_; (with_reducible refine (pack_Of.calls 5 3 t101 false _ A1.out).mono ?_); rintro e w' ⟨rfl, ⟨nd, rfl⟩⟩; refine ⟨_, rfl, ?_⟩))
    go_ret
    exact ⟨by first | rfl | (simp [errW_none, errW_some] <;> rfl) | (simp [*, errW_none, errW_some] <;> rfl), by repeat (first | (with_reducible first | exact HB.out | apply below_alloc | apply pw_below_drewN | apply below_drew1) | exact HB.out)⟩

/-! ### treillagelaw01_PackRises: function 3 -/
def treillagelaw01_PackRises.j0 : Nat → Int → Int → Bool → Option (Bool)
  | 0, _, _, _ => none
  | k + 1, x0, x1, x14 => if x14 = true then ((treillagelaw01_shown.f k).bind fun t106 => (some t106)) else (if x0 < 0 then ((pack_Zig.f x0).bind fun t107 => ((pack_Zig.f x1).bind fun t108 => (if ((decide (x0 < x1)) == (decide (t107 > t108))) = true then ((treillagelaw01_shown.f k).bind fun t109 => (some t109)) else (some false)))) else ((pack_Zig.f x0).bind fun t110 => ((pack_Zig.f x1).bind fun t111 => (if ((decide (x0 < x1)) == (decide (t110 < t111))) = true then ((treillagelaw01_shown.f k).bind fun t112 => (some t112)) else (some false)))))
def treillagelaw01_PackRises.f (k : Nat) (a0 : Int) (a1 : Int) : Option (Bool) := if ((decide (a0 < 0)) != (decide (a1 < 0))) = true then (treillagelaw01_PackRises.j0 k a0 a1 true) else (treillagelaw01_PackRises.j0 k a0 a1 (a0 == a1))
theorem treillagelaw01_PackRises.mono_l : ∀ k, (∀ y0 y1 y2, LeO (treillagelaw01_PackRises.j0 k y0 y1 y2) (treillagelaw01_PackRises.j0 (k + 1) y0 y1 y2))
  | 0 => fun _ _ _ r h => by simp [treillagelaw01_PackRises.j0] at h
  | k + 1 => by
    have ih0 := treillagelaw01_PackRises.mono_l k
    · intro y0 y1 y2
      unfold treillagelaw01_PackRises.j0
      repeat' first
      | (with_reducible exact ih0 _ _ _)
      | (with_reducible exact treillagelaw01_shown.mono _)
      | (with_reducible exact LeO.refl _)
      | (with_reducible exact LeO.none _)
      | (with_reducible refine LeO.ite ?_ ?_)
      | (with_reducible refine LeO.bind ?_ (fun _ => ?_))
      | exact ih0 _ _ _
      | exact treillagelaw01_shown.mono _
      | exact LeO.none _
      | refine LeO.ite ?_ ?_
      | refine LeO.bind ?_ (fun _ => ?_)
theorem treillagelaw01_PackRises.mono : ∀ a0 a1 k, LeO (treillagelaw01_PackRises.f k a0 a1) (treillagelaw01_PackRises.f (k + 1) a0 a1) := by
  intro a0 a1 k
  have ih0 := treillagelaw01_PackRises.mono_l k
  unfold treillagelaw01_PackRises.f
  repeat' first
      | (with_reducible exact ih0 _ _ _)
      | (with_reducible exact treillagelaw01_shown.mono _)
      | (with_reducible exact LeO.refl _)
      | (with_reducible exact LeO.none _)
      | (with_reducible refine LeO.ite ?_ ?_)
      | (with_reducible refine LeO.bind ?_ (fun _ => ?_))
      | exact ih0 _ _ _
      | exact treillagelaw01_shown.mono _
      | exact LeO.none _
      | refine LeO.ite ?_ ?_
      | refine LeO.bind ?_ (fun _ => ?_)
set_option maxHeartbeats 8000000 in
set_option maxRecDepth 100000 in
theorem treillagelaw01_PackRises.calls (k : Nat) (a0 : Int) (a1 : Int) (r : Bool) (w : World) (h : treillagelaw01_PackRises.f k a0 a1 = some r) :
    Calls Try.prog 3 #[.int .i64 a0, .int .i64 a1] w fun e w' => e = .returned (.bool r) ∧ Below w.heap.size w w' := by
  have HB := Aside0.mk (Below.refl w.heap.size w)
  have H : (if ((decide (a0 < 0)) != (decide (a1 < 0))) = true then (treillagelaw01_PackRises.j0 k a0 a1 true) else (treillagelaw01_PackRises.j0 k a0 a1 (a0 == a1))) = some r := h
  clear h
  have HC3 := Aside0.mk H
  clear H
  go_enter Try.func3, Try.ntmps3
  go_upto_region 1 with (fail)
  go_cut [14] (fun v14 wc => ∃ (kq : Nat) (x14_2 : Bool), v14 = .bool x14_2 ∧ Aside0 (treillagelaw01_PackRises.j0 kq a0 a1 x14_2 = some r) ∧ Aside0 (kq ≤ k) ∧ Aside0 (Below w.heap.size w wc))
  case first =>
    have H := HC3.out
    clear HC3
    by_cases c4 : ((decide (a0 < 0)) != (decide (a1 < 0))) = true
    · rw [if_pos c4] at H
      have c4b0 : ((decide (a0 < 0)) != (decide (a1 < 0))) = true := c4
      (try (have c4b1 : decide ((decide (a0 < 0)) = (decide (a1 < 0))) = false := by simpa using c4))
      (try (have c4b2 : ((decide (a0 < 0)) == (decide (a1 < 0))) = false := by simpa using c4))
      (try (have c4b3 : ¬ ((decide (a0 < 0)) = (decide (a1 < 0))) := by simpa using c4))
      clear c4
      (first | rw [c4b0] | (simp only [i64_w, i32_w]; rw [c4b0]) | skip)
      have H' := Aside0.mk H
      clear H
      go_wp2
      go_meet
      case rel => exact ⟨_, (true), (by first | rfl | (simp; done) | (simp [*]; done)), H', ⟨by first | omega | exact Nat.le_refl _⟩, ⟨by repeat (first | (with_reducible first | exact HB.out | apply below_alloc | apply pw_below_drewN | apply below_drew1) | exact HB.out)⟩⟩
    · rw [if_neg c4] at H
      have c4b0 : ((decide (a0 < 0)) != (decide (a1 < 0))) = false := by simpa using c4
      (try (have c4b1 : decide ((decide (a0 < 0)) = (decide (a1 < 0))) = true := by simpa using c4))
      (try (have c4b2 : ((decide (a0 < 0)) == (decide (a1 < 0))) = true := by simpa using c4))
      clear c4
      (first | rw [c4b0] | (simp only [i64_w, i32_w]; rw [c4b0]) | skip)
      have H' := Aside0.mk H
      clear H
      go_wp2
      go_meet
      case rel => exact ⟨_, ((a0 == a1)), (by first | rfl | (simp; done) | (simp [*]; done)), H', ⟨by first | omega | exact Nat.le_refl _⟩, ⟨by repeat (first | (with_reducible first | exact HB.out | apply below_alloc | apply pw_below_drewN | apply below_drew1) | exact HB.out)⟩⟩
  case rest =>
    clear HC3
    try clear p2
    try clear c3
    try clear c4
    try clear c4b0
    try clear c4b1
    try clear c4b2
    obtain ⟨kq, x14_2, rfl, HA, HJ2, HB⟩ := hcut
    cases kq with
    | zero => exact absurd HA.out (by simp [treillagelaw01_PackRises.j0])
    | succ kj2 =>
      have H := HA.out
      clear HA
      simp only [treillagelaw01_PackRises.j0] at H
      by_cases c5 : x14_2 = true
      · subst c5
        have H1 : ((treillagelaw01_shown.f kj2).bind fun t106 => (some t106)) = some r := by rw [if_pos rfl] at H; exact H
        clear H
        have H := H1
        clear H1
        replace H := Option.bind_eq_some_iff.mp H
        obtain ⟨t106, A60, H⟩ := H
        replace H : (some t106) = some r := H
        have A6 := Aside0.mk A60
        clear A60
        obtain rfl := Option.some.inj H
        go_wp2_with (first | ((with_reducible refine gate_callee (f := 12) rfl ?_); refine goesL_ (some 15) rfl rfl Try.func12 (by kernel_rfl) rfl #[] rfl (by (try simp only [List.map_toArray, List.map_cons, List.map_nil]); first | done | rfl | (simp only [List.length_drop, List.length_take]; rfl)) ?_; (with_reducible refine (treillagelaw01_shown.calls kj2  t106 _ A6.out).mono ?_); rintro e w7 ⟨rfl, hb⟩; refine ⟨_, rfl, ?_⟩; have n0_ := Aside0.mk (below_step (by repeat (first | (with_reducible first | exact HB.out | apply below_alloc | apply pw_below_drewN | apply below_drew1) | exact HB.out)) hb); clear HB; have HB := n0_; clear n0_; (try clear hb); (try clear hb2); (try clear hk); (try clear hi)))
        go_ret
        exact ⟨by first | rfl | (simp [errW_none, errW_some] <;> rfl) | (simp [*, errW_none, errW_some] <;> rfl), by repeat (first | (with_reducible first | exact HB.out | apply below_alloc | apply pw_below_drewN | apply below_drew1) | exact HB.out)⟩
      · replace c5 := Bool.eq_false_iff.mpr c5
        subst c5
        have H1 : (if a0 < 0 then ((pack_Zig.f a0).bind fun t107 => ((pack_Zig.f a1).bind fun t108 => (if ((decide (a0 < a1)) == (decide (t107 > t108))) = true then ((treillagelaw01_shown.f kj2).bind fun t109 => (some t109)) else (some false)))) else ((pack_Zig.f a0).bind fun t110 => ((pack_Zig.f a1).bind fun t111 => (if ((decide (a0 < a1)) == (decide (t110 < t111))) = true then ((treillagelaw01_shown.f kj2).bind fun t112 => (some t112)) else (some false))))) = some r := by rw [if_neg (show ¬ (false = true) by decide)] at H; exact H
        clear H
        have H := H1
        clear H1
        by_cases c8 : a0 < 0
        · rw [if_pos c8] at H
          have c8b0 : decide (a0 < 0) = true := decide_eq_true c8
          clear c8
          replace H := Option.bind_eq_some_iff.mp H
          obtain ⟨t107, A90, H⟩ := H
          replace H : ((pack_Zig.f a1).bind fun t108 => (if ((decide (a0 < a1)) == (decide (t107 > t108))) = true then ((treillagelaw01_shown.f kj2).bind fun t109 => (some t109)) else (some false))) = some r := H
          have A9 := Aside0.mk A90
          clear A90
          replace H := Option.bind_eq_some_iff.mp H
          obtain ⟨t108, A100, H⟩ := H
          replace H : (if ((decide (a0 < a1)) == (decide (t107 > t108))) = true then ((treillagelaw01_shown.f kj2).bind fun t109 => (some t109)) else (some false)) = some r := H
          have A10 := Aside0.mk A100
          clear A100
          by_cases c11 : ((decide (a0 < a1)) == (decide (t107 > t108))) = true
          · rw [if_pos c11] at H
            have c11b0 : ((decide (a0 < a1)) == (decide (t107 > t108))) = true := c11
            (try (have c11b1 : decide ((decide (a0 < a1)) = (decide (t107 > t108))) = true := by simpa using c11))
            (try (have c11b2 : ((decide (a0 < a1)) == (decide (t107 > t108))) = true := by simpa using c11))
            clear c11
            replace H := Option.bind_eq_some_iff.mp H
            obtain ⟨t109, A120, H⟩ := H
            replace H : (some t109) = some r := H
            have A12 := Aside0.mk A120
            clear A120
            obtain rfl := Option.some.inj H
            go_wp2_with (first | ((with_reducible refine gate_callee (f := 13) rfl ?_); refine goesL_ (some 22) rfl rfl Try.func13 (by kernel_rfl) rfl #[.int .i64 a0] rfl (by (try simp only [List.map_toArray, List.map_cons, List.map_nil]); first | done | rfl | (simp only [List.length_drop, List.length_take]; rfl)) ?_; (with_reducible refine (pack_Zig.calls a0 t107 _ A9.out).mono ?_); rintro e w' ⟨rfl, ⟨nd, rfl⟩⟩; refine ⟨_, rfl, ?_⟩) | ((with_reducible refine gate_callee (f := 13) rfl ?_); refine goesL_ (some 24) rfl rfl Try.func13 (by kernel_rfl) rfl #[.int .i64 a1] rfl (by (try simp only [List.map_toArray, List.map_cons, List.map_nil]); first | done | rfl | (simp only [List.length_drop, List.length_take]; rfl)) ?_; (with_reducible refine (pack_Zig.calls a1 t108 _ A10.out).mono ?_); rintro e w' ⟨rfl, ⟨nd, rfl⟩⟩; refine ⟨_, rfl, ?_⟩) | (go_at_call 12; (with_reducible refine (treillagelaw01_shown.calls kj2  t109 _ A12.out).mono ?_); rintro e w13 ⟨rfl, hb⟩; have n0_ := Aside0.mk (below_step (by repeat (first | (with_reducible first | exact HB.out | apply below_alloc | apply pw_below_drewN | apply below_drew1) | exact HB.out)) hb); clear HB; have HB := n0_; clear n0_; (try clear hb); (try clear hb2); (try clear hk); (try clear hi)))
            go_ret
            exact ⟨by first | rfl | (simp [errW_none, errW_some] <;> rfl) | (simp [*, errW_none, errW_some] <;> rfl), by repeat (first | (with_reducible first | exact HB.out | apply below_alloc | apply pw_below_drewN | apply below_drew1) | exact HB.out)⟩
          · rw [if_neg c11] at H
            have c11b0 : ((decide (a0 < a1)) == (decide (t107 > t108))) = false := by simpa using c11
            (try (have c11b1 : decide ((decide (a0 < a1)) = (decide (t107 > t108))) = false := by simpa using c11))
            (try (have c11b2 : ((decide (a0 < a1)) == (decide (t107 > t108))) = false := by simpa using c11))
            (try (have c11b3 : ¬ ((decide (a0 < a1)) = (decide (t107 > t108))) := by simpa using c11))
            clear c11
            obtain rfl := Option.some.inj H
            go_wp2_with (first | ((with_reducible refine gate_callee (f := 13) rfl ?_); refine goesL_ (some 22) rfl rfl Try.func13 (by kernel_rfl) rfl #[.int .i64 a0] rfl (by (try simp only [List.map_toArray, List.map_cons, List.map_nil]); first | done | rfl | (simp only [List.length_drop, List.length_take]; rfl)) ?_; (with_reducible refine (pack_Zig.calls a0 t107 _ A9.out).mono ?_); rintro e w' ⟨rfl, ⟨nd, rfl⟩⟩; refine ⟨_, rfl, ?_⟩) | ((with_reducible refine gate_callee (f := 13) rfl ?_); refine goesL_ (some 24) rfl rfl Try.func13 (by kernel_rfl) rfl #[.int .i64 a1] rfl (by (try simp only [List.map_toArray, List.map_cons, List.map_nil]); first | done | rfl | (simp only [List.length_drop, List.length_take]; rfl)) ?_; (with_reducible refine (pack_Zig.calls a1 t108 _ A10.out).mono ?_); rintro e w' ⟨rfl, ⟨nd, rfl⟩⟩; refine ⟨_, rfl, ?_⟩))
            go_ret
            exact ⟨by first | rfl | (simp [errW_none, errW_some] <;> rfl) | (simp [*, errW_none, errW_some] <;> rfl), by repeat (first | (with_reducible first | exact HB.out | apply below_alloc | apply pw_below_drewN | apply below_drew1) | exact HB.out)⟩
        · rw [if_neg c8] at H
          have c8b0 : decide (a0 < 0) = false := decide_eq_false c8
          clear c8
          replace H := Option.bind_eq_some_iff.mp H
          obtain ⟨t110, A140, H⟩ := H
          replace H : ((pack_Zig.f a1).bind fun t111 => (if ((decide (a0 < a1)) == (decide (t110 < t111))) = true then ((treillagelaw01_shown.f kj2).bind fun t112 => (some t112)) else (some false))) = some r := H
          have A14 := Aside0.mk A140
          clear A140
          replace H := Option.bind_eq_some_iff.mp H
          obtain ⟨t111, A150, H⟩ := H
          replace H : (if ((decide (a0 < a1)) == (decide (t110 < t111))) = true then ((treillagelaw01_shown.f kj2).bind fun t112 => (some t112)) else (some false)) = some r := H
          have A15 := Aside0.mk A150
          clear A150
          by_cases c16 : ((decide (a0 < a1)) == (decide (t110 < t111))) = true
          · rw [if_pos c16] at H
            have c16b0 : ((decide (a0 < a1)) == (decide (t110 < t111))) = true := c16
            (try (have c16b1 : decide ((decide (a0 < a1)) = (decide (t110 < t111))) = true := by simpa using c16))
            (try (have c16b2 : ((decide (a0 < a1)) == (decide (t110 < t111))) = true := by simpa using c16))
            clear c16
            replace H := Option.bind_eq_some_iff.mp H
            obtain ⟨t112, A170, H⟩ := H
            replace H : (some t112) = some r := H
            have A17 := Aside0.mk A170
            clear A170
            obtain rfl := Option.some.inj H
            go_wp2_with (first | ((with_reducible refine gate_callee (f := 13) rfl ?_); refine goesL_ (some 34) rfl rfl Try.func13 (by kernel_rfl) rfl #[.int .i64 a0] rfl (by (try simp only [List.map_toArray, List.map_cons, List.map_nil]); first | done | rfl | (simp only [List.length_drop, List.length_take]; rfl)) ?_; (with_reducible refine (pack_Zig.calls a0 t110 _ A14.out).mono ?_); rintro e w' ⟨rfl, ⟨nd, rfl⟩⟩; refine ⟨_, rfl, ?_⟩) | ((with_reducible refine gate_callee (f := 13) rfl ?_); refine goesL_ (some 36) rfl rfl Try.func13 (by kernel_rfl) rfl #[.int .i64 a1] rfl (by (try simp only [List.map_toArray, List.map_cons, List.map_nil]); first | done | rfl | (simp only [List.length_drop, List.length_take]; rfl)) ?_; (with_reducible refine (pack_Zig.calls a1 t111 _ A15.out).mono ?_); rintro e w' ⟨rfl, ⟨nd, rfl⟩⟩; refine ⟨_, rfl, ?_⟩) | (go_at_call 12; (with_reducible refine (treillagelaw01_shown.calls kj2  t112 _ A17.out).mono ?_); rintro e w18 ⟨rfl, hb⟩; have n0_ := Aside0.mk (below_step (by repeat (first | (with_reducible first | exact HB.out | apply below_alloc | apply pw_below_drewN | apply below_drew1) | exact HB.out)) hb); clear HB; have HB := n0_; clear n0_; (try clear hb); (try clear hb2); (try clear hk); (try clear hi)))
            go_ret
            exact ⟨by first | rfl | (simp [errW_none, errW_some] <;> rfl) | (simp [*, errW_none, errW_some] <;> rfl), by repeat (first | (with_reducible first | exact HB.out | apply below_alloc | apply pw_below_drewN | apply below_drew1) | exact HB.out)⟩
          · rw [if_neg c16] at H
            have c16b0 : ((decide (a0 < a1)) == (decide (t110 < t111))) = false := by simpa using c16
            (try (have c16b1 : decide ((decide (a0 < a1)) = (decide (t110 < t111))) = false := by simpa using c16))
            (try (have c16b2 : ((decide (a0 < a1)) == (decide (t110 < t111))) = false := by simpa using c16))
            (try (have c16b3 : ¬ ((decide (a0 < a1)) = (decide (t110 < t111))) := by simpa using c16))
            clear c16
            obtain rfl := Option.some.inj H
            go_wp2_with (first | ((with_reducible refine gate_callee (f := 13) rfl ?_); refine goesL_ (some 34) rfl rfl Try.func13 (by kernel_rfl) rfl #[.int .i64 a0] rfl (by (try simp only [List.map_toArray, List.map_cons, List.map_nil]); first | done | rfl | (simp only [List.length_drop, List.length_take]; rfl)) ?_; (with_reducible refine (pack_Zig.calls a0 t110 _ A14.out).mono ?_); rintro e w' ⟨rfl, ⟨nd, rfl⟩⟩; refine ⟨_, rfl, ?_⟩) | ((with_reducible refine gate_callee (f := 13) rfl ?_); refine goesL_ (some 36) rfl rfl Try.func13 (by kernel_rfl) rfl #[.int .i64 a1] rfl (by (try simp only [List.map_toArray, List.map_cons, List.map_nil]); first | done | rfl | (simp only [List.length_drop, List.length_take]; rfl)) ?_; (with_reducible refine (pack_Zig.calls a1 t111 _ A15.out).mono ?_); rintro e w' ⟨rfl, ⟨nd, rfl⟩⟩; refine ⟨_, rfl, ?_⟩))
            go_ret
            exact ⟨by first | rfl | (simp [errW_none, errW_some] <;> rfl) | (simp [*, errW_none, errW_some] <;> rfl), by repeat (first | (with_reducible first | exact HB.out | apply below_alloc | apply pw_below_drewN | apply below_drew1) | exact HB.out)⟩

/-- THE ONE PURE STATEMENT of treillagelaw01_PackRises: yours. -/
def treillagelaw01_PackRises.Pure : Prop := ∀ (a0 : Int) (a1 : Int), (Lit.int .i64 a0).wf = true → (Lit.int .i64 a1).wf = true → ∃ k, treillagelaw01_PackRises.f k a0 a1 = some true
theorem treillagelaw01_PackRises.walk (P : treillagelaw01_PackRises.Pure) (a0 : Int) (a1 : Int) (w : World) (w0 : (Lit.int .i64 a0).wf = true) (w1 : (Lit.int .i64 a1).wf = true) :
    Calls Try.prog 3 #[.int .i64 a0, .int .i64 a1] w fun e w' => e = .returned (.bool true) ∧ Below w.heap.size w w' := by
  obtain ⟨k, h⟩ := P a0 a1 w0 w1
  refine (treillagelaw01_PackRises.calls k a0 a1 true w h).mono ?_
  rintro e w' ⟨rfl, hd⟩
  exact ⟨rfl, hd⟩

/-! ### treillageref01_Zig: function 14 -/
def treillageref01_Zig.f (a0 : Int) : Option (Int) := if a0 ≥ 0 then (some (IntKind.u64.wrap (2 * (IntKind.u64.wrap (a0))))) else (some (IntKind.u64.wrap ((IntKind.u64.wrap (2 * (IntKind.u64.wrap (wrap64 (-(wrap64 (a0 + 1))))))) + 1)))
set_option maxHeartbeats 8000000 in
set_option maxRecDepth 100000 in
theorem treillageref01_Zig.calls (a0 : Int) (r : Int) (w : World) (h : treillageref01_Zig.f a0 = some r) :
    Calls Try.prog 14 #[.int .i64 a0] w fun e w' => e = .returned (.int .u64 r) ∧ Drawn0 w w' := by
  have H : (if a0 ≥ 0 then (some (IntKind.u64.wrap (2 * (IntKind.u64.wrap (a0))))) else (some (IntKind.u64.wrap ((IntKind.u64.wrap (2 * (IntKind.u64.wrap (wrap64 (-(wrap64 (a0 + 1))))))) + 1)))) = some r := h
  clear h
  by_cases c2 : a0 ≥ 0
  · rw [if_pos c2] at H
    have c2b0 : decide (0 ≤ a0) = true := decide_eq_true c2
    clear c2
    obtain rfl := Option.some.inj H
    go_enter Try.func14, Try.ntmps14
    go_wp2
    go_ret
    exact ⟨by first | rfl | (simp; done) | (simp [*]; done), by repeat (first | exact Drawn0.refl _ | apply Drawn0.step)⟩
  · rw [if_neg c2] at H
    have c2b0 : decide (0 ≤ a0) = false := decide_eq_false c2
    clear c2
    obtain rfl := Option.some.inj H
    go_enter Try.func14, Try.ntmps14
    go_wp2
    go_ret
    exact ⟨by first | rfl | (simp; done) | (simp [*]; done), by repeat (first | exact Drawn0.refl _ | apply Drawn0.step)⟩

/-! ### pack_Zag: function 15 -/
def pack_Zag.f (a0 : Int) : Option (Int) := some (Go.bits .xor .i64 (wrap64 (a0 / 2)) (wrap64 (-(wrap64 (Go.bits .and .u64 a0 1)))))
set_option maxHeartbeats 8000000 in
set_option maxRecDepth 100000 in
theorem pack_Zag.calls (a0 : Int) (r : Int) (w : World) (h : pack_Zag.f a0 = some r) :
    Calls Try.prog 15 #[.int .u64 a0] w fun e w' => e = .returned (.int .i64 r) ∧ Drawn0 w w' := by
  have H : (some (Go.bits .xor .i64 (wrap64 (a0 / 2)) (wrap64 (-(wrap64 (Go.bits .and .u64 a0 1)))))) = some r := h
  clear h
  obtain rfl := Option.some.inj H
  go_enter Try.func15, Try.ntmps15
  go_wp2
  go_ret
  exact ⟨by first | rfl | (simp; done) | (simp [*]; done), by repeat (first | exact Drawn0.refl _ | apply Drawn0.step)⟩

/-! ### treillageref01_Zag: function 16 -/
def treillageref01_Zag.f (a0 : Int) : Option (Int) := if (Int.tmod a0 2) = 0 then (some (wrap64 (IntKind.u64.wrap (Int.tdiv a0 2)))) else (some (wrap64 ((wrap64 (-(wrap64 (IntKind.u64.wrap (Int.tdiv a0 2))))) - 1)))
set_option maxHeartbeats 8000000 in
set_option maxRecDepth 100000 in
theorem treillageref01_Zag.calls (a0 : Int) (r : Int) (w : World) (h : treillageref01_Zag.f a0 = some r) :
    Calls Try.prog 16 #[.int .u64 a0] w fun e w' => e = .returned (.int .i64 r) ∧ Drawn0 w w' := by
  have H : (if (Int.tmod a0 2) = 0 then (some (wrap64 (IntKind.u64.wrap (Int.tdiv a0 2)))) else (some (wrap64 ((wrap64 (-(wrap64 (IntKind.u64.wrap (Int.tdiv a0 2))))) - 1)))) = some r := h
  clear h
  by_cases c2 : (Int.tmod a0 2) = 0
  · rw [if_pos c2] at H
    have c2b0 : ((Int.tmod a0 2) == 0) = true := beq_iff_eq.mpr c2
    have c2b1 : ((Int.tmod a0 2) != 0) = false := bne_eq_false_iff_eq.mpr c2
    clear c2
    obtain rfl := Option.some.inj H
    go_enter Try.func16, Try.ntmps16
    go_wp2
    go_ret
    exact ⟨by first | rfl | (simp; done) | (simp [*]; done), by repeat (first | exact Drawn0.refl _ | apply Drawn0.step)⟩
  · rw [if_neg c2] at H
    have c2b0 : ((Int.tmod a0 2) == 0) = false := beq_eq_false_iff_ne.mpr c2
    have c2b1 : ((Int.tmod a0 2) != 0) = true := bne_iff_ne.mpr c2
    obtain rfl := Option.some.inj H
    go_enter Try.func16, Try.ntmps16
    go_wp2
    go_ret
    exact ⟨by first | rfl | (simp; done) | (simp [*]; done), by repeat (first | exact Drawn0.refl _ | apply Drawn0.step)⟩

end Go.Proofs.Ythopfipaaboffaa.PA
