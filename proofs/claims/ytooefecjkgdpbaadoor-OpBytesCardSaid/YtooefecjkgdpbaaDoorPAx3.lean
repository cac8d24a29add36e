-- Written by wip/hprint/hprint.py (a program of this session, over the print): not typed by hand
import Derived.Test.YtooefecjkgdpbaaDoorPAx0
namespace Go.Proofs.YtooefecjkgdpbaaDoor.PA
open Go.RowKit Go.Proofs.YtooefecjkgdpbaaDoorW.PrintWords Go.Proofs.YtooefecjkgdpbaaDoorW.PrintLast Go.Proofs.YtooefecjkgdpbaaDoorW.PrintMore
attribute [local go_sem] max2_int min2_int max_two min_two max_three min_three max_four min_four   -- for this text's walks alone
open Go.Proofs.YtooefecjkgdpbaaDoorH
set_option linter.unusedVariables false
set_option linter.unusedSimpArgs false

/-! ### pack_Zig: function 35 -/
def pack_Zig.f (a0 : Int) : Option (Int) := some (Go.bits .xor .u64 (IntKind.u64.wrap (wrap64 (a0 * 2))) (IntKind.u64.wrap (a0 / 9223372036854775808)))
set_option maxHeartbeats 8000000 in
set_option maxRecDepth 100000 in
theorem pack_Zig.calls (a0 : Int) (r : Int) (w : World) (h : pack_Zig.f a0 = some r) :
  Calls Tryd.prog 35 #[.int .i64 a0] w fun e w' => e = .returned (.int .u64 r) ∧ Drawn0 w w' := by
 have H : (some (Go.bits .xor .u64 (IntKind.u64.wrap (wrap64 (a0 * 2))) (IntKind.u64.wrap (a0 / 9223372036854775808)))) = some r := h; clear h; obtain rfl := Option.some.inj H; go_enter Tryd.func35, Tryd.ntmps35; go_wp2; go_ret
 exact ⟨by first | rfl | (simp; done) | (simp [*]; done), by repeat (first | exact Drawn0.refl _ | apply Drawn0.step)⟩

/-! ### pack_Zag: function 42 -/
def pack_Zag.f (a0 : Int) : Option (Int) := some (Go.bits .xor .i64 (wrap64 (a0 / 2)) (wrap64 (-(wrap64 (Go.bits .and .u64 a0 1)))))
set_option maxHeartbeats 8000000 in
set_option maxRecDepth 100000 in
theorem pack_Zag.calls (a0 : Int) (r : Int) (w : World) (h : pack_Zag.f a0 = some r) :
  Calls Tryd.prog 42 #[.int .u64 a0] w fun e w' => e = .returned (.int .i64 r) ∧ Drawn0 w w' := by
 have H : (some (Go.bits .xor .i64 (wrap64 (a0 / 2)) (wrap64 (-(wrap64 (Go.bits .and .u64 a0 1)))))) = some r := h; clear h; obtain rfl := Option.some.inj H; go_enter Tryd.func42, Tryd.ntmps42; go_wp2; go_ret
 exact ⟨by first | rfl | (simp; done) | (simp [*]; done), by repeat (first | exact Drawn0.refl _ | apply Drawn0.step)⟩

/-! ### pack_size: function 50 -/
def pack_size.l0 : Nat → Int → Int → Option (Int)
 | 0, _, _ => none
 | k + 1, x0, x2 => if x0 = 0 then (some x2) else (pack_size.l0 k (x0 / 256) (wrap64 (x2 + 1)))
def pack_size.f (k : Nat) (a0 : Int) : Option (Int) := pack_size.l0 k a0 0
theorem pack_size.mono_l : ∀ k, (∀ y0 y1, LeO (pack_size.l0 k y0 y1) (pack_size.l0 (k + 1) y0 y1))
 | 0 => fun _ _ r h => by simp [pack_size.l0] at h
 | k + 1 => by
  have ih0 := pack_size.mono_l k
  ·intro y0 y1
   unfold pack_size.l0; repeat' first
   | (with_reducible exact ih0 _ _)
   | (with_reducible exact LeO.refl _)
   | (with_reducible exact LeO.none _)
   | (with_reducible refine LeO.ite ?_ ?_)
   | (with_reducible refine LeO.bind ?_ (fun _ => ?_))
   | exact ih0 _ _
   | exact LeO.none _
   | refine LeO.ite ?_ ?_
   | refine LeO.bind ?_ (fun _ => ?_)
theorem pack_size.mono : ∀ a0 k, LeO (pack_size.f k a0) (pack_size.f (k + 1) a0) := by
 intro a0 k
 have ih0 := pack_size.mono_l k; unfold pack_size.f
 repeat' first
   | (with_reducible exact ih0 _ _)
   | (with_reducible exact LeO.refl _)
   | (with_reducible exact LeO.none _)
   | (with_reducible refine LeO.ite ?_ ?_)
   | (with_reducible refine LeO.bind ?_ (fun _ => ?_))
   | exact ih0 _ _
   | exact LeO.none _
   | refine LeO.ite ?_ ?_
   | refine LeO.bind ?_ (fun _ => ?_)
set_option maxHeartbeats 8000000 in
set_option maxRecDepth 100000 in
theorem pack_size.calls (k : Nat) (a0 : Int) (r : Int) (w : World) (h : pack_size.f k a0 = some r) :
  Calls Tryd.prog 50 #[.int .u64 a0] w fun e w' => e = .returned (.int .i64 r) ∧ Drawn0 w w' := by
 have H : (pack_size.l0 k a0 0) = some r := h; clear h; have H' := aA H; clear H; go_enter Tryd.func50, Tryd.ntmps50; go_wp2; go_loopg [0, 2] k (fun kq v0 v2 w' => ∃ (x0_1 : Int) (x2_1 : Int), v0 = .int .u64 x0_1 ∧ v2 = .int .i64 x2_1 ∧ Aside0 (pack_size.l0 kq x0_1 x2_1 = some r) ∧ Aside0 (kq ≤ k) ∧ Drawn0 w w')
 case atStart => exact ⟨(a0), (0), (by first | rfl | (simp; done) | (simp [*]; done)), (by first | rfl | (simp; done) | (simp [*]; done)), H', ⟨Nat.le_refl _⟩, by repeat (first | exact Drawn0.refl _ | apply Drawn0.step)⟩
 case round =>
  clear H'; obtain ⟨x0_1, x2_1, rfl, rfl, HA, HK1, ⟨m1, rfl⟩⟩ := hrel; cases gk with
  | zero => exact absurd HA.out (by simp [pack_size.l0])
  | succ k1 =>
   have H := HA.out; clear HA; simp only [pack_size.l0] at H; by_cases c2 : x0_1 = 0
   ·rw [if_pos c2] at H; have c2b0 : (x0_1 == 0) = true := beq_iff_eq.mpr c2; have c2b1 : (x0_1 != 0) = false := bne_eq_false_iff_eq.mpr c2; clear c2; obtain rfl := Option.some.inj H; go_wp2; go_ret
    exact ⟨by first | rfl | (simp; done) | (simp [*]; done), by repeat (first | exact Drawn0.refl _ | apply Drawn0.step)⟩
   ·rw [if_neg c2] at H; have c2b0 : (x0_1 == 0) = false := beq_eq_false_iff_ne.mpr c2; have c2b1 : (x0_1 != 0) = true := bne_iff_ne.mpr c2; have H' := aA H; clear H; go_wp2; go_roundg k1
    case measure => have := HK1.out; omega
    case rel => exact ⟨(x0_1 / 256), (wrap64 (x2_1 + 1)), (by first | rfl | (simp; done) | (simp [*]; done)), (by first | rfl | (simp; done) | (simp [*]; done)), H', ⟨by have := HK1.out; omega⟩, by repeat (first | exact Drawn0.refl _ | apply Drawn0.step)⟩

/-! ### pack_Bytes: function 34 -/
/-- The bytes of a number, behind a byte of how many these are. -/
def packB (n u : Int) : List Int := n :: (List.range n.toNat).map (fun i => u / 256 ^ i % 256)
def pack_Bytes.f (k : Nat) (a0 : Int) : Option ByteArray := (pack_size.f k a0).bind fun n => if 0 ≤ n ∧ n ≤ 8 ∧ 0 ≤ a0 then some (strOfNums (packB n a0)) else none
theorem pack_Bytes.mono : ∀ a0 k, LeO (pack_Bytes.f k a0) (pack_Bytes.f (k + 1) a0) := by
 intro a0 k
 unfold pack_Bytes.f; exact LeO.bind (pack_size.mono _ _) (fun _ => LeO.refl _)
set_option maxHeartbeats 800000 in
set_option maxRecDepth 100000 in
theorem pack_Bytes_at0 (k : Nat) (u : Int) (w : World) (h0 : 0 ≤ u) (h : pack_size.f k u = some 0) : Calls Tryd.prog 34 #[.int .u64 u] w fun e w' => e = .returned (.string (strOfNums [0])) ∧ Below w.heap.size w w' := by
 have H := aA h; clear h; go_enter Tryd.func34, Tryd.ntmps34
 go_wp2_with (first
  | ((with_reducible refine gate_dst (N := 3) rfl ?_); refine box_event (N := 3) rfl rfl (cs := #[.int .u8 0, .int .u8 0, .int .u8 0, .int .u8 0, .int .u8 0, .int .u8 0, .int .u8 0, .int .u8 0, .int .u8 0]) (t := 78) (by first | (go_simp; done) | (go_simp; rfl)) ?_; intro g hg w1 hb HB; have HG := Nat.le_of_eq hg.symm; clear hg)
  | (go_at_call 50; refine (pack_size.calls k _ 0 _ H.out).mono ?_; rintro e w2 ⟨rfl, ⟨⟨n, rfl⟩⟩⟩; have hb1 := blk_drewN hb n; have HB1 := pw_below_drewN HB n; clear hb HB; have hb := hb1; have HB := HB1; clear hb1 HB1)
  | ((with_reducible refine gate_store rfl ?_); refine blk_store (w0 := w) (base := w.heap.size) (u := .int _ _) rfl rfl rfl rfl rfl rfl rfl ?ht hb ?hj HB HG ?_; (case ht => kernel_rfl); (case hj => simp); intro w2 hb2 HB2 _; clear hb HB; simp only [List.setIfInBounds_toArray, List.set_cons_zero, List.set_cons_succ] at hb2; have hb := hb2; have HB := HB2; clear hb2 HB2))
 rw [string_of_reads Tryd.underlying58 Tryd.underlying5 Tryd.underlying9 (reads_blk hb [0] (n := 1) rfl (by decide) ?h)]
 case h =>
  intro j hj
  match j, hj with
  | 0, _ => rfl
 go_wp2; go_ret
 exact ⟨rfl, HB⟩
set_option maxHeartbeats 800000 in
set_option maxRecDepth 100000 in
theorem pack_Bytes_at1 (k : Nat) (u : Int) (w : World) (h0 : 0 ≤ u) (h : pack_size.f k u = some 1) : Calls Tryd.prog 34 #[.int .u64 u] w fun e w' => e = .returned (.string (strOfNums [1, u % 256])) ∧ Below w.heap.size w w' := by
 have H := aA h; clear h; go_enter Tryd.func34, Tryd.ntmps34
 go_wp2_with (first
  | ((with_reducible refine gate_dst (N := 3) rfl ?_); refine box_event (N := 3) rfl rfl (cs := #[.int .u8 0, .int .u8 0, .int .u8 0, .int .u8 0, .int .u8 0, .int .u8 0, .int .u8 0, .int .u8 0, .int .u8 0]) (t := 78) (by first | (go_simp; done) | (go_simp; rfl)) ?_; intro g hg w1 hb HB; have HG := Nat.le_of_eq hg.symm; clear hg)
  | (go_at_call 50; refine (pack_size.calls k _ 1 _ H.out).mono ?_; rintro e w2 ⟨rfl, ⟨⟨n, rfl⟩⟩⟩; have hb1 := blk_drewN hb n; have HB1 := pw_below_drewN HB n; clear hb HB; have hb := hb1; have HB := HB1; clear hb1 HB1)
  | ((with_reducible refine gate_store rfl ?_); refine blk_store (w0 := w) (base := w.heap.size) (u := .int _ _) rfl rfl rfl rfl rfl rfl rfl ?ht hb ?hj HB HG ?_; (case ht => kernel_rfl); (case hj => simp); intro w2 hb2 HB2 _; clear hb HB; simp only [List.setIfInBounds_toArray, List.set_cons_zero, List.set_cons_succ] at hb2; have hb := hb2; have HB := HB2; clear hb2 HB2))
 rw [string_of_reads Tryd.underlying58 Tryd.underlying5 Tryd.underlying9 (reads_blk hb [1, u % 256] (n := 2) rfl (by decide) ?h)]
 case h =>
  intro j hj
  match j, hj with
  | 0, _ => rfl
  | 1, _ => rfl
 go_wp2; go_ret
 exact ⟨rfl, HB⟩
set_option maxHeartbeats 800000 in
set_option maxRecDepth 100000 in
theorem pack_Bytes_at2 (k : Nat) (u : Int) (w : World) (h0 : 0 ≤ u) (h : pack_size.f k u = some 2) : Calls Tryd.prog 34 #[.int .u64 u] w fun e w' => e = .returned (.string (strOfNums [2, u % 256, u / 256 % 256])) ∧ Below w.heap.size w w' := by
 have H := aA h; clear h; go_enter Tryd.func34, Tryd.ntmps34
 go_wp2_with (first
  | ((with_reducible refine gate_dst (N := 3) rfl ?_); refine box_event (N := 3) rfl rfl (cs := #[.int .u8 0, .int .u8 0, .int .u8 0, .int .u8 0, .int .u8 0, .int .u8 0, .int .u8 0, .int .u8 0, .int .u8 0]) (t := 78) (by first | (go_simp; done) | (go_simp; rfl)) ?_; intro g hg w1 hb HB; have HG := Nat.le_of_eq hg.symm; clear hg)
  | (go_at_call 50; refine (pack_size.calls k _ 2 _ H.out).mono ?_; rintro e w2 ⟨rfl, ⟨⟨n, rfl⟩⟩⟩; have hb1 := blk_drewN hb n; have HB1 := pw_below_drewN HB n; clear hb HB; have hb := hb1; have HB := HB1; clear hb1 HB1)
  | ((with_reducible refine gate_store rfl ?_); refine blk_store (w0 := w) (base := w.heap.size) (u := .int _ _) rfl rfl rfl rfl rfl rfl rfl ?ht hb ?hj HB HG ?_; (case ht => kernel_rfl); (case hj => simp); intro w2 hb2 HB2 _; clear hb HB; simp only [List.setIfInBounds_toArray, List.set_cons_zero, List.set_cons_succ] at hb2; have hb := hb2; have HB := HB2; clear hb2 HB2))
 rw [string_of_reads Tryd.underlying58 Tryd.underlying5 Tryd.underlying9 (reads_blk hb [2, u % 256, u / 256 % 256] (n := 3) rfl (by decide) ?h)]
 case h =>
  intro j hj
  match j, hj with
  | 0, _ => rfl
  | 1, _ => rfl
  | 2, _ => rfl
 go_wp2; go_ret
 exact ⟨rfl, HB⟩
set_option maxHeartbeats 800000 in
set_option maxRecDepth 100000 in
theorem pack_Bytes_at3 (k : Nat) (u : Int) (w : World) (h0 : 0 ≤ u) (h : pack_size.f k u = some 3) : Calls Tryd.prog 34 #[.int .u64 u] w fun e w' => e = .returned (.string (strOfNums [3, u % 256, u / 256 % 256, u / 65536 % 256])) ∧ Below w.heap.size w w' := by
 have H := aA h; clear h; go_enter Tryd.func34, Tryd.ntmps34
 go_wp2_with (first
  | ((with_reducible refine gate_dst (N := 3) rfl ?_); refine box_event (N := 3) rfl rfl (cs := #[.int .u8 0, .int .u8 0, .int .u8 0, .int .u8 0, .int .u8 0, .int .u8 0, .int .u8 0, .int .u8 0, .int .u8 0]) (t := 78) (by first | (go_simp; done) | (go_simp; rfl)) ?_; intro g hg w1 hb HB; have HG := Nat.le_of_eq hg.symm; clear hg)
  | (go_at_call 50; refine (pack_size.calls k _ 3 _ H.out).mono ?_; rintro e w2 ⟨rfl, ⟨⟨n, rfl⟩⟩⟩; have hb1 := blk_drewN hb n; have HB1 := pw_below_drewN HB n; clear hb HB; have hb := hb1; have HB := HB1; clear hb1 HB1)
  | ((with_reducible refine gate_store rfl ?_); refine blk_store (w0 := w) (base := w.heap.size) (u := .int _ _) rfl rfl rfl rfl rfl rfl rfl ?ht hb ?hj HB HG ?_; (case ht => kernel_rfl); (case hj => simp); intro w2 hb2 HB2 _; clear hb HB; simp only [List.setIfInBounds_toArray, List.set_cons_zero, List.set_cons_succ] at hb2; have hb := hb2; have HB := HB2; clear hb2 HB2))
 rw [string_of_reads Tryd.underlying58 Tryd.underlying5 Tryd.underlying9 (reads_blk hb [3, u % 256, u / 256 % 256, u / 65536 % 256] (n := 4) rfl (by decide) ?h)]
 case h =>
  intro j hj
  match j, hj with
  | 0, _ => rfl
  | 1, _ => rfl
  | 2, _ => rfl
  | 3, _ => rfl
 go_wp2; go_ret
 exact ⟨rfl, HB⟩
set_option maxHeartbeats 800000 in
set_option maxRecDepth 100000 in
theorem pack_Bytes_at4 (k : Nat) (u : Int) (w : World) (h0 : 0 ≤ u) (h : pack_size.f k u = some 4) : Calls Tryd.prog 34 #[.int .u64 u] w fun e w' => e = .returned (.string (strOfNums [4, u % 256, u / 256 % 256, u / 65536 % 256, u / 16777216 % 256])) ∧ Below w.heap.size w w' := by
 have H := aA h; clear h; go_enter Tryd.func34, Tryd.ntmps34
 go_wp2_with (first
  | ((with_reducible refine gate_dst (N := 3) rfl ?_); refine box_event (N := 3) rfl rfl (cs := #[.int .u8 0, .int .u8 0, .int .u8 0, .int .u8 0, .int .u8 0, .int .u8 0, .int .u8 0, .int .u8 0, .int .u8 0]) (t := 78) (by first | (go_simp; done) | (go_simp; rfl)) ?_; intro g hg w1 hb HB; have HG := Nat.le_of_eq hg.symm; clear hg)
  | (go_at_call 50; refine (pack_size.calls k _ 4 _ H.out).mono ?_; rintro e w2 ⟨rfl, ⟨⟨n, rfl⟩⟩⟩; have hb1 := blk_drewN hb n; have HB1 := pw_below_drewN HB n; clear hb HB; have hb := hb1; have HB := HB1; clear hb1 HB1)
  | ((with_reducible refine gate_store rfl ?_); refine blk_store (w0 := w) (base := w.heap.size) (u := .int _ _) rfl rfl rfl rfl rfl rfl rfl ?ht hb ?hj HB HG ?_; (case ht => kernel_rfl); (case hj => simp); intro w2 hb2 HB2 _; clear hb HB; simp only [List.setIfInBounds_toArray, List.set_cons_zero, List.set_cons_succ] at hb2; have hb := hb2; have HB := HB2; clear hb2 HB2))
 rw [string_of_reads Tryd.underlying58 Tryd.underlying5 Tryd.underlying9 (reads_blk hb [4, u % 256, u / 256 % 256, u / 65536 % 256, u / 16777216 % 256] (n := 5) rfl (by decide) ?h)]
 case h =>
  intro j hj
  match j, hj with
  | 0, _ => rfl
  | 1, _ => rfl
  | 2, _ => rfl
  | 3, _ => rfl
  | 4, _ => rfl
 go_wp2; go_ret
 exact ⟨rfl, HB⟩
set_option maxHeartbeats 800000 in
set_option maxRecDepth 100000 in
theorem pack_Bytes_at5 (k : Nat) (u : Int) (w : World) (h0 : 0 ≤ u) (h : pack_size.f k u = some 5) : Calls Tryd.prog 34 #[.int .u64 u] w fun e w' => e = .returned (.string (strOfNums [5, u % 256, u / 256 % 256, u / 65536 % 256, u / 16777216 % 256, u / 4294967296 % 256])) ∧ Below w.heap.size w w' := by
 have H := aA h; clear h; go_enter Tryd.func34, Tryd.ntmps34
 go_wp2_with (first
  | ((with_reducible refine gate_dst (N := 3) rfl ?_); refine box_event (N := 3) rfl rfl (cs := #[.int .u8 0, .int .u8 0, .int .u8 0, .int .u8 0, .int .u8 0, .int .u8 0, .int .u8 0, .int .u8 0, .int .u8 0]) (t := 78) (by first | (go_simp; done) | (go_simp; rfl)) ?_; intro g hg w1 hb HB; have HG := Nat.le_of_eq hg.symm; clear hg)
  | (go_at_call 50; refine (pack_size.calls k _ 5 _ H.out).mono ?_; rintro e w2 ⟨rfl, ⟨⟨n, rfl⟩⟩⟩; have hb1 := blk_drewN hb n; have HB1 := pw_below_drewN HB n; clear hb HB; have hb := hb1; have HB := HB1; clear hb1 HB1)
  | ((with_reducible refine gate_store rfl ?_); refine blk_store (w0 := w) (base := w.heap.size) (u := .int _ _) rfl rfl rfl rfl rfl rfl rfl ?ht hb ?hj HB HG ?_; (case ht => kernel_rfl); (case hj => simp); intro w2 hb2 HB2 _; clear hb HB; simp only [List.setIfInBounds_toArray, List.set_cons_zero, List.set_cons_succ] at hb2; have hb := hb2; have HB := HB2; clear hb2 HB2))
 rw [string_of_reads Tryd.underlying58 Tryd.underlying5 Tryd.underlying9 (reads_blk hb [5, u % 256, u / 256 % 256, u / 65536 % 256, u / 16777216 % 256, u / 4294967296 % 256] (n := 6) rfl (by decide) ?h)]
 case h =>
  intro j hj
  match j, hj with
  | 0, _ => rfl
  | 1, _ => rfl
  | 2, _ => rfl
  | 3, _ => rfl
  | 4, _ => rfl
  | 5, _ => rfl
 go_wp2; go_ret
 exact ⟨rfl, HB⟩
set_option maxHeartbeats 800000 in
set_option maxRecDepth 100000 in
theorem pack_Bytes_at6 (k : Nat) (u : Int) (w : World) (h0 : 0 ≤ u) (h : pack_size.f k u = some 6) : Calls Tryd.prog 34 #[.int .u64 u] w fun e w' => e = .returned (.string (strOfNums [6, u % 256, u / 256 % 256, u / 65536 % 256, u / 16777216 % 256, u / 4294967296 % 256, u / 1099511627776 % 256])) ∧ Below w.heap.size w w' := by
 have H := aA h; clear h; go_enter Tryd.func34, Tryd.ntmps34
 go_wp2_with (first
  | ((with_reducible refine gate_dst (N := 3) rfl ?_); refine box_event (N := 3) rfl rfl (cs := #[.int .u8 0, .int .u8 0, .int .u8 0, .int .u8 0, .int .u8 0, .int .u8 0, .int .u8 0, .int .u8 0, .int .u8 0]) (t := 78) (by first | (go_simp; done) | (go_simp; rfl)) ?_; intro g hg w1 hb HB; have HG := Nat.le_of_eq hg.symm; clear hg)
  | (go_at_call 50; refine (pack_size.calls k _ 6 _ H.out).mono ?_; rintro e w2 ⟨rfl, ⟨⟨n, rfl⟩⟩⟩; have hb1 := blk_drewN hb n; have HB1 := pw_below_drewN HB n; clear hb HB; have hb := hb1; have HB := HB1; clear hb1 HB1)
  | ((with_reducible refine gate_store rfl ?_); refine blk_store (w0 := w) (base := w.heap.size) (u := .int _ _) rfl rfl rfl rfl rfl rfl rfl ?ht hb ?hj HB HG ?_; (case ht => kernel_rfl); (case hj => simp); intro w2 hb2 HB2 _; clear hb HB; simp only [List.setIfInBounds_toArray, List.set_cons_zero, List.set_cons_succ] at hb2; have hb := hb2; have HB := HB2; clear hb2 HB2))
 rw [string_of_reads Tryd.underlying58 Tryd.underlying5 Tryd.underlying9 (reads_blk hb [6, u % 256, u / 256 % 256, u / 65536 % 256, u / 16777216 % 256, u / 4294967296 % 256, u / 1099511627776 % 256] (n := 7) rfl (by decide) ?h)]
 case h =>
  intro j hj
  match j, hj with
  | 0, _ => rfl
  | 1, _ => rfl
  | 2, _ => rfl
  | 3, _ => rfl
  | 4, _ => rfl
  | 5, _ => rfl
  | 6, _ => rfl
 go_wp2; go_ret
 exact ⟨rfl, HB⟩
set_option maxHeartbeats 800000 in
set_option maxRecDepth 100000 in
theorem pack_Bytes_at7 (k : Nat) (u : Int) (w : World) (h0 : 0 ≤ u) (h : pack_size.f k u = some 7) : Calls Tryd.prog 34 #[.int .u64 u] w fun e w' => e = .returned (.string (strOfNums [7, u % 256, u / 256 % 256, u / 65536 % 256, u / 16777216 % 256, u / 4294967296 % 256, u / 1099511627776 % 256, u / 281474976710656 % 256])) ∧ Below w.heap.size w w' := by
 have H := aA h; clear h; go_enter Tryd.func34, Tryd.ntmps34
 go_wp2_with (first
  | ((with_reducible refine gate_dst (N := 3) rfl ?_); refine box_event (N := 3) rfl rfl (cs := #[.int .u8 0, .int .u8 0, .int .u8 0, .int .u8 0, .int .u8 0, .int .u8 0, .int .u8 0, .int .u8 0, .int .u8 0]) (t := 78) (by first | (go_simp; done) | (go_simp; rfl)) ?_; intro g hg w1 hb HB; have HG := Nat.le_of_eq hg.symm; clear hg)
  | (go_at_call 50; refine (pack_size.calls k _ 7 _ H.out).mono ?_; rintro e w2 ⟨rfl, ⟨⟨n, rfl⟩⟩⟩; have hb1 := blk_drewN hb n; have HB1 := pw_below_drewN HB n; clear hb HB; have hb := hb1; have HB := HB1; clear hb1 HB1)
  | ((with_reducible refine gate_store rfl ?_); refine blk_store (w0 := w) (base := w.heap.size) (u := .int _ _) rfl rfl rfl rfl rfl rfl rfl ?ht hb ?hj HB HG ?_; (case ht => kernel_rfl); (case hj => simp); intro w2 hb2 HB2 _; clear hb HB; simp only [List.setIfInBounds_toArray, List.set_cons_zero, List.set_cons_succ] at hb2; have hb := hb2; have HB := HB2; clear hb2 HB2))
 rw [string_of_reads Tryd.underlying58 Tryd.underlying5 Tryd.underlying9 (reads_blk hb [7, u % 256, u / 256 % 256, u / 65536 % 256, u / 16777216 % 256, u / 4294967296 % 256, u / 1099511627776 % 256, u / 281474976710656 % 256] (n := 8) rfl (by decide) ?h)]
 case h =>
  intro j hj
  match j, hj with
  | 0, _ => rfl
  | 1, _ => rfl
  | 2, _ => rfl
  | 3, _ => rfl
  | 4, _ => rfl
  | 5, _ => rfl
  | 6, _ => rfl
  | 7, _ => rfl
 go_wp2; go_ret
 exact ⟨rfl, HB⟩
set_option maxHeartbeats 800000 in
set_option maxRecDepth 100000 in
theorem pack_Bytes_at8 (k : Nat) (u : Int) (w : World) (h0 : 0 ≤ u) (h : pack_size.f k u = some 8) : Calls Tryd.prog 34 #[.int .u64 u] w fun e w' => e = .returned (.string (strOfNums [8, u % 256, u / 256 % 256, u / 65536 % 256, u / 16777216 % 256, u / 4294967296 % 256, u / 1099511627776 % 256, u / 281474976710656 % 256, u / 72057594037927936 % 256])) ∧ Below w.heap.size w w' := by
 have H := aA h; clear h; go_enter Tryd.func34, Tryd.ntmps34
 go_wp2_with (first
  | ((with_reducible refine gate_dst (N := 3) rfl ?_); refine box_event (N := 3) rfl rfl (cs := #[.int .u8 0, .int .u8 0, .int .u8 0, .int .u8 0, .int .u8 0, .int .u8 0, .int .u8 0, .int .u8 0, .int .u8 0]) (t := 78) (by first | (go_simp; done) | (go_simp; rfl)) ?_; intro g hg w1 hb HB; have HG := Nat.le_of_eq hg.symm; clear hg)
  | (go_at_call 50; refine (pack_size.calls k _ 8 _ H.out).mono ?_; rintro e w2 ⟨rfl, ⟨⟨n, rfl⟩⟩⟩; have hb1 := blk_drewN hb n; have HB1 := pw_below_drewN HB n; clear hb HB; have hb := hb1; have HB := HB1; clear hb1 HB1)
  | ((with_reducible refine gate_store rfl ?_); refine blk_store (w0 := w) (base := w.heap.size) (u := .int _ _) rfl rfl rfl rfl rfl rfl rfl ?ht hb ?hj HB HG ?_; (case ht => kernel_rfl); (case hj => simp); intro w2 hb2 HB2 _; clear hb HB; simp only [List.setIfInBounds_toArray, List.set_cons_zero, List.set_cons_succ] at hb2; have hb := hb2; have HB := HB2; clear hb2 HB2))
 rw [string_of_reads Tryd.underlying58 Tryd.underlying5 Tryd.underlying9 (reads_blk hb [8, u % 256, u / 256 % 256, u / 65536 % 256, u / 16777216 % 256, u / 4294967296 % 256, u / 1099511627776 % 256, u / 281474976710656 % 256, u / 72057594037927936 % 256] (n := 9) rfl (by decide) ?h)]
 case h =>
  intro j hj
  match j, hj with
  | 0, _ => rfl
  | 1, _ => rfl
  | 2, _ => rfl
  | 3, _ => rfl
  | 4, _ => rfl
  | 5, _ => rfl
  | 6, _ => rfl
  | 7, _ => rfl
  | 8, _ => rfl
 go_wp2; go_ret
 exact ⟨rfl, HB⟩
theorem pack_Bytes.calls (k : Nat) (a0 : Int) (r : ByteArray) (w : World) (h : pack_Bytes.f k a0 = some r) : Calls Tryd.prog 34 #[.int .u64 a0] w fun e w' => e = .returned (.string r) ∧ Below w.heap.size w w' := by
 unfold pack_Bytes.f at h; cases hs : pack_size.f k a0 with
 | none => rw [hs] at h; simp at h
 | some n =>
  rw [hs] at h; simp only [Option.bind_some] at h; split at h
  ·rename_i hc
   obtain ⟨h0, h8, hu⟩ := hc; obtain rfl := Option.some.inj h; obtain ⟨m, rfl⟩ := Int.eq_ofNat_of_zero_le h0; match m, h8, hs with
   | 0, _, hs => simpa [packB, List.range, List.range.loop] using pack_Bytes_at0 k a0 w hu hs
   | 1, _, hs => simpa [packB, List.range, List.range.loop] using pack_Bytes_at1 k a0 w hu hs
   | 2, _, hs => simpa [packB, List.range, List.range.loop] using pack_Bytes_at2 k a0 w hu hs
   | 3, _, hs => simpa [packB, List.range, List.range.loop] using pack_Bytes_at3 k a0 w hu hs
   | 4, _, hs => simpa [packB, List.range, List.range.loop] using pack_Bytes_at4 k a0 w hu hs
   | 5, _, hs => simpa [packB, List.range, List.range.loop] using pack_Bytes_at5 k a0 w hu hs
   | 6, _, hs => simpa [packB, List.range, List.range.loop] using pack_Bytes_at6 k a0 w hu hs
   | 7, _, hs => simpa [packB, List.range, List.range.loop] using pack_Bytes_at7 k a0 w hu hs
   | 8, _, hs => simpa [packB, List.range, List.range.loop] using pack_Bytes_at8 k a0 w hu hs
   | m + 9, h8, _ => omega
  ·cases h

/-! ### pack_Back: function 41 -/
mutual
def pack_Back.j0 : Nat → ByteArray → Int → Bool → Option (Int × Bool)
 | 0, _, _, _ => none
 | k + 1, x0, x2, x21 => if x21 = true then (some (0, false)) else (pack_Back.l0 k x0 x2 (wrap64 ((x0.size : Int) - 1)))
def pack_Back.l0 : Nat → ByteArray → Int → Int → Option (Int × Bool)
 | 0, _, _, _ => none
 | k + 1, x0, x2, x4 => if x4 > 0 then (if 0 ≤ x4 then (if x4 < (x0.size : Int) then (pack_Back.l0 k x0 (Go.bits .or .u64 (IntKind.u64.wrap (x2 * 256)) (IntKind.u64.wrap (bt x0 x4))) (wrap64 (x4 - 1))) else (none)) else (none)) else ((pack_size.f k x2).bind fun t101 => (if t101 = (wrap64 ((x0.size : Int) - 1)) then (some (x2, true)) else (some (0, false))))
end
def pack_Back.f (k : Nat) (a0 : ByteArray) : Option (Int × Bool) := if (a0.size : Int) = 0 then (pack_Back.j0 k a0 0 true) else (if (a0.size : Int) > 9 then (pack_Back.j0 k a0 0 true) else (if 0 < (a0.size : Int) then (pack_Back.j0 k a0 0 ((wrap64 (bt a0 0)) != (wrap64 ((a0.size : Int) - 1)))) else (none)))
theorem pack_Back.mono_l : ∀ k, (∀ y0 y1 y2, LeO (pack_Back.j0 k y0 y1 y2) (pack_Back.j0 (k + 1) y0 y1 y2)) ∧ (∀ y0 y1 y2, LeO (pack_Back.l0 k y0 y1 y2) (pack_Back.l0 (k + 1) y0 y1 y2))
 | 0 => ⟨fun _ _ _ r h => by simp [pack_Back.j0] at h, fun _ _ _ r h => by simp [pack_Back.l0] at h⟩
 | k + 1 => by
  obtain ⟨ih0, ih1⟩ := pack_Back.mono_l k; refine ⟨?_, ?_⟩
  ·intro y0 y1 y2
   unfold pack_Back.j0; repeat' first
   | (with_reducible exact ih0 _ _ _)
   | (with_reducible exact ih1 _ _ _)
   | (with_reducible exact pack_size.mono _ _)
   | (with_reducible exact LeO.refl _)
   | (with_reducible exact LeO.none _)
   | (with_reducible refine LeO.ite ?_ ?_)
   | (with_reducible refine LeO.bind ?_ (fun _ => ?_))
   | exact ih0 _ _ _
   | exact ih1 _ _ _
   | exact pack_size.mono _ _
   | exact LeO.none _
   | refine LeO.ite ?_ ?_
   | refine LeO.bind ?_ (fun _ => ?_)
  ·intro y0 y1 y2
   unfold pack_Back.l0; repeat' first
   | (with_reducible exact ih0 _ _ _)
   | (with_reducible exact ih1 _ _ _)
   | (with_reducible exact pack_size.mono _ _)
   | (with_reducible exact LeO.refl _)
   | (with_reducible exact LeO.none _)
   | (with_reducible refine LeO.ite ?_ ?_)
   | (with_reducible refine LeO.bind ?_ (fun _ => ?_))
   | exact ih0 _ _ _
   | exact ih1 _ _ _
   | exact pack_size.mono _ _
   | exact LeO.none _
   | refine LeO.ite ?_ ?_
   | refine LeO.bind ?_ (fun _ => ?_)
theorem pack_Back.mono : ∀ a0 k, LeO (pack_Back.f k a0) (pack_Back.f (k + 1) a0) := by
 intro a0 k
 obtain ⟨ih0, ih1⟩ := pack_Back.mono_l k; unfold pack_Back.f
 repeat' first
   | (with_reducible exact ih0 _ _ _)
   | (with_reducible exact ih1 _ _ _)
   | (with_reducible exact pack_size.mono _ _)
   | (with_reducible exact LeO.refl _)
   | (with_reducible exact LeO.none _)
   | (with_reducible refine LeO.ite ?_ ?_)
   | (with_reducible refine LeO.bind ?_ (fun _ => ?_))
   | exact ih0 _ _ _
   | exact ih1 _ _ _
   | exact pack_size.mono _ _
   | exact LeO.none _
   | refine LeO.ite ?_ ?_
   | refine LeO.bind ?_ (fun _ => ?_)
set_option maxHeartbeats 8000000 in
set_option maxRecDepth 100000 in
theorem pack_Back.calls (k : Nat) (a0 : ByteArray) (r1 : Int) (r2 : Bool) (w : World) (h : pack_Back.f k a0 = some (r1, r2)) :
  Calls Tryd.prog 41 #[.string a0] w fun e w' => e = .returned (.tuple #[.int .u64 r1, .bool r2]) ∧ Drawn0 w w' := by
 have H : (if (a0.size : Int) = 0 then (pack_Back.j0 k a0 0 true) else (if (a0.size : Int) > 9 then (pack_Back.j0 k a0 0 true) else (if 0 < (a0.size : Int) then (pack_Back.j0 k a0 0 ((wrap64 (bt a0 0)) != (wrap64 ((a0.size : Int) - 1)))) else (none)))) = some (r1, r2) := h; clear h; have HC2 := aA H; clear H; go_enter Tryd.func41, Tryd.ntmps41; go_upto_region 1 with (fail)
 go_cut [21] (fun v21 wc => ∃ (kq : Nat) (x21_1 : Bool), v21 = .bool x21_1 ∧ Aside0 (pack_Back.j0 kq a0 0 x21_1 = some (r1, r2)) ∧ Aside0 (kq ≤ k) ∧ Drawn0 w wc)
 case first =>
  have H := HC2.out; clear HC2; by_cases c3 : (a0.size : Int) = 0
  ·rw [if_pos c3] at H; have c3b0 : ((a0.size : Int) == 0) = true := beq_iff_eq.mpr c3; have c3b1 : ((a0.size : Int) != 0) = false := bne_eq_false_iff_eq.mpr c3; clear c3; (first | rw [c3b0] | rw [c3b1] | (simp only [i64_w, i32_w]; rw [c3b0]) | skip)
   have H' := aA H; clear H; go_wp2; go_meet
   case rel => exact ⟨_, (true), (by first | rfl | (simp; done) | (simp [*]; done)), H', ⟨by first | omega | exact Nat.le_refl _⟩, by repeat (first | exact Drawn0.refl _ | apply Drawn0.step)⟩
  ·rw [if_neg c3] at H; have c3b0 : ((a0.size : Int) == 0) = false := beq_eq_false_iff_ne.mpr c3; have c3b1 : ((a0.size : Int) != 0) = true := bne_iff_ne.mpr c3; (first | rw [c3b0] | rw [c3b1] | (simp only [i64_w, i32_w]; rw [c3b0]) | skip)
   by_cases c4 : (a0.size : Int) > 9
   ·rw [if_pos c4] at H; have c4b0 : decide (9 < (a0.size : Int)) = true := decide_eq_true c4; have c4b1 : decide (9 < a0.size) = true := decide_eq_true (by omega); clear c4; have H' := aA H; clear H; go_wp2; go_meet
    case rel => exact ⟨_, (true), (by first | rfl | (simp; done) | (simp [*]; done)), H', ⟨by first | omega | exact Nat.le_refl _⟩, by repeat (first | exact Drawn0.refl _ | apply Drawn0.step)⟩
   ·rw [if_neg c4] at H; have c4b0 : decide (9 < (a0.size : Int)) = false := decide_eq_false c4; have c4b1 : decide (9 < a0.size) = false := decide_eq_false (by omega); clear c4; by_cases c5 : 0 < (a0.size : Int)
    rotate_left
    ·rw [if_neg c5] at H; exact absurd H (by simp)
    rw [if_pos c5] at H; have c5b0 : decide (0 < (a0.size : Int)) = true := decide_eq_true c5; have c5b1 : decide (0 < a0.size) = true := decide_eq_true (by omega); clear c5; have H' := aA H; clear H; have p6 : 0 ≤ (0 : Int) := (by omega); have q6 : 0 < a0.size := (by have : (0 : Int) < (a0.size : Int) := of_decide_eq_true (by first | (with_reducible assumption) | assumption); omega); have hx6 : ∀ h : 0 < a0.size, ((a0[0]'h).toNat : Int) = bt a0 0 := bt_at a0 0; clear p6; have qi6 : (0 < (a0.size : Int)) = True := eq_true (of_decide_eq_true (by first | (with_reducible assumption) | assumption)); replace q6 := eq_true q6; go_wp2; go_meet
    case rel => exact ⟨_, (((wrap64 (bt a0 0)) != (wrap64 ((a0.size : Int) - 1)))), (by first | rfl | (simp; done) | (simp [*]; done)), H', ⟨by first | omega | exact Nat.le_refl _⟩, by repeat (first | exact Drawn0.refl _ | apply Drawn0.step)⟩
 case rest =>
  clear HC2; try clear p2
  try clear c3
  try clear c3b0
  try clear c3b1
  try clear c4
  try clear c4b0
  try clear c4b1
  try clear c5
  try clear c5b0
  try clear c5b1
  try clear p6
  try clear q6
  try clear hx6
  try clear qi6
  try clear p6
  try clear q6
  obtain ⟨kq, x21_1, rfl, HA, HJ1, ⟨mc1, rfl⟩⟩ := hcut; cases kq with
  | zero => exact absurd HA.out (by simp [pack_Back.j0])
  | succ kj1 =>
   have H := HA.out; clear HA; simp only [pack_Back.j0] at H; by_cases c7 : x21_1 = true
   ·subst c7; have H1 : (some (0, false)) = some (r1, r2) := by rw [if_pos rfl] at H; exact H
    clear H; have H := H1; clear H1; simp only [Option.some.injEq, Prod.mk.injEq] at H; obtain ⟨rfl, rfl⟩ := H; go_wp2; go_ret2
    exact ⟨by first | rfl | (simp; done) | (simp [*]; done), by repeat (first | exact Drawn0.refl _ | apply Drawn0.step)⟩
   ·replace c7 := Bool.eq_false_iff.mpr c7; subst c7; have H1 : (pack_Back.l0 kj1 a0 0 (wrap64 ((a0.size : Int) - 1))) = some (r1, r2) := by rw [if_neg (show ¬ (false = true) by decide)] at H; exact H
    clear H; have H := H1; clear H1; have H' := aA H; clear H; go_wp2; go_loopg [2, 4] kj1 (fun kq v2 v4 w' => ∃ (x2_2 : Int) (x4_2 : Int), v2 = .int .u64 x2_2 ∧ v4 = .int .i64 x4_2 ∧ Aside0 (pack_Back.l0 kq a0 x2_2 x4_2 = some (r1, r2)) ∧ Aside0 (kq ≤ kj1) ∧ Drawn0 w w')
    case atStart => exact ⟨(0), (wrap64 ((a0.size : Int) - 1)), (by first | rfl | (simp; done) | (simp [*]; done)), (by first | rfl | (simp; done) | (simp [*]; done)), H', ⟨Nat.le_refl _⟩, by repeat (first | exact Drawn0.refl _ | apply Drawn0.step)⟩
    case round =>
     clear H'; try clear c1
     try clear p2
     try clear c3
     try clear c3b0
     try clear c3b1
     try clear c4
     try clear c4b0
     try clear c4b1
     try clear c5
     try clear c5b0
     try clear c5b1
     try clear p6
     try clear q6
     try clear hx6
     try clear qi6
     try clear c7
     try clear p2
     try clear p6
     try clear q6
     obtain ⟨x2_2, x4_2, rfl, rfl, HA, HK2, ⟨m2, rfl⟩⟩ := hrel; cases gk with
     | zero => exact absurd HA.out (by simp [pack_Back.l0])
     | succ k2 =>
      have H := HA.out; clear HA; simp only [pack_Back.l0] at H; by_cases c8 : x4_2 > 0
      ·rw [if_pos c8] at H; have c8b0 : decide (0 < x4_2) = true := decide_eq_true c8; clear c8; by_cases c9 : 0 ≤ x4_2
       rotate_left
       ·rw [if_neg c9] at H; exact absurd H (by simp)
       rw [if_pos c9] at H; have c9b0 : decide (0 ≤ x4_2) = true := decide_eq_true c9; clear c9; by_cases c10 : x4_2 < (a0.size : Int)
       rotate_left
       ·rw [if_neg c10] at H; exact absurd H (by simp)
       rw [if_pos c10] at H; have c10b0 : decide (x4_2 < (a0.size : Int)) = true := decide_eq_true c10; clear c10; have H' := aA H; clear H; have p11 : 0 ≤ (x4_2 : Int) := of_decide_eq_true (by first | (with_reducible assumption) | assumption); have q11 : x4_2 < (a0.size : Int) := of_decide_eq_true (by first | (with_reducible assumption) | assumption); have hx11 := bt_at a0 x4_2; replace p11 := eq_true p11; replace q11 := eq_true q11; go_wp2; go_roundg k2
       case measure => have := HJ1.out; have := HK2.out; omega
       case rel => exact ⟨(Go.bits .or .u64 (IntKind.u64.wrap (x2_2 * 256)) (IntKind.u64.wrap (bt a0 x4_2))), (wrap64 (x4_2 - 1)), (by first | rfl | (simp; done) | (simp [*]; done)), (by first | rfl | (simp; done) | (simp [*]; done)), H', ⟨by have := HJ1.out; have := HK2.out; omega⟩, by repeat (first | exact Drawn0.refl _ | apply Drawn0.step)⟩
      ·rw [if_neg c8] at H; have c8b0 : decide (0 < x4_2) = false := decide_eq_false c8; clear c8; replace H := Option.bind_eq_some_iff.mp H; obtain ⟨t101, A120, H⟩ := H; replace H : (if t101 = (wrap64 ((a0.size : Int) - 1)) then (some (x2_2, true)) else (some (0, false))) = some (r1, r2) := H; have A12 := aA A120; clear A120; by_cases c13 : t101 = (wrap64 ((a0.size : Int) - 1))
       ·rw [if_pos c13] at H; have c13b0 : (t101 == (wrap64 ((a0.size : Int) - 1))) = true := beq_iff_eq.mpr c13; have c13b1 : (t101 != (wrap64 ((a0.size : Int) - 1))) = false := bne_eq_false_iff_eq.mpr c13; clear c13; simp only [Option.some.injEq, Prod.mk.injEq] at H; obtain ⟨rfl, rfl⟩ := H; go_wp2_with (first | ((with_reducible refine gate_callee (f := 50) rfl ?_); refine goesL_ (some 37) rfl rfl Tryd.func50 (by kernel_rfl) rfl #[.int .u64 x2_2] rfl (by (try simp only [List.map_toArray, List.map_cons, List.map_nil]); first | done | rfl | (simp only [List.length_drop, List.length_take]; rfl)) ?_; (with_reducible refine (pack_size.calls k2 x2_2 t101 _ A12.out).mono ?_); rintro e w' ⟨rfl, ⟨nd, rfl⟩⟩; refine ⟨_, rfl, ?_⟩))
        go_ret2
        exact ⟨by first | rfl | (simp; done) | (simp [*]; done), by repeat (first | exact Drawn0.refl _ | apply Drawn0.step)⟩
       ·rw [if_neg c13] at H; have c13b0 : (t101 == (wrap64 ((a0.size : Int) - 1))) = false := beq_eq_false_iff_ne.mpr c13; have c13b1 : (t101 != (wrap64 ((a0.size : Int) - 1))) = true := bne_iff_ne.mpr c13; simp only [Option.some.injEq, Prod.mk.injEq] at H; obtain ⟨rfl, rfl⟩ := H; go_wp2_with (first | ((with_reducible refine gate_callee (f := 50) rfl ?_); refine goesL_ (some 37) rfl rfl Tryd.func50 (by kernel_rfl) rfl #[.int .u64 x2_2] rfl (by (try simp only [List.map_toArray, List.map_cons, List.map_nil]); first | done | rfl | (simp only [List.length_drop, List.length_take]; rfl)) ?_; (with_reducible refine (pack_size.calls k2 x2_2 t101 _ A12.out).mono ?_); rintro e w' ⟨rfl, ⟨nd, rfl⟩⟩; refine ⟨_, rfl, ?_⟩))
        go_ret2
        exact ⟨by first | rfl | (simp; done) | (simp [*]; done), by repeat (first | exact Drawn0.refl _ | apply Drawn0.step)⟩

/-! ### treillagelaw06_bounded: function 9 -/
def treillagelaw06_bounded.l0 : Nat → List (S23) → Int → Option (Bool)
 | 0, _, _ => none
 | k + 1, x0, x3 => if x3 < (x0.length : Int) then (if 0 ≤ x3 then (if (((rd_T23 x0 x3).f4).size : Int) > 300 then (some false) else (if (((rd_T23 x0 x3).f5).size : Int) > 300 then (some false) else (treillagelaw06_bounded.l0 k x0 (wrap64 (x3 + 1))))) else (none)) else (some (decide ((x0.length : Int) ≤ 25)))
def treillagelaw06_bounded.f (k : Nat) (l0 : List (S23)) : Option (Bool) := treillagelaw06_bounded.l0 k l0 0
theorem treillagelaw06_bounded.mono_l : ∀ k, (∀ y0 y1, LeO (treillagelaw06_bounded.l0 k y0 y1) (treillagelaw06_bounded.l0 (k + 1) y0 y1))
 | 0 => fun _ _ r h => by simp [treillagelaw06_bounded.l0] at h
 | k + 1 => by
  have ih0 := treillagelaw06_bounded.mono_l k
  ·intro y0 y1
   unfold treillagelaw06_bounded.l0; repeat' first
   | (with_reducible exact ih0 _ _)
   | (with_reducible exact LeO.refl _)
   | (with_reducible exact LeO.none _)
   | (with_reducible refine LeO.ite ?_ ?_)
   | (with_reducible refine LeO.bind ?_ (fun _ => ?_))
   | exact ih0 _ _
   | exact LeO.none _
   | refine LeO.ite ?_ ?_
   | refine LeO.bind ?_ (fun _ => ?_)
theorem treillagelaw06_bounded.mono : ∀ a0 k, LeO (treillagelaw06_bounded.f k a0) (treillagelaw06_bounded.f (k + 1) a0) := by
 intro a0 k
 have ih0 := treillagelaw06_bounded.mono_l k; unfold treillagelaw06_bounded.f
 repeat' first
   | (with_reducible exact ih0 _ _)
   | (with_reducible exact LeO.refl _)
   | (with_reducible exact LeO.none _)
   | (with_reducible refine LeO.ite ?_ ?_)
   | (with_reducible refine LeO.bind ?_ (fun _ => ?_))
   | exact ih0 _ _
   | exact LeO.none _
   | refine LeO.ite ?_ ?_
   | refine LeO.bind ?_ (fun _ => ?_)
set_option maxHeartbeats 8000000 in
set_option maxRecDepth 100000 in
theorem treillagelaw06_bounded.calls (k : Nat) (A0 : Option Addr) (c0 : Nat) (l0 : List (S23)) (r : Bool) (w : World) (hr0 : Kd.C k23 w A0 l0.length l0) (hc0 : l0.length ≤ c0) (h : treillagelaw06_bounded.f k l0 = some r) :
  Calls Tryd.prog 9 #[.slice A0 l0.length c0] w fun e w' => e = .returned (.bool r) ∧ Drawn0 w w' := by
 have HR0 := aA hr0; have HC0 := aA hc0; clear hr0 hc0; have H : (treillagelaw06_bounded.l0 k l0 0) = some r := h; clear h; have H' := aA H; clear H; go_enter Tryd.func9, Tryd.ntmps9; go_wp2; go_loopg [3] k (fun kq v3 w' => ∃ (x3_1 : Int), v3 = .int .i64 x3_1 ∧ Aside0 (treillagelaw06_bounded.l0 kq l0 x3_1 = some r) ∧ Aside0 (kq ≤ k) ∧ Drawn0 w w')
 case atStart => exact ⟨(0), (by first | rfl | (simp; done) | (simp [*]; done)), H', ⟨Nat.le_refl _⟩, by repeat (first | exact Drawn0.refl _ | apply Drawn0.step)⟩
 case round =>
  clear H'; obtain ⟨x3_1, rfl, HA, HK1, ⟨m1, rfl⟩⟩ := hrel; cases gk with
  | zero => exact absurd HA.out (by simp [treillagelaw06_bounded.l0])
  | succ k1 =>
   have H := HA.out; clear HA; simp only [treillagelaw06_bounded.l0] at H; by_cases c2 : x3_1 < (l0.length : Int)
   ·rw [if_pos c2] at H; have c2b0 : decide (x3_1 < (l0.length : Int)) = true := decide_eq_true c2; clear c2; by_cases c3 : 0 ≤ x3_1
    rotate_left
    ·rw [if_neg c3] at H; exact absurd H (by simp)
    rw [if_pos c3] at H; have c3b0 : decide (0 ≤ x3_1) = true := decide_eq_true c3; clear c3; by_cases c4 : (((rd_T23 l0 x3_1).f4).size : Int) > 300
    ·rw [if_pos c4] at H; have c4b0 : decide (300 < (((rd_T23 l0 x3_1).f4).size : Int)) = true := decide_eq_true c4; have c4b1 : decide (300 < ((rd_T23 l0 x3_1).f4).size) = true := decide_eq_true (by omega); clear c4; obtain rfl := Option.some.inj H; have p102 : 0 ≤ (x3_1 : Int) := of_decide_eq_true (by first | (with_reducible assumption) | assumption); have q102 : x3_1 < (l0.length : Int) := of_decide_eq_true (by first | (with_reducible assumption) | assumption); obtain ⟨ad102, e102, hx102_0, hx102_1, hx102_2, hx102_3, hx102_4, hx102_5⟩ := at_T23 HR0.out x3_1 p102 q102; cases e102
     replace p102 := eq_true p102; replace q102 := eq_true q102; go_wp2; go_ret
     exact ⟨by first | rfl | (simp; done) | (simp [*]; done), by repeat (first | exact Drawn0.refl _ | apply Drawn0.step)⟩
    ·rw [if_neg c4] at H; have c4b0 : decide (300 < (((rd_T23 l0 x3_1).f4).size : Int)) = false := decide_eq_false c4; have c4b1 : decide (300 < ((rd_T23 l0 x3_1).f4).size) = false := decide_eq_false (by omega); clear c4; by_cases c5 : (((rd_T23 l0 x3_1).f5).size : Int) > 300
     ·rw [if_pos c5] at H; have c5b0 : decide (300 < (((rd_T23 l0 x3_1).f5).size : Int)) = true := decide_eq_true c5; have c5b1 : decide (300 < ((rd_T23 l0 x3_1).f5).size) = true := decide_eq_true (by omega); clear c5; obtain rfl := Option.some.inj H; have p102 : 0 ≤ (x3_1 : Int) := of_decide_eq_true (by first | (with_reducible assumption) | assumption); have q102 : x3_1 < (l0.length : Int) := of_decide_eq_true (by first | (with_reducible assumption) | assumption); obtain ⟨ad102, e102, hx102_0, hx102_1, hx102_2, hx102_3, hx102_4, hx102_5⟩ := at_T23 HR0.out x3_1 p102 q102; cases e102
      replace p102 := eq_true p102; replace q102 := eq_true q102; have p103 : 0 ≤ (x3_1 : Int) := of_decide_eq_true (by first | (with_reducible assumption) | assumption); have q103 : x3_1 < (l0.length : Int) := of_decide_eq_true (by first | (with_reducible assumption) | assumption); obtain ⟨ad103, e103, hx103_0, hx103_1, hx103_2, hx103_3, hx103_4, hx103_5⟩ := at_T23 HR0.out x3_1 p103 q103; obtain rfl : ad102 = ad103 := (by injection e103); replace p103 := eq_true p103; replace q103 := eq_true q103; go_wp2; go_ret
      exact ⟨by first | rfl | (simp; done) | (simp [*]; done), by repeat (first | exact Drawn0.refl _ | apply Drawn0.step)⟩
     ·rw [if_neg c5] at H; have c5b0 : decide (300 < (((rd_T23 l0 x3_1).f5).size : Int)) = false := decide_eq_false c5; have c5b1 : decide (300 < ((rd_T23 l0 x3_1).f5).size) = false := decide_eq_false (by omega); clear c5; have H' := aA H; clear H; have p102 : 0 ≤ (x3_1 : Int) := of_decide_eq_true (by first | (with_reducible assumption) | assumption); have q102 : x3_1 < (l0.length : Int) := of_decide_eq_true (by first | (with_reducible assumption) | assumption); obtain ⟨ad102, e102, hx102_0, hx102_1, hx102_2, hx102_3, hx102_4, hx102_5⟩ := at_T23 HR0.out x3_1 p102 q102; cases e102
      replace p102 := eq_true p102; replace q102 := eq_true q102; have p103 : 0 ≤ (x3_1 : Int) := of_decide_eq_true (by first | (with_reducible assumption) | assumption); have q103 : x3_1 < (l0.length : Int) := of_decide_eq_true (by first | (with_reducible assumption) | assumption); obtain ⟨ad103, e103, hx103_0, hx103_1, hx103_2, hx103_3, hx103_4, hx103_5⟩ := at_T23 HR0.out x3_1 p103 q103; obtain rfl : ad102 = ad103 := (by injection e103); replace p103 := eq_true p103; replace q103 := eq_true q103; go_wp2; go_roundg k1
      case measure => have := HK1.out; omega
      case rel => exact ⟨(wrap64 (x3_1 + 1)), (by first | rfl | (simp; done) | (simp [*]; done)), H', ⟨by have := HK1.out; omega⟩, by repeat (first | exact Drawn0.refl _ | apply Drawn0.step)⟩
   ·rw [if_neg c2] at H; have c2b0 : decide (x3_1 < (l0.length : Int)) = false := decide_eq_false c2; clear c2; obtain rfl := Option.some.inj H; go_wp2; go_ret
    exact ⟨by first | rfl | (simp; done) | (simp [*]; done), by repeat (first | exact Drawn0.refl _ | apply Drawn0.step)⟩

/-- The shape of a kind: its word, how many numbers, whether a name, whether a text. -/
def shpW (k : Int) : ByteArray := if k = 1 then (⟨#[101, 108, 101, 109, 101, 110, 116]⟩ : ByteArray) else if k = 2 then (⟨#[116, 101, 120, 116]⟩ : ByteArray) else if k = 3 then (⟨#[99, 111, 109, 109, 101, 110, 116]⟩ : ByteArray) else if k = 4 then (⟨#[105, 110, 115, 101, 114, 116]⟩ : ByteArray) else if k = 5 then (⟨#[114, 101, 109, 111, 118, 101]⟩ : ByteArray) else if k = 6 then (⟨#[115, 101, 116]⟩ : ByteArray) else if k = 7 then (⟨#[117, 110, 115, 101, 116]⟩ : ByteArray) else if k = 8 then (⟨#[99, 104, 97, 110, 103, 101]⟩ : ByteArray) else (⟨#[]⟩ : ByteArray)
def shpN (k : Int) : Int := if k = 4 then 3 else if k = 5 then 1 else if k = 6 then 1 else if k = 7 then 1 else if k = 8 then 1 else 0
def shpS (k : Int) : Bool := decide (k = 1) || decide (k = 6) || decide (k = 7)
def shpT (k : Int) : Bool := decide (k = 2) || decide (k = 3) || decide (k = 6) || decide (k = 8)
def isKind (k : Int) : Bool := decide (1 ≤ k) && decide (k ≤ 8)
set_option maxHeartbeats 40000000 in
set_option maxRecDepth 100000 in
theorem shaped_1 (w : World) : Calls Tryd.prog 21 #[.int .i64 1] w fun e w' => e = .returned (.tuple #[.agg #[.string (⟨#[101, 108, 101, 109, 101, 110, 116]⟩ : ByteArray), .int .i64 0, .bool true, .bool false], .bool true]) ∧ Below w.heap.size w w' := by
 have HB := Below.refl w.heap.size w; go_enter Tryd.func21, Tryd.ntmps21
 go_wp2_with (first
  | ((with_reducible refine gate_dst (N := 2) rfl ?_); (with_reducible refine gate_ (.alloc 46) rfl ?_); refine box_event (N := 2) rfl rfl (cs := #[.string (⟨#[]⟩ : ByteArray), .int .i64 0, .bool false, .bool false]) (t := 46) (by first | (go_simp; done) | (go_simp; rfl)) ?_; intro go hg_ wo_ hbo hbl_; have HGo : w.heap.size ≤ go := (by rw [hg_]; exact Nat.le_trans (by first | exact Nat.le_refl _ | exact HB.size) (Nat.le_refl _)); replace HB := below_step (blw HB) hbl_; clear hg_ hbl_; have hqo_0 : wo_.cell? ⟨go, 0, none⟩ = some (.string (⟨#[]⟩ : ByteArray)) := (blk_cell hbo 0).trans rfl; have hqo_1 : wo_.cell? ⟨go, 1, none⟩ = some (.int .i64 0) := (blk_cell hbo 1).trans rfl; have hqo_2 : wo_.cell? ⟨go, 2, none⟩ = some (.bool false) := (blk_cell hbo 2).trans rfl; have hqo_3 : wo_.cell? ⟨go, 3, none⟩ = some (.bool false) := (blk_cell hbo 3).trans rfl)
  | ((with_reducible refine gate_dst (N := 4) rfl ?_); (with_reducible refine gate_ (.alloc 75) rfl ?_); refine box_event (N := 4) rfl rfl (cs := #[.string (⟨#[]⟩ : ByteArray), .int .i64 0, .bool false, .bool false, .string (⟨#[]⟩ : ByteArray), .int .i64 0, .bool false, .bool false, .string (⟨#[]⟩ : ByteArray), .int .i64 0, .bool false, .bool false, .string (⟨#[]⟩ : ByteArray), .int .i64 0, .bool false, .bool false, .string (⟨#[]⟩ : ByteArray), .int .i64 0, .bool false, .bool false, .string (⟨#[]⟩ : ByteArray), .int .i64 0, .bool false, .bool false, .string (⟨#[]⟩ : ByteArray), .int .i64 0, .bool false, .bool false, .string (⟨#[]⟩ : ByteArray), .int .i64 0, .bool false, .bool false, .string (⟨#[]⟩ : ByteArray), .int .i64 0, .bool false, .bool false]) (t := 75) (by kernel_rfl) ?_; intro gt hg_ wt_ hbt hbl_; have HGt : w.heap.size ≤ gt := (by rw [hg_]; exact Nat.le_trans (by first | exact Nat.le_refl _ | exact HB.size) (Nat.le_refl _)); have HNt_o : gt ≠ go := (by rw [hg_]; exact Nat.ne_of_gt (blk_lt (by exact hbo))); clear hqo_0 hqo_1 hqo_2 hqo_3; replace hbo := blk_below (by exact hbo) hbl_; have hqo_0 : wt_.cell? ⟨go, 0, none⟩ = some (.string (⟨#[]⟩ : ByteArray)) := (blk_cell hbo 0).trans rfl; have hqo_1 : wt_.cell? ⟨go, 1, none⟩ = some (.int .i64 0) := (blk_cell hbo 1).trans rfl; have hqo_2 : wt_.cell? ⟨go, 2, none⟩ = some (.bool false) := (blk_cell hbo 2).trans rfl; have hqo_3 : wt_.cell? ⟨go, 3, none⟩ = some (.bool false) := (blk_cell hbo 3).trans rfl; replace HB := below_step (blw HB) hbl_; clear hg_ hbl_)
  | ((with_reducible refine gate_ (.store 75 (.tmp 4) (.tmp 13)) rfl ?_); refine blk_store_all (w0 := w) (base := w.heap.size) (u := .agg #[.string (⟨#[]⟩ : ByteArray), .int .i64 0, .bool false, .bool false, .string (⟨#[101, 108, 101, 109, 101, 110, 116]⟩ : ByteArray), .int .i64 0, .bool true, .bool false, .string (⟨#[116, 101, 120, 116]⟩ : ByteArray), .int .i64 0, .bool false, .bool true, .string (⟨#[99, 111, 109, 109, 101, 110, 116]⟩ : ByteArray), .int .i64 0, .bool false, .bool true, .string (⟨#[105, 110, 115, 101, 114, 116]⟩ : ByteArray), .int .i64 3, .bool false, .bool false, .string (⟨#[114, 101, 109, 111, 118, 101]⟩ : ByteArray), .int .i64 1, .bool false, .bool false, .string (⟨#[115, 101, 116]⟩ : ByteArray), .int .i64 1, .bool true, .bool true, .string (⟨#[117, 110, 115, 101, 116]⟩ : ByteArray), .int .i64 1, .bool true, .bool false, .string (⟨#[99, 104, 97, 110, 103, 101]⟩ : ByteArray), .int .i64 1, .bool false, .bool true]) (seg := [.string (⟨#[]⟩ : ByteArray), .int .i64 0, .bool false, .bool false, .string (⟨#[101, 108, 101, 109, 101, 110, 116]⟩ : ByteArray), .int .i64 0, .bool true, .bool false, .string (⟨#[116, 101, 120, 116]⟩ : ByteArray), .int .i64 0, .bool false, .bool true, .string (⟨#[99, 111, 109, 109, 101, 110, 116]⟩ : ByteArray), .int .i64 0, .bool false, .bool true, .string (⟨#[105, 110, 115, 101, 114, 116]⟩ : ByteArray), .int .i64 3, .bool false, .bool false, .string (⟨#[114, 101, 109, 111, 118, 101]⟩ : ByteArray), .int .i64 1, .bool false, .bool false, .string (⟨#[115, 101, 116]⟩ : ByteArray), .int .i64 1, .bool true, .bool true, .string (⟨#[117, 110, 115, 101, 116]⟩ : ByteArray), .int .i64 1, .bool true, .bool false, .string (⟨#[99, 104, 97, 110, 103, 101]⟩ : ByteArray), .int .i64 1, .bool false, .bool true]) rfl rfl rfl rfl rfl (by kernel_rfl) ?h1_ ?ht_ (by exact hbt) (by kernel_rfl) (blw HB) HGt ?_; (case ht_ => kernel_rfl); (case h1_ => exact List.all_eq_true.1 (by kernel_rfl)); intro wt_3 hb2_ HB2_ hgr_; clear hqo_0 hqo_1 hqo_2 hqo_3; replace hbo := blk_grown (by exact hbo) hgr_ (fun e_ => by injection e_ with e_; exact HNt_o.symm e_); replace hbt := hb2_; replace HB := HB2_; clear hb2_ HB2_ hgr_; have hqo_0 : wt_3.cell? ⟨go, 0, none⟩ = some (.string (⟨#[]⟩ : ByteArray)) := (blk_cell hbo 0).trans rfl; have hqo_1 : wt_3.cell? ⟨go, 1, none⟩ = some (.int .i64 0) := (blk_cell hbo 1).trans rfl; have hqo_2 : wt_3.cell? ⟨go, 2, none⟩ = some (.bool false) := (blk_cell hbo 2).trans rfl; have hqo_3 : wt_3.cell? ⟨go, 3, none⟩ = some (.bool false) := (blk_cell hbo 3).trans rfl; have hqt_4 : wt_3.cell? ⟨gt, 4, none⟩ = some (.string (⟨#[101, 108, 101, 109, 101, 110, 116]⟩ : ByteArray)) := (blk_cell hbt 4).trans rfl; have hqt_5 : wt_3.cell? ⟨gt, 5, none⟩ = some (.int .i64 0) := (blk_cell hbt 5).trans rfl; have hqt_6 : wt_3.cell? ⟨gt, 6, none⟩ = some (.bool true) := (blk_cell hbt 6).trans rfl; have hqt_7 : wt_3.cell? ⟨gt, 7, none⟩ = some (.bool false) := (blk_cell hbt 7).trans rfl)
  | ((with_reducible refine gate_ (.store 46 (.tmp 2) (.tmp 23)) rfl ?_); refine blk_store_all (w0 := w) (base := w.heap.size) (u := .agg #[.string (⟨#[101, 108, 101, 109, 101, 110, 116]⟩ : ByteArray), .int .i64 0, .bool true, .bool false]) (seg := [.string (⟨#[101, 108, 101, 109, 101, 110, 116]⟩ : ByteArray), .int .i64 0, .bool true, .bool false]) rfl rfl rfl rfl rfl rfl ?h1_ ?ht_ (by exact hbo) (by rfl) (blw HB) HGo ?_; (case ht_ => kernel_rfl); (case h1_ => intro q_ hq_; simp only [List.mem_cons, List.not_mem_nil, or_false] at hq_; rcases hq_ with rfl | rfl | rfl | rfl <;> rfl); intro wo_4 hb2_ HB2_ hgr_; clear hqo_0 hqo_1 hqo_2 hqo_3; replace hbo := hb2_; replace hbt := blk_grown (by exact hbt) hgr_ (fun e_ => by injection e_ with e_; exact HNt_o e_); replace HB := HB2_; clear hb2_ HB2_ hgr_; have hqo_0 : wo_4.cell? ⟨go, 0, none⟩ = some (.string (⟨#[101, 108, 101, 109, 101, 110, 116]⟩ : ByteArray)) := (blk_cell hbo 0).trans rfl; have hqo_1 : wo_4.cell? ⟨go, 1, none⟩ = some (.int .i64 0) := (blk_cell hbo 1).trans rfl; have hqo_2 : wo_4.cell? ⟨go, 2, none⟩ = some (.bool true) := (blk_cell hbo 2).trans rfl; have hqo_3 : wo_4.cell? ⟨go, 3, none⟩ = some (.bool false) := (blk_cell hbo 3).trans rfl))
 refine bodyPost_ret (v := .tuple #[.agg #[.string (⟨#[101, 108, 101, 109, 101, 110, 116]⟩ : ByteArray), .int .i64 0, .bool true, .bool false], .bool true]) (by simp [results, Tryd.results21, go_sem, hqo_0, hqo_1, hqo_2, hqo_3]) rfl ?_; exact ⟨rfl, HB⟩
set_option maxHeartbeats 40000000 in
set_option maxRecDepth 100000 in
theorem shaped_2 (w : World) : Calls Tryd.prog 21 #[.int .i64 2] w fun e w' => e = .returned (.tuple #[.agg #[.string (⟨#[116, 101, 120, 116]⟩ : ByteArray), .int .i64 0, .bool false, .bool true], .bool true]) ∧ Below w.heap.size w w' := by
 have HB := Below.refl w.heap.size w; go_enter Tryd.func21, Tryd.ntmps21
 go_wp2_with (first
  | ((with_reducible refine gate_dst (N := 2) rfl ?_); (with_reducible refine gate_ (.alloc 46) rfl ?_); refine box_event (N := 2) rfl rfl (cs := #[.string (⟨#[]⟩ : ByteArray), .int .i64 0, .bool false, .bool false]) (t := 46) (by first | (go_simp; done) | (go_simp; rfl)) ?_; intro go hg_ wo_ hbo hbl_; have HGo : w.heap.size ≤ go := (by rw [hg_]; exact Nat.le_trans (by first | exact Nat.le_refl _ | exact HB.size) (Nat.le_refl _)); replace HB := below_step (blw HB) hbl_; clear hg_ hbl_; have hqo_0 : wo_.cell? ⟨go, 0, none⟩ = some (.string (⟨#[]⟩ : ByteArray)) := (blk_cell hbo 0).trans rfl; have hqo_1 : wo_.cell? ⟨go, 1, none⟩ = some (.int .i64 0) := (blk_cell hbo 1).trans rfl; have hqo_2 : wo_.cell? ⟨go, 2, none⟩ = some (.bool false) := (blk_cell hbo 2).trans rfl; have hqo_3 : wo_.cell? ⟨go, 3, none⟩ = some (.bool false) := (blk_cell hbo 3).trans rfl)
  | ((with_reducible refine gate_dst (N := 4) rfl ?_); (with_reducible refine gate_ (.alloc 75) rfl ?_); refine box_event (N := 4) rfl rfl (cs := #[.string (⟨#[]⟩ : ByteArray), .int .i64 0, .bool false, .bool false, .string (⟨#[]⟩ : ByteArray), .int .i64 0, .bool false, .bool false, .string (⟨#[]⟩ : ByteArray), .int .i64 0, .bool false, .bool false, .string (⟨#[]⟩ : ByteArray), .int .i64 0, .bool false, .bool false, .string (⟨#[]⟩ : ByteArray), .int .i64 0, .bool false, .bool false, .string (⟨#[]⟩ : ByteArray), .int .i64 0, .bool false, .bool false, .string (⟨#[]⟩ : ByteArray), .int .i64 0, .bool false, .bool false, .string (⟨#[]⟩ : ByteArray), .int .i64 0, .bool false, .bool false, .string (⟨#[]⟩ : ByteArray), .int .i64 0, .bool false, .bool false]) (t := 75) (by kernel_rfl) ?_; intro gt hg_ wt_ hbt hbl_; have HGt : w.heap.size ≤ gt := (by rw [hg_]; exact Nat.le_trans (by first | exact Nat.le_refl _ | exact HB.size) (Nat.le_refl _)); have HNt_o : gt ≠ go := (by rw [hg_]; exact Nat.ne_of_gt (blk_lt (by exact hbo))); clear hqo_0 hqo_1 hqo_2 hqo_3; replace hbo := blk_below (by exact hbo) hbl_; have hqo_0 : wt_.cell? ⟨go, 0, none⟩ = some (.string (⟨#[]⟩ : ByteArray)) := (blk_cell hbo 0).trans rfl; have hqo_1 : wt_.cell? ⟨go, 1, none⟩ = some (.int .i64 0) := (blk_cell hbo 1).trans rfl; have hqo_2 : wt_.cell? ⟨go, 2, none⟩ = some (.bool false) := (blk_cell hbo 2).trans rfl; have hqo_3 : wt_.cell? ⟨go, 3, none⟩ = some (.bool false) := (blk_cell hbo 3).trans rfl; replace HB := below_step (blw HB) hbl_; clear hg_ hbl_)
  | ((with_reducible refine gate_ (.store 75 (.tmp 4) (.tmp 13)) rfl ?_); refine blk_store_all (w0 := w) (base := w.heap.size) (u := .agg #[.string (⟨#[]⟩ : ByteArray), .int .i64 0, .bool false, .bool false, .string (⟨#[101, 108, 101, 109, 101, 110, 116]⟩ : ByteArray), .int .i64 0, .bool true, .bool false, .string (⟨#[116, 101, 120, 116]⟩ : ByteArray), .int .i64 0, .bool false, .bool true, .string (⟨#[99, 111, 109, 109, 101, 110, 116]⟩ : ByteArray), .int .i64 0, .bool false, .bool true, .string (⟨#[105, 110, 115, 101, 114, 116]⟩ : ByteArray), .int .i64 3, .bool false, .bool false, .string (⟨#[114, 101, 109, 111, 118, 101]⟩ : ByteArray), .int .i64 1, .bool false, .bool false, .string (⟨#[115, 101, 116]⟩ : ByteArray), .int .i64 1, .bool true, .bool true, .string (⟨#[117, 110, 115, 101, 116]⟩ : ByteArray), .int .i64 1, .bool true, .bool false, .string (⟨#[99, 104, 97, 110, 103, 101]⟩ : ByteArray), .int .i64 1, .bool false, .bool true]) (seg := [.string (⟨#[]⟩ : ByteArray), .int .i64 0, .bool false, .bool false, .string (⟨#[101, 108, 101, 109, 101, 110, 116]⟩ : ByteArray), .int .i64 0, .bool true, .bool false, .string (⟨#[116, 101, 120, 116]⟩ : ByteArray), .int .i64 0, .bool false, .bool true, .string (⟨#[99, 111, 109, 109, 101, 110, 116]⟩ : ByteArray), .int .i64 0, .bool false, .bool true, .string (⟨#[105, 110, 115, 101, 114, 116]⟩ : ByteArray), .int .i64 3, .bool false, .bool false, .string (⟨#[114, 101, 109, 111, 118, 101]⟩ : ByteArray), .int .i64 1, .bool false, .bool false, .string (⟨#[115, 101, 116]⟩ : ByteArray), .int .i64 1, .bool true, .bool true, .string (⟨#[117, 110, 115, 101, 116]⟩ : ByteArray), .int .i64 1, .bool true, .bool false, .string (⟨#[99, 104, 97, 110, 103, 101]⟩ : ByteArray), .int .i64 1, .bool false, .bool true]) rfl rfl rfl rfl rfl (by kernel_rfl) ?h1_ ?ht_ (by exact hbt) (by kernel_rfl) (blw HB) HGt ?_; (case ht_ => kernel_rfl); (case h1_ => exact List.all_eq_true.1 (by kernel_rfl)); intro wt_3 hb2_ HB2_ hgr_; clear hqo_0 hqo_1 hqo_2 hqo_3; replace hbo := blk_grown (by exact hbo) hgr_ (fun e_ => by injection e_ with e_; exact HNt_o.symm e_); replace hbt := hb2_; replace HB := HB2_; clear hb2_ HB2_ hgr_; have hqo_0 : wt_3.cell? ⟨go, 0, none⟩ = some (.string (⟨#[]⟩ : ByteArray)) := (blk_cell hbo 0).trans rfl; have hqo_1 : wt_3.cell? ⟨go, 1, none⟩ = some (.int .i64 0) := (blk_cell hbo 1).trans rfl; have hqo_2 : wt_3.cell? ⟨go, 2, none⟩ = some (.bool false) := (blk_cell hbo 2).trans rfl; have hqo_3 : wt_3.cell? ⟨go, 3, none⟩ = some (.bool false) := (blk_cell hbo 3).trans rfl; have hqt_8 : wt_3.cell? ⟨gt, 8, none⟩ = some (.string (⟨#[116, 101, 120, 116]⟩ : ByteArray)) := (blk_cell hbt 8).trans rfl; have hqt_9 : wt_3.cell? ⟨gt, 9, none⟩ = some (.int .i64 0) := (blk_cell hbt 9).trans rfl; have hqt_10 : wt_3.cell? ⟨gt, 10, none⟩ = some (.bool false) := (blk_cell hbt 10).trans rfl; have hqt_11 : wt_3.cell? ⟨gt, 11, none⟩ = some (.bool true) := (blk_cell hbt 11).trans rfl)
  | ((with_reducible refine gate_ (.store 46 (.tmp 2) (.tmp 23)) rfl ?_); refine blk_store_all (w0 := w) (base := w.heap.size) (u := .agg #[.string (⟨#[116, 101, 120, 116]⟩ : ByteArray), .int .i64 0, .bool false, .bool true]) (seg := [.string (⟨#[116, 101, 120, 116]⟩ : ByteArray), .int .i64 0, .bool false, .bool true]) rfl rfl rfl rfl rfl rfl ?h1_ ?ht_ (by exact hbo) (by rfl) (blw HB) HGo ?_; (case ht_ => kernel_rfl); (case h1_ => intro q_ hq_; simp only [List.mem_cons, List.not_mem_nil, or_false] at hq_; rcases hq_ with rfl | rfl | rfl | rfl <;> rfl); intro wo_4 hb2_ HB2_ hgr_; clear hqo_0 hqo_1 hqo_2 hqo_3; replace hbo := hb2_; replace hbt := blk_grown (by exact hbt) hgr_ (fun e_ => by injection e_ with e_; exact HNt_o e_); replace HB := HB2_; clear hb2_ HB2_ hgr_; have hqo_0 : wo_4.cell? ⟨go, 0, none⟩ = some (.string (⟨#[116, 101, 120, 116]⟩ : ByteArray)) := (blk_cell hbo 0).trans rfl; have hqo_1 : wo_4.cell? ⟨go, 1, none⟩ = some (.int .i64 0) := (blk_cell hbo 1).trans rfl; have hqo_2 : wo_4.cell? ⟨go, 2, none⟩ = some (.bool false) := (blk_cell hbo 2).trans rfl; have hqo_3 : wo_4.cell? ⟨go, 3, none⟩ = some (.bool true) := (blk_cell hbo 3).trans rfl))
 refine bodyPost_ret (v := .tuple #[.agg #[.string (⟨#[116, 101, 120, 116]⟩ : ByteArray), .int .i64 0, .bool false, .bool true], .bool true]) (by simp [results, Tryd.results21, go_sem, hqo_0, hqo_1, hqo_2, hqo_3]) rfl ?_; exact ⟨rfl, HB⟩
set_option maxHeartbeats 40000000 in
set_option maxRecDepth 100000 in
theorem shaped_3 (w : World) : Calls Tryd.prog 21 #[.int .i64 3] w fun e w' => e = .returned (.tuple #[.agg #[.string (⟨#[99, 111, 109, 109, 101, 110, 116]⟩ : ByteArray), .int .i64 0, .bool false, .bool true], .bool true]) ∧ Below w.heap.size w w' := by
 have HB := Below.refl w.heap.size w; go_enter Tryd.func21, Tryd.ntmps21
 go_wp2_with (first
  | ((with_reducible refine gate_dst (N := 2) rfl ?_); (with_reducible refine gate_ (.alloc 46) rfl ?_); refine box_event (N := 2) rfl rfl (cs := #[.string (⟨#[]⟩ : ByteArray), .int .i64 0, .bool false, .bool false]) (t := 46) (by first | (go_simp; done) | (go_simp; rfl)) ?_; intro go hg_ wo_ hbo hbl_; have HGo : w.heap.size ≤ go := (by rw [hg_]; exact Nat.le_trans (by first | exact Nat.le_refl _ | exact HB.size) (Nat.le_refl _)); replace HB := below_step (blw HB) hbl_; clear hg_ hbl_; have hqo_0 : wo_.cell? ⟨go, 0, none⟩ = some (.string (⟨#[]⟩ : ByteArray)) := (blk_cell hbo 0).trans rfl; have hqo_1 : wo_.cell? ⟨go, 1, none⟩ = some (.int .i64 0) := (blk_cell hbo 1).trans rfl; have hqo_2 : wo_.cell? ⟨go, 2, none⟩ = some (.bool false) := (blk_cell hbo 2).trans rfl; have hqo_3 : wo_.cell? ⟨go, 3, none⟩ = some (.bool false) := (blk_cell hbo 3).trans rfl)
  | ((with_reducible refine gate_dst (N := 4) rfl ?_); (with_reducible refine gate_ (.alloc 75) rfl ?_); refine box_event (N := 4) rfl rfl (cs := #[.string (⟨#[]⟩ : ByteArray), .int .i64 0, .bool false, .bool false, .string (⟨#[]⟩ : ByteArray), .int .i64 0, .bool false, .bool false, .string (⟨#[]⟩ : ByteArray), .int .i64 0, .bool false, .bool false, .string (⟨#[]⟩ : ByteArray), .int .i64 0, .bool false, .bool false, .string (⟨#[]⟩ : ByteArray), .int .i64 0, .bool false, .bool false, .string (⟨#[]⟩ : ByteArray), .int .i64 0, .bool false, .bool false, .string (⟨#[]⟩ : ByteArray), .int .i64 0, .bool false, .bool false, .string (⟨#[]⟩ : ByteArray), .int .i64 0, .bool false, .bool false, .string (⟨#[]⟩ : ByteArray), .int .i64 0, .bool false, .bool false]) (t := 75) (by kernel_rfl) ?_; intro gt hg_ wt_ hbt hbl_; have HGt : w.heap.size ≤ gt := (by rw [hg_]; exact Nat.le_trans (by first | exact Nat.le_refl _ | exact HB.size) (Nat.le_refl _)); have HNt_o : gt ≠ go := (by rw [hg_]; exact Nat.ne_of_gt (blk_lt (by exact hbo))); clear hqo_0 hqo_1 hqo_2 hqo_3; replace hbo := blk_below (by exact hbo) hbl_; have hqo_0 : wt_.cell? ⟨go, 0, none⟩ = some (.string (⟨#[]⟩ : ByteArray)) := (blk_cell hbo 0).trans rfl; have hqo_1 : wt_.cell? ⟨go, 1, none⟩ = some (.int .i64 0) := (blk_cell hbo 1).trans rfl; have hqo_2 : wt_.cell? ⟨go, 2, none⟩ = some (.bool false) := (blk_cell hbo 2).trans rfl; have hqo_3 : wt_.cell? ⟨go, 3, none⟩ = some (.bool false) := (blk_cell hbo 3).trans rfl; replace HB := below_step (blw HB) hbl_; clear hg_ hbl_)
  | ((with_reducible refine gate_ (.store 75 (.tmp 4) (.tmp 13)) rfl ?_); refine blk_store_all (w0 := w) (base := w.heap.size) (u := .agg #[.string (⟨#[]⟩ : ByteArray), .int .i64 0, .bool false, .bool false, .string (⟨#[101, 108, 101, 109, 101, 110, 116]⟩ : ByteArray), .int .i64 0, .bool true, .bool false, .string (⟨#[116, 101, 120, 116]⟩ : ByteArray), .int .i64 0, .bool false, .bool true, .string (⟨#[99, 111, 109, 109, 101, 110, 116]⟩ : ByteArray), .int .i64 0, .bool false, .bool true, .string (⟨#[105, 110, 115, 101, 114, 116]⟩ : ByteArray), .int .i64 3, .bool false, .bool false, .string (⟨#[114, 101, 109, 111, 118, 101]⟩ : ByteArray), .int .i64 1, .bool false, .bool false, .string (⟨#[115, 101, 116]⟩ : ByteArray), .int .i64 1, .bool true, .bool true, .string (⟨#[117, 110, 115, 101, 116]⟩ : ByteArray), .int .i64 1, .bool true, .bool false, .string (⟨#[99, 104, 97, 110, 103, 101]⟩ : ByteArray), .int .i64 1, .bool false, .bool true]) (seg := [.string (⟨#[]⟩ : ByteArray), .int .i64 0, .bool false, .bool false, .string (⟨#[101, 108, 101, 109, 101, 110, 116]⟩ : ByteArray), .int .i64 0, .bool true, .bool false, .string (⟨#[116, 101, 120, 116]⟩ : ByteArray), .int .i64 0, .bool false, .bool true, .string (⟨#[99, 111, 109, 109, 101, 110, 116]⟩ : ByteArray), .int .i64 0, .bool false, .bool true, .string (⟨#[105, 110, 115, 101, 114, 116]⟩ : ByteArray), .int .i64 3, .bool false, .bool false, .string (⟨#[114, 101, 109, 111, 118, 101]⟩ : ByteArray), .int .i64 1, .bool false, .bool false, .string (⟨#[115, 101, 116]⟩ : ByteArray), .int .i64 1, .bool true, .bool true, .string (⟨#[117, 110, 115, 101, 116]⟩ : ByteArray), .int .i64 1, .bool true, .bool false, .string (⟨#[99, 104, 97, 110, 103, 101]⟩ : ByteArray), .int .i64 1, .bool false, .bool true]) rfl rfl rfl rfl rfl (by kernel_rfl) ?h1_ ?ht_ (by exact hbt) (by kernel_rfl) (blw HB) HGt ?_; (case ht_ => kernel_rfl); (case h1_ => exact List.all_eq_true.1 (by kernel_rfl)); intro wt_3 hb2_ HB2_ hgr_; clear hqo_0 hqo_1 hqo_2 hqo_3; replace hbo := blk_grown (by exact hbo) hgr_ (fun e_ => by injection e_ with e_; exact HNt_o.symm e_); replace hbt := hb2_; replace HB := HB2_; clear hb2_ HB2_ hgr_; have hqo_0 : wt_3.cell? ⟨go, 0, none⟩ = some (.string (⟨#[]⟩ : ByteArray)) := (blk_cell hbo 0).trans rfl; have hqo_1 : wt_3.cell? ⟨go, 1, none⟩ = some (.int .i64 0) := (blk_cell hbo 1).trans rfl; have hqo_2 : wt_3.cell? ⟨go, 2, none⟩ = some (.bool false) := (blk_cell hbo 2).trans rfl; have hqo_3 : wt_3.cell? ⟨go, 3, none⟩ = some (.bool false) := (blk_cell hbo 3).trans rfl; have hqt_12 : wt_3.cell? ⟨gt, 12, none⟩ = some (.string (⟨#[99, 111, 109, 109, 101, 110, 116]⟩ : ByteArray)) := (blk_cell hbt 12).trans rfl; have hqt_13 : wt_3.cell? ⟨gt, 13, none⟩ = some (.int .i64 0) := (blk_cell hbt 13).trans rfl; have hqt_14 : wt_3.cell? ⟨gt, 14, none⟩ = some (.bool false) := (blk_cell hbt 14).trans rfl; have hqt_15 : wt_3.cell? ⟨gt, 15, none⟩ = some (.bool true) := (blk_cell hbt 15).trans rfl)
  | ((with_reducible refine gate_ (.store 46 (.tmp 2) (.tmp 23)) rfl ?_); refine blk_store_all (w0 := w) (base := w.heap.size) (u := .agg #[.string (⟨#[99, 111, 109, 109, 101, 110, 116]⟩ : ByteArray), .int .i64 0, .bool false, .bool true]) (seg := [.string (⟨#[99, 111, 109, 109, 101, 110, 116]⟩ : ByteArray), .int .i64 0, .bool false, .bool true]) rfl rfl rfl rfl rfl rfl ?h1_ ?ht_ (by exact hbo) (by rfl) (blw HB) HGo ?_; (case ht_ => kernel_rfl); (case h1_ => intro q_ hq_; simp only [List.mem_cons, List.not_mem_nil, or_false] at hq_; rcases hq_ with rfl | rfl | rfl | rfl <;> rfl); intro wo_4 hb2_ HB2_ hgr_; clear hqo_0 hqo_1 hqo_2 hqo_3; replace hbo := hb2_; replace hbt := blk_grown (by exact hbt) hgr_ (fun e_ => by injection e_ with e_; exact HNt_o e_); replace HB := HB2_; clear hb2_ HB2_ hgr_; have hqo_0 : wo_4.cell? ⟨go, 0, none⟩ = some (.string (⟨#[99, 111, 109, 109, 101, 110, 116]⟩ : ByteArray)) := (blk_cell hbo 0).trans rfl; have hqo_1 : wo_4.cell? ⟨go, 1, none⟩ = some (.int .i64 0) := (blk_cell hbo 1).trans rfl; have hqo_2 : wo_4.cell? ⟨go, 2, none⟩ = some (.bool false) := (blk_cell hbo 2).trans rfl; have hqo_3 : wo_4.cell? ⟨go, 3, none⟩ = some (.bool true) := (blk_cell hbo 3).trans rfl))
 refine bodyPost_ret (v := .tuple #[.agg #[.string (⟨#[99, 111, 109, 109, 101, 110, 116]⟩ : ByteArray), .int .i64 0, .bool false, .bool true], .bool true]) (by simp [results, Tryd.results21, go_sem, hqo_0, hqo_1, hqo_2, hqo_3]) rfl ?_; exact ⟨rfl, HB⟩
set_option maxHeartbeats 40000000 in
set_option maxRecDepth 100000 in
theorem shaped_4 (w : World) : Calls Tryd.prog 21 #[.int .i64 4] w fun e w' => e = .returned (.tuple #[.agg #[.string (⟨#[105, 110, 115, 101, 114, 116]⟩ : ByteArray), .int .i64 3, .bool false, .bool false], .bool true]) ∧ Below w.heap.size w w' := by
 have HB := Below.refl w.heap.size w; go_enter Tryd.func21, Tryd.ntmps21
 go_wp2_with (first
  | ((with_reducible refine gate_dst (N := 2) rfl ?_); (with_reducible refine gate_ (.alloc 46) rfl ?_); refine box_event (N := 2) rfl rfl (cs := #[.string (⟨#[]⟩ : ByteArray), .int .i64 0, .bool false, .bool false]) (t := 46) (by first | (go_simp; done) | (go_simp; rfl)) ?_; intro go hg_ wo_ hbo hbl_; have HGo : w.heap.size ≤ go := (by rw [hg_]; exact Nat.le_trans (by first | exact Nat.le_refl _ | exact HB.size) (Nat.le_refl _)); replace HB := below_step (blw HB) hbl_; clear hg_ hbl_; have hqo_0 : wo_.cell? ⟨go, 0, none⟩ = some (.string (⟨#[]⟩ : ByteArray)) := (blk_cell hbo 0).trans rfl; have hqo_1 : wo_.cell? ⟨go, 1, none⟩ = some (.int .i64 0) := (blk_cell hbo 1).trans rfl; have hqo_2 : wo_.cell? ⟨go, 2, none⟩ = some (.bool false) := (blk_cell hbo 2).trans rfl; have hqo_3 : wo_.cell? ⟨go, 3, none⟩ = some (.bool false) := (blk_cell hbo 3).trans rfl)
  | ((with_reducible refine gate_dst (N := 4) rfl ?_); (with_reducible refine gate_ (.alloc 75) rfl ?_); refine box_event (N := 4) rfl rfl (cs := #[.string (⟨#[]⟩ : ByteArray), .int .i64 0, .bool false, .bool false, .string (⟨#[]⟩ : ByteArray), .int .i64 0, .bool false, .bool false, .string (⟨#[]⟩ : ByteArray), .int .i64 0, .bool false, .bool false, .string (⟨#[]⟩ : ByteArray), .int .i64 0, .bool false, .bool false, .string (⟨#[]⟩ : ByteArray), .int .i64 0, .bool false, .bool false, .string (⟨#[]⟩ : ByteArray), .int .i64 0, .bool false, .bool false, .string (⟨#[]⟩ : ByteArray), .int .i64 0, .bool false, .bool false, .string (⟨#[]⟩ : ByteArray), .int .i64 0, .bool false, .bool false, .string (⟨#[]⟩ : ByteArray), .int .i64 0, .bool false, .bool false]) (t := 75) (by kernel_rfl) ?_; intro gt hg_ wt_ hbt hbl_; have HGt : w.heap.size ≤ gt := (by rw [hg_]; exact Nat.le_trans (by first | exact Nat.le_refl _ | exact HB.size) (Nat.le_refl _)); have HNt_o : gt ≠ go := (by rw [hg_]; exact Nat.ne_of_gt (blk_lt (by exact hbo))); clear hqo_0 hqo_1 hqo_2 hqo_3; replace hbo := blk_below (by exact hbo) hbl_; have hqo_0 : wt_.cell? ⟨go, 0, none⟩ = some (.string (⟨#[]⟩ : ByteArray)) := (blk_cell hbo 0).trans rfl; have hqo_1 : wt_.cell? ⟨go, 1, none⟩ = some (.int .i64 0) := (blk_cell hbo 1).trans rfl; have hqo_2 : wt_.cell? ⟨go, 2, none⟩ = some (.bool false) := (blk_cell hbo 2).trans rfl; have hqo_3 : wt_.cell? ⟨go, 3, none⟩ = some (.bool false) := (blk_cell hbo 3).trans rfl; replace HB := below_step (blw HB) hbl_; clear hg_ hbl_)
  | ((with_reducible refine gate_ (.store 75 (.tmp 4) (.tmp 13)) rfl ?_); refine blk_store_all (w0 := w) (base := w.heap.size) (u := .agg #[.string (⟨#[]⟩ : ByteArray), .int .i64 0, .bool false, .bool false, .string (⟨#[101, 108, 101, 109, 101, 110, 116]⟩ : ByteArray), .int .i64 0, .bool true, .bool false, .string (⟨#[116, 101, 120, 116]⟩ : ByteArray), .int .i64 0, .bool false, .bool true, .string (⟨#[99, 111, 109, 109, 101, 110, 116]⟩ : ByteArray), .int .i64 0, .bool false, .bool true, .string (⟨#[105, 110, 115, 101, 114, 116]⟩ : ByteArray), .int .i64 3, .bool false, .bool false, .string (⟨#[114, 101, 109, 111, 118, 101]⟩ : ByteArray), .int .i64 1, .bool false, .bool false, .string (⟨#[115, 101, 116]⟩ : ByteArray), .int .i64 1, .bool true, .bool true, .string (⟨#[117, 110, 115, 101, 116]⟩ : ByteArray), .int .i64 1, .bool true, .bool false, .string (⟨#[99, 104, 97, 110, 103, 101]⟩ : ByteArray), .int .i64 1, .bool false, .bool true]) (seg := [.string (⟨#[]⟩ : ByteArray), .int .i64 0, .bool false, .bool false, .string (⟨#[101, 108, 101, 109, 101, 110, 116]⟩ : ByteArray), .int .i64 0, .bool true, .bool false, .string (⟨#[116, 101, 120, 116]⟩ : ByteArray), .int .i64 0, .bool false, .bool true, .string (⟨#[99, 111, 109, 109, 101, 110, 116]⟩ : ByteArray), .int .i64 0, .bool false, .bool true, .string (⟨#[105, 110, 115, 101, 114, 116]⟩ : ByteArray), .int .i64 3, .bool false, .bool false, .string (⟨#[114, 101, 109, 111, 118, 101]⟩ : ByteArray), .int .i64 1, .bool false, .bool false, .string (⟨#[115, 101, 116]⟩ : ByteArray), .int .i64 1, .bool true, .bool true, .string (⟨#[117, 110, 115, 101, 116]⟩ : ByteArray), .int .i64 1, .bool true, .bool false, .string (⟨#[99, 104, 97, 110, 103, 101]⟩ : ByteArray), .int .i64 1, .bool false, .bool true]) rfl rfl rfl rfl rfl (by kernel_rfl) ?h1_ ?ht_ (by exact hbt) (by kernel_rfl) (blw HB) HGt ?_; (case ht_ => kernel_rfl); (case h1_ => exact List.all_eq_true.1 (by kernel_rfl)); intro wt_3 hb2_ HB2_ hgr_; clear hqo_0 hqo_1 hqo_2 hqo_3; replace hbo := blk_grown (by exact hbo) hgr_ (fun e_ => by injection e_ with e_; exact HNt_o.symm e_); replace hbt := hb2_; replace HB := HB2_; clear hb2_ HB2_ hgr_; have hqo_0 : wt_3.cell? ⟨go, 0, none⟩ = some (.string (⟨#[]⟩ : ByteArray)) := (blk_cell hbo 0).trans rfl; have hqo_1 : wt_3.cell? ⟨go, 1, none⟩ = some (.int .i64 0) := (blk_cell hbo 1).trans rfl; have hqo_2 : wt_3.cell? ⟨go, 2, none⟩ = some (.bool false) := (blk_cell hbo 2).trans rfl; have hqo_3 : wt_3.cell? ⟨go, 3, none⟩ = some (.bool false) := (blk_cell hbo 3).trans rfl; have hqt_16 : wt_3.cell? ⟨gt, 16, none⟩ = some (.string (⟨#[105, 110, 115, 101, 114, 116]⟩ : ByteArray)) := (blk_cell hbt 16).trans rfl; have hqt_17 : wt_3.cell? ⟨gt, 17, none⟩ = some (.int .i64 3) := (blk_cell hbt 17).trans rfl; have hqt_18 : wt_3.cell? ⟨gt, 18, none⟩ = some (.bool false) := (blk_cell hbt 18).trans rfl; have hqt_19 : wt_3.cell? ⟨gt, 19, none⟩ = some (.bool false) := (blk_cell hbt 19).trans rfl)
  | ((with_reducible refine gate_ (.store 46 (.tmp 2) (.tmp 23)) rfl ?_); refine blk_store_all (w0 := w) (base := w.heap.size) (u := .agg #[.string (⟨#[105, 110, 115, 101, 114, 116]⟩ : ByteArray), .int .i64 3, .bool false, .bool false]) (seg := [.string (⟨#[105, 110, 115, 101, 114, 116]⟩ : ByteArray), .int .i64 3, .bool false, .bool false]) rfl rfl rfl rfl rfl rfl ?h1_ ?ht_ (by exact hbo) (by rfl) (blw HB) HGo ?_; (case ht_ => kernel_rfl); (case h1_ => intro q_ hq_; simp only [List.mem_cons, List.not_mem_nil, or_false] at hq_; rcases hq_ with rfl | rfl | rfl | rfl <;> rfl); intro wo_4 hb2_ HB2_ hgr_; clear hqo_0 hqo_1 hqo_2 hqo_3; replace hbo := hb2_; replace hbt := blk_grown (by exact hbt) hgr_ (fun e_ => by injection e_ with e_; exact HNt_o e_); replace HB := HB2_; clear hb2_ HB2_ hgr_; have hqo_0 : wo_4.cell? ⟨go, 0, none⟩ = some (.string (⟨#[105, 110, 115, 101, 114, 116]⟩ : ByteArray)) := (blk_cell hbo 0).trans rfl; have hqo_1 : wo_4.cell? ⟨go, 1, none⟩ = some (.int .i64 3) := (blk_cell hbo 1).trans rfl; have hqo_2 : wo_4.cell? ⟨go, 2, none⟩ = some (.bool false) := (blk_cell hbo 2).trans rfl; have hqo_3 : wo_4.cell? ⟨go, 3, none⟩ = some (.bool false) := (blk_cell hbo 3).trans rfl))
 refine bodyPost_ret (v := .tuple #[.agg #[.string (⟨#[105, 110, 115, 101, 114, 116]⟩ : ByteArray), .int .i64 3, .bool false, .bool false], .bool true]) (by simp [results, Tryd.results21, go_sem, hqo_0, hqo_1, hqo_2, hqo_3]) rfl ?_; exact ⟨rfl, HB⟩
set_option maxHeartbeats 40000000 in
set_option maxRecDepth 100000 in
theorem shaped_5 (w : World) : Calls Tryd.prog 21 #[.int .i64 5] w fun e w' => e = .returned (.tuple #[.agg #[.string (⟨#[114, 101, 109, 111, 118, 101]⟩ : ByteArray), .int .i64 1, .bool false, .bool false], .bool true]) ∧ Below w.heap.size w w' := by
 have HB := Below.refl w.heap.size w; go_enter Tryd.func21, Tryd.ntmps21
 go_wp2_with (first
  | ((with_reducible refine gate_dst (N := 2) rfl ?_); (with_reducible refine gate_ (.alloc 46) rfl ?_); refine box_event (N := 2) rfl rfl (cs := #[.string (⟨#[]⟩ : ByteArray), .int .i64 0, .bool false, .bool false]) (t := 46) (by first | (go_simp; done) | (go_simp; rfl)) ?_; intro go hg_ wo_ hbo hbl_; have HGo : w.heap.size ≤ go := (by rw [hg_]; exact Nat.le_trans (by first | exact Nat.le_refl _ | exact HB.size) (Nat.le_refl _)); replace HB := below_step (blw HB) hbl_; clear hg_ hbl_; have hqo_0 : wo_.cell? ⟨go, 0, none⟩ = some (.string (⟨#[]⟩ : ByteArray)) := (blk_cell hbo 0).trans rfl; have hqo_1 : wo_.cell? ⟨go, 1, none⟩ = some (.int .i64 0) := (blk_cell hbo 1).trans rfl; have hqo_2 : wo_.cell? ⟨go, 2, none⟩ = some (.bool false) := (blk_cell hbo 2).trans rfl; have hqo_3 : wo_.cell? ⟨go, 3, none⟩ = some (.bool false) := (blk_cell hbo 3).trans rfl)
  | ((with_reducible refine gate_dst (N := 4) rfl ?_); (with_reducible refine gate_ (.alloc 75) rfl ?_); refine box_event (N := 4) rfl rfl (cs := #[.string (⟨#[]⟩ : ByteArray), .int .i64 0, .bool false, .bool false, .string (⟨#[]⟩ : ByteArray), .int .i64 0, .bool false, .bool false, .string (⟨#[]⟩ : ByteArray), .int .i64 0, .bool false, .bool false, .string (⟨#[]⟩ : ByteArray), .int .i64 0, .bool false, .bool false, .string (⟨#[]⟩ : ByteArray), .int .i64 0, .bool false, .bool false, .string (⟨#[]⟩ : ByteArray), .int .i64 0, .bool false, .bool false, .string (⟨#[]⟩ : ByteArray), .int .i64 0, .bool false, .bool false, .string (⟨#[]⟩ : ByteArray), .int .i64 0, .bool false, .bool false, .string (⟨#[]⟩ : ByteArray), .int .i64 0, .bool false, .bool false]) (t := 75) (by kernel_rfl) ?_; intro gt hg_ wt_ hbt hbl_; have HGt : w.heap.size ≤ gt := (by rw [hg_]; exact Nat.le_trans (by first | exact Nat.le_refl _ | exact HB.size) (Nat.le_refl _)); have HNt_o : gt ≠ go := (by rw [hg_]; exact Nat.ne_of_gt (blk_lt (by exact hbo))); clear hqo_0 hqo_1 hqo_2 hqo_3; replace hbo := blk_below (by exact hbo) hbl_; have hqo_0 : wt_.cell? ⟨go, 0, none⟩ = some (.string (⟨#[]⟩ : ByteArray)) := (blk_cell hbo 0).trans rfl; have hqo_1 : wt_.cell? ⟨go, 1, none⟩ = some (.int .i64 0) := (blk_cell hbo 1).trans rfl; have hqo_2 : wt_.cell? ⟨go, 2, none⟩ = some (.bool false) := (blk_cell hbo 2).trans rfl; have hqo_3 : wt_.cell? ⟨go, 3, none⟩ = some (.bool false) := (blk_cell hbo 3).trans rfl; replace HB := below_step (blw HB) hbl_; clear hg_ hbl_)
  | ((with_reducible refine gate_ (.store 75 (.tmp 4) (.tmp 13)) rfl ?_); refine blk_store_all (w0 := w) (base := w.heap.size) (u := .agg #[.string (⟨#[]⟩ : ByteArray), .int .i64 0, .bool false, .bool false, .string (⟨#[101, 108, 101, 109, 101, 110, 116]⟩ : ByteArray), .int .i64 0, .bool true, .bool false, .string (⟨#[116, 101, 120, 116]⟩ : ByteArray), .int .i64 0, .bool false, .bool true, .string (⟨#[99, 111, 109, 109, 101, 110, 116]⟩ : ByteArray), .int .i64 0, .bool false, .bool true, .string (⟨#[105, 110, 115, 101, 114, 116]⟩ : ByteArray), .int .i64 3, .bool false, .bool false, .string (⟨#[114, 101, 109, 111, 118, 101]⟩ : ByteArray), .int .i64 1, .bool false, .bool false, .string (⟨#[115, 101, 116]⟩ : ByteArray), .int .i64 1, .bool true, .bool true, .string (⟨#[117, 110, 115, 101, 116]⟩ : ByteArray), .int .i64 1, .bool true, .bool false, .string (⟨#[99, 104, 97, 110, 103, 101]⟩ : ByteArray), .int .i64 1, .bool false, .bool true]) (seg := [.string (⟨#[]⟩ : ByteArray), .int .i64 0, .bool false, .bool false, .string (⟨#[101, 108, 101, 109, 101, 110, 116]⟩ : ByteArray), .int .i64 0, .bool true, .bool false, .string (⟨#[116, 101, 120, 116]⟩ : ByteArray), .int .i64 0, .bool false, .bool true, .string (⟨#[99, 111, 109, 109, 101, 110, 116]⟩ : ByteArray), .int .i64 0, .bool false, .bool true, .string (⟨#[105, 110, 115, 101, 114, 116]⟩ : ByteArray), .int .i64 3, .bool false, .bool false, .string (⟨#[114, 101, 109, 111, 118, 101]⟩ : ByteArray), .int .i64 1, .bool false, .bool false, .string (⟨#[115, 101, 116]⟩ : ByteArray), .int .i64 1, .bool true, .bool true, .string (⟨#[117, 110, 115, 101, 116]⟩ : ByteArray), .int .i64 1, .bool true, .bool false, .string (⟨#[99, 104, 97, 110, 103, 101]⟩ : ByteArray), .int .i64 1, .bool false, .bool true]) rfl rfl rfl rfl rfl (by kernel_rfl) ?h1_ ?ht_ (by exact hbt) (by kernel_rfl) (blw HB) HGt ?_; (case ht_ => kernel_rfl); (case h1_ => exact List.all_eq_true.1 (by kernel_rfl)); intro wt_3 hb2_ HB2_ hgr_; clear hqo_0 hqo_1 hqo_2 hqo_3; replace hbo := blk_grown (by exact hbo) hgr_ (fun e_ => by injection e_ with e_; exact HNt_o.symm e_); replace hbt := hb2_; replace HB := HB2_; clear hb2_ HB2_ hgr_; have hqo_0 : wt_3.cell? ⟨go, 0, none⟩ = some (.string (⟨#[]⟩ : ByteArray)) := (blk_cell hbo 0).trans rfl; have hqo_1 : wt_3.cell? ⟨go, 1, none⟩ = some (.int .i64 0) := (blk_cell hbo 1).trans rfl; have hqo_2 : wt_3.cell? ⟨go, 2, none⟩ = some (.bool false) := (blk_cell hbo 2).trans rfl; have hqo_3 : wt_3.cell? ⟨go, 3, none⟩ = some (.bool false) := (blk_cell hbo 3).trans rfl; have hqt_20 : wt_3.cell? ⟨gt, 20, none⟩ = some (.string (⟨#[114, 101, 109, 111, 118, 101]⟩ : ByteArray)) := (blk_cell hbt 20).trans rfl; have hqt_21 : wt_3.cell? ⟨gt, 21, none⟩ = some (.int .i64 1) := (blk_cell hbt 21).trans rfl; have hqt_22 : wt_3.cell? ⟨gt, 22, none⟩ = some (.bool false) := (blk_cell hbt 22).trans rfl; have hqt_23 : wt_3.cell? ⟨gt, 23, none⟩ = some (.bool false) := (blk_cell hbt 23).trans rfl)
  | ((with_reducible refine gate_ (.store 46 (.tmp 2) (.tmp 23)) rfl ?_); refine blk_store_all (w0 := w) (base := w.heap.size) (u := .agg #[.string (⟨#[114, 101, 109, 111, 118, 101]⟩ : ByteArray), .int .i64 1, .bool false, .bool false]) (seg := [.string (⟨#[114, 101, 109, 111, 118, 101]⟩ : ByteArray), .int .i64 1, .bool false, .bool false]) rfl rfl rfl rfl rfl rfl ?h1_ ?ht_ (by exact hbo) (by rfl) (blw HB) HGo ?_; (case ht_ => kernel_rfl); (case h1_ => intro q_ hq_; simp only [List.mem_cons, List.not_mem_nil, or_false] at hq_; rcases hq_ with rfl | rfl | rfl | rfl <;> rfl); intro wo_4 hb2_ HB2_ hgr_; clear hqo_0 hqo_1 hqo_2 hqo_3; replace hbo := hb2_; replace hbt := blk_grown (by exact hbt) hgr_ (fun e_ => by injection e_ with e_; exact HNt_o e_); replace HB := HB2_; clear hb2_ HB2_ hgr_; have hqo_0 : wo_4.cell? ⟨go, 0, none⟩ = some (.string (⟨#[114, 101, 109, 111, 118, 101]⟩ : ByteArray)) := (blk_cell hbo 0).trans rfl; have hqo_1 : wo_4.cell? ⟨go, 1, none⟩ = some (.int .i64 1) := (blk_cell hbo 1).trans rfl; have hqo_2 : wo_4.cell? ⟨go, 2, none⟩ = some (.bool false) := (blk_cell hbo 2).trans rfl; have hqo_3 : wo_4.cell? ⟨go, 3, none⟩ = some (.bool false) := (blk_cell hbo 3).trans rfl))
 refine bodyPost_ret (v := .tuple #[.agg #[.string (⟨#[114, 101, 109, 111, 118, 101]⟩ : ByteArray), .int .i64 1, .bool false, .bool false], .bool true]) (by simp [results, Tryd.results21, go_sem, hqo_0, hqo_1, hqo_2, hqo_3]) rfl ?_; exact ⟨rfl, HB⟩
set_option maxHeartbeats 40000000 in
set_option maxRecDepth 100000 in
theorem shaped_6 (w : World) : Calls Tryd.prog 21 #[.int .i64 6] w fun e w' => e = .returned (.tuple #[.agg #[.string (⟨#[115, 101, 116]⟩ : ByteArray), .int .i64 1, .bool true, .bool true], .bool true]) ∧ Below w.heap.size w w' := by
 have HB := Below.refl w.heap.size w; go_enter Tryd.func21, Tryd.ntmps21
 go_wp2_with (first
  | ((with_reducible refine gate_dst (N := 2) rfl ?_); (with_reducible refine gate_ (.alloc 46) rfl ?_); refine box_event (N := 2) rfl rfl (cs := #[.string (⟨#[]⟩ : ByteArray), .int .i64 0, .bool false, .bool false]) (t := 46) (by first | (go_simp; done) | (go_simp; rfl)) ?_; intro go hg_ wo_ hbo hbl_; have HGo : w.heap.size ≤ go := (by rw [hg_]; exact Nat.le_trans (by first | exact Nat.le_refl _ | exact HB.size) (Nat.le_refl _)); replace HB := below_step (blw HB) hbl_; clear hg_ hbl_; have hqo_0 : wo_.cell? ⟨go, 0, none⟩ = some (.string (⟨#[]⟩ : ByteArray)) := (blk_cell hbo 0).trans rfl; have hqo_1 : wo_.cell? ⟨go, 1, none⟩ = some (.int .i64 0) := (blk_cell hbo 1).trans rfl; have hqo_2 : wo_.cell? ⟨go, 2, none⟩ = some (.bool false) := (blk_cell hbo 2).trans rfl; have hqo_3 : wo_.cell? ⟨go, 3, none⟩ = some (.bool false) := (blk_cell hbo 3).trans rfl)
  | ((with_reducible refine gate_dst (N := 4) rfl ?_); (with_reducible refine gate_ (.alloc 75) rfl ?_); refine box_event (N := 4) rfl rfl (cs := #[.string (⟨#[]⟩ : ByteArray), .int .i64 0, .bool false, .bool false, .string (⟨#[]⟩ : ByteArray), .int .i64 0, .bool false, .bool false, .string (⟨#[]⟩ : ByteArray), .int .i64 0, .bool false, .bool false, .string (⟨#[]⟩ : ByteArray), .int .i64 0, .bool false, .bool false, .string (⟨#[]⟩ : ByteArray), .int .i64 0, .bool false, .bool false, .string (⟨#[]⟩ : ByteArray), .int .i64 0, .bool false, .bool false, .string (⟨#[]⟩ : ByteArray), .int .i64 0, .bool false, .bool false, .string (⟨#[]⟩ : ByteArray), .int .i64 0, .bool false, .bool false, .string (⟨#[]⟩ : ByteArray), .int .i64 0, .bool false, .bool false]) (t := 75) (by kernel_rfl) ?_; intro gt hg_ wt_ hbt hbl_; have HGt : w.heap.size ≤ gt := (by rw [hg_]; exact Nat.le_trans (by first | exact Nat.le_refl _ | exact HB.size) (Nat.le_refl _)); have HNt_o : gt ≠ go := (by rw [hg_]; exact Nat.ne_of_gt (blk_lt (by exact hbo))); clear hqo_0 hqo_1 hqo_2 hqo_3; replace hbo := blk_below (by exact hbo) hbl_; have hqo_0 : wt_.cell? ⟨go, 0, none⟩ = some (.string (⟨#[]⟩ : ByteArray)) := (blk_cell hbo 0).trans rfl; have hqo_1 : wt_.cell? ⟨go, 1, none⟩ = some (.int .i64 0) := (blk_cell hbo 1).trans rfl; have hqo_2 : wt_.cell? ⟨go, 2, none⟩ = some (.bool false) := (blk_cell hbo 2).trans rfl; have hqo_3 : wt_.cell? ⟨go, 3, none⟩ = some (.bool false) := (blk_cell hbo 3).trans rfl; replace HB := below_step (blw HB) hbl_; clear hg_ hbl_)
  | ((with_reducible refine gate_ (.store 75 (.tmp 4) (.tmp 13)) rfl ?_); refine blk_store_all (w0 := w) (base := w.heap.size) (u := .agg #[.string (⟨#[]⟩ : ByteArray), .int .i64 0, .bool false, .bool false, .string (⟨#[101, 108, 101, 109, 101, 110, 116]⟩ : ByteArray), .int .i64 0, .bool true, .bool false, .string (⟨#[116, 101, 120, 116]⟩ : ByteArray), .int .i64 0, .bool false, .bool true, .string (⟨#[99, 111, 109, 109, 101, 110, 116]⟩ : ByteArray), .int .i64 0, .bool false, .bool true, .string (⟨#[105, 110, 115, 101, 114, 116]⟩ : ByteArray), .int .i64 3, .bool false, .bool false, .string (⟨#[114, 101, 109, 111, 118, 101]⟩ : ByteArray), .int .i64 1, .bool false, .bool false, .string (⟨#[115, 101, 116]⟩ : ByteArray), .int .i64 1, .bool true, .bool true, .string (⟨#[117, 110, 115, 101, 116]⟩ : ByteArray), .int .i64 1, .bool true, .bool false, .string (⟨#[99, 104, 97, 110, 103, 101]⟩ : ByteArray), .int .i64 1, .bool false, .bool true]) (seg := [.string (⟨#[]⟩ : ByteArray), .int .i64 0, .bool false, .bool false, .string (⟨#[101, 108, 101, 109, 101, 110, 116]⟩ : ByteArray), .int .i64 0, .bool true, .bool false, .string (⟨#[116, 101, 120, 116]⟩ : ByteArray), .int .i64 0, .bool false, .bool true, .string (⟨#[99, 111, 109, 109, 101, 110, 116]⟩ : ByteArray), .int .i64 0, .bool false, .bool true, .string (⟨#[105, 110, 115, 101, 114, 116]⟩ : ByteArray), .int .i64 3, .bool false, .bool false, .string (⟨#[114, 101, 109, 111, 118, 101]⟩ : ByteArray), .int .i64 1, .bool false, .bool false, .string (⟨#[115, 101, 116]⟩ : ByteArray), .int .i64 1, .bool true, .bool true, .string (⟨#[117, 110, 115, 101, 116]⟩ : ByteArray), .int .i64 1, .bool true, .bool false, .string (⟨#[99, 104, 97, 110, 103, 101]⟩ : ByteArray), .int .i64 1, .bool false, .bool true]) rfl rfl rfl rfl rfl (by kernel_rfl) ?h1_ ?ht_ (by exact hbt) (by kernel_rfl) (blw HB) HGt ?_; (case ht_ => kernel_rfl); (case h1_ => exact List.all_eq_true.1 (by kernel_rfl)); intro wt_3 hb2_ HB2_ hgr_; clear hqo_0 hqo_1 hqo_2 hqo_3; replace hbo := blk_grown (by exact hbo) hgr_ (fun e_ => by injection e_ with e_; exact HNt_o.symm e_); replace hbt := hb2_; replace HB := HB2_; clear hb2_ HB2_ hgr_; have hqo_0 : wt_3.cell? ⟨go, 0, none⟩ = some (.string (⟨#[]⟩ : ByteArray)) := (blk_cell hbo 0).trans rfl; have hqo_1 : wt_3.cell? ⟨go, 1, none⟩ = some (.int .i64 0) := (blk_cell hbo 1).trans rfl; have hqo_2 : wt_3.cell? ⟨go, 2, none⟩ = some (.bool false) := (blk_cell hbo 2).trans rfl; have hqo_3 : wt_3.cell? ⟨go, 3, none⟩ = some (.bool false) := (blk_cell hbo 3).trans rfl; have hqt_24 : wt_3.cell? ⟨gt, 24, none⟩ = some (.string (⟨#[115, 101, 116]⟩ : ByteArray)) := (blk_cell hbt 24).trans rfl; have hqt_25 : wt_3.cell? ⟨gt, 25, none⟩ = some (.int .i64 1) := (blk_cell hbt 25).trans rfl; have hqt_26 : wt_3.cell? ⟨gt, 26, none⟩ = some (.bool true) := (blk_cell hbt 26).trans rfl; have hqt_27 : wt_3.cell? ⟨gt, 27, none⟩ = some (.bool true) := (blk_cell hbt 27).trans rfl)
  | ((with_reducible refine gate_ (.store 46 (.tmp 2) (.tmp 23)) rfl ?_); refine blk_store_all (w0 := w) (base := w.heap.size) (u := .agg #[.string (⟨#[115, 101, 116]⟩ : ByteArray), .int .i64 1, .bool true, .bool true]) (seg := [.string (⟨#[115, 101, 116]⟩ : ByteArray), .int .i64 1, .bool true, .bool true]) rfl rfl rfl rfl rfl rfl ?h1_ ?ht_ (by exact hbo) (by rfl) (blw HB) HGo ?_; (case ht_ => kernel_rfl); (case h1_ => intro q_ hq_; simp only [List.mem_cons, List.not_mem_nil, or_false] at hq_; rcases hq_ with rfl | rfl | rfl | rfl <;> rfl); intro wo_4 hb2_ HB2_ hgr_; clear hqo_0 hqo_1 hqo_2 hqo_3; replace hbo := hb2_; replace hbt := blk_grown (by exact hbt) hgr_ (fun e_ => by injection e_ with e_; exact HNt_o e_); replace HB := HB2_; clear hb2_ HB2_ hgr_; have hqo_0 : wo_4.cell? ⟨go, 0, none⟩ = some (.string (⟨#[115, 101, 116]⟩ : ByteArray)) := (blk_cell hbo 0).trans rfl; have hqo_1 : wo_4.cell? ⟨go, 1, none⟩ = some (.int .i64 1) := (blk_cell hbo 1).trans rfl; have hqo_2 : wo_4.cell? ⟨go, 2, none⟩ = some (.bool true) := (blk_cell hbo 2).trans rfl; have hqo_3 : wo_4.cell? ⟨go, 3, none⟩ = some (.bool true) := (blk_cell hbo 3).trans rfl))
 refine bodyPost_ret (v := .tuple #[.agg #[.string (⟨#[115, 101, 116]⟩ : ByteArray), .int .i64 1, .bool true, .bool true], .bool true]) (by simp [results, Tryd.results21, go_sem, hqo_0, hqo_1, hqo_2, hqo_3]) rfl ?_; exact ⟨rfl, HB⟩
set_option maxHeartbeats 40000000 in
set_option maxRecDepth 100000 in
theorem shaped_7 (w : World) : Calls Tryd.prog 21 #[.int .i64 7] w fun e w' => e = .returned (.tuple #[.agg #[.string (⟨#[117, 110, 115, 101, 116]⟩ : ByteArray), .int .i64 1, .bool true, .bool false], .bool true]) ∧ Below w.heap.size w w' := by
 have HB := Below.refl w.heap.size w; go_enter Tryd.func21, Tryd.ntmps21
 go_wp2_with (first
  | ((with_reducible refine gate_dst (N := 2) rfl ?_); (with_reducible refine gate_ (.alloc 46) rfl ?_); refine box_event (N := 2) rfl rfl (cs := #[.string (⟨#[]⟩ : ByteArray), .int .i64 0, .bool false, .bool false]) (t := 46) (by first | (go_simp; done) | (go_simp; rfl)) ?_; intro go hg_ wo_ hbo hbl_; have HGo : w.heap.size ≤ go := (by rw [hg_]; exact Nat.le_trans (by first | exact Nat.le_refl _ | exact HB.size) (Nat.le_refl _)); replace HB := below_step (blw HB) hbl_; clear hg_ hbl_; have hqo_0 : wo_.cell? ⟨go, 0, none⟩ = some (.string (⟨#[]⟩ : ByteArray)) := (blk_cell hbo 0).trans rfl; have hqo_1 : wo_.cell? ⟨go, 1, none⟩ = some (.int .i64 0) := (blk_cell hbo 1).trans rfl; have hqo_2 : wo_.cell? ⟨go, 2, none⟩ = some (.bool false) := (blk_cell hbo 2).trans rfl; have hqo_3 : wo_.cell? ⟨go, 3, none⟩ = some (.bool false) := (blk_cell hbo 3).trans rfl)
  | ((with_reducible refine gate_dst (N := 4) rfl ?_); (with_reducible refine gate_ (.alloc 75) rfl ?_); refine box_event (N := 4) rfl rfl (cs := #[.string (⟨#[]⟩ : ByteArray), .int .i64 0, .bool false, .bool false, .string (⟨#[]⟩ : ByteArray), .int .i64 0, .bool false, .bool false, .string (⟨#[]⟩ : ByteArray), .int .i64 0, .bool false, .bool false, .string (⟨#[]⟩ : ByteArray), .int .i64 0, .bool false, .bool false, .string (⟨#[]⟩ : ByteArray), .int .i64 0, .bool false, .bool false, .string (⟨#[]⟩ : ByteArray), .int .i64 0, .bool false, .bool false, .string (⟨#[]⟩ : ByteArray), .int .i64 0, .bool false, .bool false, .string (⟨#[]⟩ : ByteArray), .int .i64 0, .bool false, .bool false, .string (⟨#[]⟩ : ByteArray), .int .i64 0, .bool false, .bool false]) (t := 75) (by kernel_rfl) ?_; intro gt hg_ wt_ hbt hbl_; have HGt : w.heap.size ≤ gt := (by rw [hg_]; exact Nat.le_trans (by first | exact Nat.le_refl _ | exact HB.size) (Nat.le_refl _)); have HNt_o : gt ≠ go := (by rw [hg_]; exact Nat.ne_of_gt (blk_lt (by exact hbo))); clear hqo_0 hqo_1 hqo_2 hqo_3; replace hbo := blk_below (by exact hbo) hbl_; have hqo_0 : wt_.cell? ⟨go, 0, none⟩ = some (.string (⟨#[]⟩ : ByteArray)) := (blk_cell hbo 0).trans rfl; have hqo_1 : wt_.cell? ⟨go, 1, none⟩ = some (.int .i64 0) := (blk_cell hbo 1).trans rfl; have hqo_2 : wt_.cell? ⟨go, 2, none⟩ = some (.bool false) := (blk_cell hbo 2).trans rfl; have hqo_3 : wt_.cell? ⟨go, 3, none⟩ = some (.bool false) := (blk_cell hbo 3).trans rfl; replace HB := below_step (blw HB) hbl_; clear hg_ hbl_)
  | ((with_reducible refine gate_ (.store 75 (.tmp 4) (.tmp 13)) rfl ?_); refine blk_store_all (w0 := w) (base := w.heap.size) (u := .agg #[.string (⟨#[]⟩ : ByteArray), .int .i64 0, .bool false, .bool false, .string (⟨#[101, 108, 101, 109, 101, 110, 116]⟩ : ByteArray), .int .i64 0, .bool true, .bool false, .string (⟨#[116, 101, 120, 116]⟩ : ByteArray), .int .i64 0, .bool false, .bool true, .string (⟨#[99, 111, 109, 109, 101, 110, 116]⟩ : ByteArray), .int .i64 0, .bool false, .bool true, .string (⟨#[105, 110, 115, 101, 114, 116]⟩ : ByteArray), .int .i64 3, .bool false, .bool false, .string (⟨#[114, 101, 109, 111, 118, 101]⟩ : ByteArray), .int .i64 1, .bool false, .bool false, .string (⟨#[115, 101, 116]⟩ : ByteArray), .int .i64 1, .bool true, .bool true, .string (⟨#[117, 110, 115, 101, 116]⟩ : ByteArray), .int .i64 1, .bool true, .bool false, .string (⟨#[99, 104, 97, 110, 103, 101]⟩ : ByteArray), .int .i64 1, .bool false, .bool true]) (seg := [.string (⟨#[]⟩ : ByteArray), .int .i64 0, .bool false, .bool false, .string (⟨#[101, 108, 101, 109, 101, 110, 116]⟩ : ByteArray), .int .i64 0, .bool true, .bool false, .string (⟨#[116, 101, 120, 116]⟩ : ByteArray), .int .i64 0, .bool false, .bool true, .string (⟨#[99, 111, 109, 109, 101, 110, 116]⟩ : ByteArray), .int .i64 0, .bool false, .bool true, .string (⟨#[105, 110, 115, 101, 114, 116]⟩ : ByteArray), .int .i64 3, .bool false, .bool false, .string (⟨#[114, 101, 109, 111, 118, 101]⟩ : ByteArray), .int .i64 1, .bool false, .bool false, .string (⟨#[115, 101, 116]⟩ : ByteArray), .int .i64 1, .bool true, .bool true, .string (⟨#[117, 110, 115, 101, 116]⟩ : ByteArray), .int .i64 1, .bool true, .bool false, .string (⟨#[99, 104, 97, 110, 103, 101]⟩ : ByteArray), .int .i64 1, .bool false, .bool true]) rfl rfl rfl rfl rfl (by kernel_rfl) ?h1_ ?ht_ (by exact hbt) (by kernel_rfl) (blw HB) HGt ?_; (case ht_ => kernel_rfl); (case h1_ => exact List.all_eq_true.1 (by kernel_rfl)); intro wt_3 hb2_ HB2_ hgr_; clear hqo_0 hqo_1 hqo_2 hqo_3; replace hbo := blk_grown (by exact hbo) hgr_ (fun e_ => by injection e_ with e_; exact HNt_o.symm e_); replace hbt := hb2_; replace HB := HB2_; clear hb2_ HB2_ hgr_; have hqo_0 : wt_3.cell? ⟨go, 0, none⟩ = some (.string (⟨#[]⟩ : ByteArray)) := (blk_cell hbo 0).trans rfl; have hqo_1 : wt_3.cell? ⟨go, 1, none⟩ = some (.int .i64 0) := (blk_cell hbo 1).trans rfl; have hqo_2 : wt_3.cell? ⟨go, 2, none⟩ = some (.bool false) := (blk_cell hbo 2).trans rfl; have hqo_3 : wt_3.cell? ⟨go, 3, none⟩ = some (.bool false) := (blk_cell hbo 3).trans rfl; have hqt_28 : wt_3.cell? ⟨gt, 28, none⟩ = some (.string (⟨#[117, 110, 115, 101, 116]⟩ : ByteArray)) := (blk_cell hbt 28).trans rfl; have hqt_29 : wt_3.cell? ⟨gt, 29, none⟩ = some (.int .i64 1) := (blk_cell hbt 29).trans rfl; have hqt_30 : wt_3.cell? ⟨gt, 30, none⟩ = some (.bool true) := (blk_cell hbt 30).trans rfl; have hqt_31 : wt_3.cell? ⟨gt, 31, none⟩ = some (.bool false) := (blk_cell hbt 31).trans rfl)
  | ((with_reducible refine gate_ (.store 46 (.tmp 2) (.tmp 23)) rfl ?_); refine blk_store_all (w0 := w) (base := w.heap.size) (u := .agg #[.string (⟨#[117, 110, 115, 101, 116]⟩ : ByteArray), .int .i64 1, .bool true, .bool false]) (seg := [.string (⟨#[117, 110, 115, 101, 116]⟩ : ByteArray), .int .i64 1, .bool true, .bool false]) rfl rfl rfl rfl rfl rfl ?h1_ ?ht_ (by exact hbo) (by rfl) (blw HB) HGo ?_; (case ht_ => kernel_rfl); (case h1_ => intro q_ hq_; simp only [List.mem_cons, List.not_mem_nil, or_false] at hq_; rcases hq_ with rfl | rfl | rfl | rfl <;> rfl); intro wo_4 hb2_ HB2_ hgr_; clear hqo_0 hqo_1 hqo_2 hqo_3; replace hbo := hb2_; replace hbt := blk_grown (by exact hbt) hgr_ (fun e_ => by injection e_ with e_; exact HNt_o e_); replace HB := HB2_; clear hb2_ HB2_ hgr_; have hqo_0 : wo_4.cell? ⟨go, 0, none⟩ = some (.string (⟨#[117, 110, 115, 101, 116]⟩ : ByteArray)) := (blk_cell hbo 0).trans rfl; have hqo_1 : wo_4.cell? ⟨go, 1, none⟩ = some (.int .i64 1) := (blk_cell hbo 1).trans rfl; have hqo_2 : wo_4.cell? ⟨go, 2, none⟩ = some (.bool true) := (blk_cell hbo 2).trans rfl; have hqo_3 : wo_4.cell? ⟨go, 3, none⟩ = some (.bool false) := (blk_cell hbo 3).trans rfl))
 refine bodyPost_ret (v := .tuple #[.agg #[.string (⟨#[117, 110, 115, 101, 116]⟩ : ByteArray), .int .i64 1, .bool true, .bool false], .bool true]) (by simp [results, Tryd.results21, go_sem, hqo_0, hqo_1, hqo_2, hqo_3]) rfl ?_; exact ⟨rfl, HB⟩
set_option maxHeartbeats 40000000 in
set_option maxRecDepth 100000 in
theorem shaped_8 (w : World) : Calls Tryd.prog 21 #[.int .i64 8] w fun e w' => e = .returned (.tuple #[.agg #[.string (⟨#[99, 104, 97, 110, 103, 101]⟩ : ByteArray), .int .i64 1, .bool false, .bool true], .bool true]) ∧ Below w.heap.size w w' := by
 have HB := Below.refl w.heap.size w; go_enter Tryd.func21, Tryd.ntmps21
 go_wp2_with (first
  | ((with_reducible refine gate_dst (N := 2) rfl ?_); (with_reducible refine gate_ (.alloc 46) rfl ?_); refine box_event (N := 2) rfl rfl (cs := #[.string (⟨#[]⟩ : ByteArray), .int .i64 0, .bool false, .bool false]) (t := 46) (by first | (go_simp; done) | (go_simp; rfl)) ?_; intro go hg_ wo_ hbo hbl_; have HGo : w.heap.size ≤ go := (by rw [hg_]; exact Nat.le_trans (by first | exact Nat.le_refl _ | exact HB.size) (Nat.le_refl _)); replace HB := below_step (blw HB) hbl_; clear hg_ hbl_; have hqo_0 : wo_.cell? ⟨go, 0, none⟩ = some (.string (⟨#[]⟩ : ByteArray)) := (blk_cell hbo 0).trans rfl; have hqo_1 : wo_.cell? ⟨go, 1, none⟩ = some (.int .i64 0) := (blk_cell hbo 1).trans rfl; have hqo_2 : wo_.cell? ⟨go, 2, none⟩ = some (.bool false) := (blk_cell hbo 2).trans rfl; have hqo_3 : wo_.cell? ⟨go, 3, none⟩ = some (.bool false) := (blk_cell hbo 3).trans rfl)
  | ((with_reducible refine gate_dst (N := 4) rfl ?_); (with_reducible refine gate_ (.alloc 75) rfl ?_); refine box_event (N := 4) rfl rfl (cs := #[.string (⟨#[]⟩ : ByteArray), .int .i64 0, .bool false, .bool false, .string (⟨#[]⟩ : ByteArray), .int .i64 0, .bool false, .bool false, .string (⟨#[]⟩ : ByteArray), .int .i64 0, .bool false, .bool false, .string (⟨#[]⟩ : ByteArray), .int .i64 0, .bool false, .bool false, .string (⟨#[]⟩ : ByteArray), .int .i64 0, .bool false, .bool false, .string (⟨#[]⟩ : ByteArray), .int .i64 0, .bool false, .bool false, .string (⟨#[]⟩ : ByteArray), .int .i64 0, .bool false, .bool false, .string (⟨#[]⟩ : ByteArray), .int .i64 0, .bool false, .bool false, .string (⟨#[]⟩ : ByteArray), .int .i64 0, .bool false, .bool false]) (t := 75) (by kernel_rfl) ?_; intro gt hg_ wt_ hbt hbl_; have HGt : w.heap.size ≤ gt := (by rw [hg_]; exact Nat.le_trans (by first | exact Nat.le_refl _ | exact HB.size) (Nat.le_refl _)); have HNt_o : gt ≠ go := (by rw [hg_]; exact Nat.ne_of_gt (blk_lt (by exact hbo))); clear hqo_0 hqo_1 hqo_2 hqo_3; replace hbo := blk_below (by exact hbo) hbl_; have hqo_0 : wt_.cell? ⟨go, 0, none⟩ = some (.string (⟨#[]⟩ : ByteArray)) := (blk_cell hbo 0).trans rfl; have hqo_1 : wt_.cell? ⟨go, 1, none⟩ = some (.int .i64 0) := (blk_cell hbo 1).trans rfl; have hqo_2 : wt_.cell? ⟨go, 2, none⟩ = some (.bool false) := (blk_cell hbo 2).trans rfl; have hqo_3 : wt_.cell? ⟨go, 3, none⟩ = some (.bool false) := (blk_cell hbo 3).trans rfl; replace HB := below_step (blw HB) hbl_; clear hg_ hbl_)
  | ((with_reducible refine gate_ (.store 75 (.tmp 4) (.tmp 13)) rfl ?_); refine blk_store_all (w0 := w) (base := w.heap.size) (u := .agg #[.string (⟨#[]⟩ : ByteArray), .int .i64 0, .bool false, .bool false, .string (⟨#[101, 108, 101, 109, 101, 110, 116]⟩ : ByteArray), .int .i64 0, .bool true, .bool false, .string (⟨#[116, 101, 120, 116]⟩ : ByteArray), .int .i64 0, .bool false, .bool true, .string (⟨#[99, 111, 109, 109, 101, 110, 116]⟩ : ByteArray), .int .i64 0, .bool false, .bool true, .string (⟨#[105, 110, 115, 101, 114, 116]⟩ : ByteArray), .int .i64 3, .bool false, .bool false, .string (⟨#[114, 101, 109, 111, 118, 101]⟩ : ByteArray), .int .i64 1, .bool false, .bool false, .string (⟨#[115, 101, 116]⟩ : ByteArray), .int .i64 1, .bool true, .bool true, .string (⟨#[117, 110, 115, 101, 116]⟩ : ByteArray), .int .i64 1, .bool true, .bool false, .string (⟨#[99, 104, 97, 110, 103, 101]⟩ : ByteArray), .int .i64 1, .bool false, .bool true]) (seg := [.string (⟨#[]⟩ : ByteArray), .int .i64 0, .bool false, .bool false, .string (⟨#[101, 108, 101, 109, 101, 110, 116]⟩ : ByteArray), .int .i64 0, .bool true, .bool false, .string (⟨#[116, 101, 120, 116]⟩ : ByteArray), .int .i64 0, .bool false, .bool true, .string (⟨#[99, 111, 109, 109, 101, 110, 116]⟩ : ByteArray), .int .i64 0, .bool false, .bool true, .string (⟨#[105, 110, 115, 101, 114, 116]⟩ : ByteArray), .int .i64 3, .bool false, .bool false, .string (⟨#[114, 101, 109, 111, 118, 101]⟩ : ByteArray), .int .i64 1, .bool false, .bool false, .string (⟨#[115, 101, 116]⟩ : ByteArray), .int .i64 1, .bool true, .bool true, .string (⟨#[117, 110, 115, 101, 116]⟩ : ByteArray), .int .i64 1, .bool true, .bool false, .string (⟨#[99, 104, 97, 110, 103, 101]⟩ : ByteArray), .int .i64 1, .bool false, .bool true]) rfl rfl rfl rfl rfl (by kernel_rfl) ?h1_ ?ht_ (by exact hbt) (by kernel_rfl) (blw HB) HGt ?_; (case ht_ => kernel_rfl); (case h1_ => exact List.all_eq_true.1 (by kernel_rfl)); intro wt_3 hb2_ HB2_ hgr_; clear hqo_0 hqo_1 hqo_2 hqo_3; replace hbo := blk_grown (by exact hbo) hgr_ (fun e_ => by injection e_ with e_; exact HNt_o.symm e_); replace hbt := hb2_; replace HB := HB2_; clear hb2_ HB2_ hgr_; have hqo_0 : wt_3.cell? ⟨go, 0, none⟩ = some (.string (⟨#[]⟩ : ByteArray)) := (blk_cell hbo 0).trans rfl; have hqo_1 : wt_3.cell? ⟨go, 1, none⟩ = some (.int .i64 0) := (blk_cell hbo 1).trans rfl; have hqo_2 : wt_3.cell? ⟨go, 2, none⟩ = some (.bool false) := (blk_cell hbo 2).trans rfl; have hqo_3 : wt_3.cell? ⟨go, 3, none⟩ = some (.bool false) := (blk_cell hbo 3).trans rfl; have hqt_32 : wt_3.cell? ⟨gt, 32, none⟩ = some (.string (⟨#[99, 104, 97, 110, 103, 101]⟩ : ByteArray)) := (blk_cell hbt 32).trans rfl; have hqt_33 : wt_3.cell? ⟨gt, 33, none⟩ = some (.int .i64 1) := (blk_cell hbt 33).trans rfl; have hqt_34 : wt_3.cell? ⟨gt, 34, none⟩ = some (.bool false) := (blk_cell hbt 34).trans rfl; have hqt_35 : wt_3.cell? ⟨gt, 35, none⟩ = some (.bool true) := (blk_cell hbt 35).trans rfl)
  | ((with_reducible refine gate_ (.store 46 (.tmp 2) (.tmp 23)) rfl ?_); refine blk_store_all (w0 := w) (base := w.heap.size) (u := .agg #[.string (⟨#[99, 104, 97, 110, 103, 101]⟩ : ByteArray), .int .i64 1, .bool false, .bool true]) (seg := [.string (⟨#[99, 104, 97, 110, 103, 101]⟩ : ByteArray), .int .i64 1, .bool false, .bool true]) rfl rfl rfl rfl rfl rfl ?h1_ ?ht_ (by exact hbo) (by rfl) (blw HB) HGo ?_; (case ht_ => kernel_rfl); (case h1_ => intro q_ hq_; simp only [List.mem_cons, List.not_mem_nil, or_false] at hq_; rcases hq_ with rfl | rfl | rfl | rfl <;> rfl); intro wo_4 hb2_ HB2_ hgr_; clear hqo_0 hqo_1 hqo_2 hqo_3; replace hbo := hb2_; replace hbt := blk_grown (by exact hbt) hgr_ (fun e_ => by injection e_ with e_; exact HNt_o e_); replace HB := HB2_; clear hb2_ HB2_ hgr_; have hqo_0 : wo_4.cell? ⟨go, 0, none⟩ = some (.string (⟨#[99, 104, 97, 110, 103, 101]⟩ : ByteArray)) := (blk_cell hbo 0).trans rfl; have hqo_1 : wo_4.cell? ⟨go, 1, none⟩ = some (.int .i64 1) := (blk_cell hbo 1).trans rfl; have hqo_2 : wo_4.cell? ⟨go, 2, none⟩ = some (.bool false) := (blk_cell hbo 2).trans rfl; have hqo_3 : wo_4.cell? ⟨go, 3, none⟩ = some (.bool true) := (blk_cell hbo 3).trans rfl))
 refine bodyPost_ret (v := .tuple #[.agg #[.string (⟨#[99, 104, 97, 110, 103, 101]⟩ : ByteArray), .int .i64 1, .bool false, .bool true], .bool true]) (by simp [results, Tryd.results21, go_sem, hqo_0, hqo_1, hqo_2, hqo_3]) rfl ?_; exact ⟨rfl, HB⟩
set_option maxHeartbeats 40000000 in
set_option maxRecDepth 100000 in
theorem shaped_no (k : Int) (hk : k < 1 ∨ 8 < k) (w : World) : Calls Tryd.prog 21 #[.int .i64 k] w fun e w' => e = .returned (.tuple #[.agg #[.string (⟨#[]⟩ : ByteArray), .int .i64 0, .bool false, .bool false], .bool false]) ∧ Below w.heap.size w w' := by
 have HB := Below.refl w.heap.size w; rcases hk with hk | hk
 all_goals
   go_enter Tryd.func21, Tryd.ntmps21; go_wp2_with (first
  | ((with_reducible refine gate_dst (N := 2) rfl ?_); (with_reducible refine gate_ (.alloc 46) rfl ?_); refine box_event (N := 2) rfl rfl (cs := #[.string (⟨#[]⟩ : ByteArray), .int .i64 0, .bool false, .bool false]) (t := 46) (by first | (go_simp; done) | (go_simp; rfl)) ?_; intro go hg_ wo_ hbo hbl_; have HGo : w.heap.size ≤ go := (by rw [hg_]; exact Nat.le_trans (by first | exact Nat.le_refl _ | exact HB.size) (Nat.le_refl _)); replace HB := below_step (blw HB) hbl_; clear hg_ hbl_; have hqo_0 : wo_.cell? ⟨go, 0, none⟩ = some (.string (⟨#[]⟩ : ByteArray)) := (blk_cell hbo 0).trans rfl; have hqo_1 : wo_.cell? ⟨go, 1, none⟩ = some (.int .i64 0) := (blk_cell hbo 1).trans rfl; have hqo_2 : wo_.cell? ⟨go, 2, none⟩ = some (.bool false) := (blk_cell hbo 2).trans rfl; have hqo_3 : wo_.cell? ⟨go, 3, none⟩ = some (.bool false) := (blk_cell hbo 3).trans rfl)
  | ((with_reducible refine gate_dst (N := 4) rfl ?_); (with_reducible refine gate_ (.alloc 75) rfl ?_); refine box_event (N := 4) rfl rfl (cs := #[.string (⟨#[]⟩ : ByteArray), .int .i64 0, .bool false, .bool false, .string (⟨#[]⟩ : ByteArray), .int .i64 0, .bool false, .bool false, .string (⟨#[]⟩ : ByteArray), .int .i64 0, .bool false, .bool false, .string (⟨#[]⟩ : ByteArray), .int .i64 0, .bool false, .bool false, .string (⟨#[]⟩ : ByteArray), .int .i64 0, .bool false, .bool false, .string (⟨#[]⟩ : ByteArray), .int .i64 0, .bool false, .bool false, .string (⟨#[]⟩ : ByteArray), .int .i64 0, .bool false, .bool false, .string (⟨#[]⟩ : ByteArray), .int .i64 0, .bool false, .bool false, .string (⟨#[]⟩ : ByteArray), .int .i64 0, .bool false, .bool false]) (t := 75) (by kernel_rfl) ?_; intro gt hg_ wt_ hbt hbl_; have HGt : w.heap.size ≤ gt := (by rw [hg_]; exact Nat.le_trans (by first | exact Nat.le_refl _ | exact HB.size) (Nat.le_refl _)); have HNt_o : gt ≠ go := (by rw [hg_]; exact Nat.ne_of_gt (blk_lt (by exact hbo))); clear hqo_0 hqo_1 hqo_2 hqo_3; replace hbo := blk_below (by exact hbo) hbl_; have hqo_0 : wt_.cell? ⟨go, 0, none⟩ = some (.string (⟨#[]⟩ : ByteArray)) := (blk_cell hbo 0).trans rfl; have hqo_1 : wt_.cell? ⟨go, 1, none⟩ = some (.int .i64 0) := (blk_cell hbo 1).trans rfl; have hqo_2 : wt_.cell? ⟨go, 2, none⟩ = some (.bool false) := (blk_cell hbo 2).trans rfl; have hqo_3 : wt_.cell? ⟨go, 3, none⟩ = some (.bool false) := (blk_cell hbo 3).trans rfl; replace HB := below_step (blw HB) hbl_; clear hg_ hbl_)
  | ((with_reducible refine gate_ (.store 75 (.tmp 4) (.tmp 13)) rfl ?_); refine blk_store_all (w0 := w) (base := w.heap.size) (u := .agg #[.string (⟨#[]⟩ : ByteArray), .int .i64 0, .bool false, .bool false, .string (⟨#[101, 108, 101, 109, 101, 110, 116]⟩ : ByteArray), .int .i64 0, .bool true, .bool false, .string (⟨#[116, 101, 120, 116]⟩ : ByteArray), .int .i64 0, .bool false, .bool true, .string (⟨#[99, 111, 109, 109, 101, 110, 116]⟩ : ByteArray), .int .i64 0, .bool false, .bool true, .string (⟨#[105, 110, 115, 101, 114, 116]⟩ : ByteArray), .int .i64 3, .bool false, .bool false, .string (⟨#[114, 101, 109, 111, 118, 101]⟩ : ByteArray), .int .i64 1, .bool false, .bool false, .string (⟨#[115, 101, 116]⟩ : ByteArray), .int .i64 1, .bool true, .bool true, .string (⟨#[117, 110, 115, 101, 116]⟩ : ByteArray), .int .i64 1, .bool true, .bool false, .string (⟨#[99, 104, 97, 110, 103, 101]⟩ : ByteArray), .int .i64 1, .bool false, .bool true]) (seg := [.string (⟨#[]⟩ : ByteArray), .int .i64 0, .bool false, .bool false, .string (⟨#[101, 108, 101, 109, 101, 110, 116]⟩ : ByteArray), .int .i64 0, .bool true, .bool false, .string (⟨#[116, 101, 120, 116]⟩ : ByteArray), .int .i64 0, .bool false, .bool true, .string (⟨#[99, 111, 109, 109, 101, 110, 116]⟩ : ByteArray), .int .i64 0, .bool false, .bool true, .string (⟨#[105, 110, 115, 101, 114, 116]⟩ : ByteArray), .int .i64 3, .bool false, .bool false, .string (⟨#[114, 101, 109, 111, 118, 101]⟩ : ByteArray), .int .i64 1, .bool false, .bool false, .string (⟨#[115, 101, 116]⟩ : ByteArray), .int .i64 1, .bool true, .bool true, .string (⟨#[117, 110, 115, 101, 116]⟩ : ByteArray), .int .i64 1, .bool true, .bool false, .string (⟨#[99, 104, 97, 110, 103, 101]⟩ : ByteArray), .int .i64 1, .bool false, .bool true]) rfl rfl rfl rfl rfl (by kernel_rfl) ?h1_ ?ht_ (by exact hbt) (by kernel_rfl) (blw HB) HGt ?_; (case ht_ => kernel_rfl); (case h1_ => exact List.all_eq_true.1 (by kernel_rfl)); intro wt_3 hb2_ HB2_ hgr_; clear hqo_0 hqo_1 hqo_2 hqo_3; replace hbo := blk_grown (by exact hbo) hgr_ (fun e_ => by injection e_ with e_; exact HNt_o.symm e_); replace hbt := hb2_; replace HB := HB2_; clear hb2_ HB2_ hgr_; have hqo_0 : wt_3.cell? ⟨go, 0, none⟩ = some (.string (⟨#[]⟩ : ByteArray)) := (blk_cell hbo 0).trans rfl; have hqo_1 : wt_3.cell? ⟨go, 1, none⟩ = some (.int .i64 0) := (blk_cell hbo 1).trans rfl; have hqo_2 : wt_3.cell? ⟨go, 2, none⟩ = some (.bool false) := (blk_cell hbo 2).trans rfl; have hqo_3 : wt_3.cell? ⟨go, 3, none⟩ = some (.bool false) := (blk_cell hbo 3).trans rfl)
  | ((with_reducible refine gate_ (.store 46 (.tmp 2) (.tmp 20)) rfl ?_); refine blk_store_all (w0 := w) (base := w.heap.size) (u := .agg #[.string (⟨#[]⟩ : ByteArray), .int .i64 0, .bool false, .bool false]) (seg := [.string (⟨#[]⟩ : ByteArray), .int .i64 0, .bool false, .bool false]) rfl rfl rfl rfl rfl rfl ?h1_ ?ht_ (by exact hbo) (by rfl) (blw HB) HGo ?_; (case ht_ => kernel_rfl); (case h1_ => intro q_ hq_; simp only [List.mem_cons, List.not_mem_nil, or_false] at hq_; rcases hq_ with rfl | rfl | rfl | rfl <;> rfl); intro wo_4 hb2_ HB2_ hgr_; clear hqo_0 hqo_1 hqo_2 hqo_3; replace hbo := hb2_; replace hbt := blk_grown (by exact hbt) hgr_ (fun e_ => by injection e_ with e_; exact HNt_o e_); replace HB := HB2_; clear hb2_ HB2_ hgr_; have hqo_0 : wo_4.cell? ⟨go, 0, none⟩ = some (.string (⟨#[]⟩ : ByteArray)) := (blk_cell hbo 0).trans rfl; have hqo_1 : wo_4.cell? ⟨go, 1, none⟩ = some (.int .i64 0) := (blk_cell hbo 1).trans rfl; have hqo_2 : wo_4.cell? ⟨go, 2, none⟩ = some (.bool false) := (blk_cell hbo 2).trans rfl; have hqo_3 : wo_4.cell? ⟨go, 3, none⟩ = some (.bool false) := (blk_cell hbo 3).trans rfl))
   refine bodyPost_ret (v := .tuple #[.agg #[.string (⟨#[]⟩ : ByteArray), .int .i64 0, .bool false, .bool false], .bool false]) (by simp [results, Tryd.results21, go_sem, hqo_0, hqo_1, hqo_2, hqo_3]) rfl ?_; exact ⟨rfl, HB⟩
theorem shaped_walk (k : Int) (w : World) : Calls Tryd.prog 21 #[.int .i64 k] w fun e w' => e = .returned (.tuple #[.agg #[.string (shpW k), .int .i64 (shpN k), .bool (shpS k), .bool (shpT k)], .bool (isKind k)]) ∧ Below w.heap.size w w' := by
 by_cases hk : k < 1 ∨ 8 < k
 ·have e1 : shpW k = (⟨#[]⟩ : ByteArray) := (by unfold shpW; repeat (rw [if_neg (by omega)])); have e2 : shpN k = 0 := (by unfold shpN; repeat (rw [if_neg (by omega)])); have e3 : shpS k = false := (by unfold shpS; simp; omega); have e4 : shpT k = false := (by unfold shpT; simp; omega); have e5 : isKind k = false := (by unfold isKind; simp; omega); rw [e1, e2, e3, e4, e5]; exact shaped_no k hk w
 ·obtain rfl | rfl | rfl | rfl | rfl | rfl | rfl | rfl : k = 1 ∨ k = 2 ∨ k = 3 ∨ k = 4 ∨ k = 5 ∨ k = 6 ∨ k = 7 ∨ k = 8 := by omega
  ·exact shaped_1 w
  ·exact shaped_2 w
  ·exact shaped_3 w
  ·exact shaped_4 w
  ·exact shaped_5 w
  ·exact shaped_6 w
  ·exact shaped_7 w
  ·exact shaped_8 w

end Go.Proofs.YtooefecjkgdpbaaDoor.PA
