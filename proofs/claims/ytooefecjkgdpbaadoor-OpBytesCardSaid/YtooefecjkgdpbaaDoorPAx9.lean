-- Written by wip/hprint/hprint.py (a program of this session, over the print): not typed by hand
import Derived.Test.YtooefecjkgdpbaaDoorPAx0
namespace Go.Proofs.YtooefecjkgdpbaaDoor.PA
open Go.RowKit Go.Proofs.YtooefecjkgdpbaaDoorW.PrintWords Go.Proofs.YtooefecjkgdpbaaDoorW.PrintLast Go.Proofs.YtooefecjkgdpbaaDoorW.PrintMore
attribute [local go_sem] max2_int min2_int max_two min_two max_three min_three max_four min_four   -- for this text's walks alone
open Go.Proofs.YtooefecjkgdpbaaDoorH
set_option linter.unusedVariables false
set_option linter.unusedSimpArgs false

/-! ### treillageref01_Bytes: function 53 -/
def treillageref01_Bytes.l0 : Nat → Int → List Int → Option (ByteArray)
 | 0, _, _ => none
 | k + 1, x0, x3 => if x0 > 0 then (if x3.length < 140737488355328 then ((some (x3 ++ [(Int.tmod x0 256) % 256] : List Int)).bind fun y143 => (if 0 < (y143.length : Int) then (treillageref01_Bytes.l0 k (IntKind.u64.wrap (Int.tdiv x0 256)) (y143.set (0 : Int).toNat (((rd y143 0) + 1) % 256))) else (none))) else (none)) else (some (strOfNums x3))
def treillageref01_Bytes.f (k : Nat) (a0 : Int) : Option (ByteArray) := treillageref01_Bytes.l0 k a0 (([0] : List Int))
theorem treillageref01_Bytes.mono_l : ∀ k, (∀ y0 y1, LeO (treillageref01_Bytes.l0 k y0 y1) (treillageref01_Bytes.l0 (k + 1) y0 y1))
 | 0 => fun _ _ r h => by simp [treillageref01_Bytes.l0] at h
 | k + 1 => by
  have ih0 := treillageref01_Bytes.mono_l k
  ·intro y0 y1
   unfold treillageref01_Bytes.l0; repeat' first
   | (with_reducible exact ih0 _ _)
   | (with_reducible exact LeO.refl _)
   | (with_reducible exact LeO.none _)
   | (with_reducible refine LeO.ite ?_ ?_)
   | (with_reducible refine LeO.bind ?_ (fun _ => ?_))
   | exact ih0 _ _
   | exact LeO.none _
   | refine LeO.ite ?_ ?_
   | refine LeO.bind ?_ (fun _ => ?_)
theorem treillageref01_Bytes.mono : ∀ a0 k, LeO (treillageref01_Bytes.f k a0) (treillageref01_Bytes.f (k + 1) a0) := by
 intro a0 k
 have ih0 := treillageref01_Bytes.mono_l k; unfold treillageref01_Bytes.f
 repeat' first
   | (with_reducible exact ih0 _ _)
   | (with_reducible exact LeO.refl _)
   | (with_reducible exact LeO.none _)
   | (with_reducible refine LeO.ite ?_ ?_)
   | (with_reducible refine LeO.bind ?_ (fun _ => ?_))
   | exact ih0 _ _
   | exact LeO.none _
   | refine LeO.ite ?_ ?_
   | refine LeO.bind ?_ (fun _ => ?_)
set_option maxHeartbeats 8000000 in
set_option maxRecDepth 100000 in
theorem treillageref01_Bytes.calls (k : Nat) (a0 : Int) (r : ByteArray) (w : World) (h : treillageref01_Bytes.f k a0 = some r) :
  Calls Tryd.prog 53 #[.int .u64 a0] w fun e w' => e = .returned (.string r) ∧ Below w.heap.size w w' := by
 have HB := aA (Below.refl w.heap.size w); have H : (treillageref01_Bytes.l0 k a0 (([0] : List Int))) = some r := h; clear h; obtain ⟨y140, hy140⟩ : ∃ y_ : List Int, y_ = (([0] : List Int)) := ⟨_, rfl⟩; replace H : (treillageref01_Bytes.l0 k a0 y140) = some r := by first | (rw [hy140]; with_reducible exact H) | (have H2_ := (Option.bind_some _ _).symm.trans H; rw [hy140]; with_reducible exact H2_) | (have H2_ := (Option.bind_some _ _).symm.trans H; with_reducible exact H2_) | with_reducible exact H | (rw [hy140]; exact H) | exact H
 have Ny140 := aA hy140; clear hy140; have H' := aA H; clear H; go_enter Tryd.func53, Tryd.ntmps53; go_wp2_with (first | ((with_reducible refine gate_dst (N := 4) rfl ?_); refine Kd.R_lit (Kd.int .u8) _ 5 ?hg (N := 4) ?hd (xs := ([0] : List Int)) (inner := [.int .u8 0]) (ok := fun _ => True) (okp := fun _ => True) ?hr ?hp (fun _ hk => hk) trivial (Below.refl _ _) (Nat.le_refl _) (by simp) ?_; (case hd => rfl); (case hg => rfl); (case hr => first | (go_simp; done) | (go_simp; rfl)); (case hp => exact (Reps.one (show Kd.M (Kd.int .u8) _ _ _ 0 [.int .u8 0] from rfl) (Reps.none _ _))); intro v141 w2 ho3 hb hg_ hnew_; clear hg_ hnew_; (first | rw [← Ny140.out] at ho3 | (simp only [Int.reduceToNat] at ho3; rw [← Ny140.out] at ho3)); have n0_ := aA (Kd.R_lower ho3 (below_size (blw HB.out))); have n1_ := aA (below_step (blw HB.out) hb); clear HB; have HO142 := n0_; have HB := n1_; clear n0_ n1_ hb ho3))
 go_loopg [0, 3] k (fun kq v0 v3 w' => ∃ (x0_1 : Int) (x3_1 : List Int), v0 = .int .u64 x0_1 ∧ Aside0 (treillageref01_Bytes.l0 kq x0_1 x3_1 = some r) ∧ Aside0 (kq ≤ k) ∧ Aside0 (Kd.R (Kd.int .u8) 5 w' w.heap.size (fun _ => True) v3 x3_1) ∧ Aside0 (Below w.heap.size w w'))
 case atStart => exact ⟨(a0), (y140), (by first | rfl | (simp; done) | (simp [*]; done)), H', ⟨Nat.le_refl _⟩, ⟨by (with_reducible repeat (first | apply Kd.R_alloc | apply Kd.R_drewN | apply Kd.R_drew)); exact HO142.out⟩, ⟨by repeat (first | (with_reducible first | exact HB.out | apply below_alloc | apply pw_below_drewN | apply below_drew1) | exact HB.out)⟩⟩
 case round =>
  clear H'; try clear p2
  obtain ⟨x0_1, x3_1, rfl, HA, HK1, HO_3, HB⟩ := hrel; cases gk with
  | zero => exact absurd HA.out (by simp [treillageref01_Bytes.l0])
  | succ k1 =>
   have H := HA.out; clear HA; simp only [treillageref01_Bytes.l0] at H; by_cases c4 : x0_1 > 0
   ·rw [if_pos c4] at H; have c4b0 : decide (0 < x0_1) = true := decide_eq_true c4; clear c4; by_cases c5 : x3_1.length < 140737488355328
    rotate_left
    ·rw [if_neg c5] at H; exact absurd H (by simp)
    rw [if_pos c5] at H; have LMc5 := aA c5; clear c5; obtain ⟨y143, hy143⟩ : ∃ y_ : List Int, y_ = (x3_1 ++ [(Int.tmod x0_1 256) % 256]) := ⟨_, rfl⟩; replace H : (if 0 < (y143.length : Int) then (treillageref01_Bytes.l0 k1 (IntKind.u64.wrap (Int.tdiv x0_1 256)) (y143.set (0 : Int).toNat (((rd y143 0) + 1) % 256))) else (none)) = some r := by first | (rw [hy143]; with_reducible exact H) | (have H2_ := (Option.bind_some _ _).symm.trans H; rw [hy143]; with_reducible exact H2_) | (have H2_ := (Option.bind_some _ _).symm.trans H; with_reducible exact H2_) | with_reducible exact H | (rw [hy143]; exact H) | exact H
    have Ny143 := aA hy143; clear hy143; by_cases c6 : 0 < (y143.length : Int)
    rotate_left
    ·rw [if_neg c6] at H; exact absurd H (by simp)
    rw [if_pos c6] at H; have c6b0 : decide (0 < (y143.length : Int)) = true := decide_eq_true c6; have c6b1 : decide (0 < y143.length) = true := decide_eq_true (by omega); clear c6; obtain ⟨y147, hy147⟩ : ∃ y_ : List Int, y_ = (y143.set (0 : Int).toNat (((rd y143 0) + 1) % 256)) := ⟨_, rfl⟩; replace H : (treillageref01_Bytes.l0 k1 (IntKind.u64.wrap (Int.tdiv x0_1 256)) y147) = some r := by first | (rw [hy147]; with_reducible exact H) | (have H2_ := (Option.bind_some _ _).symm.trans H; rw [hy147]; with_reducible exact H2_) | (have H2_ := (Option.bind_some _ _).symm.trans H; with_reducible exact H2_) | with_reducible exact H | (rw [hy147]; exact H) | exact H
    have Ny147 := aA hy147; clear hy147; have H' := aA H; clear H; go_wp2_with (first | ((with_reducible refine gate_builtin (b := .append) (xs := #[.tmp 7, .tmp 11]) rfl ?_); at_builtin; refine Kd.R_append (Kd.int .u8) (w0 := w) w.heap.size rfl (.tmp 7) (.tmp 11) 58 5 (.int .u8 0) 1 rfl Tryd.underlying58 info5 rfl (by decide) (by omega) u3 x3_1 ((Int.tmod x0_1 256) % 256) [.int .u8 ((Int.tmod x0_1 256) % 256)] (fun _ => True) (fun _ => False) rfl rfl ?aP (fun _ hk => hk.elim) ?aF ?aO ?aB ?aS ?aL ?_; (case aP => exact rfl); (case aB => exact (blw HB.out)); (case aF => exact (fun _ _ => trivial)); (case aO => exact (rlu HO_3.out)); (case aS => exact (below_size (blw HB.out))); (case aL => have := LMc5.out; omega); intro v144 w8 ho hb hg hat; rw [← Ny143.out] at ho; have n0_ := aA (hb); have n1_ := aA (ho); clear HB HO_3; have HB := n0_; have HO145 := n1_; clear n0_ n1_ ho hb hg hat; obtain ⟨Ao9, co9, eo9⟩ := Kd.R_slice HO145.out; subst eo9; have p146 : 0 ≤ (0 : Int) := (by omega); have q146 : 0 < (y143.length : Int) := of_decide_eq_true (by first | (with_reducible assumption) | assumption); obtain ⟨ad146, e146, hx146_0⟩ := Kd.at_int (Kd.R_reads' HO145.out).2.2 0 p146 q146; cases e146; have qi146 : (0 < y143.length) = True := eq_true (by omega); (try rw [show ((0 : Int)).toNat = 0 from rfl] at hx146_0); (try rw [Addr.add_zero'] at hx146_0); replace p146 := eq_true p146; replace q146 := eq_true q146; have p7 : 0 ≤ (0 : Int) := (by omega); have q7 : (0 : Int) < ((y143.length : Int) : Int) := of_decide_eq_true (by first | (with_reducible assumption) | assumption); have qi7 : (0 < y143.length) = True := eq_true (by omega); obtain ⟨go7, co7, eo7, gb7, gl7, cl7, HG7⟩ := Kd.R_form HO145.out (by omega); (first | cases eo7 | (injection eo7 with ea_ en_ ec_; (first | subst ea_ | (injection ea_ with ea_; subst ea_)); subst ec_; clear en_)); have GB7 := aA gb7; have GG7 := aA HG7; clear gb7 gl7 HG7; (first | simp only [add_plain] at hx146_0 | skip); obtain ⟨hx7_0, hf7_0⟩ := Kd.R_celln 0 HO145.out (0 : Int) p7 q7; (try rw [show ((0 : Int)).toNat = 0 from rfl] at hx7_0); (try simp only [Nat.reduceMul, Nat.zero_mul, Nat.zero_add, Nat.reduceAdd] at hx7_0); (try rw [show ((0 : Int)).toNat = 0 from rfl] at hf7_0); (try simp only [Nat.reduceMul, Nat.zero_mul, Nat.zero_add, Nat.reduceAdd] at hf7_0); replace p7 := eq_true p7; replace q7 := eq_true q7; obtain ⟨hy10_, hz10_⟩ := Kd.R_celln 0 HO145.out (0 : Int) (by omega) (of_decide_eq_true (by first | (with_reducible assumption) | assumption)); (try simp only [Int.reduceToNat, Int.toNat_zero, Int.toNat_ofNat, Nat.reduceMul, Nat.zero_mul, Nat.zero_add] at hy10_ hz10_); (try rw [show ((0 : Int)).toNat = 0 from rfl] at hy10_); (try rw [show ((0 : Int)).toNat = 0 from rfl] at hz10_); have HP10 := Kd.R_putg HO145.out (0 : Int) (((rd y143 0) + 1) % 256)) | ((with_reducible refine gate_store (t := 5) (p := 19) rfl ?_); refine store_event (t := 5) (p := 19) (v := ?vo_w11) (w1 := (w8.setCell ⟨go7, (0 : Int).toNat, none⟩ (.int .u8 (((rd y143 0) + 1) % 256)))) ?hg ?ho ?hn ?hr ?_; (case ho => rfl); (case hg => rfl); (case hn => rfl); (case hr => first | (go_simp; done) | (go_simp; rfl)); intro w11 hw; have hg : w8.grownBy w11 (some go7) := (by rw [hw]; exact HP10.2); have hp_ : Kd.R (Kd.int .u8) 5 w11 w.heap.size (fun _ => True) (.slice (some ⟨go7, 0, none⟩) y143.length co9) y147 := (by rw [hw, Ny147.out]; exact HP10.1); clear HP10; have n0_ := aA (hp_); have n1_ := aA ((by rw [hw]; exact below_set (HB.out) GB7.out : Below w.heap.size w w11)); clear HO145 HB; have HO145 := n0_; have HB := n1_; clear n0_ n1_ hg hw hp_))
    go_roundg k1
    case measure => have := HK1.out; omega
    case rel => exact ⟨(IntKind.u64.wrap (Int.tdiv x0_1 256)), (y147), (by first | rfl | (simp; done) | (simp [*]; done)), H', ⟨by have := HK1.out; omega⟩, ⟨by (with_reducible repeat (first | apply Kd.R_alloc | apply Kd.R_drewN | apply Kd.R_drew)); exact HO145.out⟩, ⟨by repeat (first | (with_reducible first | exact HB.out | apply below_alloc | apply pw_below_drewN | apply below_drew1) | exact HB.out)⟩⟩
   ·rw [if_neg c4] at H; have c4b0 : decide (0 < x0_1) = false := decide_eq_false c4; clear c4; obtain rfl := Option.some.inj H; have hcv12 := own_string (P := Tryd.prog) Tryd.underlying58 Tryd.underlying5 Tryd.underlying9 (Kd.own_of_R HO_3.out); go_wp2; go_ret
    exact ⟨by first | rfl | (simp [errW_none, errW_some] <;> rfl) | (simp [*, errW_none, errW_some] <;> rfl), by repeat (first | (with_reducible first | exact HB.out | apply below_alloc | apply pw_below_drewN | apply below_drew1) | exact HB.out)⟩

/-! ### treillageref01_Zig: function 56 -/
def treillageref01_Zig.f (a0 : Int) : Option (Int) := if a0 ≥ 0 then (some (IntKind.u64.wrap (2 * (IntKind.u64.wrap (a0))))) else (some (IntKind.u64.wrap ((IntKind.u64.wrap (2 * (IntKind.u64.wrap (wrap64 (-(wrap64 (a0 + 1))))))) + 1)))
set_option maxHeartbeats 8000000 in
set_option maxRecDepth 100000 in
theorem treillageref01_Zig.calls (a0 : Int) (r : Int) (w : World) (h : treillageref01_Zig.f a0 = some r) :
  Calls Tryd.prog 56 #[.int .i64 a0] w fun e w' => e = .returned (.int .u64 r) ∧ Drawn0 w w' := by
 have H : (if a0 ≥ 0 then (some (IntKind.u64.wrap (2 * (IntKind.u64.wrap (a0))))) else (some (IntKind.u64.wrap ((IntKind.u64.wrap (2 * (IntKind.u64.wrap (wrap64 (-(wrap64 (a0 + 1))))))) + 1)))) = some r := h; clear h; by_cases c2 : a0 ≥ 0
 ·rw [if_pos c2] at H; have c2b0 : decide (0 ≤ a0) = true := decide_eq_true c2; clear c2; obtain rfl := Option.some.inj H; go_enter Tryd.func56, Tryd.ntmps56; go_wp2; go_ret
  exact ⟨by first | rfl | (simp; done) | (simp [*]; done), by repeat (first | exact Drawn0.refl _ | apply Drawn0.step)⟩
 ·rw [if_neg c2] at H; have c2b0 : decide (0 ≤ a0) = false := decide_eq_false c2; clear c2; obtain rfl := Option.some.inj H; go_enter Tryd.func56, Tryd.ntmps56; go_wp2; go_ret
  exact ⟨by first | rfl | (simp; done) | (simp [*]; done), by repeat (first | exact Drawn0.refl _ | apply Drawn0.step)⟩

/-! ### treillageref06_number: function 51 -/
def treillageref06_number.f (k : Nat) (a0 : Int) : Option (ByteArray) := (treillageref01_Zig.f a0).bind fun t148 => ((treillageref01_Bytes.f k t148).bind fun t149 => (some t149))
theorem treillageref06_number.mono : ∀ a0 k, LeO (treillageref06_number.f k a0) (treillageref06_number.f (k + 1) a0) := by
 intro a0 k
 unfold treillageref06_number.f
 repeat' first
   | (with_reducible exact treillageref01_Bytes.mono _ _)
   | (with_reducible exact LeO.refl _)
   | (with_reducible exact LeO.none _)
   | (with_reducible refine LeO.ite ?_ ?_)
   | (with_reducible refine LeO.bind ?_ (fun _ => ?_))
   | exact treillageref01_Bytes.mono _ _
   | exact LeO.none _
   | refine LeO.ite ?_ ?_
   | refine LeO.bind ?_ (fun _ => ?_)
set_option maxHeartbeats 8000000 in
set_option maxRecDepth 100000 in
theorem treillageref06_number.calls (k : Nat) (a0 : Int) (r : ByteArray) (w : World) (h : treillageref06_number.f k a0 = some r) :
  Calls Tryd.prog 51 #[.int .i64 a0] w fun e w' => e = .returned (.string r) ∧ Below w.heap.size w w' := by
 have HB := aA (Below.refl w.heap.size w); have H : ((treillageref01_Zig.f a0).bind fun t148 => ((treillageref01_Bytes.f k t148).bind fun t149 => (some t149))) = some r := h; clear h; replace H := Option.bind_eq_some_iff.mp H; obtain ⟨t148, A20, H⟩ := H; replace H : ((treillageref01_Bytes.f k t148).bind fun t149 => (some t149)) = some r := H; have A2 := aA A20; clear A20; replace H := Option.bind_eq_some_iff.mp H; obtain ⟨t149, A30, H⟩ := H; replace H : (some t149) = some r := H; have A3 := aA A30; clear A30; obtain rfl := Option.some.inj H; go_enter Tryd.func51, Tryd.ntmps51; go_wp2_with (first | ((with_reducible refine gate_callee (f := 56) rfl ?_); refine goesL_ (some 4) rfl rfl Tryd.func56 (by kernel_rfl) rfl #[.int .i64 a0] rfl (by (try simp only [List.map_toArray, List.map_cons, List.map_nil]); first | done | rfl | (simp only [List.length_drop, List.length_take]; rfl)) ?_; (with_reducible refine (treillageref01_Zig.calls a0 t148 _ A2.out).mono ?_); rintro e w' ⟨rfl, ⟨nd, rfl⟩⟩; refine ⟨_, rfl, ?_⟩) | ((with_reducible refine gate_callee (f := 53) rfl ?_); refine goesL_ (some 5) rfl rfl Tryd.func53 (by kernel_rfl) rfl #[.int .u64 t148] rfl (by (try simp only [List.map_toArray, List.map_cons, List.map_nil]); first | done | rfl | (simp only [List.length_drop, List.length_take]; rfl)) ?_; (with_reducible refine (treillageref01_Bytes.calls k t148 t149 _ A3.out).mono ?_); rintro e w4 ⟨rfl, hb⟩; refine ⟨_, rfl, ?_⟩; have n0_ := aA (below_step (blw HB.out) hb); clear HB; have HB := n0_; clear n0_; (try clear hb); (try clear hb2); (try clear hk); (try clear hi)))
 go_ret
 exact ⟨by first | rfl | (simp [errW_none, errW_some] <;> rfl) | (simp [*, errW_none, errW_some] <;> rfl), by repeat (first | (with_reducible first | exact HB.out | apply below_alloc | apply pw_below_drewN | apply below_drew1) | exact HB.out)⟩

/-! ### treillageref06_text: function 52 -/
def treillageref06_text.f (a0 : ByteArray) : Option (ByteArray) := (some (([((a0.size : Int)) % 256] : List Int) : List Int)).bind fun y150 => (if (strOfNums y150).size + a0.size ≤ 9223372036854775807 then (some ((strOfNums y150) ++ a0)) else (none))
set_option maxHeartbeats 8000000 in
set_option maxRecDepth 100000 in
theorem treillageref06_text.calls (a0 : ByteArray) (r : ByteArray) (w : World) (h : treillageref06_text.f a0 = some r) :
  Calls Tryd.prog 52 #[.string a0] w fun e w' => e = .returned (.string r) ∧ Below w.heap.size w w' := by
 have HB := aA (Below.refl w.heap.size w); have H : ((some (([((a0.size : Int)) % 256] : List Int) : List Int)).bind fun y150 => (if (strOfNums y150).size + a0.size ≤ 9223372036854775807 then (some ((strOfNums y150) ++ a0)) else (none))) = some r := h; clear h; obtain ⟨y150, hy150⟩ : ∃ y_ : List Int, y_ = (([((a0.size : Int)) % 256] : List Int)) := ⟨_, rfl⟩; replace H : (if (strOfNums y150).size + a0.size ≤ 9223372036854775807 then (some ((strOfNums y150) ++ a0)) else (none)) = some r := by first | (rw [hy150]; with_reducible exact H) | (have H2_ := (Option.bind_some _ _).symm.trans H; rw [hy150]; with_reducible exact H2_) | (have H2_ := (Option.bind_some _ _).symm.trans H; with_reducible exact H2_) | with_reducible exact H | (rw [hy150]; exact H) | exact H
 have Ny150 := aA hy150; clear hy150; by_cases c2 : (strOfNums y150).size + a0.size ≤ 9223372036854775807
 rotate_left
 ·rw [if_neg c2] at H; exact absurd H (by simp)

 rw [if_pos c2] at H; have c2b0 := eq_true c2; have c2b1 : decide ((strOfNums y150).size + a0.size ≤ 9223372036854775807) = true := decide_eq_true c2; try have c2b2 : (9223372036854775807 < (strOfNums y150).size + a0.size) = False := eq_false (Nat.not_lt.2 c2)
 obtain rfl := Option.some.inj H; go_enter Tryd.func52, Tryd.ntmps52; go_wp2_with (first | ((with_reducible refine gate_dst (N := 6) rfl ?_); refine Kd.R_lit (Kd.int .u8) _ 5 ?hg (N := 6) ?hd (xs := ([((a0.size : Int)) % 256] : List Int)) (inner := [.int .u8 (((a0.size : Int)) % 256)]) (ok := fun _ => True) (okp := fun _ => True) ?hr ?hp (fun _ hk => hk) trivial (Below.refl _ _) (Nat.le_refl _) (by simp) ?_; (case hd => rfl); (case hg => rfl); (case hr => first | (go_simp; done) | (go_simp; rfl)); (case hp => exact (Reps.one (show Kd.M (Kd.int .u8) _ _ _ (((a0.size : Int)) % 256) [.int .u8 (((a0.size : Int)) % 256)] from rfl) (Reps.none _ _))); intro v151 w3 ho4 hb hg_ hnew_; clear hg_ hnew_; (first | rw [← Ny150.out] at ho4 | (simp only [Int.reduceToNat] at ho4; rw [← Ny150.out] at ho4)); have n0_ := aA (Kd.R_lower ho4 (below_size (blw HB.out))); have n1_ := aA (below_step (blw HB.out) hb); clear HB; have HO152 := n0_; have HB := n1_; clear n0_ n1_ hb ho4; have hcv5 := own_string (P := Tryd.prog) Tryd.underlying58 Tryd.underlying5 Tryd.underlying9 (Kd.own_of_R HO152.out)))
 go_ret
 exact ⟨by first | rfl | (simp [errW_none, errW_some] <;> rfl) | (simp [*, errW_none, errW_some] <;> rfl), by repeat (first | (with_reducible first | exact HB.out | apply below_alloc | apply pw_below_drewN | apply below_drew1) | exact HB.out)⟩
end Go.Proofs.YtooefecjkgdpbaaDoor.PA
