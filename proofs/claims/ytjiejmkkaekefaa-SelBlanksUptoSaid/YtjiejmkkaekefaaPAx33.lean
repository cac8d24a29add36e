-- Cut out of texts of wip/hprint/hprint.py
import Derived.Test.YtjiejmkkaekefaaPAx0
import Derived.Test.YtjiejmkkaekefaaPAx8
import Derived.Test.YtjiejmkkaekefaaPAx10
import Derived.Test.YtjiejmkkaekefaaPAx11
import Derived.Test.YtjiejmkkaekefaaPAx15
import Derived.Test.YtjiejmkkaekefaaPAx31
namespace Go.Proofs.Ytjiejmkkaekefaa.PA
open Go.RowKit Go.Proofs.YtjiejmkkaekefaaW.PrintWords Go.Proofs.YtjiejmkkaekefaaW.PrintLast Go.Proofs.YtjiejmkkaekefaaW.PrintMore
attribute [local go_sem] max2_int min2_int max_two min_two max_three min_three max_four min_four   -- for this text's walks alone
open Go.Proofs.YtjiejmkkaekefaaH
set_option linter.unusedVariables false
set_option linter.unusedSimpArgs false
/-! ### treillagelaw09_SelBack: function 5 -/
def treillagelaw09_SelBack.j0 : Nat → ByteArray → Bool → Option (Bool)
 | 0, _, _ => none
 | k + 1, x0, x19 => if x19 = true then ((treillagelaw09_shown.f k).bind fun t535 => (some t535)) else ((sel_Parse.f k x0).bind fun bt536 => (if bt536.2.2 = 0 then ((sel_Print.f k bt536.1).bind fun bt541 => ((sel_Parse.f k bt541.1).bind fun bt543 => ((sel_Print.f k bt543.1).bind fun bt548 => (if bt541.2 = 0 then (if bt543.2.2 = 0 then (if bt548.2 = 0 then ((treillagelaw09_its.f k bt536.1).bind fun t550 => ((treillagelaw09_its.f k bt543.1).bind fun t553 => ((treillageref09_Same.f k t550 t553).bind fun t556 => (if t556 = true then (some (bt541.1.toList == bt548.1.toList)) else (some false))))) else (some false)) else (some false)) else (some false))))) else (some ((bt536.1.length : Int) == 0))))
def treillagelaw09_SelBack.f (k : Nat) (a0 : ByteArray) : Option (Bool) := if (a0.size : Int) > 300 then (treillagelaw09_SelBack.j0 k a0 true) else ((treillagelaw09_shown.f k).bind fun t534 => (treillagelaw09_SelBack.j0 k a0 (!t534)))
theorem treillagelaw09_SelBack.mono_l : ∀ k, (∀ y0 y1, LeO (treillagelaw09_SelBack.j0 k y0 y1) (treillagelaw09_SelBack.j0 (k + 1) y0 y1))
 | 0 => fun _ _ r h => by simp [treillagelaw09_SelBack.j0] at h
 | k + 1 => by
  have ih0 := treillagelaw09_SelBack.mono_l k
  ·intro y0 y1
   unfold treillagelaw09_SelBack.j0; repeat' first
   | (with_reducible exact ih0 _ _)
   | (with_reducible exact sel_Parse.mono _ _)
   | (with_reducible exact sel_Print.mono _ _)
   | (with_reducible exact treillagelaw09_its.mono _ _)
   | (with_reducible exact treillagelaw09_shown.mono _)
   | (with_reducible exact treillageref09_Same.mono _ _ _)
   | (with_reducible exact LeO.refl _)
   | (with_reducible exact LeO.none _)
   | (with_reducible refine LeO.ite ?_ ?_)
   | (with_reducible refine LeO.exB (fun _ => ?_))
   | (with_reducible refine LeO.bind ?_ (fun _ => ?_))
   | exact ih0 _ _
   | exact sel_Parse.mono _ _
   | exact sel_Print.mono _ _
   | exact treillagelaw09_its.mono _ _
   | exact treillagelaw09_shown.mono _
   | exact treillageref09_Same.mono _ _ _
   | exact LeO.none _
   | refine LeO.ite ?_ ?_
   | refine LeO.bind ?_ (fun _ => ?_)
theorem treillagelaw09_SelBack.mono : ∀ a0 k, LeO (treillagelaw09_SelBack.f k a0) (treillagelaw09_SelBack.f (k + 1) a0) := by
 intro a0 k
 have ih0 := treillagelaw09_SelBack.mono_l k; unfold treillagelaw09_SelBack.f
 repeat' first
   | (with_reducible exact ih0 _ _)
   | (with_reducible exact sel_Parse.mono _ _)
   | (with_reducible exact sel_Print.mono _ _)
   | (with_reducible exact treillagelaw09_its.mono _ _)
   | (with_reducible exact treillagelaw09_shown.mono _)
   | (with_reducible exact treillageref09_Same.mono _ _ _)
   | (with_reducible exact LeO.refl _)
   | (with_reducible exact LeO.none _)
   | (with_reducible refine LeO.ite ?_ ?_)
   | (with_reducible refine LeO.exB (fun _ => ?_))
   | (with_reducible refine LeO.bind ?_ (fun _ => ?_))
   | exact ih0 _ _
   | exact sel_Parse.mono _ _
   | exact sel_Print.mono _ _
   | exact treillagelaw09_its.mono _ _
   | exact treillagelaw09_shown.mono _
   | exact treillageref09_Same.mono _ _ _
   | exact LeO.none _
   | refine LeO.ite ?_ ?_
   | refine LeO.bind ?_ (fun _ => ?_)
set_option maxHeartbeats 8000000 in
set_option maxRecDepth 100000 in
theorem treillagelaw09_SelBack.calls1 (k : Nat) (a0 : ByteArray) (r : Bool) (w : World) (h : treillagelaw09_SelBack.f k a0 = some r) (hr_ : r = true) :
  Calls Try.prog 5 #[.string a0] w fun e w' => e = .returned (.bool r) ∧ Below w.heap.size w w' := by
 have HB := aA (Below.refl w.heap.size w); have H : (if (a0.size : Int) > 300 then (treillagelaw09_SelBack.j0 k a0 true) else ((treillagelaw09_shown.f k).bind fun t534 => (treillagelaw09_SelBack.j0 k a0 (!t534)))) = some r := h; clear h; have HC2 := aA H; clear H; go_enter Try.func5, Try.ntmps5; go_upto_region 1 with (fail)
 go_cut [19] (fun v19 wc => ∃ (kq : Nat) (x19_1 : Bool), v19 = .bool x19_1 ∧ Aside0 (treillagelaw09_SelBack.j0 kq a0 x19_1 = some r) ∧ Aside0 (kq ≤ k) ∧ Aside0 (Below w.heap.size w wc))
 case first =>
  have H := HC2.out; clear HC2; by_cases c3 : (a0.size : Int) > 300
  ·rw [if_pos c3] at H; have c3b0 : decide (300 < (a0.size : Int)) = true := decide_eq_true c3; have c3b1 : decide (300 < a0.size) = true := decide_eq_true (by omega); clear c3; (first | rw [c3b0] | rw [c3b1] | (simp only [i64_w, i32_w]; rw [c3b0]) | skip)
   have H' := aA H; clear H; go_wp2; go_meet
   case rel => exact ⟨_, (true), (by first | rfl | (simp; done) | (simp [*]; done)), H', ⟨by first | omega | exact Nat.le_refl _⟩, ⟨by repeat (first | (with_reducible first | exact HB.out | apply below_alloc | apply pw_below_drewN | apply below_drew1) | exact HB.out)⟩⟩
  ·rw [if_neg c3] at H; have c3b0 : decide (300 < (a0.size : Int)) = false := decide_eq_false c3; have c3b1 : decide (300 < a0.size) = false := decide_eq_false (by omega); clear c3; (first | rw [c3b0] | rw [c3b1] | (simp only [i64_w, i32_w]; rw [c3b0]) | skip)
   replace H := Option.bind_eq_some_iff.mp H; obtain ⟨t534, A40, H⟩ := H; replace H : (treillagelaw09_SelBack.j0 k a0 (!t534)) = some r := H; have A4 := aA A40; clear A40; have H' := aA H; clear H; go_wp2_with (first | (go_at_call 10; (with_reducible refine (treillagelaw09_shown.calls k  t534 _ A4.out).mono ?_); rintro e w5 ⟨rfl, hb⟩; have n0_ := aA (below_step (blw HB.out) hb); clear HB; have HB := n0_; clear n0_; (try clear hb); (try clear hb2); (try clear hk); (try clear hi)))
   go_meet
   case rel => exact ⟨_, (!t534), (by first | rfl | (simp; done) | (simp [*]; done)), H', ⟨by first | omega | exact Nat.le_refl _⟩, ⟨by repeat (first | (with_reducible first | exact HB.out | apply below_alloc | apply pw_below_drewN | apply below_drew1) | exact HB.out)⟩⟩
 case rest =>
  clear HC2; try clear p2
  try clear c3
  try clear c3b0
  try clear c3b1
  try clear c5
  obtain ⟨kq, x19_1, rfl, HA, HJ1, HB⟩ := hcut; cases kq with
  | zero => exact absurd HA.out (by simp [treillagelaw09_SelBack.j0])
  | succ kj1 =>
   have H := HA.out; clear HA; simp only [treillagelaw09_SelBack.j0] at H; by_cases c6 : x19_1 = true
   ·subst c6; have H1 : ((treillagelaw09_shown.f kj1).bind fun t535 => (some t535)) = some r := by rw [if_pos rfl] at H; exact H
    clear H; have H := H1; clear H1; replace H := Option.bind_eq_some_iff.mp H; obtain ⟨t535, A70, H⟩ := H; replace H : (some t535) = some r := H; have A7 := aA A70; clear A70; obtain rfl := Option.some.inj H; go_wp2_with (first | ((with_reducible refine gate_callee (f := 10) rfl ?_); refine goesL_ (some 20) rfl rfl Try.func10 (by kernel_rfl) rfl #[] rfl (by (try simp only [List.map_toArray, List.map_cons, List.map_nil]); first | done | rfl | (simp only [List.length_drop, List.length_take]; rfl)) ?_; (with_reducible refine (treillagelaw09_shown.calls kj1  t535 _ A7.out).mono ?_); rintro e w8 ⟨rfl, hb⟩; refine ⟨_, rfl, ?_⟩; have n0_ := aA (below_step (blw HB.out) hb); clear HB; have HB := n0_; clear n0_; (try clear hb); (try clear hb2); (try clear hk); (try clear hi)))
    go_ret
    exact ⟨by first | rfl | (simp [errW_none, errW_some] <;> rfl) | (simp [*, errW_none, errW_some] <;> rfl), by repeat (first | (with_reducible first | exact HB.out | apply below_alloc | apply pw_below_drewN | apply below_drew1) | exact HB.out)⟩
   ·replace c6 := Bool.eq_false_iff.mpr c6; subst c6; have H1 : ((sel_Parse.f kj1 a0).bind fun bt536 => (if bt536.2.2 = 0 then ((sel_Print.f kj1 bt536.1).bind fun bt541 => ((sel_Parse.f kj1 bt541.1).bind fun bt543 => ((sel_Print.f kj1 bt543.1).bind fun bt548 => (if bt541.2 = 0 then (if bt543.2.2 = 0 then (if bt548.2 = 0 then ((treillagelaw09_its.f kj1 bt536.1).bind fun t550 => ((treillagelaw09_its.f kj1 bt543.1).bind fun t553 => ((treillageref09_Same.f kj1 t550 t553).bind fun t556 => (if t556 = true then (some (bt541.1.toList == bt548.1.toList)) else (some false))))) else (some false)) else (some false)) else (some false))))) else (some ((bt536.1.length : Int) == 0)))) = some r := by rw [if_neg (show ¬ (false = true) by decide)] at H; exact H
    clear H; have H := H1; clear H1; replace H := Option.bind_eq_some_iff.mp H; obtain ⟨⟨t536, t537, t538⟩, A90, H⟩ := H; replace H : (if t538 = 0 then ((sel_Print.f kj1 t536).bind fun bt541 => ((sel_Parse.f kj1 bt541.1).bind fun bt543 => ((sel_Print.f kj1 bt543.1).bind fun bt548 => (if bt541.2 = 0 then (if bt543.2.2 = 0 then (if bt548.2 = 0 then ((treillagelaw09_its.f kj1 t536).bind fun t550 => ((treillagelaw09_its.f kj1 bt543.1).bind fun t553 => ((treillageref09_Same.f kj1 t550 t553).bind fun t556 => (if t556 = true then (some (bt541.1.toList == bt548.1.toList)) else (some false))))) else (some false)) else (some false)) else (some false))))) else (some ((t536.length : Int) == 0))) = some r := H; have A9 := aA A90; clear A90; by_cases c10 : t538 = 0
    ·rw [if_pos c10] at H; have c10b0 : (t538 == 0) = true := beq_iff_eq.mpr c10; have c10b1 : (t538 != 0) = false := bne_eq_false_iff_eq.mpr c10; clear c10; replace H := Option.bind_eq_some_iff.mp H; obtain ⟨⟨t541, t542⟩, A110, H⟩ := H; replace H : ((sel_Parse.f kj1 t541).bind fun bt543 => ((sel_Print.f kj1 bt543.1).bind fun bt548 => (if t542 = 0 then (if bt543.2.2 = 0 then (if bt548.2 = 0 then ((treillagelaw09_its.f kj1 t536).bind fun t550 => ((treillagelaw09_its.f kj1 bt543.1).bind fun t553 => ((treillageref09_Same.f kj1 t550 t553).bind fun t556 => (if t556 = true then (some (t541.toList == bt548.1.toList)) else (some false))))) else (some false)) else (some false)) else (some false)))) = some r := H; have A11 := aA A110; clear A110; replace H := Option.bind_eq_some_iff.mp H; obtain ⟨⟨t543, t544, t545⟩, A120, H⟩ := H; replace H : ((sel_Print.f kj1 t543).bind fun bt548 => (if t542 = 0 then (if t545 = 0 then (if bt548.2 = 0 then ((treillagelaw09_its.f kj1 t536).bind fun t550 => ((treillagelaw09_its.f kj1 t543).bind fun t553 => ((treillageref09_Same.f kj1 t550 t553).bind fun t556 => (if t556 = true then (some (t541.toList == bt548.1.toList)) else (some false))))) else (some false)) else (some false)) else (some false))) = some r := H; have A12 := aA A120; clear A120; replace H := Option.bind_eq_some_iff.mp H; obtain ⟨⟨t548, t549⟩, A130, H⟩ := H; replace H : (if t542 = 0 then (if t545 = 0 then (if t549 = 0 then ((treillagelaw09_its.f kj1 t536).bind fun t550 => ((treillagelaw09_its.f kj1 t543).bind fun t553 => ((treillageref09_Same.f kj1 t550 t553).bind fun t556 => (if t556 = true then (some (t541.toList == t548.toList)) else (some false))))) else (some false)) else (some false)) else (some false)) = some r := H; have A13 := aA A130; clear A130; by_cases c14 : t542 = 0
     ·rw [if_pos c14] at H; have c14b0 : (t542 == 0) = true := beq_iff_eq.mpr c14; have c14b1 : (t542 != 0) = false := bne_eq_false_iff_eq.mpr c14; clear c14; by_cases c15 : t545 = 0
      ·rw [if_pos c15] at H; have c15b0 : (t545 == 0) = true := beq_iff_eq.mpr c15; have c15b1 : (t545 != 0) = false := bne_eq_false_iff_eq.mpr c15; clear c15; by_cases c16 : t549 = 0
       ·rw [if_pos c16] at H; have c16b0 : (t549 == 0) = true := beq_iff_eq.mpr c16; have c16b1 : (t549 != 0) = false := bne_eq_false_iff_eq.mpr c16; clear c16; replace H := Option.bind_eq_some_iff.mp H; obtain ⟨t550, A170, H⟩ := H; replace H : ((treillagelaw09_its.f kj1 t543).bind fun t553 => ((treillageref09_Same.f kj1 t550 t553).bind fun t556 => (if t556 = true then (some (t541.toList == t548.toList)) else (some false)))) = some r := H; have A17 := aA A170; clear A170; replace H := Option.bind_eq_some_iff.mp H; obtain ⟨t553, A180, H⟩ := H; replace H : ((treillageref09_Same.f kj1 t550 t553).bind fun t556 => (if t556 = true then (some (t541.toList == t548.toList)) else (some false))) = some r := H; have A18 := aA A180; clear A180; replace H := Option.bind_eq_some_iff.mp H; obtain ⟨t556, A190, H⟩ := H; replace H : (if t556 = true then (some (t541.toList == t548.toList)) else (some false)) = some r := H; have A19 := aA A190; clear A190; by_cases c20 : t556 = true
        ·subst c20; have H1 : (some (t541.toList == t548.toList)) = some r := by rw [if_pos rfl] at H; exact H
         clear H; have H := H1; clear H1; obtain rfl := Option.some.inj H; go_wp2_with (first | ((with_reducible refine gate_callee (f := 11) rfl ?_); refine goesL_ (some 23) rfl rfl Try.func11 (by kernel_rfl) rfl #[.string a0] rfl (by (try simp only [List.map_toArray, List.map_cons, List.map_nil]); first | done | rfl | (simp only [List.length_drop, List.length_take]; rfl)) ?_; (with_reducible refine (sel_Parse.calls kj1 a0 t536 t537 t538 _ A9.out).mono ?_); rintro e w21 ⟨v539, rfl, ho0, hb⟩; refine ⟨_, rfl, ?_⟩; have n0_ := aA (Kd.R_lower ho0 (below_size (blw HB.out))); have n1_ := aA (below_step (blw HB.out) hb); clear HB; have HO540 := n0_; have HB := n1_; clear n0_ n1_; (try clear hb); (try clear hb2); (try clear hk); (try clear hi); (try clear ho0); obtain ⟨Ao22, co22, eo22⟩ := Kd.R_slice HO540.out; subst eo22) | ((with_reducible refine gate_callee (f := 16) rfl ?_); refine goesL_ (some 34) rfl rfl Try.func16 (by kernel_rfl) rfl #[.slice Ao22 t536.length co22] rfl (by (try simp only [List.map_toArray, List.map_cons, List.map_nil]); first | done | rfl | (simp only [List.length_drop, List.length_take]; rfl)) ?_; (with_reducible refine (sel_Print.calls kj1 _ _ t536 t541 t542 _ ?side1 ?side2 A11.out).mono ?_); (case side1 => repeat (first | exact (Kd.R_reads' HO540.out).2.2 | (with_reducible refine Kd.C_alloc ?_ _) | (with_reducible refine Kd.C_drewN ?_ _) | (with_reducible refine Kd.C_drew ?_))); (case side2 => exact (Kd.R_reads' HO540.out).2.1); rintro e w23 ⟨rfl, hb⟩; refine ⟨_, rfl, ?_⟩; have n0_ := aA (Kd.R_below (rlu HO540.out) hb); have n1_ := aA (below_step (blw HB.out) hb); clear HO540 HB; have HO540 := n0_; have HB := n1_; clear n0_ n1_; (try clear hb); (try clear hb2); (try clear hk); (try clear hi)) | ((with_reducible refine gate_callee (f := 11) rfl ?_); refine goesL_ (some 39) rfl rfl Try.func11 (by kernel_rfl) rfl #[.string t541] rfl (by (try simp only [List.map_toArray, List.map_cons, List.map_nil]); first | done | rfl | (simp only [List.length_drop, List.length_take]; rfl)) ?_; (with_reducible refine (sel_Parse.calls kj1 t541 t543 t544 t545 _ A12.out).mono ?_); rintro e w24 ⟨v546, rfl, ho0, hb⟩; refine ⟨_, rfl, ?_⟩; have n0_ := aA (Kd.R_elder' (rlu HO540.out) (Kd.R_base ho0) hb); have n1_ := aA (Kd.R_lower (Kd.R_new' ho0 (Kd.R_lt (rlu HO540.out))) (below_size (blw HB.out))); have n2_ := aA (below_step (blw HB.out) hb); clear HO540 HB; have HO540 := n0_; have HO547 := n1_; have HB := n2_; clear n0_ n1_ n2_; (try clear hb); (try clear hb2); (try clear hk); (try clear hi); (try clear ho0); obtain ⟨Ao25, co25, eo25⟩ := Kd.R_slice HO547.out; subst eo25) | ((with_reducible refine gate_callee (f := 16) rfl ?_); refine goesL_ (some 45) rfl rfl Try.func16 (by kernel_rfl) rfl #[.slice Ao25 t543.length co25] rfl (by (try simp only [List.map_toArray, List.map_cons, List.map_nil]); first | done | rfl | (simp only [List.length_drop, List.length_take]; rfl)) ?_; (with_reducible refine (sel_Print.calls kj1 _ _ t543 t548 t549 _ ?side1 ?side2 A13.out).mono ?_); (case side1 => repeat (first | exact (Kd.R_reads' HO547.out).2.2 | (with_reducible refine Kd.C_alloc ?_ _) | (with_reducible refine Kd.C_drewN ?_ _) | (with_reducible refine Kd.C_drew ?_))); (case side2 => exact (Kd.R_reads' HO547.out).2.1); rintro e w26 ⟨rfl, hb⟩; refine ⟨_, rfl, ?_⟩; have n0_ := aA (Kd.R_below (rlu HO540.out) hb); have n1_ := aA (Kd.R_below (rlu HO547.out) hb); have n2_ := aA (below_step (blw HB.out) hb); clear HO540 HO547 HB; have HO540 := n0_; have HO547 := n1_; have HB := n2_; clear n0_ n1_ n2_; (try clear hb); (try clear hb2); (try clear hk); (try clear hi)) | (go_at_call 14; (with_reducible refine (treillagelaw09_its.calls kj1 _ _ t536 t550 _ ?side1 ?side2 A17.out).mono ?_); (case side1 => repeat (first | exact (Kd.R_reads' HO540.out).2.2 | (with_reducible refine Kd.C_alloc ?_ _) | (with_reducible refine Kd.C_drewN ?_ _) | (with_reducible refine Kd.C_drew ?_))); (case side2 => exact (Kd.R_reads' HO540.out).2.1); rintro e w27 ⟨v551, rfl, ho0, hb⟩; have n0_ := aA (Kd.R_below (rlu HO540.out) hb); have n1_ := aA (Kd.R_below (rlu HO547.out) hb); have n2_ := aA (Kd.R_lower ho0 (below_size (blw HB.out))); have n3_ := aA (below_step (blw HB.out) hb); clear HO540 HO547 HB; have HO540 := n0_; have HO547 := n1_; have HO552 := n2_; have HB := n3_; clear n0_ n1_ n2_ n3_; (try clear hb); (try clear hb2); (try clear hk); (try clear hi); (try clear ho0)) | (go_at_call 14; (with_reducible refine (treillagelaw09_its.calls kj1 _ _ t543 t553 _ ?side1 ?side2 A18.out).mono ?_); (case side1 => repeat (first | exact (Kd.R_reads' HO547.out).2.2 | (with_reducible refine Kd.C_alloc ?_ _) | (with_reducible refine Kd.C_drewN ?_ _) | (with_reducible refine Kd.C_drew ?_))); (case side2 => exact (Kd.R_reads' HO547.out).2.1); rintro e w28 ⟨v554, rfl, ho0, hb⟩; have n0_ := aA (Kd.R_below (rlu HO540.out) hb); have n1_ := aA (Kd.R_below (rlu HO547.out) hb); have n2_ := aA (Kd.R_elder' (rlu HO552.out) (Kd.R_base ho0) hb); have n3_ := aA (Kd.R_lower (Kd.R_new' ho0 (Kd.R_lt (rlu HO552.out))) (below_size (blw HB.out))); have n4_ := aA (below_step (blw HB.out) hb); clear HO540 HO547 HO552 HB; have HO540 := n0_; have HO547 := n1_; have HO552 := n2_; have HO555 := n3_; have HB := n4_; clear n0_ n1_ n2_ n3_ n4_; (try clear hb); (try clear hb2); (try clear hk); (try clear hi); (try clear ho0); obtain ⟨Ao29, co29, eo29⟩ := Kd.R_slice HO552.out; subst eo29; obtain ⟨Ao30, co30, eo30⟩ := Kd.R_slice HO555.out; subst eo30) | (go_at_call 13; (with_reducible refine (treillageref09_Same.calls kj1 _ _ t550 _ _ t553 true _ ?side1 ?side2 ?side3 ?side4 A19.out).mono ?_); (case side1 => repeat (first | exact (Kd.R_reads' HO552.out).2.2 | (with_reducible refine Kd.C_alloc ?_ _) | (with_reducible refine Kd.C_drewN ?_ _) | (with_reducible refine Kd.C_drew ?_))); (case side2 => exact (Kd.R_reads' HO552.out).2.1); (case side3 => repeat (first | exact (Kd.R_reads' HO555.out).2.2 | (with_reducible refine Kd.C_alloc ?_ _) | (with_reducible refine Kd.C_drewN ?_ _) | (with_reducible refine Kd.C_drew ?_))); (case side4 => exact (Kd.R_reads' HO555.out).2.1); rintro e w' ⟨rfl, ⟨nd, rfl⟩⟩))
         go_ret
         exact ⟨by first | rfl | (simp [errW_none, errW_some] <;> rfl) | (simp [*, errW_none, errW_some] <;> rfl), by repeat (first | (with_reducible first | exact HB.out | apply below_alloc | apply pw_below_drewN | apply below_drew1) | exact HB.out)⟩
        ·replace c20 := Bool.eq_false_iff.mpr c20; subst c20; have H1 : (some false) = some r := by rw [if_neg (show ¬ (false = true) by decide)] at H; exact H
         clear H; have H := H1; clear H1; exact absurd ((Option.some.inj H).trans hr_) (by decide)
       ·rw [if_neg c16] at H; have c16b0 : (t549 == 0) = false := beq_eq_false_iff_ne.mpr c16; have c16b1 : (t549 != 0) = true := bne_iff_ne.mpr c16; exact absurd ((Option.some.inj H).trans hr_) (by decide)
      ·rw [if_neg c15] at H; have c15b0 : (t545 == 0) = false := beq_eq_false_iff_ne.mpr c15; have c15b1 : (t545 != 0) = true := bne_iff_ne.mpr c15; exact absurd ((Option.some.inj H).trans hr_) (by decide)
     ·rw [if_neg c14] at H; have c14b0 : (t542 == 0) = false := beq_eq_false_iff_ne.mpr c14; have c14b1 : (t542 != 0) = true := bne_iff_ne.mpr c14; exact absurd ((Option.some.inj H).trans hr_) (by decide)
    ·rw [if_neg c10] at H; have c10b0 : (t538 == 0) = false := beq_eq_false_iff_ne.mpr c10; have c10b1 : (t538 != 0) = true := bne_iff_ne.mpr c10; obtain rfl := Option.some.inj H; go_wp2_with (first | ((with_reducible refine gate_callee (f := 11) rfl ?_); refine goesL_ (some 23) rfl rfl Try.func11 (by kernel_rfl) rfl #[.string a0] rfl (by (try simp only [List.map_toArray, List.map_cons, List.map_nil]); first | done | rfl | (simp only [List.length_drop, List.length_take]; rfl)) ?_; (with_reducible refine (sel_Parse.calls kj1 a0 t536 t537 t538 _ A9.out).mono ?_); rintro e w31 ⟨v539, rfl, ho0, hb⟩; refine ⟨_, rfl, ?_⟩; have n0_ := aA (Kd.R_lower ho0 (below_size (blw HB.out))); have n1_ := aA (below_step (blw HB.out) hb); clear HB; have HO540 := n0_; have HB := n1_; clear n0_ n1_; (try clear hb); (try clear hb2); (try clear hk); (try clear hi); (try clear ho0); obtain ⟨Ao32, co32, eo32⟩ := Kd.R_slice HO540.out; subst eo32))
     go_ret
     exact ⟨by first | rfl | (simp [errW_none, errW_some] <;> rfl) | (simp [*, errW_none, errW_some] <;> rfl), by repeat (first | (with_reducible first | exact HB.out | apply below_alloc | apply pw_below_drewN | apply below_drew1) | exact HB.out)⟩

/-- THE ONE PURE STATEMENT of treillagelaw09_SelBack: yours. -/
theorem treillagelaw09_SelBack.calls (k : Nat) (a0 : ByteArray) (r : Bool) (w : World) (h : treillagelaw09_SelBack.f k a0 = some true) :
  Calls Try.prog 5 #[.string a0] w fun e w' => e = .returned (.bool true) ∧ Below w.heap.size w w' := treillagelaw09_SelBack.calls1 k a0 true w h rfl
def treillagelaw09_SelBack.Pure : Prop := ∀ (a0 : ByteArray), a0.size ≤ 140737488351232 → ∃ k, treillagelaw09_SelBack.f k a0 = some true
theorem treillagelaw09_SelBack.walk (P : treillagelaw09_SelBack.Pure) (a0 : ByteArray) (w : World) (w0 : a0.size ≤ 140737488351232) :
  Calls Try.prog 5 #[.string a0] w fun e w' => e = .returned (.bool true) ∧ Below w.heap.size w w' := by
 obtain ⟨k, h⟩ := P a0 w0; refine (treillagelaw09_SelBack.calls k a0 true w h).mono ?_; rintro e w' ⟨rfl, hd⟩
 exact ⟨rfl, hd⟩

end Go.Proofs.Ytjiejmkkaekefaa.PA
