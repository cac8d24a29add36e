-- Written by wip/hprint/hprint.py (a program of this session, over the print): not typed by hand
import Derived.Test.YtjiejmkkaekefaaPAx0
namespace Go.Proofs.Ytjiejmkkaekefaa.PA
open Go.RowKit Go.Proofs.YtjiejmkkaekefaaW.PrintWords Go.Proofs.YtjiejmkkaekefaaW.PrintLast Go.Proofs.YtjiejmkkaekefaaW.PrintMore
attribute [local go_sem] max2_int min2_int max_two min_two max_three min_three max_four min_four   -- for this text's walks alone
open Go.Proofs.YtjiejmkkaekefaaH
set_option linter.unusedVariables false
set_option linter.unusedSimpArgs false

/-! ### sel_Test_text: function 23 -/
def sel_Test_text.f (a0_0 : Int) (a0_1 : ByteArray) (a0_2 : ByteArray) : Option (ByteArray) := if a0_0 = 1 then (some a0_1) else (if a0_0 = 2 then (if 1 + a0_1.size ≤ 9223372036854775807 then (some ((⟨#[35]⟩ : ByteArray) ++ a0_1)) else (none)) else (if a0_0 = 3 then (if 1 + a0_1.size ≤ 9223372036854775807 then (some ((⟨#[46]⟩ : ByteArray) ++ a0_1)) else (none)) else (if a0_0 = 4 then (if 1 + a0_1.size ≤ 9223372036854775807 then (if ((⟨#[91]⟩ : ByteArray) ++ a0_1).size + 1 ≤ 9223372036854775807 then (some (((⟨#[91]⟩ : ByteArray) ++ a0_1) ++ (⟨#[93]⟩ : ByteArray))) else (none)) else (none)) else (if a0_0 = 5 then (if 1 + a0_1.size ≤ 9223372036854775807 then (if ((⟨#[91]⟩ : ByteArray) ++ a0_1).size + 2 ≤ 9223372036854775807 then (if (((⟨#[91]⟩ : ByteArray) ++ a0_1) ++ (⟨#[61, 34]⟩ : ByteArray)).size + a0_2.size ≤ 9223372036854775807 then (if ((((⟨#[91]⟩ : ByteArray) ++ a0_1) ++ (⟨#[61, 34]⟩ : ByteArray)) ++ a0_2).size + 2 ≤ 9223372036854775807 then (some (((((⟨#[91]⟩ : ByteArray) ++ a0_1) ++ (⟨#[61, 34]⟩ : ByteArray)) ++ a0_2) ++ (⟨#[34, 93]⟩ : ByteArray))) else (none)) else (none)) else (none)) else (none)) else (some (⟨#[]⟩ : ByteArray))))))
set_option maxHeartbeats 8000000 in
set_option maxRecDepth 100000 in
theorem sel_Test_text.calls (a0_0 : Int) (a0_1 : ByteArray) (a0_2 : ByteArray) (r : ByteArray) (w : World) (h : sel_Test_text.f a0_0 a0_1 a0_2 = some r) :
  Calls Try.prog 23 #[.agg #[.int .i64 a0_0, .string a0_1, .string a0_2]] w fun e w' => e = .returned (.string r) ∧ Below w.heap.size w w' := by
 have hu48 := Try.underlying48; have HB := aA (Below.refl w.heap.size w); have H : (if a0_0 = 1 then (some a0_1) else (if a0_0 = 2 then (if 1 + a0_1.size ≤ 9223372036854775807 then (some ((⟨#[35]⟩ : ByteArray) ++ a0_1)) else (none)) else (if a0_0 = 3 then (if 1 + a0_1.size ≤ 9223372036854775807 then (some ((⟨#[46]⟩ : ByteArray) ++ a0_1)) else (none)) else (if a0_0 = 4 then (if 1 + a0_1.size ≤ 9223372036854775807 then (if ((⟨#[91]⟩ : ByteArray) ++ a0_1).size + 1 ≤ 9223372036854775807 then (some (((⟨#[91]⟩ : ByteArray) ++ a0_1) ++ (⟨#[93]⟩ : ByteArray))) else (none)) else (none)) else (if a0_0 = 5 then (if 1 + a0_1.size ≤ 9223372036854775807 then (if ((⟨#[91]⟩ : ByteArray) ++ a0_1).size + 2 ≤ 9223372036854775807 then (if (((⟨#[91]⟩ : ByteArray) ++ a0_1) ++ (⟨#[61, 34]⟩ : ByteArray)).size + a0_2.size ≤ 9223372036854775807 then (if ((((⟨#[91]⟩ : ByteArray) ++ a0_1) ++ (⟨#[61, 34]⟩ : ByteArray)) ++ a0_2).size + 2 ≤ 9223372036854775807 then (some (((((⟨#[91]⟩ : ByteArray) ++ a0_1) ++ (⟨#[61, 34]⟩ : ByteArray)) ++ a0_2) ++ (⟨#[34, 93]⟩ : ByteArray))) else (none)) else (none)) else (none)) else (none)) else (some (⟨#[]⟩ : ByteArray))))))) = some r := h; clear h; by_cases c2 : a0_0 = 1
 ·rw [if_pos c2] at H; have c2b0 : (a0_0 == 1) = true := beq_iff_eq.mpr c2; have c2b1 : (a0_0 != 1) = false := bne_eq_false_iff_eq.mpr c2; clear c2; obtain rfl := Option.some.inj H; go_enter Try.func23, Try.ntmps23; go_wp2_with (first | ((with_reducible refine gate_dst (N := 1) rfl ?_); refine box_event ?hg (N := 1) ?hd (cs := #[.int .i64 a0_0, .string a0_1, .string a0_2]) (t := 48) ?hr ?_; (case hd => rfl); (case hg => rfl); (case hr => first | (go_simp; done) | (go_simp; rfl)); intro gb334 hg w3 hbox hb; have n0_ := aA (below_step (blw HB.out) hb); have n1_ := aA (hbox); have n2_ := aA ((by rw [hg]; exact (below_size (blw HB.out)) : w.heap.size ≤ gb334)); have n3_ := aA ((by rw [hg]; exact (below_size (blw HB.out)) : w.heap.size ≤ gb334)); clear HB; have HB := n0_; have BK334 := n1_; have GW334 := n2_; have GE334 := n3_; clear n0_ n1_ n2_ n3_ hb hbox hg; have hcz4_0 : w3.cell? ⟨gb334, 0, none⟩ = some (.int .i64 a0_0) := (blk_cell BK334.out 0).trans rfl; have hcz4_1 : w3.cell? ⟨gb334, 1, none⟩ = some (.string a0_1) := (blk_cell BK334.out 1).trans rfl; have hcz4_2 : w3.cell? ⟨gb334, 2, none⟩ = some (.string a0_2) := (blk_cell BK334.out 2).trans rfl; have hfz4_0 := blk_frozen BK334.out 0; have hfz4_1 := blk_frozen BK334.out 1; have hfz4_2 := blk_frozen BK334.out 2))
  go_ret
  exact ⟨by first | rfl | (simp [errW_none, errW_some] <;> rfl) | (simp [*, errW_none, errW_some] <;> rfl), by repeat (first | (with_reducible first | exact HB.out | apply below_alloc | apply pw_below_drewN | apply below_drew1 | refine below_set ?_ GE334.out) | exact HB.out)⟩
 ·rw [if_neg c2] at H; have c2b0 : (a0_0 == 1) = false := beq_eq_false_iff_ne.mpr c2; have c2b1 : (a0_0 != 1) = true := bne_iff_ne.mpr c2; by_cases c5 : a0_0 = 2
  ·rw [if_pos c5] at H; have c5b0 : (a0_0 == 2) = true := beq_iff_eq.mpr c5; have c5b1 : (a0_0 != 2) = false := bne_eq_false_iff_eq.mpr c5; clear c5; by_cases c6 : 1 + a0_1.size ≤ 9223372036854775807
   rotate_left
   ·rw [if_neg c6] at H; exact absurd H (by simp)
   rw [if_pos c6] at H; have c6b0 := eq_true c6; have c6b1 : decide (1 + a0_1.size ≤ 9223372036854775807) = true := decide_eq_true c6; try have c6b2 : (9223372036854775807 < 1 + a0_1.size) = False := eq_false (Nat.not_lt.2 c6)
   obtain rfl := Option.some.inj H; go_enter Try.func23, Try.ntmps23; go_wp2_with (first | ((with_reducible refine gate_dst (N := 1) rfl ?_); refine box_event ?hg (N := 1) ?hd (cs := #[.int .i64 a0_0, .string a0_1, .string a0_2]) (t := 48) ?hr ?_; (case hd => rfl); (case hg => rfl); (case hr => first | (go_simp; done) | (go_simp; rfl)); intro gb334 hg w7 hbox hb; have n0_ := aA (below_step (blw HB.out) hb); have n1_ := aA (hbox); have n2_ := aA ((by rw [hg]; exact (below_size (blw HB.out)) : w.heap.size ≤ gb334)); have n3_ := aA ((by rw [hg]; exact (below_size (blw HB.out)) : w.heap.size ≤ gb334)); clear HB; have HB := n0_; have BK334 := n1_; have GW334 := n2_; have GE334 := n3_; clear n0_ n1_ n2_ n3_ hb hbox hg; have hcz8_0 : w7.cell? ⟨gb334, 0, none⟩ = some (.int .i64 a0_0) := (blk_cell BK334.out 0).trans rfl; have hcz8_1 : w7.cell? ⟨gb334, 1, none⟩ = some (.string a0_1) := (blk_cell BK334.out 1).trans rfl; have hcz8_2 : w7.cell? ⟨gb334, 2, none⟩ = some (.string a0_2) := (blk_cell BK334.out 2).trans rfl; have hfz8_0 := blk_frozen BK334.out 0; have hfz8_1 := blk_frozen BK334.out 1; have hfz8_2 := blk_frozen BK334.out 2))
   go_ret
   exact ⟨by first | rfl | (simp [errW_none, errW_some] <;> rfl) | (simp [*, errW_none, errW_some] <;> rfl), by repeat (first | (with_reducible first | exact HB.out | apply below_alloc | apply pw_below_drewN | apply below_drew1 | refine below_set ?_ GE334.out) | exact HB.out)⟩
  ·rw [if_neg c5] at H; have c5b0 : (a0_0 == 2) = false := beq_eq_false_iff_ne.mpr c5; have c5b1 : (a0_0 != 2) = true := bne_iff_ne.mpr c5; by_cases c9 : a0_0 = 3
   ·rw [if_pos c9] at H; have c9b0 : (a0_0 == 3) = true := beq_iff_eq.mpr c9; have c9b1 : (a0_0 != 3) = false := bne_eq_false_iff_eq.mpr c9; clear c9; by_cases c10 : 1 + a0_1.size ≤ 9223372036854775807
    rotate_left
    ·rw [if_neg c10] at H; exact absurd H (by simp)
    rw [if_pos c10] at H; have c10b0 := eq_true c10; have c10b1 : decide (1 + a0_1.size ≤ 9223372036854775807) = true := decide_eq_true c10; try have c10b2 : (9223372036854775807 < 1 + a0_1.size) = False := eq_false (Nat.not_lt.2 c10)
    obtain rfl := Option.some.inj H; go_enter Try.func23, Try.ntmps23; go_wp2_with (first | ((with_reducible refine gate_dst (N := 1) rfl ?_); refine box_event ?hg (N := 1) ?hd (cs := #[.int .i64 a0_0, .string a0_1, .string a0_2]) (t := 48) ?hr ?_; (case hd => rfl); (case hg => rfl); (case hr => first | (go_simp; done) | (go_simp; rfl)); intro gb334 hg w11 hbox hb; have n0_ := aA (below_step (blw HB.out) hb); have n1_ := aA (hbox); have n2_ := aA ((by rw [hg]; exact (below_size (blw HB.out)) : w.heap.size ≤ gb334)); have n3_ := aA ((by rw [hg]; exact (below_size (blw HB.out)) : w.heap.size ≤ gb334)); clear HB; have HB := n0_; have BK334 := n1_; have GW334 := n2_; have GE334 := n3_; clear n0_ n1_ n2_ n3_ hb hbox hg; have hcz12_0 : w11.cell? ⟨gb334, 0, none⟩ = some (.int .i64 a0_0) := (blk_cell BK334.out 0).trans rfl; have hcz12_1 : w11.cell? ⟨gb334, 1, none⟩ = some (.string a0_1) := (blk_cell BK334.out 1).trans rfl; have hcz12_2 : w11.cell? ⟨gb334, 2, none⟩ = some (.string a0_2) := (blk_cell BK334.out 2).trans rfl; have hfz12_0 := blk_frozen BK334.out 0; have hfz12_1 := blk_frozen BK334.out 1; have hfz12_2 := blk_frozen BK334.out 2))
    go_ret
    exact ⟨by first | rfl | (simp [errW_none, errW_some] <;> rfl) | (simp [*, errW_none, errW_some] <;> rfl), by repeat (first | (with_reducible first | exact HB.out | apply below_alloc | apply pw_below_drewN | apply below_drew1 | refine below_set ?_ GE334.out) | exact HB.out)⟩
   ·rw [if_neg c9] at H; have c9b0 : (a0_0 == 3) = false := beq_eq_false_iff_ne.mpr c9; have c9b1 : (a0_0 != 3) = true := bne_iff_ne.mpr c9; by_cases c13 : a0_0 = 4
    ·rw [if_pos c13] at H; have c13b0 : (a0_0 == 4) = true := beq_iff_eq.mpr c13; have c13b1 : (a0_0 != 4) = false := bne_eq_false_iff_eq.mpr c13; clear c13; by_cases c14 : 1 + a0_1.size ≤ 9223372036854775807
     rotate_left
     ·rw [if_neg c14] at H; exact absurd H (by simp)
     rw [if_pos c14] at H; have c14b0 := eq_true c14; have c14b1 : decide (1 + a0_1.size ≤ 9223372036854775807) = true := decide_eq_true c14; try have c14b2 : (9223372036854775807 < 1 + a0_1.size) = False := eq_false (Nat.not_lt.2 c14)
     by_cases c15 : ((⟨#[91]⟩ : ByteArray) ++ a0_1).size + 1 ≤ 9223372036854775807
     rotate_left
     ·rw [if_neg c15] at H; exact absurd H (by simp)
     rw [if_pos c15] at H; have c15b0 := eq_true c15; have c15b1 : decide (((⟨#[91]⟩ : ByteArray) ++ a0_1).size + 1 ≤ 9223372036854775807) = true := decide_eq_true c15; try have c15b2 : (9223372036854775807 < ((⟨#[91]⟩ : ByteArray) ++ a0_1).size + 1) = False := eq_false (Nat.not_lt.2 c15); try have c15s : (9223372036854775807 < 1 + a0_1.size + 1) = False := eq_false (Nat.not_lt.2 (by have hh := c15; simp only [ByteArray.size_append] at hh; exact hh))
     obtain rfl := Option.some.inj H; go_enter Try.func23, Try.ntmps23; go_wp2_with (first | ((with_reducible refine gate_dst (N := 1) rfl ?_); refine box_event ?hg (N := 1) ?hd (cs := #[.int .i64 a0_0, .string a0_1, .string a0_2]) (t := 48) ?hr ?_; (case hd => rfl); (case hg => rfl); (case hr => first | (go_simp; done) | (go_simp; rfl)); intro gb334 hg w16 hbox hb; have n0_ := aA (below_step (blw HB.out) hb); have n1_ := aA (hbox); have n2_ := aA ((by rw [hg]; exact (below_size (blw HB.out)) : w.heap.size ≤ gb334)); have n3_ := aA ((by rw [hg]; exact (below_size (blw HB.out)) : w.heap.size ≤ gb334)); clear HB; have HB := n0_; have BK334 := n1_; have GW334 := n2_; have GE334 := n3_; clear n0_ n1_ n2_ n3_ hb hbox hg; have hcz17_0 : w16.cell? ⟨gb334, 0, none⟩ = some (.int .i64 a0_0) := (blk_cell BK334.out 0).trans rfl; have hcz17_1 : w16.cell? ⟨gb334, 1, none⟩ = some (.string a0_1) := (blk_cell BK334.out 1).trans rfl; have hcz17_2 : w16.cell? ⟨gb334, 2, none⟩ = some (.string a0_2) := (blk_cell BK334.out 2).trans rfl; have hfz17_0 := blk_frozen BK334.out 0; have hfz17_1 := blk_frozen BK334.out 1; have hfz17_2 := blk_frozen BK334.out 2))
     go_ret
     exact ⟨by first | rfl | (simp [errW_none, errW_some] <;> rfl) | (simp [*, errW_none, errW_some] <;> rfl), by repeat (first | (with_reducible first | exact HB.out | apply below_alloc | apply pw_below_drewN | apply below_drew1 | refine below_set ?_ GE334.out) | exact HB.out)⟩
    ·rw [if_neg c13] at H; have c13b0 : (a0_0 == 4) = false := beq_eq_false_iff_ne.mpr c13; have c13b1 : (a0_0 != 4) = true := bne_iff_ne.mpr c13; by_cases c18 : a0_0 = 5
     ·rw [if_pos c18] at H; have c18b0 : (a0_0 == 5) = true := beq_iff_eq.mpr c18; have c18b1 : (a0_0 != 5) = false := bne_eq_false_iff_eq.mpr c18; clear c18; by_cases c19 : 1 + a0_1.size ≤ 9223372036854775807
      rotate_left
      ·rw [if_neg c19] at H; exact absurd H (by simp)
      rw [if_pos c19] at H; have c19b0 := eq_true c19; have c19b1 : decide (1 + a0_1.size ≤ 9223372036854775807) = true := decide_eq_true c19; try have c19b2 : (9223372036854775807 < 1 + a0_1.size) = False := eq_false (Nat.not_lt.2 c19)
      by_cases c20 : ((⟨#[91]⟩ : ByteArray) ++ a0_1).size + 2 ≤ 9223372036854775807
      rotate_left
      ·rw [if_neg c20] at H; exact absurd H (by simp)
      rw [if_pos c20] at H; have c20b0 := eq_true c20; have c20b1 : decide (((⟨#[91]⟩ : ByteArray) ++ a0_1).size + 2 ≤ 9223372036854775807) = true := decide_eq_true c20; try have c20b2 : (9223372036854775807 < ((⟨#[91]⟩ : ByteArray) ++ a0_1).size + 2) = False := eq_false (Nat.not_lt.2 c20); try have c20s : (9223372036854775807 < 1 + a0_1.size + 2) = False := eq_false (Nat.not_lt.2 (by have hh := c20; simp only [ByteArray.size_append] at hh; exact hh))
      by_cases c21 : (((⟨#[91]⟩ : ByteArray) ++ a0_1) ++ (⟨#[61, 34]⟩ : ByteArray)).size + a0_2.size ≤ 9223372036854775807
      rotate_left
      ·rw [if_neg c21] at H; exact absurd H (by simp)
      rw [if_pos c21] at H; have c21b0 := eq_true c21; have c21b1 : decide ((((⟨#[91]⟩ : ByteArray) ++ a0_1) ++ (⟨#[61, 34]⟩ : ByteArray)).size + a0_2.size ≤ 9223372036854775807) = true := decide_eq_true c21; try have c21b2 : (9223372036854775807 < (((⟨#[91]⟩ : ByteArray) ++ a0_1) ++ (⟨#[61, 34]⟩ : ByteArray)).size + a0_2.size) = False := eq_false (Nat.not_lt.2 c21); try have c21s : (9223372036854775807 < 1 + a0_1.size + 2 + a0_2.size) = False := eq_false (Nat.not_lt.2 (by have hh := c21; simp only [ByteArray.size_append] at hh; exact hh))
      by_cases c22 : ((((⟨#[91]⟩ : ByteArray) ++ a0_1) ++ (⟨#[61, 34]⟩ : ByteArray)) ++ a0_2).size + 2 ≤ 9223372036854775807
      rotate_left
      ·rw [if_neg c22] at H; exact absurd H (by simp)
      rw [if_pos c22] at H; have c22b0 := eq_true c22; have c22b1 : decide (((((⟨#[91]⟩ : ByteArray) ++ a0_1) ++ (⟨#[61, 34]⟩ : ByteArray)) ++ a0_2).size + 2 ≤ 9223372036854775807) = true := decide_eq_true c22; try have c22b2 : (9223372036854775807 < ((((⟨#[91]⟩ : ByteArray) ++ a0_1) ++ (⟨#[61, 34]⟩ : ByteArray)) ++ a0_2).size + 2) = False := eq_false (Nat.not_lt.2 c22); try have c22s : (9223372036854775807 < 1 + a0_1.size + 2 + a0_2.size + 2) = False := eq_false (Nat.not_lt.2 (by have hh := c22; simp only [ByteArray.size_append] at hh; exact hh))
      obtain rfl := Option.some.inj H; go_enter Try.func23, Try.ntmps23; go_wp2_with (first | ((with_reducible refine gate_dst (N := 1) rfl ?_); refine box_event ?hg (N := 1) ?hd (cs := #[.int .i64 a0_0, .string a0_1, .string a0_2]) (t := 48) ?hr ?_; (case hd => rfl); (case hg => rfl); (case hr => first | (go_simp; done) | (go_simp; rfl)); intro gb334 hg w23 hbox hb; have n0_ := aA (below_step (blw HB.out) hb); have n1_ := aA (hbox); have n2_ := aA ((by rw [hg]; exact (below_size (blw HB.out)) : w.heap.size ≤ gb334)); have n3_ := aA ((by rw [hg]; exact (below_size (blw HB.out)) : w.heap.size ≤ gb334)); clear HB; have HB := n0_; have BK334 := n1_; have GW334 := n2_; have GE334 := n3_; clear n0_ n1_ n2_ n3_ hb hbox hg; have hcz24_0 : w23.cell? ⟨gb334, 0, none⟩ = some (.int .i64 a0_0) := (blk_cell BK334.out 0).trans rfl; have hcz24_1 : w23.cell? ⟨gb334, 1, none⟩ = some (.string a0_1) := (blk_cell BK334.out 1).trans rfl; have hcz24_2 : w23.cell? ⟨gb334, 2, none⟩ = some (.string a0_2) := (blk_cell BK334.out 2).trans rfl; have hfz24_0 := blk_frozen BK334.out 0; have hfz24_1 := blk_frozen BK334.out 1; have hfz24_2 := blk_frozen BK334.out 2))
      go_ret
      exact ⟨by first | rfl | (simp [errW_none, errW_some] <;> rfl) | (simp [*, errW_none, errW_some] <;> rfl), by repeat (first | (with_reducible first | exact HB.out | apply below_alloc | apply pw_below_drewN | apply below_drew1 | refine below_set ?_ GE334.out) | exact HB.out)⟩
     ·rw [if_neg c18] at H; have c18b0 : (a0_0 == 5) = false := beq_eq_false_iff_ne.mpr c18; have c18b1 : (a0_0 != 5) = true := bne_iff_ne.mpr c18; obtain rfl := Option.some.inj H; go_enter Try.func23, Try.ntmps23; go_wp2_with (first | ((with_reducible refine gate_dst (N := 1) rfl ?_); refine box_event ?hg (N := 1) ?hd (cs := #[.int .i64 a0_0, .string a0_1, .string a0_2]) (t := 48) ?hr ?_; (case hd => rfl); (case hg => rfl); (case hr => first | (go_simp; done) | (go_simp; rfl)); intro gb334 hg w25 hbox hb; have n0_ := aA (below_step (blw HB.out) hb); have n1_ := aA (hbox); have n2_ := aA ((by rw [hg]; exact (below_size (blw HB.out)) : w.heap.size ≤ gb334)); have n3_ := aA ((by rw [hg]; exact (below_size (blw HB.out)) : w.heap.size ≤ gb334)); clear HB; have HB := n0_; have BK334 := n1_; have GW334 := n2_; have GE334 := n3_; clear n0_ n1_ n2_ n3_ hb hbox hg; have hcz26_0 : w25.cell? ⟨gb334, 0, none⟩ = some (.int .i64 a0_0) := (blk_cell BK334.out 0).trans rfl; have hcz26_1 : w25.cell? ⟨gb334, 1, none⟩ = some (.string a0_1) := (blk_cell BK334.out 1).trans rfl; have hcz26_2 : w25.cell? ⟨gb334, 2, none⟩ = some (.string a0_2) := (blk_cell BK334.out 2).trans rfl; have hfz26_0 := blk_frozen BK334.out 0; have hfz26_1 := blk_frozen BK334.out 1; have hfz26_2 := blk_frozen BK334.out 2))
      go_ret
      exact ⟨by first | rfl | (simp [errW_none, errW_some] <;> rfl) | (simp [*, errW_none, errW_some] <;> rfl), by repeat (first | (with_reducible first | exact HB.out | apply below_alloc | apply pw_below_drewN | apply below_drew1 | refine below_set ?_ GE334.out) | exact HB.out)⟩

-- NOT PRINTED: function 55 (abi_NoEscape)

-- NOT PRINTED: function 49 (strings_Builder_copyCheck)

-- NOT PRINTED: function 56 (bytealg_MakeNoZero)

-- NOT PRINTED: function 50 (strings_Builder_grow)

-- NOT PRINTED: function 37 (strings_Builder_Grow)

-- NOT PRINTED: function 38 (strings_Builder_WriteString)

-- NOT PRINTED: function 39 (strings_Builder_String)

/-! ### strings.Join: the shelf's, laid -/
def strings_Join.f (l0 : List ByteArray) (a1 : ByteArray) : Option ByteArray :=
 if l0.length ≤ 140737488355328 ∧ (Lib.join (l0.map (·.data.toList)) a1.data.toList).length ≤ 140737488355328 then some ⟨(Lib.join (l0.map (·.data.toList)) a1.data.toList).toArray⟩ else none
theorem strings_Join.calls (P0_ : Nat → Prop) (u9000_ : Value) (l0 : List ByteArray) (a1 : ByteArray) (r : ByteArray) (w0 w : World) (hB : Below w0.heap.size w0 w) (ho0 : Kd.R Kd.string 9 w w0.heap.size P0_ u9000_ l0) (h : strings_Join.f l0 a1 = some r) :
  Calls Try.prog 24 #[u9000_, .string a1] w fun e w' => e = .returned (.string r) ∧ Below w0.heap.size w0 w' ∧ Kept w w' (fun k_ => P0_ k_) := by
 unfold strings_Join.f at h; by_cases hc : l0.length ≤ 140737488355328 ∧ (Lib.join (l0.map (·.data.toList)) a1.data.toList).length ≤ 140737488355328
 ·rw [if_pos hc] at h; obtain rfl := Option.some.inj h; obtain ⟨A, c, rfl, hcap, hC⟩ := Kd.R_reads ho0
  have fin : ∀ (e : Ending) (w' : World), (e = .returned (.string ⟨(Lib.join (l0.map (·.data.toList)) a1.data.toList).toArray⟩) ∧ Below w.heap.size w w') → e = .returned (.string ⟨(Lib.join (l0.map (·.data.toList)) a1.data.toList).toArray⟩) ∧ Below w0.heap.size w0 w' ∧ Kept w w' (fun k_ => P0_ k_) := by
   rintro e w' ⟨rfl, hb⟩
   exact ⟨rfl, below_step hB hb, Kept.of_below hb _⟩
  cases l0 with
  | nil => exact (Go.Proofs.Try.strings_Join_none A c a1 w).mono fun e w' he => fin e w' ⟨he.1, he.2 ▸ Below.refl _ _⟩
  | cons x l =>
   obtain ⟨ad, _, rfl, _⟩ := Kd.C_get hC ByteArray.empty 0 (by omega) (by simp only [List.length_cons]; omega); obtain ⟨g, rfl⟩ := Kd.R_head ho0
   have hcell : ∀ (j : Nat) y, (x :: l)[j]? = some y → w.cell? ⟨g, 0 + j, none⟩ = some (.string y) := by
    intro j y hj
    obtain ⟨hlt, hy⟩ := List.getElem?_eq_some_iff.1 hj; have h1 := (Kd.R_cell ByteArray.empty (enc := Value.string) (h1 := fun _ => rfl) ho0 (j : Int) (by omega) (by omega)).1; rw [Int.toNat_natCast] at h1; rw [Nat.zero_add, h1]; unfold rdOf; rw [Int.toNat_natCast, List.getD_eq_getElem?_getD, hj]; rfl
   have hbk : g < w.heap.size := World.block_lt_of_cell? w _ (hcell 0 x rfl); exact (Go.Proofs.Try.strings_Join g 0 c (x :: l) a1 w hcell hbk hc.1 hcap hc.2).mono fun e w' he => fin e w' he
 ·rw [if_neg hc] at h; cases h

end Go.Proofs.Ytjiejmkkaekefaa.PA
