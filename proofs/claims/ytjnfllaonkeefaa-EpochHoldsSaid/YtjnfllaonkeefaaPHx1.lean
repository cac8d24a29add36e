-- Written by wip/hprint/hprint.py (a program of this session, over the print): not typed by hand
import Derived.ChangeKeysEq
import Derived.Test.YtjnfllaonkeefaaPHx0
namespace Go.Proofs.Ytjnfllaonkeefaa.PH
open Go.RowKit Go.Proofs.YtjnfllaonkeefaaW.PrintWords Go.Proofs.YtjnfllaonkeefaaW.PrintLast Go.Proofs.YtjnfllaonkeefaaW.PrintMore
attribute [local go_sem] max2_int min2_int max_two min_two max_three min_three max_four min_four   -- for this text's walks alone
open Go.Proofs.YtjnfllaonkeefaaH
set_option linter.unusedVariables false
set_option linter.unusedSimpArgs false

theorem eqA60 (d : Nat) (w : World) (x0 y0 : Bool) (x1 y1 : Bool) (x2 y2 : Bool) (x3 y3 : Bool) :
  (Op.equalIn (d + 2) 60 (.agg #[.bool x0, .bool x1, .bool x2, .bool x3]) (.agg #[.bool y0, .bool y1, .bool y2, .bool y3])).run Try.prog w = .ok (x0 == y0 && (x1 == y1 && (x2 == y2 && (x3 == y3)))) w := by
 obtain ⟨i, hi⟩ := Option.isSome_iff_exists.mp (show (Try.prog.info? 4).isSome = true by kernel_rfl); have hc : Try.prog.cellsOf 4 = 1 := by kernel_rfl
 rw [run_equalIn_array w (d + 1) _ _ Try.underlying60 hi, hc, show List.range 4 = [0, 1, 2, 3] from rfl]; have hp0 : ∀ (a b c e : Bool), (part 4 #[.bool a, .bool b, .bool c, .bool e] (0 * 1)).run Try.prog w = .ok (.bool a) w := by intro a b c e; simp [part, isAgg, run_underlying Try.underlying4]
 have hp1 : ∀ (a b c e : Bool), (part 4 #[.bool a, .bool b, .bool c, .bool e] (1 * 1)).run Try.prog w = .ok (.bool b) w := by intro a b c e; simp [part, isAgg, run_underlying Try.underlying4]
 have hp2 : ∀ (a b c e : Bool), (part 4 #[.bool a, .bool b, .bool c, .bool e] (2 * 1)).run Try.prog w = .ok (.bool c) w := by intro a b c e; simp [part, isAgg, run_underlying Try.underlying4]
 have hp3 : ∀ (a b c e : Bool), (part 4 #[.bool a, .bool b, .bool c, .bool e] (3 * 1)).run Try.prog w = .ok (.bool e) w := by intro a b c e; simp [part, isAgg, run_underlying Try.underlying4]
 have he : ∀ a b, (Op.equalIn (d + 1) 4 (.bool a) (.bool b)).run Try.prog w = .ok (a == b) w := fun a b => run_equalIn_bool w d 4 a b Try.underlying4
 rw [Op.eqItems]; simp only [Sem.run_bind, hp0, he, Result.andThen_ok]; cases h0 : x0 == y0
 ·simp
 rw [Op.eqItems]; simp only [Bool.not_true, Bool.false_eq_true, if_false, Sem.run_bind, hp1, he, Result.andThen_ok]; cases h1 : x1 == y1
 ·simp
 rw [Op.eqItems]; simp only [Bool.not_true, Bool.false_eq_true, if_false, Sem.run_bind, hp2, he, Result.andThen_ok]; cases h2 : x2 == y2
 ·simp
 rw [Op.eqItems]; simp only [Bool.not_true, Bool.false_eq_true, if_false, Sem.run_bind, hp3, he, Result.andThen_ok]; cases h3 : x3 == y3
 ·simp
 rw [Op.eqItems]; simp
end Go.Proofs.Ytjnfllaonkeefaa.PH
