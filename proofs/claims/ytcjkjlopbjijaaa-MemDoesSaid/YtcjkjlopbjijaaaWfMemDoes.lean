-- Written by wip/row/mkrow.py (a program of this session): not typed by hand
import Derived.Test.YtcjkjlopbjijaaaPAx0
import Derived.Test.YtcjkjlopbjijaaaOpen
import Derived.KernelRfl
namespace Go.Proofs.Ytcjkjlopbjijaaa.memDoes
open Go.RowKit Go.Proofs.Ytcjkjlopbjijaaa.PA Go.Proofs.YtcjkjlopbjijaaaW.PrintWords Go.Proofs.YtcjkjlopbjijaaaW.PrintLast Go.Proofs.YtcjkjlopbjijaaaW.PrintMore Go.Proofs.YtcjkjlopbjijaaaH
set_option linter.unusedVariables false
theorem bytes23 : Try.prog.bytesOf 23 = 8 := by kernel_rfl
/-- What is known of a value of the type 25 that came in. -/
def wf25 (x : S25) : Prop := (Lit.int .i64 x.f0).wf = true ∧ (Lit.int .i64 x.f1).wf = true ∧ (Lit.int .u64 x.f2).wf = true ∧ (Lit.int .u64 x.f3).wf = true
theorem opens25 : Opens Try.prog 25 k25 wf25 := opens_struct Try.underlying25 (by kernel_rfl) (opensFs_iso (opensFs_cons (opens_int Try.underlying3) (opensFs_cons (opens_int Try.underlying3) (opensFs_cons (opens_int Try.underlying23) (opensFs_one (opens_int Try.underlying23) (by kernel_rfl)) (by kernel_rfl)) (by kernel_rfl)) (by kernel_rfl)) (fun x : S25 => (x.f0, x.f1, x.f2, x.f3)) (fun p => ⟨p.1, p.2.1, p.2.2.1, p.2.2.2⟩) (fun _ => rfl))
theorem openP0 : Opens Try.prog 22 (Kd.slice 23 (Kd.int .u64)) (fun x => (x.length * Try.prog.bytesOf 23 ≤ 140737488351232 ∧ ∀ y0_ ∈ x, (Lit.int .u64 y0_).wf = true)) := (opens_slice (opens_int Try.underlying23) Try.underlying22 (by kernel_rfl))
theorem openP1 : Opens Try.prog 25 k25 (fun x => wf25 x) := opens25
end Go.Proofs.Ytcjkjlopbjijaaa.memDoes
