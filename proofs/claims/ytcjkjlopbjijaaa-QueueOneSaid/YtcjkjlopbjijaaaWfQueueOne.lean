-- Written by wip/row/mkrow.py (a program of this session): not typed by hand
import Derived.Test.YtcjkjlopbjijaaaPQx0
import Derived.Test.YtcjkjlopbjijaaaOpen
import Derived.KernelRfl
namespace Go.Proofs.Ytcjkjlopbjijaaa.queueOne
open Go.RowKit Go.Proofs.Ytcjkjlopbjijaaa.PQ Go.Proofs.YtcjkjlopbjijaaaW.PrintWords Go.Proofs.YtcjkjlopbjijaaaW.PrintLast Go.Proofs.YtcjkjlopbjijaaaW.PrintMore Go.Proofs.YtcjkjlopbjijaaaH
set_option linter.unusedVariables false
theorem bytes4 : Try.prog.bytesOf 4 = 1 := by kernel_rfl
theorem bytes23 : Try.prog.bytesOf 23 = 8 := by kernel_rfl
theorem openP0 : Opens Try.prog 5 (Kd.int .u8) (fun x => (Lit.int .u8 x).wf = true) := (opens_int Try.underlying5)
theorem openP1 : Opens Try.prog 22 (Kd.slice 23 (Kd.int .u64)) (fun x => (x.length * Try.prog.bytesOf 23 ≤ 140737488351232 ∧ ∀ y0_ ∈ x, (Lit.int .u64 y0_).wf = true)) := (opens_slice (opens_int Try.underlying23) Try.underlying22 (by kernel_rfl))
theorem openP2 : Opens Try.prog 77 (Kd.slice 4 Kd.bool) (fun x => (x.length * Try.prog.bytesOf 4 ≤ 140737488351232 ∧ ∀ y0_ ∈ x, True)) := (opens_slice (opens_bool Try.underlying4) Try.underlying77 (by kernel_rfl))
end Go.Proofs.Ytcjkjlopbjijaaa.queueOne
