-- Written by wip/row/mkrow.py (a program of this session): not typed by hand
import Derived.Test.YtcjkjlopbjijaaaPQx0
import Derived.Test.YtcjkjlopbjijaaaOpen
import Derived.KernelRfl
namespace Go.Proofs.Ytcjkjlopbjijaaa.queuePutters
open Go.RowKit Go.Proofs.Ytcjkjlopbjijaaa.PQ Go.Proofs.YtcjkjlopbjijaaaW.PrintWords Go.Proofs.YtcjkjlopbjijaaaW.PrintLast Go.Proofs.YtcjkjlopbjijaaaW.PrintMore Go.Proofs.YtcjkjlopbjijaaaH
set_option linter.unusedVariables false
/-- What is known of a value of the type 38 that came in. -/
def wf38 (x : S38) : Prop := (Lit.int .i64 x.f0).wf = true ∧ (Lit.int .i64 x.f1).wf = true
theorem opens38 : Opens Try.prog 38 k38 wf38 := opens_struct Try.underlying38 (by kernel_rfl) (opensFs_iso (opensFs_cons (opens_int Try.underlying3) (opensFs_one (opens_int Try.underlying3) (by kernel_rfl)) (by kernel_rfl)) (fun x : S38 => (x.f0, x.f1)) (fun p => ⟨p.1, p.2⟩) (fun _ => rfl))
/-- What is known of a value of the type 54 that came in. -/
def wf54 (x : S54) : Prop := (Lit.int .i64 x.f0).wf = true ∧ (Lit.int .u64 x.f1).wf = true ∧ (Lit.int .u64 x.f2).wf = true
theorem opens54 : Opens Try.prog 54 k54 wf54 := opens_struct Try.underlying54 (by kernel_rfl) (opensFs_iso (opensFs_cons (opens_int Try.underlying3) (opensFs_cons (opens_int Try.underlying23) (opensFs_one (opens_int Try.underlying23) (by kernel_rfl)) (by kernel_rfl)) (by kernel_rfl)) (fun x : S54 => (x.f0, x.f1, x.f2)) (fun p => ⟨p.1, p.2.1, p.2.2⟩) (fun _ => rfl))
theorem openP0 : Opens Try.prog 38 k38 (fun x => wf38 x) := opens38
theorem openP1 : Opens Try.prog 54 k54 (fun x => wf54 x) := opens54
theorem openP2 : Opens Try.prog 23 (Kd.int .u64) (fun x => (Lit.int .u64 x).wf = true) := (opens_int Try.underlying23)
theorem openP3 : Opens Try.prog 4 Kd.bool (fun x => True) := (opens_bool Try.underlying4)
end Go.Proofs.Ytcjkjlopbjijaaa.queuePutters
