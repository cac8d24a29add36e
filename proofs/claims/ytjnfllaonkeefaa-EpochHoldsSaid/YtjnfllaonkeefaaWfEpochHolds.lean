-- Written by wip/row/mkrow.py (a program of this session): not typed by hand
import Derived.Test.YtjnfllaonkeefaaPHx0
import Derived.Test.YtjnfllaonkeefaaOpen
import Derived.KernelRfl
namespace Go.Proofs.Ytjnfllaonkeefaa.epochHolds
open Go.RowKit Go.Proofs.Ytjnfllaonkeefaa.PH Go.Proofs.YtjnfllaonkeefaaW.PrintWords Go.Proofs.YtjnfllaonkeefaaW.PrintLast Go.Proofs.YtjnfllaonkeefaaW.PrintMore Go.Proofs.YtjnfllaonkeefaaH
set_option linter.unusedVariables false
set_option maxRecDepth 20000
theorem bytes22 : Try.prog.bytesOf 22 = 8 := by kernel_rfl
theorem bytes42 : Try.prog.bytesOf 42 = 72 := by kernel_rfl
/-- What is known of a value of the type 30 that came in. -/
def wf30 (x : S30) : Prop := (x.f0.length * Try.prog.bytesOf 22 ≤ 140737488351232 ∧ ∀ y0_ ∈ x.f0, (Lit.int .u64 y0_).wf = true) ∧ (x.f1.length * Try.prog.bytesOf 22 ≤ 140737488351232 ∧ ∀ y0_ ∈ x.f1, (Lit.int .u64 y0_).wf = true)
theorem opens30 : Opens Try.prog 30 k30 wf30 := opens_struct Try.underlying30 (by kernel_rfl) (opensFs_iso (opensFs_cons (opens_slice (opens_int Try.underlying22) Try.underlying23 (by kernel_rfl)) (opensFs_one (opens_slice (opens_int Try.underlying22) Try.underlying23 (by kernel_rfl)) (by kernel_rfl)) (by kernel_rfl)) (fun x : S30 => (x.f0, x.f1)) (fun p => ⟨p.1, p.2⟩) (fun _ => rfl))
/-- What is known of a value of the type 42 that came in. -/
def wf42 (x : S42) : Prop := (Lit.int .i64 x.f0).wf = true ∧ (Lit.int .i64 x.f1).wf = true ∧ (Lit.int .u64 x.f2).wf = true ∧ wf30 x.f3
theorem opens42 : Opens Try.prog 42 k42 wf42 := opens_struct Try.underlying42 (by kernel_rfl) (opensFs_iso (opensFs_cons (opens_int Try.underlying3) (opensFs_cons (opens_int Try.underlying3) (opensFs_cons (opens_int Try.underlying22) (opensFs_one opens30 (by kernel_rfl)) (by kernel_rfl)) (by kernel_rfl)) (by kernel_rfl)) (fun x : S42 => (x.f0, x.f1, x.f2, x.f3)) (fun p => ⟨p.1, p.2.1, p.2.2.1, p.2.2.2⟩) (fun _ => rfl))
theorem openP0 : Opens Try.prog 35 (Kd.slice 42 k42) (fun x => (x.length * Try.prog.bytesOf 42 ≤ 140737488351232 ∧ ∀ y0_ ∈ x, wf42 y0_)) := (opens_slice opens42 Try.underlying35 (by kernel_rfl))
end Go.Proofs.Ytjnfllaonkeefaa.epochHolds
