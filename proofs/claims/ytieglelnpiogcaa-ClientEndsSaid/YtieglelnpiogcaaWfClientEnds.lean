-- Written by wip/row/mkrow.py (a program of this session): not typed by hand
import Derived.Test.YtieglelnpiogcaaPBx0
import Derived.Test.YtieglelnpiogcaaVOpen
import Derived.KernelRfl
namespace Go.Proofs.Ytieglelnpiogcaa.clientEnds
open Go.RowKit Go.Proofs.Ytieglelnpiogcaa.PB Go.Proofs.YtieglelnpiogcaaW.PrintWords Go.Proofs.YtieglelnpiogcaaW.PrintLast Go.Proofs.YtieglelnpiogcaaW.PrintMore Go.Proofs.YtieglelnpiogcaaH
set_option linter.unusedVariables false
set_option maxRecDepth 20000
theorem bytes44 : Try.prog.bytesOf 44 = 72 := by kernel_rfl
theorem bytes78 : Try.prog.bytesOf 78 = 64 := by kernel_rfl
/-- What is known of a value of the type 78 that came in. -/
def wf78 (x : S78) : Prop := (Lit.int .i64 x.f0).wf = true ∧ (Lit.int .i64 x.f1).wf = true ∧ (Lit.int .i64 x.f2).wf = true ∧ (Lit.int .i64 x.f3).wf = true ∧ x.f4.size ≤ 140737488351232 ∧ x.f5.size ≤ 140737488351232
theorem opens78 : Opens Try.prog 78 k78 wf78 := opens_struct Try.underlying78 (by kernel_rfl) (opensFs_iso (opensFs_cons (opens_int Try.underlying3) (opensFs_cons (opens_int Try.underlying3) (opensFs_cons (opens_int Try.underlying3) (opensFs_cons (opens_int Try.underlying3) (opensFs_cons (opens_string Try.underlying9) (opensFs_one (opens_string Try.underlying9) (by kernel_rfl)) (by kernel_rfl)) (by kernel_rfl)) (by kernel_rfl)) (by kernel_rfl)) (by kernel_rfl)) (fun x : S78 => (x.f0, x.f1, x.f2, x.f3, x.f4, x.f5)) (fun p => ⟨p.1, p.2.1, p.2.2.1, p.2.2.2.1, p.2.2.2.2.1, p.2.2.2.2.2⟩) (fun _ => rfl))
/-- What is known of a value of the type 42 that came in. -/
def wf42 (x : S42) : Prop := (Lit.int .i64 x.f0).wf = true ∧ (Lit.int .i64 x.f1).wf = true ∧ (Lit.int .i64 x.f2).wf = true ∧ x.f3.size ≤ 140737488351232
theorem opens42 : Opens Try.prog 42 k42 wf42 := opens_struct Try.underlying42 (by kernel_rfl) (opensFs_iso (opensFs_cons (opens_int Try.underlying3) (opensFs_cons (opens_int Try.underlying3) (opensFs_cons (opens_int Try.underlying3) (opensFs_one (opens_string Try.underlying9) (by kernel_rfl)) (by kernel_rfl)) (by kernel_rfl)) (by kernel_rfl)) (fun x : S42 => (x.f0, x.f1, x.f2, x.f3)) (fun p => ⟨p.1, p.2.1, p.2.2.1, p.2.2.2⟩) (fun _ => rfl))
/-- What is known of a value of the type 44 that came in. -/
def wf44 (x : S44) : Prop := (Lit.int .i64 x.f0).wf = true ∧ (x.f1.length * Try.prog.bytesOf 78 ≤ 140737488351232 ∧ ∀ y0_ ∈ x.f1, wf78 y0_) ∧ wf42 x.f2
theorem opens44 : Opens Try.prog 44 k44 wf44 := opens_struct Try.underlying44 (by kernel_rfl) (opensFs_iso (opensFs_cons (opens_int Try.underlying3) (opensFs_cons (opens_slice opens78 Try.underlying40 (by kernel_rfl)) (opensFs_one opens42 (by kernel_rfl)) (by kernel_rfl)) (by kernel_rfl)) (fun x : S44 => (x.f0, x.f1, x.f2)) (fun p => ⟨p.1, p.2.1, p.2.2⟩) (fun _ => rfl))
theorem openP0 : Opens Try.prog 28 (Kd.slice 44 k44) (fun x => (x.length * Try.prog.bytesOf 44 ≤ 140737488351232 ∧ ∀ y0_ ∈ x, wf44 y0_)) := (opens_slice opens44 Try.underlying28 (by kernel_rfl))
theorem openP1 : Opens Try.prog 22 (Kd.int .u64) (fun x => (Lit.int .u64 x).wf = true) := (opens_int Try.underlying22)
theorem openP2 : Opens Try.prog 22 (Kd.int .u64) (fun x => (Lit.int .u64 x).wf = true) := (opens_int Try.underlying22)
end Go.Proofs.Ytieglelnpiogcaa.clientEnds
