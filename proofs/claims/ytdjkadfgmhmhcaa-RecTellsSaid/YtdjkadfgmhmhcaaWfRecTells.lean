-- Written by wip/row/mkrow.py (a program of this session): not typed by hand
import Derived.Test.YtdjkadfgmhmhcaaPTx0
import Derived.Test.YtdjkadfgmhmhcaaVOpen
import Derived.KernelRfl
namespace Go.Proofs.Ytdjkadfgmhmhcaa.recTells
open Go.RowKit Go.Proofs.Ytdjkadfgmhmhcaa.PT Go.Proofs.YtdjkadfgmhmhcaaW.PrintWords Go.Proofs.YtdjkadfgmhmhcaaW.PrintLast Go.Proofs.YtdjkadfgmhmhcaaW.PrintMore Go.Proofs.YtdjkadfgmhmhcaaH
set_option linter.unusedVariables false
set_option maxRecDepth 20000
theorem bytes9 : Try.prog.bytesOf 9 = 16 := by kernel_rfl
theorem bytes23 : Try.prog.bytesOf 23 = 8 := by kernel_rfl
/-- What is known of a value of the type 25 that came in. -/
def wf25 (x : S25) : Prop := (Lit.int .u64 x.f0).wf = true ∧ (Lit.int .i64 x.f1).wf = true
theorem opens25 : Opens Try.prog 25 k25 wf25 := opens_struct Try.underlying25 (by kernel_rfl) (opensFs_iso (opensFs_cons (opens_int Try.underlying23) (opensFs_one (opens_int Try.underlying3) (by kernel_rfl)) (by kernel_rfl)) (fun x : S25 => (x.f0, x.f1)) (fun p => ⟨p.1, p.2⟩) (fun _ => rfl))
/-- What is known of a value of the type 27 that came in. -/
def wf27 (x : S27) : Prop := (Lit.int .i64 x.f0).wf = true ∧ (Lit.int .i64 x.f1).wf = true ∧ x.f2.size ≤ 140737488351232 ∧ x.f3.size ≤ 140737488351232 ∧ (x.f4.length * Try.prog.bytesOf 9 ≤ 140737488351232 ∧ ∀ y0_ ∈ x.f4, y0_.size ≤ 140737488351232) ∧ wf25 x.f5
theorem opens27 : Opens Try.prog 27 k27 wf27 := opens_struct Try.underlying27 (by kernel_rfl) (opensFs_iso (opensFs_cons (opens_int Try.underlying3) (opensFs_cons (opens_int Try.underlying3) (opensFs_cons (opens_string Try.underlying9) (opensFs_cons (opens_string Try.underlying9) (opensFs_cons (opens_slice (opens_string Try.underlying9) Try.underlying22 (by kernel_rfl)) (opensFs_one opens25 (by kernel_rfl)) (by kernel_rfl)) (by kernel_rfl)) (by kernel_rfl)) (by kernel_rfl)) (by kernel_rfl)) (fun x : S27 => (x.f0, x.f1, x.f2, x.f3, x.f4, x.f5)) (fun p => ⟨p.1, p.2.1, p.2.2.1, p.2.2.2.1, p.2.2.2.2.1, p.2.2.2.2.2⟩) (fun _ => rfl))
theorem openP0 : Opens Try.prog 27 k27 (fun x => wf27 x) := opens27
theorem openP1 : Opens Try.prog 28 (Kd.slice 23 (Kd.int .u64)) (fun x => (x.length * Try.prog.bytesOf 23 ≤ 140737488351232 ∧ ∀ y0_ ∈ x, (Lit.int .u64 y0_).wf = true)) := (opens_slice (opens_int Try.underlying23) Try.underlying28 (by kernel_rfl))
end Go.Proofs.Ytdjkadfgmhmhcaa.recTells
