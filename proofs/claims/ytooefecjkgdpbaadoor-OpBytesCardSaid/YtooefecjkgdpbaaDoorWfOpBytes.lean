-- Written by wip/row/mkrow.py (a program of this session): not typed by hand
import Derived.Test.YtooefecjkgdpbaaDoorPAx0
import Derived.Test.YtooefecjkgdpbaaDoorVOpen
import Derived.KernelRfl
namespace Go.Proofs.YtooefecjkgdpbaaDoor.opBytes
open Go.RowKit Go.Proofs.YtooefecjkgdpbaaDoor.PA Go.Proofs.YtooefecjkgdpbaaDoorW.PrintWords Go.Proofs.YtooefecjkgdpbaaDoorW.PrintLast Go.Proofs.YtooefecjkgdpbaaDoorW.PrintMore Go.Proofs.YtooefecjkgdpbaaDoorH
set_option linter.unusedVariables false
set_option maxRecDepth 20000
theorem bytes23 : Tryd.prog.bytesOf 23 = 64 := by kernel_rfl
/-- What is known of a value of the type 23 that came in. -/
def wf23 (x : S23) : Prop := (Lit.int .i64 x.f0).wf = true ∧ (Lit.int .i64 x.f1).wf = true ∧ (Lit.int .i64 x.f2).wf = true ∧ (Lit.int .i64 x.f3).wf = true ∧ x.f4.size ≤ 140737488351232 ∧ x.f5.size ≤ 140737488351232
theorem opens23 : Opens Tryd.prog 23 k23 wf23 := opens_struct Tryd.underlying23 (by kernel_rfl) (opensFs_iso (opensFs_cons (opens_int Tryd.underlying3) (opensFs_cons (opens_int Tryd.underlying3) (opensFs_cons (opens_int Tryd.underlying3) (opensFs_cons (opens_int Tryd.underlying3) (opensFs_cons (opens_string Tryd.underlying9) (opensFs_one (opens_string Tryd.underlying9) (by kernel_rfl)) (by kernel_rfl)) (by kernel_rfl)) (by kernel_rfl)) (by kernel_rfl)) (by kernel_rfl)) (fun x : S23 => (x.f0, x.f1, x.f2, x.f3, x.f4, x.f5)) (fun p => ⟨p.1, p.2.1, p.2.2.1, p.2.2.2.1, p.2.2.2.2.1, p.2.2.2.2.2⟩) (fun _ => rfl))
theorem openP0 : Opens Tryd.prog 25 (Kd.slice 23 k23) (fun x => (x.length * Tryd.prog.bytesOf 23 ≤ 140737488351232 ∧ ∀ y0_ ∈ x, wf23 y0_)) := (opens_slice opens23 Tryd.underlying25 (by kernel_rfl))
theorem openP1 : Opens Tryd.prog 9 Kd.string (fun x => x.size ≤ 140737488351232) := (opens_string Tryd.underlying9)
end Go.Proofs.YtooefecjkgdpbaaDoor.opBytes
