-- Written by wip/row/mkrow.py (a program of this session): not typed by hand
import Derived.Test.YtcjkjlopbjijaaaPQx0
import Derived.Test.YtcjkjlopbjijaaaOpen
import Derived.KernelRfl
namespace Go.Proofs.Ytcjkjlopbjijaaa.queueTells
open Go.RowKit Go.Proofs.Ytcjkjlopbjijaaa.PQ Go.Proofs.YtcjkjlopbjijaaaW.PrintWords Go.Proofs.YtcjkjlopbjijaaaW.PrintLast Go.Proofs.YtcjkjlopbjijaaaW.PrintMore Go.Proofs.YtcjkjlopbjijaaaH
set_option linter.unusedVariables false
structure S56 where
  f0 : Int
  f1 : Int
  f2 : Int
def k56 : Kd S56 := Kd.iso (Kd.pair (Kd.int .i64) (Kd.pair (Kd.int .u64) (Kd.int .u64))) (fun x : S56 => (x.f0, x.f1, x.f2))
theorem k56_open {w : World} {x : S56} {cs : List Value} (h : k56.K w x cs) : cs = [.int .i64 x.f0, .int .u64 x.f1, .int .u64 x.f2] := by
  obtain ⟨_, _, rfl, rfl, ⟨_, _, rfl, rfl, rfl⟩⟩ := h
  exact rfl
/-- What is known of a value of the type 38 that came in. -/
def wf38 (x : S38) : Prop := (Lit.int .i64 x.f0).wf = true ∧ (Lit.int .i64 x.f1).wf = true
theorem opens38 : Opens Try.prog 38 k38 wf38 := opens_struct Try.underlying38 (by kernel_rfl) (opensFs_iso (opensFs_cons (opens_int Try.underlying3) (opensFs_one (opens_int Try.underlying3) (by kernel_rfl)) (by kernel_rfl)) (fun x : S38 => (x.f0, x.f1)) (fun p => ⟨p.1, p.2⟩) (fun _ => rfl))
/-- What is known of a value of the type 54 that came in. -/
def wf54 (x : S54) : Prop := (Lit.int .i64 x.f0).wf = true ∧ (Lit.int .u64 x.f1).wf = true ∧ (Lit.int .u64 x.f2).wf = true
theorem opens54 : Opens Try.prog 54 k54 wf54 := opens_struct Try.underlying54 (by kernel_rfl) (opensFs_iso (opensFs_cons (opens_int Try.underlying3) (opensFs_cons (opens_int Try.underlying23) (opensFs_one (opens_int Try.underlying23) (by kernel_rfl)) (by kernel_rfl)) (by kernel_rfl)) (fun x : S54 => (x.f0, x.f1, x.f2)) (fun p => ⟨p.1, p.2.1, p.2.2⟩) (fun _ => rfl))
/-- What is known of a value of the type 56 that came in. -/
def wf56 (x : S56) : Prop := (Lit.int .i64 x.f0).wf = true ∧ (Lit.int .u64 x.f1).wf = true ∧ (Lit.int .u64 x.f2).wf = true
theorem opens56 : Opens Try.prog 56 k56 wf56 := opens_struct Try.underlying56 (by kernel_rfl) (opensFs_iso (opensFs_cons (opens_int Try.underlying3) (opensFs_cons (opens_int Try.underlying23) (opensFs_one (opens_int Try.underlying23) (by kernel_rfl)) (by kernel_rfl)) (by kernel_rfl)) (fun x : S56 => (x.f0, x.f1, x.f2)) (fun p => ⟨p.1, p.2.1, p.2.2⟩) (fun _ => rfl))
theorem openP0 : Opens Try.prog 38 k38 (fun x => wf38 x) := opens38
theorem openP1 : Opens Try.prog 54 k54 (fun x => wf54 x) := opens54
theorem openP2 : Opens Try.prog 56 k56 (fun x => wf56 x) := opens56
theorem openP3 : Opens Try.prog 23 (Kd.int .u64) (fun x => (Lit.int .u64 x).wf = true) := (opens_int Try.underlying23)
theorem openP4 : Opens Try.prog 4 Kd.bool (fun x => True) := (opens_bool Try.underlying4)
end Go.Proofs.Ytcjkjlopbjijaaa.queueTells
