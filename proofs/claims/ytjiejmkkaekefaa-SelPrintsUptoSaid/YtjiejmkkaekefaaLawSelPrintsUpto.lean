-- Written by a program of this session over mkrow.py's row (wip/scratch/mkprints.py): not typed by hand
import Derived.Test.YtjiejmkkaekefaaRows
import Derived.Test.YtjiejmkkaekefaaPureSelPrints
import Derived.Test.YtjiejmkkaekefaaOpenB
import Derived.WalkKit
import Derived.ProofKit
import Derived.OpenShut
import Derived.JoinedCond
import Derived.ShutString
import Derived.ChangeOld
import Derived.Below
import Derived.SizedLaws
namespace Go.Proofs.Ytjiejmkkaekefaa.selPrintsUpto
open Go.ChangeShapes Go.WideShapes Go.ChangeAt Go.RowKit
open Go.ChangeMaps (open_string shut_string)
open Go.Proofs.Ytjiejmkkaekefaa.PA Go.Proofs.YtjiejmkkaekefaaW.PrintWords Go.Proofs.YtjiejmkkaekefaaW.PrintLast Go.Proofs.YtjiejmkkaekefaaW.PrintMore Go.Proofs.YtjiejmkkaekefaaH
open Go.Proofs.Ytjiejmkkaekefaa.PureS (bT bX bR bL)
set_option linter.unusedVariables false
theorem own : ownKnob Try.prog.godebug = none := by kernel_rfl
theorem laidOut : laidOutB Try.prog = true := by kernel_rfl
set_option maxRecDepth 20000
theorem opensB48 : OpensB Try.prog 48 k48 bT := opensB_struct Try.underlying48 (by kernel_rfl) (opensFsB_iso (opensFsB_cons (opensB_int Try.underlying3) (opensFsB_cons (opensB_string Try.underlying9) (opensFsB_one (opensB_string Try.underlying9) (by kernel_rfl)) (by kernel_rfl)) (by kernel_rfl)) (fun x : S48 => (x.f0, x.f1, x.f2)) (fun p => ⟨p.1, p.2.1, p.2.2⟩) (fun _ => rfl))
theorem opensB46 : OpensB Try.prog 46 k46 bX := opensB_struct Try.underlying46 (by kernel_rfl) (opensFsB_iso (opensFsB_cons (opensB_slice opensB48 Try.underlying44 (by kernel_rfl)) (opensFsB_one (opensB_bool Try.underlying4) (by kernel_rfl)) (by kernel_rfl)) (fun x : S46 => (x.f0, x.f1)) (fun p => ⟨p.1, p.2⟩) (fun _ => rfl))
theorem openB0 : OpensB Try.prog 24 (Kd.slice 42 (Kd.slice 46 k46)) bL := (opensB_slice (opensB_slice opensB46 Try.underlying42 (by kernel_rfl)) Try.underlying24 (by kernel_rfl))
theorem contract (H : Type) (enc : TypeId × Value → H) (W : World) (base : Nat) (args : Array Value) (ds gs : List (DataW H)) (before : List MemPlace)
    (hval : ∀ (j : Nat) t v, Try.f4.params[j]? = some t → args[j]? = some v → Value.okWide Try.prog W .any base t v)
    (hW : DataW.Whole enc Try.prog Try.f4.params.toList Rows.selPrintsSpec.vars false W args.toList ds gs before) (hk0 : Rows.uptoSmall H (ds ++ gs) = true) :
    Calls Try.prog 4 args W fun e W' => ∃ v, e = .returned v ∧ Rows.selPrintsSpec.post enc Try.prog Try.f4 false true false false W args v W' := by
  have hW' := hW
  obtain ⟨p, q, hA0, hV, rfl, hfz, hnd⟩ := hW
  have hA : DataW.TrodAll enc Try.prog W 0 (fun _ => true) true Try.f4.params.toList args.toList ds p := hA0
  rw [Try.params4] at hA hval
  obtain ⟨v0, vs0, d0, ds0, p0, q0, hargs, rfl, rfl, h0, r0⟩ := trodAll_cons hA
  obtain ⟨rfl, rfl, rfl⟩ := trodAll_nil r0
  obtain rfl : args = #[v0] := by cases args; simp_all
  obtain ⟨rfl, rfl⟩ := trodVars_none hV
  have k0 := h0
  have lt0 : ∀ x ∈ p0, x.block < W.heap.size := by obtain ⟨m, hm⟩ := k0; exact DataW.trod_lt m _ _ _ hm
  obtain ⟨x0, K0, w0⟩ : ∃ x, ((Kd.slice 42 (Kd.slice 46 k46))).K W x v0.cells.toList ∧ bL x ≤ Rows.uptoBulk d0 := by
    obtain ⟨fuel, hf⟩ := h0
    exact openB0 enc W 0 _ _ fuel _ _ _ hf
  obtain ⟨a0, len0, cap0, rfl⟩ := okWide_slice Try.underlying24 (hval 0 24 v0 rfl rfl)
  obtain ⟨A0, c0, e0, hc0, hr0⟩ := K0
  simp [Value.cells] at e0
  obtain ⟨rfl, rfl, rfl⟩ := e0
  have hb : bL x0 ≤ 1048576 := by
    have h : Rows.uptoBulkAll ([d0] ++ []) ≤ 1048576 := of_decide_eq_true hk0
    simp only [Rows.uptoBulkAll, List.append_nil] at h
    omega
  obtain ⟨kk, hk⟩ := Pure.prints_law x0 hb
  refine (PA.treillagelaw09_SelPrints.calls kk a0 cap0 x0 true W hr0 hc0 hk).mono fun e W' ⟨he, bel0⟩ => ?_
  have bel : Below W.heap.size W W' := bel0
  subst he
  exact ⟨_, rfl, _, _, _, [], _, [], hW', trodAll_mk1 (shut_bool Try.underlying4 _), (trodAll_cons_mk (Below.trod laidOut (by kernel_rfl) (of_decide_eq_true (by kernel_rfl)) k0 bel lt0) trodAll_mk0), rfl, bel.frame _, fun h => by cases h⟩
set_option maxRecDepth 100000 in
theorem lifted (os : Os) (started : os.Started) (H : Type) (enc : TypeId × Value → H) (F : Stop.Interp) :
    ReturnsInHanded {} Try.checked os 4 .any ((Rows.OpenSpec.upto Rows.selPrintsSpec).pre6 enc Try.prog Try.f4 Rows.selPrintsUptoRow.domain false) (((Rows.OpenSpec.upto Rows.selPrintsSpec).at F).post enc Try.prog Try.f4 false true false false) := by
  refine returnsInHanded_of_cond (C := Try.checked) (s := Rows.OpenSpec.upto Rows.selPrintsSpec) (k := Rows.uptoSmall) rfl own started (by kernel_rfl) Try.func4
    (OpenSpec.witness (enc := enc) (C := Try.checked) (s := Rows.OpenSpec.upto Rows.selPrintsSpec) (k := Rows.uptoSmall) rfl false ⟨#[], #[.slice none 0 0], []⟩ 8 (by kernel_rfl) (by kernel_rfl) (by kernel_rfl)
      (x := ([.nil], [], [])) (by kernel_rfl) rfl (by kernel_rfl)) ?_
  intro W base args ds gs before hval hW _ hk _
  exact contract H enc W base args ds gs before hval hW hk
theorem proved : Rows.SelPrintsUptoSaid :=
  OpenClaim.holds_of_cond 4 Try.f4 rfl rfl rfl rfl rfl rfl rfl ⟨rfl, rfl, rfl, rfl, rfl⟩ rfl rfl rfl rfl rfl (by kernel_rfl) Try.func4 (by kernel_rfl)
    (of_decide_eq_true (by kernel_rfl)) (by unfold Func.isWrapper; first | (rw [if_pos (by decide +kernel)]; kernel_rfl) | (rw [if_neg (by decide +kernel)]; exact ⟨rfl, rfl⟩))
    (fun os started H enc _ F => lifted os started H enc F)
#print axioms proved
end Go.Proofs.Ytjiejmkkaekefaa.selPrintsUpto
namespace Go.Proofs.Ytjiejmkkaekefaa
/-- The row, under a short name, for the claim. -/
theorem selPrintsUpto_holds : Rows.SelPrintsUptoSaid := selPrintsUpto.proved
end Go.Proofs.Ytjiejmkkaekefaa
