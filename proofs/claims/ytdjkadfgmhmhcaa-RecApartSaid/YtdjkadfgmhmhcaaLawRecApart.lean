-- Written by wip/row/mkrow.py (a program of this session): not typed by hand
import Derived.Test.YtdjkadfgmhmhcaaRows
import Derived.Test.YtdjkadfgmhmhcaaPureRecApart
import Derived.WalkKit
import Derived.ProofKit
import Derived.OpenShut
import Derived.ShutString
import Derived.ChangeOld
import Derived.Below
import Derived.SizedLaws
namespace Go.Proofs.Ytdjkadfgmhmhcaa.recApart
open Go.ChangeShapes Go.WideShapes Go.ChangeAt Go.RowKit
open Go.ChangeMaps (open_string shut_string)
open Go.Proofs.Ytdjkadfgmhmhcaa.PA Go.Proofs.YtdjkadfgmhmhcaaW.PrintWords Go.Proofs.YtdjkadfgmhmhcaaW.PrintLast Go.Proofs.YtdjkadfgmhmhcaaW.PrintMore Go.Proofs.YtdjkadfgmhmhcaaH
set_option linter.unusedVariables false
theorem own : ownKnob Try.prog.godebug = none := by kernel_rfl
theorem laidOut : laidOutB Try.prog = true := by kernel_rfl
set_option maxRecDepth 100000 in
theorem lifted (os : Os) (started : os.Started) (H : Type) (enc : TypeId × Value → H) :
    ReturnsInHanded {} Try.checked os 7 .any (Rows.recApartSpec.pre6 enc Try.prog Try.f7 Rows.recApartRow.domain false) (Rows.recApartSpec.post enc Try.prog Try.f7 false true false false) := by
  refine returnsInHanded_of_change_sized (C := Try.checked) own started (by kernel_rfl) Try.func7
    (ChangeSpec.witness6 (enc := enc) (C := Try.checked) false ⟨#[], #[.agg #[.int .i64 0, .int .i64 0, .string ⟨#[]⟩, .string ⟨#[]⟩, .slice none 0 0, .int .u64 0, .int .i64 0], .agg #[.int .i64 0, .int .i64 0, .string ⟨#[]⟩, .string ⟨#[]⟩, .slice none 0 0, .int .u64 0, .int .i64 0]], []⟩ 8 (by kernel_rfl) (by kernel_rfl) (by kernel_rfl) (by kernel_rfl)) ?_
  intro W base args ds gs before hval0 hW hcnd hsz0 _
  have hsz : (DataW.weightsEach Try.prog (Try.f7.params.toList ++ Rows.recApartSpec.plain.varTypes Try.prog) (ds ++ gs)).all (· ≤ reachBytes) = true := hsz0
  have hval : ∀ (j : Nat) t v, Try.f7.params[j]? = some t → args[j]? = some v → Value.okWide Try.prog W .any base t v := hval0
  have hW' := hW
  obtain ⟨p, q, hA0, hV, rfl, hfz, hnd⟩ := hW
  have hA : DataW.TrodAll enc Try.prog W 0 (fun _ => true) true Try.f7.params.toList args.toList ds p := hA0
  rw [Try.params7] at hA hval hsz
  obtain ⟨v0, vs0, d0, ds0, p0, q0, hargs, rfl, rfl, h0, r0⟩ := trodAll_cons hA
  obtain ⟨v1, vs1, d1, ds1, p1, q1, rfl, rfl, rfl, h1, r1⟩ := trodAll_cons r0
  obtain ⟨rfl, rfl, rfl⟩ := trodAll_nil r1
  obtain rfl : args = #[v0, v1] := by cases args; simp_all
  obtain ⟨rfl, rfl⟩ := trodVars_none hV
  have k0 := h0
  have lt0 : ∀ x ∈ p0, x.block < W.heap.size := by obtain ⟨m, hm⟩ := k0; exact DataW.trod_lt m _ _ _ hm
  have hw0 : ∀ n ∈ DataW.weights Try.prog 27 d0, n ≤ reachBytes := fun n hn => of_decide_eq_true (List.all_eq_true.1 hsz n (DataW.weights_mem_each (j := 0) (t := 27) rfl rfl n hn))
  obtain ⟨x0, K0, w0⟩ : ∃ x, (k27).K W x v0.cells.toList ∧ wf27 x := by
    obtain ⟨fuel, hf⟩ := h0
    exact openP0 enc W 0 _ _ fuel _ _ _ hf hw0
  obtain ⟨A0_4, c0_4, e0, hc0_4, hr0_4⟩ := k27_open K0
  obtain ⟨cs0, rfl, _⟩ := okWide_struct Try.underlying27 (hval 0 27 v0 rfl rfl)
  obtain rfl : cs0 = #[.int .i64 x0.f0, .int .i64 x0.f1, .string x0.f2, .string x0.f3, .slice A0_4 x0.f4.length c0_4, .int .u64 x0.f5.f0, .int .i64 x0.f5.f1] := Array.toList_inj.1 e0
  have k1 := h1
  have lt1 : ∀ x ∈ p1, x.block < W.heap.size := by obtain ⟨m, hm⟩ := k1; exact DataW.trod_lt m _ _ _ hm
  have hw1 : ∀ n ∈ DataW.weights Try.prog 27 d1, n ≤ reachBytes := fun n hn => of_decide_eq_true (List.all_eq_true.1 hsz n (DataW.weights_mem_each (j := 1) (t := 27) rfl rfl n hn))
  obtain ⟨x1, K1, w1⟩ : ∃ x, (k27).K W x v1.cells.toList ∧ wf27 x := by
    obtain ⟨fuel, hf⟩ := h1
    exact openP1 enc W 0 _ _ fuel _ _ _ hf hw1
  obtain ⟨A1_4, c1_4, e1, hc1_4, hr1_4⟩ := k27_open K1
  obtain ⟨cs1, rfl, _⟩ := okWide_struct Try.underlying27 (hval 1 27 v1 rfl rfl)
  obtain rfl : cs1 = #[.int .i64 x1.f0, .int .i64 x1.f1, .string x1.f2, .string x1.f3, .slice A1_4 x1.f4.length c1_4, .int .u64 x1.f5.f0, .int .i64 x1.f5.f1] := Array.toList_inj.1 e1
  obtain ⟨kk, hk⟩ := pure x0 x1 w0 w1
  refine (PA.treillagelaw11_RecApart.calls kk x0.f0 x0.f1 x0.f2 x0.f3 A0_4 c0_4 x0.f4 x0.f5.f0 x0.f5.f1 x1.f0 x1.f1 x1.f2 x1.f3 A1_4 c1_4 x1.f4 x1.f5.f0 x1.f5.f1 true W hr0_4 hc0_4 hr1_4 hc1_4 hk).mono fun e W' ⟨he, bel0⟩ => ?_
  have bel : Below W.heap.size W W' := bel0
  subst he
  exact ⟨_, rfl, _, _, _, [], _, [], hW', trodAll_mk1 (shut_bool Try.underlying4 _), (trodAll_cons_mk (Below.trod laidOut (by kernel_rfl) (of_decide_eq_true (by kernel_rfl)) k0 bel lt0) (trodAll_cons_mk (Below.trod laidOut (by kernel_rfl) (of_decide_eq_true (by kernel_rfl)) k1 bel lt1) trodAll_mk0)), rfl, bel.frame _, fun h => by cases h⟩
theorem over : Rows.recApartRow.holds Try.pinned (OpenSpec.ofChange Rows.recApartSpec) :=
  OpenClaim.holds_of_wide 7 Try.f7 rfl rfl rfl rfl rfl rfl rfl ⟨rfl, rfl, rfl, rfl, rfl⟩ rfl rfl rfl rfl rfl (by kernel_rfl) Try.func7 (by kernel_rfl)
    (of_decide_eq_true (by kernel_rfl)) (by unfold Func.isWrapper; first | (rw [if_pos (by decide +kernel)]; kernel_rfl) | (rw [if_neg (by decide +kernel)]; exact ⟨rfl, rfl⟩))
    (fun os started H enc _ => lifted os started H enc)
theorem proved : Rows.RecApartSaid := over
#print axioms proved
end Go.Proofs.Ytdjkadfgmhmhcaa.recApart
namespace Go.Proofs.Ytdjkadfgmhmhcaa
/-- The row, under a short name, for the claim. -/
theorem recApart_holds : Rows.RecApartSaid := recApart.proved
end Go.Proofs.Ytdjkadfgmhmhcaa
