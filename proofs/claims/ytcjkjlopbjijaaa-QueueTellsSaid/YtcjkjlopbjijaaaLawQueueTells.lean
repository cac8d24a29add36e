-- Written by wip/row/mkrow.py (a program of this session): not typed by hand
import Derived.Test.YtcjkjlopbjijaaaRows
import Derived.Test.YtcjkjlopbjijaaaPureQueueTells
import Derived.WalkKit
import Derived.ProofKit
import Derived.OpenShut
import Derived.ShutString
import Derived.ChangeOld
import Derived.Below
import Derived.SizedLaws
namespace Go.Proofs.Ytcjkjlopbjijaaa.queueTells
open Go.ChangeShapes Go.WideShapes Go.ChangeAt Go.RowKit
open Go.ChangeMaps (open_string shut_string)
open Go.Proofs.Ytcjkjlopbjijaaa.PQ Go.Proofs.YtcjkjlopbjijaaaW.PrintWords Go.Proofs.YtcjkjlopbjijaaaW.PrintLast Go.Proofs.YtcjkjlopbjijaaaW.PrintMore Go.Proofs.YtcjkjlopbjijaaaH
set_option linter.unusedVariables false
theorem own : ownKnob Try.prog.godebug = none := by kernel_rfl
theorem laidOut : laidOutB Try.prog = true := by kernel_rfl
set_option maxRecDepth 100000 in
theorem lifted (os : Os) (started : os.Started) (H : Type) (enc : TypeId × Value → H) :
    ReturnsInHanded {} Try.checked os 8 .any (Rows.queueTellsSpec.pre6 enc Try.prog Try.f8 Rows.queueTellsRow.domain false) (Rows.queueTellsSpec.post enc Try.prog Try.f8 false true false false) := by
  refine returnsInHanded_of_change_sized (C := Try.checked) own started (by kernel_rfl) Try.func8
    (ChangeSpec.witness6 (enc := enc) (C := Try.checked) false ⟨#[], #[.agg #[.int .i64 0, .int .i64 0], .agg #[.int .i64 0, .int .u64 0, .int .u64 0], .agg #[.int .i64 0, .int .u64 0, .int .u64 0], .int .u64 0, .bool false], []⟩ 8 (by kernel_rfl) (by kernel_rfl) (by kernel_rfl) (by kernel_rfl)) ?_
  intro W base args ds gs before hval0 hW hcnd hsz0 _
  have hsz : (DataW.weightsEach Try.prog (Try.f8.params.toList ++ Rows.queueTellsSpec.plain.varTypes Try.prog) (ds ++ gs)).all (· ≤ reachBytes) = true := hsz0
  have hval : ∀ (j : Nat) t v, Try.f8.params[j]? = some t → args[j]? = some v → Value.okWide Try.prog W .any base t v := hval0
  have hW' := hW
  obtain ⟨p, q, hA0, hV, rfl, hfz, hnd⟩ := hW
  have hA : DataW.TrodAll enc Try.prog W 0 (fun _ => true) true Try.f8.params.toList args.toList ds p := hA0
  rw [Try.params8] at hA hval hsz
  obtain ⟨v0, vs0, d0, ds0, p0, q0, hargs, rfl, rfl, h0, r0⟩ := trodAll_cons hA
  obtain ⟨v1, vs1, d1, ds1, p1, q1, rfl, rfl, rfl, h1, r1⟩ := trodAll_cons r0
  obtain ⟨v2, vs2, d2, ds2, p2, q2, rfl, rfl, rfl, h2, r2⟩ := trodAll_cons r1
  obtain ⟨v3, vs3, d3, ds3, p3, q3, rfl, rfl, rfl, h3, r3⟩ := trodAll_cons r2
  obtain ⟨v4, vs4, d4, ds4, p4, q4, rfl, rfl, rfl, h4, r4⟩ := trodAll_cons r3
  obtain ⟨rfl, rfl, rfl⟩ := trodAll_nil r4
  obtain rfl : args = #[v0, v1, v2, v3, v4] := by cases args; simp_all
  obtain ⟨rfl, rfl⟩ := trodVars_none hV
  have k0 := h0
  have lt0 : ∀ x ∈ p0, x.block < W.heap.size := by obtain ⟨m, hm⟩ := k0; exact DataW.trod_lt m _ _ _ hm
  have hw0 : ∀ n ∈ DataW.weights Try.prog 38 d0, n ≤ reachBytes := fun n hn => of_decide_eq_true (List.all_eq_true.1 hsz n (DataW.weights_mem_each (j := 0) (t := 38) rfl rfl n hn))
  obtain ⟨x0, K0, w0⟩ : ∃ x, (k38).K W x v0.cells.toList ∧ wf38 x := by
    obtain ⟨fuel, hf⟩ := h0
    exact openP0 enc W 0 _ _ fuel _ _ _ hf hw0
  have e0 := k38_open K0
  obtain ⟨cs0, rfl, _⟩ := okWide_struct Try.underlying38 (hval 0 38 v0 rfl rfl)
  obtain rfl : cs0 = #[.int .i64 x0.f0, .int .i64 x0.f1] := Array.toList_inj.1 e0
  have k1 := h1
  have lt1 : ∀ x ∈ p1, x.block < W.heap.size := by obtain ⟨m, hm⟩ := k1; exact DataW.trod_lt m _ _ _ hm
  have hw1 : ∀ n ∈ DataW.weights Try.prog 54 d1, n ≤ reachBytes := fun n hn => of_decide_eq_true (List.all_eq_true.1 hsz n (DataW.weights_mem_each (j := 1) (t := 54) rfl rfl n hn))
  obtain ⟨x1, K1, w1⟩ : ∃ x, (k54).K W x v1.cells.toList ∧ wf54 x := by
    obtain ⟨fuel, hf⟩ := h1
    exact openP1 enc W 0 _ _ fuel _ _ _ hf hw1
  have e1 := k54_open K1
  obtain ⟨cs1, rfl, _⟩ := okWide_struct Try.underlying54 (hval 1 54 v1 rfl rfl)
  obtain rfl : cs1 = #[.int .i64 x1.f0, .int .u64 x1.f1, .int .u64 x1.f2] := Array.toList_inj.1 e1
  have k2 := h2
  have lt2 : ∀ x ∈ p2, x.block < W.heap.size := by obtain ⟨m, hm⟩ := k2; exact DataW.trod_lt m _ _ _ hm
  have hw2 : ∀ n ∈ DataW.weights Try.prog 56 d2, n ≤ reachBytes := fun n hn => of_decide_eq_true (List.all_eq_true.1 hsz n (DataW.weights_mem_each (j := 2) (t := 56) rfl rfl n hn))
  obtain ⟨x2, K2, w2⟩ : ∃ x, (k56).K W x v2.cells.toList ∧ wf56 x := by
    obtain ⟨fuel, hf⟩ := h2
    exact openP2 enc W 0 _ _ fuel _ _ _ hf hw2
  have e2 := k56_open K2
  obtain ⟨cs2, rfl, _⟩ := okWide_struct Try.underlying56 (hval 2 56 v2 rfl rfl)
  obtain rfl : cs2 = #[.int .i64 x2.f0, .int .u64 x2.f1, .int .u64 x2.f2] := Array.toList_inj.1 e2
  obtain ⟨x3, rfl, rfl, rfl, w3⟩ := open_int Try.underlying23 (hval 3 23 v3 rfl rfl) h3
  obtain ⟨x4, rfl, rfl, rfl⟩ := open_bool Try.underlying4 (hval 4 4 v4 rfl rfl) h4
  have w4 := True.intro
  obtain ⟨kk, hk⟩ := pure x0 x1 x2 x3 x4 w0 w1 w2 w3 w4
  refine (PQ.treillagelaw16_QueueTells.calls kk x0.f0 x0.f1 x1.f0 x1.f1 x1.f2 x2.f0 x2.f1 x2.f2 x3 x4 true W hk).mono fun e W' ⟨he, bel0⟩ => ?_
  have bel : Below W.heap.size W W' := bel0
  subst he
  exact ⟨_, rfl, _, _, _, [], _, [], hW', trodAll_mk1 (shut_bool Try.underlying4 _), (trodAll_cons_mk (Below.trod laidOut (by kernel_rfl) (of_decide_eq_true (by kernel_rfl)) k0 bel lt0) (trodAll_cons_mk (Below.trod laidOut (by kernel_rfl) (of_decide_eq_true (by kernel_rfl)) k1 bel lt1) (trodAll_cons_mk (Below.trod laidOut (by kernel_rfl) (of_decide_eq_true (by kernel_rfl)) k2 bel lt2) (trodAll_cons_mk (shut_int Try.underlying23 w3) (trodAll_cons_mk (shut_bool Try.underlying4 _) trodAll_mk0))))), rfl, bel.frame _, fun h => by cases h⟩
theorem over : Rows.queueTellsRow.holds Try.pinned (OpenSpec.ofChange Rows.queueTellsSpec) :=
  OpenClaim.holds_of_wide 8 Try.f8 rfl rfl rfl rfl rfl rfl rfl ⟨rfl, rfl, rfl, rfl, rfl⟩ rfl rfl rfl rfl rfl (by kernel_rfl) Try.func8 (by kernel_rfl)
    (of_decide_eq_true (by kernel_rfl)) (by unfold Func.isWrapper; first | (rw [if_pos (by decide +kernel)]; kernel_rfl) | (rw [if_neg (by decide +kernel)]; exact ⟨rfl, rfl⟩))
    (fun os started H enc _ => lifted os started H enc)
theorem proved : Rows.QueueTellsSaid := over
#print axioms proved
end Go.Proofs.Ytcjkjlopbjijaaa.queueTells
namespace Go.Proofs.Ytcjkjlopbjijaaa
/-- The row, under a short name, for the claim. -/
theorem queueTells_holds : Rows.QueueTellsSaid := queueTells.proved
end Go.Proofs.Ytcjkjlopbjijaaa
