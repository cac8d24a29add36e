/-
  Small laws that the hand-proved walks of this seat share: a store into a block of the call's own, and what a block known whole reads as.
-/
import Derived.Test.YthopfipaaboffaaProg
import Derived.WalkKit
import Derived.KernelRfl
import Derived.Test.YthopfipaaboffaaWWords
import Derived.Test.YthopfipaaboffaaWLast
import Derived.Test.YthopfipaaboffaaWMore
namespace Go.Proofs.YthopfipaaboffaaH
open Go.RowKit Go.Proofs.YthopfipaaboffaaW.PrintWords Go.Proofs.YthopfipaaboffaaW.PrintLast Go.Proofs.YthopfipaaboffaaW.PrintMore

section
variable {P : Program} {ops : Array Oper} {rest : List Oper} {o : Oper} {a : Act} {Q : Exit → Act → World → Prop}
/-- A cell of a block that is known whole, of the call's own, is written: the world gets a letter. -/
theorem blk_store {w0 W : World} {base g j : Nat} {cs : Array Value} {e : TypeId} {t : TypeId} {p v : Operand} {u : Value}
    (hgd : o.guard = none) (hN : o.dst = none) (ho : o.op = .store t p v)
    (haddr : a.eval p = .pointer (some ⟨g, j, none⟩)) (hx : a.eval v = u)
    (hu : u.cells.toList = [u]) (hone : u.oneCell' = true) (ht : (P.info? t).map (·.size) = some 1)
    (hh : W.heap[g]? = some (.cells cs e (0, 0))) (hj : j < cs.size) (HB : Below base w0 W) (HG : base ≤ g)
    (h : ∀ w1, w1.heap[g]? = some (.cells (cs.setIfInBounds j u) e (0, 0)) → Below base w0 w1 → W.grownBy w1 (some g) → wpList P ops Q rest a w1) :
    wpList P ops Q (o :: rest) a W := by
  have hset : W.setCells g j [u] = W.setCell ⟨g, j, none⟩ u := rfl
  have hrun : (Instr.storeAt t (.pointer (some ⟨g, j, none⟩)) u).run P W = .ok () (W.setCell ⟨g, j, none⟩ u) := by
    rw [← hset]
    exact run_store_run t u [u] hh hu (by simpa using ht) (by simp; omega) (by simpa using hone)
  refine wpList_plain hgd fun K hK => ?_
  unfold Oper.wp execOp
  simp only [ho, haddr, hx, Sem.run_bind, Sem.run_pure, Result.andThen_ok, hrun]
  show K (a.put o.dst undef) _
  rw [hN]
  refine hK a _ (h _ (blk_set hh j u) (HB.setCell HG _) ?_)
  exact ⟨rfl, rfl, rfl, by simp, fun k hk hne => Below.heap_setCell W _ u k (fun he => hne (by rw [he]))⟩
end

/-- A block of whole numbers that is known whole reads as its first numbers. -/
theorem reads_blk {k : IntKind} {w : World} {g : Nat} {t : TypeId} {cs : Array Value} (h : w.heap[g]? = some (.cells cs t (0, 0))) (xs : List Int) {n : Nat} (hn : xs.length = n) (hm : n ≤ 9223372036854775807)
    (hx : ∀ j, j < n → cs[j]? = some (.int k (xs.getD j 0))) : ReadsInt w k (some ⟨g, 0, none⟩) n xs :=
  ⟨hn, hm, fun _ => ⟨_, rfl, fun j hj => by rw [add_plain, blk_cell h]; exact hx j hj⟩⟩

end Go.Proofs.YthopfipaaboffaaH
