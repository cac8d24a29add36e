-- What of the words that the kit's print wrote for this seat is used here: wip/scratch/trim/trim.py
import Derived.Test.YtooefecjkgdpbaaDoorProg
import Derived.WalkKit
import Derived.KernelRfl
import Derived.Deep.RegionHeld3
import Derived.Deep.RegionLawGrows
import Derived.Deep.AppendLies
import Derived.Test.YtooefecjkgdpbaaDoorVWords
import Derived.Test.YtooefecjkgdpbaaDoorVLast
import Derived.Test.YtooefecjkgdpbaaDoorVMore
import Derived.Test.YtooefecjkgdpbaaDoorVN
import Derived.ArgAppend
namespace Go.Proofs.YtooefecjkgdpbaaDoorH
set_option linter.unusedVariables false
set_option linter.unusedSimpArgs false
open Go.RowKit Go.Proofs.YtooefecjkgdpbaaDoorW.PrintWords Go.Proofs.YtooefecjkgdpbaaDoorW.PrintLast Go.Proofs.YtooefecjkgdpbaaDoorW.PrintMore
section
variable {P : Program} {ops : Array Oper} {rest : List Oper} {o : Oper} {a : Act} {Q : Exit → Act → World → Prop}
theorem blk_store {w0 W : World} {base g j : Nat} {cs : Array Value} {e : TypeId} {t : TypeId} {p v : Operand} {u : Value}
    (hgd : o.guard = none) (hN : o.dst = none) (ho : o.op = .store t p v)
    (haddr : a.eval p = .pointer (some ⟨g, j, none⟩)) (hx : a.eval v = u)
    (hu : u.cells.toList = [u]) (hone : u.oneCell' = true) (ht : (P.info? t).map (·.size) = some 1)
    (hh : W.heap[g]? = some (.cells cs e (0, 0))) (hj : j < cs.size) (HB : Below base w0 W) (HG : base ≤ g)
    (h : ∀ w1, w1.heap[g]? = some (.cells (cs.setIfInBounds j u) e (0, 0)) → Below base w0 w1 → W.grownBy w1 (some g) → wpList P ops Q rest a w1) :
    wpList P ops Q (o :: rest) a W := by
  have hset : W.setCells g j [u] = W.setCell ⟨g, j, none⟩ u := rfl
  have hrun : (Instr.storeAt t (.pointer (some ⟨g, j, none⟩)) u).run P W = .ok () (W.setCell ⟨g, j, none⟩ u) := by
    rw [← hset]
    exact run_store_run t u [u] hh hu (by simpa using ht) (by simp; omega) (by simpa using hone)
  refine wpList_plain hgd fun K hK => ?_
  unfold Oper.wp execOp
  simp only [ho, haddr, hx, Sem.run_bind, Sem.run_pure, Result.andThen_ok, hrun]
  show K (a.put o.dst undef) _
  rw [hN]
  refine hK a _ (h _ (blk_set hh j u) (HB.setCell HG _) ?_)
  exact ⟨rfl, rfl, rfl, by simp, fun k hk hne => Below.heap_setCell W _ u k (fun he => hne (by rw [he]))⟩
theorem blk_store_all {w0 W : World} {base g : Nat} {cs : Array Value} {seg : List Value} {e : TypeId} {t : TypeId} {p v : Operand} {u : Value}
    (hgd : o.guard = none) (hN : o.dst = none) (ho : o.op = .store t p v)
    (haddr : a.eval p = .pointer (some ⟨g, 0, none⟩)) (hx : a.eval v = u)
    (hu : u.cells.toList = seg) (hone : ∀ q ∈ seg, q.oneCell' = true) (ht : (P.info? t).map (·.size) = some seg.length)
    (hh : W.heap[g]? = some (.cells cs e (0, 0))) (hj : seg.length = cs.size) (HB : Below base w0 W) (HG : base ≤ g)
    (h : ∀ w1, w1.heap[g]? = some (.cells seg.toArray e (0, 0)) → Below base w0 w1 → W.grownBy w1 (some g) → wpList P ops Q rest a w1) :
    wpList P ops Q (o :: rest) a W := by
  have hrun : (Instr.storeAt t (.pointer (some ⟨g, 0, none⟩)) u).run P W = .ok () (W.setCells g 0 seg) := run_store_run t u seg hh hu ht (by omega) hone
  obtain ⟨h1, h2, h3, h4⟩ := setCells_same g seg 0 W
  obtain ⟨cur', hc1, hc2, hc3⟩ := setCells_row seg 0 W cs hh (by omega)
  have hcur : cur' = seg.toArray := by
    apply Array.toList_inj.1
    rw [hc3]
    simp [hj]
  rw [hcur] at hc1
  have hgr : W.grownBy (W.setCells g 0 seg) (some g) := ⟨h1, h2, h3, by rw [h4]; exact Nat.le_refl _, fun k _ hne => setCells_far seg 0 k (fun he => hne (by rw [he]))⟩
  refine wpList_plain hgd fun K hK => ?_
  unfold Oper.wp execOp
  simp only [ho, haddr, hx, Sem.run_bind, Sem.run_pure, Result.andThen_ok, hrun]
  show K (a.put o.dst undef) _
  rw [hN]
  exact hK a _ (h _ hc1 (HB.grown hgr (Nat.le_trans HG (Nat.le_of_lt (blk_lt hh))) (fun k hk => by injection hk with hk; omega)) hgr)
end
theorem reads_blk {k : IntKind} {w : World} {g : Nat} {t : TypeId} {cs : Array Value} (h : w.heap[g]? = some (.cells cs t (0, 0))) (xs : List Int) {n : Nat} (hn : xs.length = n) (hm : n ≤ 9223372036854775807)
    (hx : ∀ j, j < n → cs[j]? = some (.int k (xs.getD j 0))) : ReadsInt w k (some ⟨g, 0, none⟩) n xs :=
  ⟨hn, hm, fun _ => ⟨_, rfl, fun j hj => by rw [add_plain, blk_cell h]; exact hx j hj⟩⟩
inductive Up : World → World → Prop
  | refl (w : World) : Up w w
  | alloc {w0 w : World} (o : Obj) (h : Up w0 w) : Up w0 (w.alloc o)
  | drew {w0 w : World} (h : Up w0 w) : Up w0 w.drew
  | drewN {w0 w : World} (n : Nat) (h : Up w0 w) : Up w0 (w.drewN n)
theorem bku {w0 w : World} {g : Nat} {o : Obj} (h : w0.heap[g]? = some o) (u : Up w0 w := by (with_reducible repeat (first | refine Up.drewN _ ?_ | refine Up.drew ?_ | refine Up.alloc _ ?_)); exact Up.refl _) : w.heap[g]? = some o := by
  induction u with
  | refl => exact h
  | alloc o _ ih => exact blk_alloc ih _
  | drew _ ih => exact blk_drew ih
  | drewN n _ ih => exact blk_drewN ih _
theorem rlu {α : Type} {d : Kd α} {e b : Nat} {w0 w : World} {ok : Nat → Prop} {v : Value} {xs : List α} (h : Kd.R d e w0 b ok v xs) (u : Up w0 w := by (with_reducible repeat (first | refine Up.drewN _ ?_ | refine Up.drew ?_ | refine Up.alloc _ ?_)); exact Up.refl _) : Kd.R d e w b ok v xs := by
  induction u with
  | refl => exact h
  | alloc o _ ih => exact Kd.R_alloc ih o
  | drew _ ih => exact Kd.R_drew ih
  | drewN n _ ih => exact Kd.R_drewN ih n
theorem blw {w w0 w1 : World} (h : Below w.heap.size w w0) (u : Up w0 w1 := by (with_reducible repeat (first | refine Up.drewN _ ?_ | refine Up.drew ?_ | refine Up.alloc _ ?_)); exact Up.refl _) : Below w.heap.size w w1 := by
  induction u with
  | refl => exact h
  | alloc o _ ih => exact below_alloc ih o
  | drew _ ih => exact below_drew1 ih
  | drewN n _ ih => exact pw_below_drewN ih n
theorem aA {p : Prop} (h : p) : Aside0 p := Aside0.mk h
inductive UpS (base : Nat) : World → World → Prop
  | refl (w : World) : UpS base w w
  | alloc {w0 w : World} (o : Obj) (h : UpS base w0 w) : UpS base w0 (w.alloc o)
  | drew {w0 w : World} (h : UpS base w0 w) : UpS base w0 w.drew
  | drewN {w0 w : World} (n : Nat) (h : UpS base w0 w) : UpS base w0 (w.drewN n)
  | set {w0 w : World} {g j : Nat} {v : Value} (hp : base ≤ g) (h : UpS base w0 w) : UpS base w0 (w.setCell ⟨g, j, none⟩ v)
theorem bls {w w0 w1 : World} (h : Below w.heap.size w w0) (u : UpS w.heap.size w0 w1 := by (with_reducible repeat (first | refine UpS.drewN _ ?_ | refine UpS.drew ?_ | refine UpS.alloc _ ?_ | refine UpS.set (Aside0.out (by assumption)) ?_)); exact UpS.refl _) : Below w.heap.size w w1 := by
  induction u with
  | refl => exact h
  | alloc o _ ih => exact below_alloc ih o
  | drew _ ih => exact below_drew1 ih
  | drewN n _ ih => exact pw_below_drewN ih n
  | set hp _ ih => exact below_set ih hp
end Go.Proofs.YtooefecjkgdpbaaDoorH
