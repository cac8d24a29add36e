-- What of the words that the kit's print wrote for this seat is used here: wip/scratch/trim/trim.py
import Derived.Test.YtjiejmkkaekefaaProg
import Derived.WalkKit
import Derived.KernelRfl
import Derived.Deep.RegionHeld3
import Derived.Deep.RegionLawGrows
import Derived.Deep.AppendLies
import Derived.Test.YtjiejmkkaekefaaVWords
import Derived.Test.YtjiejmkkaekefaaVLast
import Derived.Test.YtjiejmkkaekefaaVMore
import Derived.Test.YtjiejmkkaekefaaVNEv
import Derived.ArgAppend
namespace Go.Proofs.YtjiejmkkaekefaaH
set_option linter.unusedVariables false
set_option linter.unusedSimpArgs false
open Go.RowKit Go.Proofs.YtjiejmkkaekefaaW.PrintWords Go.Proofs.YtjiejmkkaekefaaW.PrintLast Go.Proofs.YtjiejmkkaekefaaW.PrintMore
inductive Up : World → World → Prop
  | refl (w : World) : Up w w
  | alloc {w0 w : World} (o : Obj) (h : Up w0 w) : Up w0 (w.alloc o)
  | drew {w0 w : World} (h : Up w0 w) : Up w0 w.drew
  | drewN {w0 w : World} (n : Nat) (h : Up w0 w) : Up w0 (w.drewN n)
theorem bku {w0 w : World} {g : Nat} {o : Obj} (h : w0.heap[g]? = some o) (u : Up w0 w := by (with_reducible repeat (first | refine Up.drewN _ ?_ | refine Up.drew ?_ | refine Up.alloc _ ?_)); exact Up.refl _) : w.heap[g]? = some o := by
  induction u with
  | refl => exact h
  | alloc o _ ih => exact blk_alloc ih _
  | drew _ ih => exact blk_drew ih
  | drewN n _ ih => exact blk_drewN ih _
theorem vlu {α : Type} {d : Kd α} {e b : Nat} {w0 w : World} {ok : Nat → Prop} {v : Value} {xs : List α} (h : Kd.V d e w0 b ok v xs) (u : Up w0 w := by (with_reducible repeat (first | refine Up.drewN _ ?_ | refine Up.drew ?_ | refine Up.alloc _ ?_)); exact Up.refl _) : Kd.V d e w b ok v xs := by
  induction u with
  | refl => exact h
  | alloc o _ ih => exact Kd.V_alloc ih o
  | drew _ ih => exact Kd.V_drew ih
  | drewN n _ ih => exact Kd.V_drewN ih n
theorem rlu {α : Type} {d : Kd α} {e b : Nat} {w0 w : World} {ok : Nat → Prop} {v : Value} {xs : List α} (h : Kd.R d e w0 b ok v xs) (u : Up w0 w := by (with_reducible repeat (first | refine Up.drewN _ ?_ | refine Up.drew ?_ | refine Up.alloc _ ?_)); exact Up.refl _) : Kd.R d e w b ok v xs := by
  induction u with
  | refl => exact h
  | alloc o _ ih => exact Kd.R_alloc ih o
  | drew _ ih => exact Kd.R_drew ih
  | drewN n _ ih => exact Kd.R_drewN ih n
theorem blw {w w0 w1 : World} (h : Below w.heap.size w w0) (u : Up w0 w1 := by (with_reducible repeat (first | refine Up.drewN _ ?_ | refine Up.drew ?_ | refine Up.alloc _ ?_)); exact Up.refl _) : Below w.heap.size w w1 := by
  induction u with
  | refl => exact h
  | alloc o _ ih => exact below_alloc ih o
  | drew _ ih => exact below_drew1 ih
  | drewN n _ ih => exact pw_below_drewN ih n
theorem aA {p : Prop} (h : p) : Aside0 p := Aside0.mk h
inductive UpS (base : Nat) : World → World → Prop
  | refl (w : World) : UpS base w w
  | alloc {w0 w : World} (o : Obj) (h : UpS base w0 w) : UpS base w0 (w.alloc o)
  | drew {w0 w : World} (h : UpS base w0 w) : UpS base w0 w.drew
  | drewN {w0 w : World} (n : Nat) (h : UpS base w0 w) : UpS base w0 (w.drewN n)
  | set {w0 w : World} {g j : Nat} {v : Value} (hp : base ≤ g) (h : UpS base w0 w) : UpS base w0 (w.setCell ⟨g, j, none⟩ v)
theorem bls {w w0 w1 : World} (h : Below w.heap.size w w0) (u : UpS w.heap.size w0 w1 := by (with_reducible repeat (first | refine UpS.drewN _ ?_ | refine UpS.drew ?_ | refine UpS.alloc _ ?_ | refine UpS.set (Aside0.out (by assumption)) ?_)); exact UpS.refl _) : Below w.heap.size w w1 := by
  induction u with
  | refl => exact h
  | alloc o _ ih => exact below_alloc ih o
  | drew _ ih => exact below_drew1 ih
  | drewN n _ ih => exact pw_below_drewN ih n
  | set hp _ ih => exact below_set ih hp
end Go.Proofs.YtjiejmkkaekefaaH
