-- Written by wip/hprint/hprint.py (a program of this session, over the print): not typed by hand
import Derived.Test.YtcjkjlopbjijaaaPQx0
import Derived.Test.YtcjkjlopbjijaaaPQx4
import Derived.Test.YtcjkjlopbjijaaaPQx5
import Derived.Test.YtcjkjlopbjijaaaPQx6
import Derived.Test.YtcjkjlopbjijaaaPQx7
namespace Go.Proofs.Ytcjkjlopbjijaaa.PQ
open Go.RowKit Go.Proofs.YtcjkjlopbjijaaaW.PrintWords Go.Proofs.YtcjkjlopbjijaaaW.PrintLast Go.Proofs.YtcjkjlopbjijaaaW.PrintMore
attribute [local go_sem] max2_int min2_int max_two min_two max_three min_three max_four min_four   -- for this text's walks alone
open Go.Proofs.YtcjkjlopbjijaaaH
set_option linter.unusedVariables false
set_option linter.unusedSimpArgs false

/-! ### treillagelaw16_QueueOne: function 12 -/
mutual
def treillagelaw16_QueueOne.j0 : Nat → Int → List Int → List Bool → Bool → Option (Bool)
 | 0, _, _, _, _ => none
 | k + 1, x0, x1, x2, x33 => if x33 = true then ((treillagelaw16_shown.f k).bind fun t188 => (some t188)) else (treillagelaw16_QueueOne.l0 k x1 x2 1 0 1 (wrap64 (1 + (Int.tmod (wrap64 (x0)) 4))))
def treillagelaw16_QueueOne.l0 : Nat → List Int → List Bool → Int → Int → Int → Int → Option (Bool)
 | 0, _, _, _, _, _, _ => none
 | k + 1, x1, x2, x8, x9, x190000, x190001 => if x9 < x190001 then (treillagelaw16_QueueOne.l0 k x1 x2 (wrap64 (x8 * 2)) (wrap64 (x9 + 1)) x190000 x190001) else ((mem_New.f k x190000 x190001).bind fun t190 => (treillagelaw16_QueueOne.l1 k x1 x2 x8 t190 (([] : List Int)) 0 x190000 x190001 0 0 0))
def treillagelaw16_QueueOne.l1 : Nat → List Int → List Bool → Int → List Int → List Int → Int → Int → Int → Int → Int → Int → Option (Bool)
 | 0, _, _, _, _, _, _, _, _, _, _, _ => none
 | k + 1, x1, x2, x8, x10, x12, x13, x190000, x190001, x194000, x194001, x194002 => if x13 < (x1.length : Int) then (if 0 ≤ x13 then (treillagelaw16_QueueOne.l2 k x1 x2 x8 x10 x12 x13 0 x190000 x190001 x194000 x194001 x194002 0 0 (rd x1 x13)) else (none)) else (some true)
def treillagelaw16_QueueOne.j4 : Nat → List Int → List Bool → Int → List Int → List Int → Int → Int → Int → Int → Int → Int → Int → Int → Int → Int → Option (Bool)
 | 0, _, _, _, _, _, _, _, _, _, _, _, _, _, _, _ => none
 | k + 1, x1, x2, x8, x10, x12, x13, x15, x190000, x190001, x194000, x194001, x194002, x199000, x199001, x199002 => if (x12.length : Int) = x8 then (if x199000 = 6 then (if x15 = 2 then (treillagelaw16_QueueOne.j5 k x1 x2 x8 x10 x12 x13 true false x190000 x190001 x194000 x194001 x194002) else (treillagelaw16_QueueOne.j5 k x1 x2 x8 x10 x12 x13 true true x190000 x190001 x194000 x194001 x194002)) else (treillagelaw16_QueueOne.j5 k x1 x2 x8 x10 x12 x13 true true x190000 x190001 x194000 x194001 x194002)) else (if x199000 = 5 then (treillagelaw16_QueueOne.j5 k x1 x2 x8 x10 x12 x13 false (x15 != 5) x190000 x190001 x194000 x194001 x194002) else (treillagelaw16_QueueOne.j5 k x1 x2 x8 x10 x12 x13 false true x190000 x190001 x194000 x194001 x194002))
def treillagelaw16_QueueOne.j5 : Nat → List Int → List Bool → Int → List Int → List Int → Int → Bool → Bool → Int → Int → Int → Int → Int → Option (Bool)
 | 0, _, _, _, _, _, _, _, _, _, _, _, _, _ => none
 | k + 1, x1, x2, x8, x10, x12, x13, x21, x113, x190000, x190001, x194000, x194001, x194002 => if x113 = true then (some false) else (if x21 = true then (treillagelaw16_QueueOne.j6 k x1 x2 x8 x10 x12 x13 x190000 x190001 x194000 x194001 x194002) else (if 0 ≤ x13 then (if x13 < (x1.length : Int) then (if x12.length < 17592186044416 then (treillagelaw16_QueueOne.j6 k x1 x2 x8 x10 (x12 ++ [rd x1 x13]) x13 x190000 x190001 x194000 x194001 x194002) else (none)) else (none)) else (none)))
def treillagelaw16_QueueOne.j6 : Nat → List Int → List Bool → Int → List Int → List Int → Int → Int → Int → Int → Int → Int → Option (Bool)
 | 0, _, _, _, _, _, _, _, _, _, _, _ => none
 | k + 1, x1, x2, x8, x10, x12, x13, x190000, x190001, x194000, x194001, x194002 => if x13 < (x2.length : Int) then (if 0 ≤ x13 then (if rdOf false x2 x13 = true then (treillagelaw16_QueueOne.j7 k x1 x2 x8 x10 x12 x13 (decide ((x12.length : Int) > 0)) x190000 x190001 x194000 x194001 x194002) else (treillagelaw16_QueueOne.j7 k x1 x2 x8 x10 x12 x13 false x190000 x190001 x194000 x194001 x194002)) else (none)) else (treillagelaw16_QueueOne.j7 k x1 x2 x8 x10 x12 x13 false x190000 x190001 x194000 x194001 x194002)
def treillagelaw16_QueueOne.j7 : Nat → List Int → List Bool → Int → List Int → List Int → Int → Bool → Int → Int → Int → Int → Int → Option (Bool)
 | 0, _, _, _, _, _, _, _, _, _, _, _, _ => none
 | k + 1, x1, x2, x8, x10, x12, x13, x137, x190000, x190001, x194000, x194001, x194002 => if x137 = true then (treillagelaw16_QueueOne.l3 k x1 x2 x8 x10 x12 x13 false 0 x190000 x190001 x194000 x194001 x194002) else (treillagelaw16_QueueOne.l1 k x1 x2 x8 x10 x12 (wrap64 (x13 + 1)) x190000 x190001 x194000 x194001 x194002)
def treillagelaw16_QueueOne.l3 : Nat → List Int → List Bool → Int → List Int → List Int → Int → Bool → Int → Int → Int → Int → Int → Int → Option (Bool)
 | 0, _, _, _, _, _, _, _, _, _, _, _, _, _ => none
 | k + 1, x1, x2, x8, x10, x12, x13, x22, x23, x190000, x190001, x194000, x194001, x194002 => if x23 < 3 then ((queue_Next.f x190000 x190001 x194000 x194001 x194002).bind fun bt218 => ((mem_Do.f x10 bt218.1 bt218.2.1 bt218.2.2.1 bt218.2.2.2).bind fun bt222 => ((queue_Given.f k x190000 x190001 x194000 x194001 x194002 bt222.2.1).bind fun bt227 => (treillagelaw16_QueueOne.l3 k x1 x2 x8 bt222.1 x12 x13 bt227.2.2.2 (wrap64 (x23 + 1)) x190000 x190001 bt227.1 bt227.2.1 bt227.2.2.1)))) else (if x22 = true then (if 0 < (x12.length : Int) then (if x194002 = (rd x12 0) then (if 1 ≤ (x12.length : Int) then (treillagelaw16_QueueOne.l1 k x1 x2 x8 x10 (x12.drop (1 : Int).toNat) (wrap64 (x13 + 1)) x190000 x190001 x194000 x194001 x194002) else (none)) else (some false)) else (none)) else (some false))
def treillagelaw16_QueueOne.l2 : Nat → List Int → List Bool → Int → List Int → List Int → Int → Int → Int → Int → Int → Int → Int → Int → Int → Int → Option (Bool)
 | 0, _, _, _, _, _, _, _, _, _, _, _, _, _, _, _ => none
 | k + 1, x1, x2, x8, x10, x12, x13, x15, x190000, x190001, x194000, x194001, x194002, x199000, x199001, x199002 => if x15 < 6 then ((queue_Want.f x190000 x190001 x199000 x199001 x199002).bind fun bt199 => (if bt199.2.2.2.2 = true then ((mem_Do.f x10 bt199.1 bt199.2.1 bt199.2.2.1 bt199.2.2.2.1).bind fun bt205 => ((queue_Got.f k x199000 x199001 x199002 bt205.2.1 bt205.2.2).bind fun bt210 => (treillagelaw16_QueueOne.l2 k x1 x2 x8 bt205.1 x12 x13 (wrap64 (x15 + 1)) x190000 x190001 x194000 x194001 x194002 bt210.1 bt210.2.1 bt210.2.2))) else (treillagelaw16_QueueOne.j4 k x1 x2 x8 x10 x12 x13 x15 x190000 x190001 x194000 x194001 x194002 x199000 x199001 x199002))) else (treillagelaw16_QueueOne.j4 k x1 x2 x8 x10 x12 x13 x15 x190000 x190001 x194000 x194001 x194002 x199000 x199001 x199002)
end
def treillagelaw16_QueueOne.f (k : Nat) (a0 : Int) (l1 : List Int) (l2 : List Bool) : Option (Bool) := if (l1.length : Int) > 40 then (treillagelaw16_QueueOne.j0 k a0 l1 l2 true) else ((treillagelaw16_shown.f k).bind fun t187 => (treillagelaw16_QueueOne.j0 k a0 l1 l2 (!t187)))
theorem treillagelaw16_QueueOne.mono_l : ∀ k, (∀ y0 y1 y2 y3, LeO (treillagelaw16_QueueOne.j0 k y0 y1 y2 y3) (treillagelaw16_QueueOne.j0 (k + 1) y0 y1 y2 y3)) ∧ (∀ y0 y1 y2 y3 y4 y5, LeO (treillagelaw16_QueueOne.l0 k y0 y1 y2 y3 y4 y5) (treillagelaw16_QueueOne.l0 (k + 1) y0 y1 y2 y3 y4 y5)) ∧ (∀ y0 y1 y2 y3 y4 y5 y6 y7 y8 y9 y10, LeO (treillagelaw16_QueueOne.l1 k y0 y1 y2 y3 y4 y5 y6 y7 y8 y9 y10) (treillagelaw16_QueueOne.l1 (k + 1) y0 y1 y2 y3 y4 y5 y6 y7 y8 y9 y10)) ∧ (∀ y0 y1 y2 y3 y4 y5 y6 y7 y8 y9 y10 y11 y12 y13 y14, LeO (treillagelaw16_QueueOne.j4 k y0 y1 y2 y3 y4 y5 y6 y7 y8 y9 y10 y11 y12 y13 y14) (treillagelaw16_QueueOne.j4 (k + 1) y0 y1 y2 y3 y4 y5 y6 y7 y8 y9 y10 y11 y12 y13 y14)) ∧ (∀ y0 y1 y2 y3 y4 y5 y6 y7 y8 y9 y10 y11 y12, LeO (treillagelaw16_QueueOne.j5 k y0 y1 y2 y3 y4 y5 y6 y7 y8 y9 y10 y11 y12) (treillagelaw16_QueueOne.j5 (k + 1) y0 y1 y2 y3 y4 y5 y6 y7 y8 y9 y10 y11 y12)) ∧ (∀ y0 y1 y2 y3 y4 y5 y6 y7 y8 y9 y10, LeO (treillagelaw16_QueueOne.j6 k y0 y1 y2 y3 y4 y5 y6 y7 y8 y9 y10) (treillagelaw16_QueueOne.j6 (k + 1) y0 y1 y2 y3 y4 y5 y6 y7 y8 y9 y10)) ∧ (∀ y0 y1 y2 y3 y4 y5 y6 y7 y8 y9 y10 y11, LeO (treillagelaw16_QueueOne.j7 k y0 y1 y2 y3 y4 y5 y6 y7 y8 y9 y10 y11) (treillagelaw16_QueueOne.j7 (k + 1) y0 y1 y2 y3 y4 y5 y6 y7 y8 y9 y10 y11)) ∧ (∀ y0 y1 y2 y3 y4 y5 y6 y7 y8 y9 y10 y11 y12, LeO (treillagelaw16_QueueOne.l3 k y0 y1 y2 y3 y4 y5 y6 y7 y8 y9 y10 y11 y12) (treillagelaw16_QueueOne.l3 (k + 1) y0 y1 y2 y3 y4 y5 y6 y7 y8 y9 y10 y11 y12)) ∧ (∀ y0 y1 y2 y3 y4 y5 y6 y7 y8 y9 y10 y11 y12 y13 y14, LeO (treillagelaw16_QueueOne.l2 k y0 y1 y2 y3 y4 y5 y6 y7 y8 y9 y10 y11 y12 y13 y14) (treillagelaw16_QueueOne.l2 (k + 1) y0 y1 y2 y3 y4 y5 y6 y7 y8 y9 y10 y11 y12 y13 y14))
 | 0 => ⟨fun _ _ _ _ r h => by simp [treillagelaw16_QueueOne.j0] at h, fun _ _ _ _ _ _ r h => by simp [treillagelaw16_QueueOne.l0] at h, fun _ _ _ _ _ _ _ _ _ _ _ r h => by simp [treillagelaw16_QueueOne.l1] at h, fun _ _ _ _ _ _ _ _ _ _ _ _ _ _ _ r h => by simp [treillagelaw16_QueueOne.j4] at h, fun _ _ _ _ _ _ _ _ _ _ _ _ _ r h => by simp [treillagelaw16_QueueOne.j5] at h, fun _ _ _ _ _ _ _ _ _ _ _ r h => by simp [treillagelaw16_QueueOne.j6] at h, fun _ _ _ _ _ _ _ _ _ _ _ _ r h => by simp [treillagelaw16_QueueOne.j7] at h, fun _ _ _ _ _ _ _ _ _ _ _ _ _ r h => by simp [treillagelaw16_QueueOne.l3] at h, fun _ _ _ _ _ _ _ _ _ _ _ _ _ _ _ r h => by simp [treillagelaw16_QueueOne.l2] at h⟩
 | k + 1 => by
  obtain ⟨ih0, ih1, ih2, ih3, ih4, ih5, ih6, ih7, ih8⟩ := treillagelaw16_QueueOne.mono_l k
  refine ⟨?_, ?_, ?_, ?_, ?_, ?_, ?_, ?_, ?_⟩
  ·intro y0 y1 y2 y3
   unfold treillagelaw16_QueueOne.j0
   repeat' first
   | (with_reducible exact ih0 _ _ _ _)
   | (with_reducible exact ih1 _ _ _ _ _ _)
   | (with_reducible exact ih2 _ _ _ _ _ _ _ _ _ _ _)
   | (with_reducible exact ih3 _ _ _ _ _ _ _ _ _ _ _ _ _ _ _)
   | (with_reducible exact ih4 _ _ _ _ _ _ _ _ _ _ _ _ _)
   | (with_reducible exact ih5 _ _ _ _ _ _ _ _ _ _ _)
   | (with_reducible exact ih6 _ _ _ _ _ _ _ _ _ _ _ _)
   | (with_reducible exact ih7 _ _ _ _ _ _ _ _ _ _ _ _ _)
   | (with_reducible exact ih8 _ _ _ _ _ _ _ _ _ _ _ _ _ _ _)
   | (with_reducible exact mem_New.mono _ _ _)
   | (with_reducible exact queue_Given.mono _ _ _ _ _ _ _)
   | (with_reducible exact queue_Got.mono _ _ _ _ _ _)
   | (with_reducible exact treillagelaw16_shown.mono _)
   | (with_reducible exact LeO.refl _)
   | (with_reducible exact LeO.none _)
   | (with_reducible refine LeO.ite ?_ ?_)
   | (with_reducible refine LeO.bind ?_ (fun _ => ?_))
   | exact ih0 _ _ _ _
   | exact ih1 _ _ _ _ _ _
   | exact ih2 _ _ _ _ _ _ _ _ _ _ _
   | exact ih3 _ _ _ _ _ _ _ _ _ _ _ _ _ _ _
   | exact ih4 _ _ _ _ _ _ _ _ _ _ _ _ _
   | exact ih5 _ _ _ _ _ _ _ _ _ _ _
   | exact ih6 _ _ _ _ _ _ _ _ _ _ _ _
   | exact ih7 _ _ _ _ _ _ _ _ _ _ _ _ _
   | exact ih8 _ _ _ _ _ _ _ _ _ _ _ _ _ _ _
   | exact mem_New.mono _ _ _
   | exact queue_Given.mono _ _ _ _ _ _ _
   | exact queue_Got.mono _ _ _ _ _ _
   | exact treillagelaw16_shown.mono _
   | exact LeO.none _
   | refine LeO.ite ?_ ?_
   | refine LeO.bind ?_ (fun _ => ?_)
  ·intro y0 y1 y2 y3 y4 y5
   unfold treillagelaw16_QueueOne.l0
   repeat' first
   | (with_reducible exact ih0 _ _ _ _)
   | (with_reducible exact ih1 _ _ _ _ _ _)
   | (with_reducible exact ih2 _ _ _ _ _ _ _ _ _ _ _)
   | (with_reducible exact ih3 _ _ _ _ _ _ _ _ _ _ _ _ _ _ _)
   | (with_reducible exact ih4 _ _ _ _ _ _ _ _ _ _ _ _ _)
   | (with_reducible exact ih5 _ _ _ _ _ _ _ _ _ _ _)
   | (with_reducible exact ih6 _ _ _ _ _ _ _ _ _ _ _ _)
   | (with_reducible exact ih7 _ _ _ _ _ _ _ _ _ _ _ _ _)
   | (with_reducible exact ih8 _ _ _ _ _ _ _ _ _ _ _ _ _ _ _)
   | (with_reducible exact mem_New.mono _ _ _)
   | (with_reducible exact queue_Given.mono _ _ _ _ _ _ _)
   | (with_reducible exact queue_Got.mono _ _ _ _ _ _)
   | (with_reducible exact treillagelaw16_shown.mono _)
   | (with_reducible exact LeO.refl _)
   | (with_reducible exact LeO.none _)
   | (with_reducible refine LeO.ite ?_ ?_)
   | (with_reducible refine LeO.bind ?_ (fun _ => ?_))
   | exact ih0 _ _ _ _
   | exact ih1 _ _ _ _ _ _
   | exact ih2 _ _ _ _ _ _ _ _ _ _ _
   | exact ih3 _ _ _ _ _ _ _ _ _ _ _ _ _ _ _
   | exact ih4 _ _ _ _ _ _ _ _ _ _ _ _ _
   | exact ih5 _ _ _ _ _ _ _ _ _ _ _
   | exact ih6 _ _ _ _ _ _ _ _ _ _ _ _
   | exact ih7 _ _ _ _ _ _ _ _ _ _ _ _ _
   | exact ih8 _ _ _ _ _ _ _ _ _ _ _ _ _ _ _
   | exact mem_New.mono _ _ _
   | exact queue_Given.mono _ _ _ _ _ _ _
   | exact queue_Got.mono _ _ _ _ _ _
   | exact treillagelaw16_shown.mono _
   | exact LeO.none _
   | refine LeO.ite ?_ ?_
   | refine LeO.bind ?_ (fun _ => ?_)
  ·intro y0 y1 y2 y3 y4 y5 y6 y7 y8 y9 y10
   unfold treillagelaw16_QueueOne.l1
   repeat' first
   | (with_reducible exact ih0 _ _ _ _)
   | (with_reducible exact ih1 _ _ _ _ _ _)
   | (with_reducible exact ih2 _ _ _ _ _ _ _ _ _ _ _)
   | (with_reducible exact ih3 _ _ _ _ _ _ _ _ _ _ _ _ _ _ _)
   | (with_reducible exact ih4 _ _ _ _ _ _ _ _ _ _ _ _ _)
   | (with_reducible exact ih5 _ _ _ _ _ _ _ _ _ _ _)
   | (with_reducible exact ih6 _ _ _ _ _ _ _ _ _ _ _ _)
   | (with_reducible exact ih7 _ _ _ _ _ _ _ _ _ _ _ _ _)
   | (with_reducible exact ih8 _ _ _ _ _ _ _ _ _ _ _ _ _ _ _)
   | (with_reducible exact mem_New.mono _ _ _)
   | (with_reducible exact queue_Given.mono _ _ _ _ _ _ _)
   | (with_reducible exact queue_Got.mono _ _ _ _ _ _)
   | (with_reducible exact treillagelaw16_shown.mono _)
   | (with_reducible exact LeO.refl _)
   | (with_reducible exact LeO.none _)
   | (with_reducible refine LeO.ite ?_ ?_)
   | (with_reducible refine LeO.bind ?_ (fun _ => ?_))
   | exact ih0 _ _ _ _
   | exact ih1 _ _ _ _ _ _
   | exact ih2 _ _ _ _ _ _ _ _ _ _ _
   | exact ih3 _ _ _ _ _ _ _ _ _ _ _ _ _ _ _
   | exact ih4 _ _ _ _ _ _ _ _ _ _ _ _ _
   | exact ih5 _ _ _ _ _ _ _ _ _ _ _
   | exact ih6 _ _ _ _ _ _ _ _ _ _ _ _
   | exact ih7 _ _ _ _ _ _ _ _ _ _ _ _ _
   | exact ih8 _ _ _ _ _ _ _ _ _ _ _ _ _ _ _
   | exact mem_New.mono _ _ _
   | exact queue_Given.mono _ _ _ _ _ _ _
   | exact queue_Got.mono _ _ _ _ _ _
   | exact treillagelaw16_shown.mono _
   | exact LeO.none _
   | refine LeO.ite ?_ ?_
   | refine LeO.bind ?_ (fun _ => ?_)
  ·intro y0 y1 y2 y3 y4 y5 y6 y7 y8 y9 y10 y11 y12 y13 y14
   unfold treillagelaw16_QueueOne.j4
   repeat' first
   | (with_reducible exact ih0 _ _ _ _)
   | (with_reducible exact ih1 _ _ _ _ _ _)
   | (with_reducible exact ih2 _ _ _ _ _ _ _ _ _ _ _)
   | (with_reducible exact ih3 _ _ _ _ _ _ _ _ _ _ _ _ _ _ _)
   | (with_reducible exact ih4 _ _ _ _ _ _ _ _ _ _ _ _ _)
   | (with_reducible exact ih5 _ _ _ _ _ _ _ _ _ _ _)
   | (with_reducible exact ih6 _ _ _ _ _ _ _ _ _ _ _ _)
   | (with_reducible exact ih7 _ _ _ _ _ _ _ _ _ _ _ _ _)
   | (with_reducible exact ih8 _ _ _ _ _ _ _ _ _ _ _ _ _ _ _)
   | (with_reducible exact mem_New.mono _ _ _)
   | (with_reducible exact queue_Given.mono _ _ _ _ _ _ _)
   | (with_reducible exact queue_Got.mono _ _ _ _ _ _)
   | (with_reducible exact treillagelaw16_shown.mono _)
   | (with_reducible exact LeO.refl _)
   | (with_reducible exact LeO.none _)
   | (with_reducible refine LeO.ite ?_ ?_)
   | (with_reducible refine LeO.bind ?_ (fun _ => ?_))
   | exact ih0 _ _ _ _
   | exact ih1 _ _ _ _ _ _
   | exact ih2 _ _ _ _ _ _ _ _ _ _ _
   | exact ih3 _ _ _ _ _ _ _ _ _ _ _ _ _ _ _
   | exact ih4 _ _ _ _ _ _ _ _ _ _ _ _ _
   | exact ih5 _ _ _ _ _ _ _ _ _ _ _
   | exact ih6 _ _ _ _ _ _ _ _ _ _ _ _
   | exact ih7 _ _ _ _ _ _ _ _ _ _ _ _ _
   | exact ih8 _ _ _ _ _ _ _ _ _ _ _ _ _ _ _
   | exact mem_New.mono _ _ _
   | exact queue_Given.mono _ _ _ _ _ _ _
   | exact queue_Got.mono _ _ _ _ _ _
   | exact treillagelaw16_shown.mono _
   | exact LeO.none _
   | refine LeO.ite ?_ ?_
   | refine LeO.bind ?_ (fun _ => ?_)
  ·intro y0 y1 y2 y3 y4 y5 y6 y7 y8 y9 y10 y11 y12
   unfold treillagelaw16_QueueOne.j5
   repeat' first
   | (with_reducible exact ih0 _ _ _ _)
   | (with_reducible exact ih1 _ _ _ _ _ _)
   | (with_reducible exact ih2 _ _ _ _ _ _ _ _ _ _ _)
   | (with_reducible exact ih3 _ _ _ _ _ _ _ _ _ _ _ _ _ _ _)
   | (with_reducible exact ih4 _ _ _ _ _ _ _ _ _ _ _ _ _)
   | (with_reducible exact ih5 _ _ _ _ _ _ _ _ _ _ _)
   | (with_reducible exact ih6 _ _ _ _ _ _ _ _ _ _ _ _)
   | (with_reducible exact ih7 _ _ _ _ _ _ _ _ _ _ _ _ _)
   | (with_reducible exact ih8 _ _ _ _ _ _ _ _ _ _ _ _ _ _ _)
   | (with_reducible exact mem_New.mono _ _ _)
   | (with_reducible exact queue_Given.mono _ _ _ _ _ _ _)
   | (with_reducible exact queue_Got.mono _ _ _ _ _ _)
   | (with_reducible exact treillagelaw16_shown.mono _)
   | (with_reducible exact LeO.refl _)
   | (with_reducible exact LeO.none _)
   | (with_reducible refine LeO.ite ?_ ?_)
   | (with_reducible refine LeO.bind ?_ (fun _ => ?_))
   | exact ih0 _ _ _ _
   | exact ih1 _ _ _ _ _ _
   | exact ih2 _ _ _ _ _ _ _ _ _ _ _
   | exact ih3 _ _ _ _ _ _ _ _ _ _ _ _ _ _ _
   | exact ih4 _ _ _ _ _ _ _ _ _ _ _ _ _
   | exact ih5 _ _ _ _ _ _ _ _ _ _ _
   | exact ih6 _ _ _ _ _ _ _ _ _ _ _ _
   | exact ih7 _ _ _ _ _ _ _ _ _ _ _ _ _
   | exact ih8 _ _ _ _ _ _ _ _ _ _ _ _ _ _ _
   | exact mem_New.mono _ _ _
   | exact queue_Given.mono _ _ _ _ _ _ _
   | exact queue_Got.mono _ _ _ _ _ _
   | exact treillagelaw16_shown.mono _
   | exact LeO.none _
   | refine LeO.ite ?_ ?_
   | refine LeO.bind ?_ (fun _ => ?_)
  ·intro y0 y1 y2 y3 y4 y5 y6 y7 y8 y9 y10
   unfold treillagelaw16_QueueOne.j6
   repeat' first
   | (with_reducible exact ih0 _ _ _ _)
   | (with_reducible exact ih1 _ _ _ _ _ _)
   | (with_reducible exact ih2 _ _ _ _ _ _ _ _ _ _ _)
   | (with_reducible exact ih3 _ _ _ _ _ _ _ _ _ _ _ _ _ _ _)
   | (with_reducible exact ih4 _ _ _ _ _ _ _ _ _ _ _ _ _)
   | (with_reducible exact ih5 _ _ _ _ _ _ _ _ _ _ _)
   | (with_reducible exact ih6 _ _ _ _ _ _ _ _ _ _ _ _)
   | (with_reducible exact ih7 _ _ _ _ _ _ _ _ _ _ _ _ _)
   | (with_reducible exact ih8 _ _ _ _ _ _ _ _ _ _ _ _ _ _ _)
   | (with_reducible exact mem_New.mono _ _ _)
   | (with_reducible exact queue_Given.mono _ _ _ _ _ _ _)
   | (with_reducible exact queue_Got.mono _ _ _ _ _ _)
   | (with_reducible exact treillagelaw16_shown.mono _)
   | (with_reducible exact LeO.refl _)
   | (with_reducible exact LeO.none _)
   | (with_reducible refine LeO.ite ?_ ?_)
   | (with_reducible refine LeO.bind ?_ (fun _ => ?_))
   | exact ih0 _ _ _ _
   | exact ih1 _ _ _ _ _ _
   | exact ih2 _ _ _ _ _ _ _ _ _ _ _
   | exact ih3 _ _ _ _ _ _ _ _ _ _ _ _ _ _ _
   | exact ih4 _ _ _ _ _ _ _ _ _ _ _ _ _
   | exact ih5 _ _ _ _ _ _ _ _ _ _ _
   | exact ih6 _ _ _ _ _ _ _ _ _ _ _ _
   | exact ih7 _ _ _ _ _ _ _ _ _ _ _ _ _
   | exact ih8 _ _ _ _ _ _ _ _ _ _ _ _ _ _ _
   | exact mem_New.mono _ _ _
   | exact queue_Given.mono _ _ _ _ _ _ _
   | exact queue_Got.mono _ _ _ _ _ _
   | exact treillagelaw16_shown.mono _
   | exact LeO.none _
   | refine LeO.ite ?_ ?_
   | refine LeO.bind ?_ (fun _ => ?_)
  ·intro y0 y1 y2 y3 y4 y5 y6 y7 y8 y9 y10 y11
   unfold treillagelaw16_QueueOne.j7
   repeat' first
   | (with_reducible exact ih0 _ _ _ _)
   | (with_reducible exact ih1 _ _ _ _ _ _)
   | (with_reducible exact ih2 _ _ _ _ _ _ _ _ _ _ _)
   | (with_reducible exact ih3 _ _ _ _ _ _ _ _ _ _ _ _ _ _ _)
   | (with_reducible exact ih4 _ _ _ _ _ _ _ _ _ _ _ _ _)
   | (with_reducible exact ih5 _ _ _ _ _ _ _ _ _ _ _)
   | (with_reducible exact ih6 _ _ _ _ _ _ _ _ _ _ _ _)
   | (with_reducible exact ih7 _ _ _ _ _ _ _ _ _ _ _ _ _)
   | (with_reducible exact ih8 _ _ _ _ _ _ _ _ _ _ _ _ _ _ _)
   | (with_reducible exact mem_New.mono _ _ _)
   | (with_reducible exact queue_Given.mono _ _ _ _ _ _ _)
   | (with_reducible exact queue_Got.mono _ _ _ _ _ _)
   | (with_reducible exact treillagelaw16_shown.mono _)
   | (with_reducible exact LeO.refl _)
   | (with_reducible exact LeO.none _)
   | (with_reducible refine LeO.ite ?_ ?_)
   | (with_reducible refine LeO.bind ?_ (fun _ => ?_))
   | exact ih0 _ _ _ _
   | exact ih1 _ _ _ _ _ _
   | exact ih2 _ _ _ _ _ _ _ _ _ _ _
   | exact ih3 _ _ _ _ _ _ _ _ _ _ _ _ _ _ _
   | exact ih4 _ _ _ _ _ _ _ _ _ _ _ _ _
   | exact ih5 _ _ _ _ _ _ _ _ _ _ _
   | exact ih6 _ _ _ _ _ _ _ _ _ _ _ _
   | exact ih7 _ _ _ _ _ _ _ _ _ _ _ _ _
   | exact ih8 _ _ _ _ _ _ _ _ _ _ _ _ _ _ _
   | exact mem_New.mono _ _ _
   | exact queue_Given.mono _ _ _ _ _ _ _
   | exact queue_Got.mono _ _ _ _ _ _
   | exact treillagelaw16_shown.mono _
   | exact LeO.none _
   | refine LeO.ite ?_ ?_
   | refine LeO.bind ?_ (fun _ => ?_)
  ·intro y0 y1 y2 y3 y4 y5 y6 y7 y8 y9 y10 y11 y12
   unfold treillagelaw16_QueueOne.l3
   repeat' first
   | (with_reducible exact ih0 _ _ _ _)
   | (with_reducible exact ih1 _ _ _ _ _ _)
   | (with_reducible exact ih2 _ _ _ _ _ _ _ _ _ _ _)
   | (with_reducible exact ih3 _ _ _ _ _ _ _ _ _ _ _ _ _ _ _)
   | (with_reducible exact ih4 _ _ _ _ _ _ _ _ _ _ _ _ _)
   | (with_reducible exact ih5 _ _ _ _ _ _ _ _ _ _ _)
   | (with_reducible exact ih6 _ _ _ _ _ _ _ _ _ _ _ _)
   | (with_reducible exact ih7 _ _ _ _ _ _ _ _ _ _ _ _ _)
   | (with_reducible exact ih8 _ _ _ _ _ _ _ _ _ _ _ _ _ _ _)
   | (with_reducible exact mem_New.mono _ _ _)
   | (with_reducible exact queue_Given.mono _ _ _ _ _ _ _)
   | (with_reducible exact queue_Got.mono _ _ _ _ _ _)
   | (with_reducible exact treillagelaw16_shown.mono _)
   | (with_reducible exact LeO.refl _)
   | (with_reducible exact LeO.none _)
   | (with_reducible refine LeO.ite ?_ ?_)
   | (with_reducible refine LeO.bind ?_ (fun _ => ?_))
   | exact ih0 _ _ _ _
   | exact ih1 _ _ _ _ _ _
   | exact ih2 _ _ _ _ _ _ _ _ _ _ _
   | exact ih3 _ _ _ _ _ _ _ _ _ _ _ _ _ _ _
   | exact ih4 _ _ _ _ _ _ _ _ _ _ _ _ _
   | exact ih5 _ _ _ _ _ _ _ _ _ _ _
   | exact ih6 _ _ _ _ _ _ _ _ _ _ _ _
   | exact ih7 _ _ _ _ _ _ _ _ _ _ _ _ _
   | exact ih8 _ _ _ _ _ _ _ _ _ _ _ _ _ _ _
   | exact mem_New.mono _ _ _
   | exact queue_Given.mono _ _ _ _ _ _ _
   | exact queue_Got.mono _ _ _ _ _ _
   | exact treillagelaw16_shown.mono _
   | exact LeO.none _
   | refine LeO.ite ?_ ?_
   | refine LeO.bind ?_ (fun _ => ?_)
  ·intro y0 y1 y2 y3 y4 y5 y6 y7 y8 y9 y10 y11 y12 y13 y14
   unfold treillagelaw16_QueueOne.l2
   repeat' first
   | (with_reducible exact ih0 _ _ _ _)
   | (with_reducible exact ih1 _ _ _ _ _ _)
   | (with_reducible exact ih2 _ _ _ _ _ _ _ _ _ _ _)
   | (with_reducible exact ih3 _ _ _ _ _ _ _ _ _ _ _ _ _ _ _)
   | (with_reducible exact ih4 _ _ _ _ _ _ _ _ _ _ _ _ _)
   | (with_reducible exact ih5 _ _ _ _ _ _ _ _ _ _ _)
   | (with_reducible exact ih6 _ _ _ _ _ _ _ _ _ _ _ _)
   | (with_reducible exact ih7 _ _ _ _ _ _ _ _ _ _ _ _ _)
   | (with_reducible exact ih8 _ _ _ _ _ _ _ _ _ _ _ _ _ _ _)
   | (with_reducible exact mem_New.mono _ _ _)
   | (with_reducible exact queue_Given.mono _ _ _ _ _ _ _)
   | (with_reducible exact queue_Got.mono _ _ _ _ _ _)
   | (with_reducible exact treillagelaw16_shown.mono _)
   | (with_reducible exact LeO.refl _)
   | (with_reducible exact LeO.none _)
   | (with_reducible refine LeO.ite ?_ ?_)
   | (with_reducible refine LeO.bind ?_ (fun _ => ?_))
   | exact ih0 _ _ _ _
   | exact ih1 _ _ _ _ _ _
   | exact ih2 _ _ _ _ _ _ _ _ _ _ _
   | exact ih3 _ _ _ _ _ _ _ _ _ _ _ _ _ _ _
   | exact ih4 _ _ _ _ _ _ _ _ _ _ _ _ _
   | exact ih5 _ _ _ _ _ _ _ _ _ _ _
   | exact ih6 _ _ _ _ _ _ _ _ _ _ _ _
   | exact ih7 _ _ _ _ _ _ _ _ _ _ _ _ _
   | exact ih8 _ _ _ _ _ _ _ _ _ _ _ _ _ _ _
   | exact mem_New.mono _ _ _
   | exact queue_Given.mono _ _ _ _ _ _ _
   | exact queue_Got.mono _ _ _ _ _ _
   | exact treillagelaw16_shown.mono _
   | exact LeO.none _
   | refine LeO.ite ?_ ?_
   | refine LeO.bind ?_ (fun _ => ?_)
theorem treillagelaw16_QueueOne.mono : ∀ a0 a1 a2 k, LeO (treillagelaw16_QueueOne.f k a0 a1 a2) (treillagelaw16_QueueOne.f (k + 1) a0 a1 a2) := by
 intro a0 a1 a2 k
 obtain ⟨ih0, ih1, ih2, ih3, ih4, ih5, ih6, ih7, ih8⟩ := treillagelaw16_QueueOne.mono_l k
 unfold treillagelaw16_QueueOne.f
 repeat' first
   | (with_reducible exact ih0 _ _ _ _)
   | (with_reducible exact ih1 _ _ _ _ _ _)
   | (with_reducible exact ih2 _ _ _ _ _ _ _ _ _ _ _)
   | (with_reducible exact ih3 _ _ _ _ _ _ _ _ _ _ _ _ _ _ _)
   | (with_reducible exact ih4 _ _ _ _ _ _ _ _ _ _ _ _ _)
   | (with_reducible exact ih5 _ _ _ _ _ _ _ _ _ _ _)
   | (with_reducible exact ih6 _ _ _ _ _ _ _ _ _ _ _ _)
   | (with_reducible exact ih7 _ _ _ _ _ _ _ _ _ _ _ _ _)
   | (with_reducible exact ih8 _ _ _ _ _ _ _ _ _ _ _ _ _ _ _)
   | (with_reducible exact mem_New.mono _ _ _)
   | (with_reducible exact queue_Given.mono _ _ _ _ _ _ _)
   | (with_reducible exact queue_Got.mono _ _ _ _ _ _)
   | (with_reducible exact treillagelaw16_shown.mono _)
   | (with_reducible exact LeO.refl _)
   | (with_reducible exact LeO.none _)
   | (with_reducible refine LeO.ite ?_ ?_)
   | (with_reducible refine LeO.bind ?_ (fun _ => ?_))
   | exact ih0 _ _ _ _
   | exact ih1 _ _ _ _ _ _
   | exact ih2 _ _ _ _ _ _ _ _ _ _ _
   | exact ih3 _ _ _ _ _ _ _ _ _ _ _ _ _ _ _
   | exact ih4 _ _ _ _ _ _ _ _ _ _ _ _ _
   | exact ih5 _ _ _ _ _ _ _ _ _ _ _
   | exact ih6 _ _ _ _ _ _ _ _ _ _ _ _
   | exact ih7 _ _ _ _ _ _ _ _ _ _ _ _ _
   | exact ih8 _ _ _ _ _ _ _ _ _ _ _ _ _ _ _
   | exact mem_New.mono _ _ _
   | exact queue_Given.mono _ _ _ _ _ _ _
   | exact queue_Got.mono _ _ _ _ _ _
   | exact treillagelaw16_shown.mono _
   | exact LeO.none _
   | refine LeO.ite ?_ ?_
   | refine LeO.bind ?_ (fun _ => ?_)
set_option maxHeartbeats 8000000 in
set_option maxRecDepth 100000 in
theorem treillagelaw16_QueueOne.calls1 (k : Nat) (a0 : Int) (A1 : Option Addr) (c1 : Nat) (l1 : List Int) (A2 : Option Addr) (c2 : Nat) (l2 : List Bool) (r : Bool) (w : World) (hr1 : Kd.C (Kd.int .u64) w A1 l1.length l1) (hc1 : l1.length ≤ c1) (hr2 : Kd.C Kd.bool w A2 l2.length l2) (hc2 : l2.length ≤ c2) (h : treillagelaw16_QueueOne.f k a0 l1 l2 = some r) (hr_ : r = true) :
  Calls Try.prog 12 #[.int .u8 a0, .slice A1 l1.length c1, .slice A2 l2.length c2] w fun e w' => e = .returned (.bool r) ∧ Below w.heap.size w w' := by
 have hu38 := Try.underlying38
 have hu56 := Try.underlying56
 have hu54 := Try.underlying54
 have hu25 := Try.underlying25
 have HR1 := aA hr1
 have HC1 := aA hc1
 clear hr1 hc1
 have HR2 := aA hr2
 have HC2 := aA hc2
 clear hr2 hc2
 have HB := aA (Below.refl w.heap.size w)
 have H : (if (l1.length : Int) > 40 then (treillagelaw16_QueueOne.j0 k a0 l1 l2 true) else ((treillagelaw16_shown.f k).bind fun t187 => (treillagelaw16_QueueOne.j0 k a0 l1 l2 (!t187)))) = some r := h
 clear h
 have HC4 := aA H
 clear H
 go_enter Try.func12, Try.ntmps12
 go_upto_region 1 with (fail)
 repeat (go_quiet (fail); go_upto_region 1 with (fail))
 go_cut [33] (fun v33 wc => ∃ (kq : Nat) (x33_3 : Bool), v33 = .bool x33_3 ∧ Aside0 (treillagelaw16_QueueOne.j0 kq a0 l1 l2 x33_3 = some r) ∧ Aside0 (kq ≤ k) ∧ Aside0 (Below w.heap.size w wc))
 case first =>
  have H := HC4.out
  clear HC4
  by_cases c5 : (l1.length : Int) > 40
  ·rw [if_pos c5] at H
   have c5b0 : decide (40 < (l1.length : Int)) = true := decide_eq_true c5
   have c5b1 : decide (40 < l1.length) = true := decide_eq_true (by omega)
   clear c5
   (first | rw [c5b0] | (simp only [i64_w, i32_w]; rw [c5b0]) | skip)
   as_aux_lemma =>
    have H' := aA H
    clear H
    go_wp2
    repeat (go_quiet (fail); try go_wp2)
    (first | go_meet | (refine Met.intro ?_; go_step; (try rw [c5b0]); (repeat apply Exists.intro); refine ⟨?rel, rfl⟩))
    case rel => exact ⟨_, (true), (by first | rfl | (simp; done) | (simp [*]; done)), H', ⟨by first | omega | exact Nat.le_refl _⟩, ⟨by repeat (first | (with_reducible first | exact HB.out | apply below_alloc | apply pw_below_drewN | apply below_drew1) | exact HB.out)⟩⟩
  ·rw [if_neg c5] at H
   have c5b0 : decide (40 < (l1.length : Int)) = false := decide_eq_false c5
   have c5b1 : decide (40 < l1.length) = false := decide_eq_false (by omega)
   clear c5
   (first | rw [c5b0] | (simp only [i64_w, i32_w]; rw [c5b0]) | skip)
   replace H := Option.bind_eq_some_iff.mp H
   obtain ⟨t187, A60, H⟩ := H
   replace H : (treillagelaw16_QueueOne.j0 k a0 l1 l2 (!t187)) = some r := H
   have A6 := aA A60
   clear A60
   as_aux_lemma =>
    have H' := aA H
    clear H
    go_wp2_with (first | (go_at_call 46; (with_reducible refine (treillagelaw16_shown.calls k  t187 _ A6.out).mono ?_); rintro e w7 ⟨rfl, hb⟩; have n0_ := aA (below_step (blw HB.out) hb); clear HB; have HB := n0_; clear n0_; (try clear hb); (try clear hb2); (try clear hk); (try clear hi)))
    repeat (go_quiet (first | (go_at_call 46; (with_reducible refine (treillagelaw16_shown.calls k  t187 _ A6.out).mono ?_); rintro e w7 ⟨rfl, hb⟩; have n0_ := aA (below_step (blw HB.out) hb); clear HB; have HB := n0_; clear n0_; (try clear hb); (try clear hb2); (try clear hk); (try clear hi))); try go_wp2_with (first | (go_at_call 46; (with_reducible refine (treillagelaw16_shown.calls k  t187 _ A6.out).mono ?_); rintro e w7 ⟨rfl, hb⟩; have n0_ := aA (below_step (blw HB.out) hb); clear HB; have HB := n0_; clear n0_; (try clear hb); (try clear hb2); (try clear hk); (try clear hi))))
    (first | go_meet | (refine Met.intro ?_; go_step; (try rw [c5b0]); (repeat apply Exists.intro); refine ⟨?rel, rfl⟩))
    case rel => exact ⟨_, (!t187), (by first | rfl | (simp; done) | (simp [*]; done)), H', ⟨by first | omega | exact Nat.le_refl _⟩, ⟨by repeat (first | (with_reducible first | exact HB.out | apply below_alloc | apply pw_below_drewN | apply below_drew1) | exact HB.out)⟩⟩
 case rest =>
  clear HC4
  try clear c1
  try clear c2
  try clear p2
  try clear c5
  try clear c5b0
  try clear c5b1
  obtain ⟨kq, x33_3, rfl, HA, HJ3, HB⟩ := hcut
  cases kq with
  | zero => exact absurd HA.out (by simp [treillagelaw16_QueueOne.j0])
  | succ kj3 =>
   have H := HA.out
   clear HA
   simp only [treillagelaw16_QueueOne.j0] at H
   by_cases c8 : x33_3 = true
   ·subst c8
    have H1 : ((treillagelaw16_shown.f kj3).bind fun t188 => (some t188)) = some r := by rw [if_pos rfl] at H; exact H
    clear H
    have H := H1
    clear H1
    replace H := Option.bind_eq_some_iff.mp H
    obtain ⟨t188, A90, H⟩ := H
    replace H : (some t188) = some r := H
    have A9 := aA A90
    clear A90
    as_aux_lemma =>
     obtain rfl := Option.some.inj H
     go_wp2_with (first | (go_at_call 46; (with_reducible refine (treillagelaw16_shown.calls kj3  t188 _ A9.out).mono ?_); rintro e w10 ⟨rfl, hb⟩; have n0_ := aA (below_step (blw HB.out) hb); clear HB; have HB := n0_; clear n0_; (try clear hb); (try clear hb2); (try clear hk); (try clear hi)))
     repeat (go_quiet (first | (go_at_call 46; (with_reducible refine (treillagelaw16_shown.calls kj3  t188 _ A9.out).mono ?_); rintro e w10 ⟨rfl, hb⟩; have n0_ := aA (below_step (blw HB.out) hb); clear HB; have HB := n0_; clear n0_; (try clear hb); (try clear hb2); (try clear hk); (try clear hi))); try go_wp2_with (first | (go_at_call 46; (with_reducible refine (treillagelaw16_shown.calls kj3  t188 _ A9.out).mono ?_); rintro e w10 ⟨rfl, hb⟩; have n0_ := aA (below_step (blw HB.out) hb); clear HB; have HB := n0_; clear n0_; (try clear hb); (try clear hb2); (try clear hk); (try clear hi))))
     go_ret
     exact ⟨by first | rfl | (simp [errW_none, errW_some] <;> rfl) | (simp [*, errW_none, errW_some] <;> rfl), by repeat (first | (with_reducible first | exact HB.out | apply below_alloc | apply pw_below_drewN | apply below_drew1) | exact HB.out)⟩
   ·replace c8 := Bool.eq_false_iff.mpr c8
    subst c8
    have H1 : (treillagelaw16_QueueOne.l0 kj3 l1 l2 1 0 1 (wrap64 (1 + (Int.tmod (wrap64 (a0)) 4)))) = some r := by rw [if_neg (show ¬ (false = true) by decide)] at H; exact H
    clear H
    have H := H1
    clear H1
    have H' := aA H
    clear H
    go_wp2_with (first | ((with_reducible refine gate_dst (N := 7) rfl ?_); (try (refine gate_guard (by rfl) ?_; dsimp only)); refine box_event ?hg (N := 7) ?hd (cs := #[.int .i64 0, .int .i64 0]) (t := 38) ?hr ?_; (case hd => rfl); (case hg => rfl); (case hr => first | (go_simp; done) | (go_simp; rfl)); intro gb189 hg w11 hbox hb; have n0_ := aA (below_step (blw HB.out) hb); have n1_ := aA (hbox); have n2_ := aA ((by rw [hg]; exact (below_size (blw HB.out)) : w.heap.size ≤ gb189)); have n3_ := aA ((by rw [hg]; exact (below_size (blw HB.out)) : w.heap.size ≤ gb189)); clear HB; have HB := n0_; have BK189 := n1_; have GW189 := n2_; have GE189 := n3_; clear n0_ n1_ n2_ n3_ hb hbox hg; have hcz12_0 : w11.cell? ⟨gb189, 0, none⟩ = some (.int .i64 0) := (blk_cell BK189.out 0).trans rfl; have hcz12_1 : w11.cell? ⟨gb189, 1, none⟩ = some (.int .i64 0) := (blk_cell BK189.out 1).trans rfl; have hfz12_0 := blk_frozen BK189.out 0; have hfz12_1 := blk_frozen BK189.out 1))
    repeat (go_quiet (first | ((with_reducible refine gate_dst (N := 7) rfl ?_); (try (refine gate_guard (by rfl) ?_; dsimp only)); refine box_event ?hg (N := 7) ?hd (cs := #[.int .i64 0, .int .i64 0]) (t := 38) ?hr ?_; (case hd => rfl); (case hg => rfl); (case hr => first | (go_simp; done) | (go_simp; rfl)); intro gb189 hg w11 hbox hb; have n0_ := aA (below_step (blw HB.out) hb); have n1_ := aA (hbox); have n2_ := aA ((by rw [hg]; exact (below_size (blw HB.out)) : w.heap.size ≤ gb189)); have n3_ := aA ((by rw [hg]; exact (below_size (blw HB.out)) : w.heap.size ≤ gb189)); clear HB; have HB := n0_; have BK189 := n1_; have GW189 := n2_; have GE189 := n3_; clear n0_ n1_ n2_ n3_ hb hbox hg; have hcz12_0 : w11.cell? ⟨gb189, 0, none⟩ = some (.int .i64 0) := (blk_cell BK189.out 0).trans rfl; have hcz12_1 : w11.cell? ⟨gb189, 1, none⟩ = some (.int .i64 0) := (blk_cell BK189.out 1).trans rfl; have hfz12_0 := blk_frozen BK189.out 0; have hfz12_1 := blk_frozen BK189.out 1)); try go_wp2_with (first | ((with_reducible refine gate_dst (N := 7) rfl ?_); (try (refine gate_guard (by rfl) ?_; dsimp only)); refine box_event ?hg (N := 7) ?hd (cs := #[.int .i64 0, .int .i64 0]) (t := 38) ?hr ?_; (case hd => rfl); (case hg => rfl); (case hr => first | (go_simp; done) | (go_simp; rfl)); intro gb189 hg w11 hbox hb; have n0_ := aA (below_step (blw HB.out) hb); have n1_ := aA (hbox); have n2_ := aA ((by rw [hg]; exact (below_size (blw HB.out)) : w.heap.size ≤ gb189)); have n3_ := aA ((by rw [hg]; exact (below_size (blw HB.out)) : w.heap.size ≤ gb189)); clear HB; have HB := n0_; have BK189 := n1_; have GW189 := n2_; have GE189 := n3_; clear n0_ n1_ n2_ n3_ hb hbox hg; have hcz12_0 : w11.cell? ⟨gb189, 0, none⟩ = some (.int .i64 0) := (blk_cell BK189.out 0).trans rfl; have hcz12_1 : w11.cell? ⟨gb189, 1, none⟩ = some (.int .i64 0) := (blk_cell BK189.out 1).trans rfl; have hfz12_0 := blk_frozen BK189.out 0; have hfz12_1 := blk_frozen BK189.out 1)))
    go_loopg [8, 9] kj3 (fun kq v8 v9 w' => ∃ (x8_2 : Int) (x9_2 : Int), v8 = .int .i64 x8_2 ∧ v9 = .int .i64 x9_2 ∧ Aside0 (treillagelaw16_QueueOne.l0 kq l1 l2 x8_2 x9_2 1 (wrap64 (1 + (Int.tmod (wrap64 (a0)) 4))) = some r) ∧ Aside0 (kq ≤ kj3) ∧ Aside0 (w'.heap[gb189]? = some (.cells #[.int .i64 1, .int .i64 (wrap64 (1 + (Int.tmod (wrap64 (a0)) 4)))] 38 (0, 0))) ∧ Aside0 (Below w.heap.size w w'))
    case atStart => exact ⟨(1), (0), (by first | rfl | (simp; done) | (simp [*]; done)), (by first | rfl | (simp; done) | (simp [*]; done)), H', ⟨Nat.le_refl _⟩, ⟨by (with_reducible repeat (first | refine blk_drewN ?_ _ | refine blk_drew ?_ | refine blk_alloc ?_ _)); refine blk_put (cs := #[.int .i64 1, .int .i64 0]) ?_ 1 _ rfl; (with_reducible repeat (first | refine blk_drewN ?_ _ | refine blk_drew ?_ | refine blk_alloc ?_ _)); refine blk_put (cs := #[.int .i64 0, .int .i64 0]) ?_ 0 _ rfl; (with_reducible repeat (first | refine blk_drewN ?_ _ | refine blk_drew ?_ | refine blk_alloc ?_ _)); exact BK189.out⟩, ⟨by repeat (first | (with_reducible first | exact HB.out | apply below_alloc | apply pw_below_drewN | apply below_drew1 | refine below_set ?_ GE189.out) | exact HB.out)⟩⟩
    case round =>
     clear H'
     try clear c1
     try clear c2
     try clear p2
     try clear c5
     try clear c5b0
     try clear c5b1
     try clear p6
     try clear c8
     try clear c12
     try clear hcz12_0
     try clear hcz12_1
     try clear hfz12_0
     try clear hfz12_1
     try clear p2
     obtain ⟨x8_2, x9_2, rfl, rfl, HA, HK2, BK189, HB⟩ := hrel
     cases gk with
     | zero => exact absurd HA.out (by simp [treillagelaw16_QueueOne.l0])
     | succ k2 =>
      have H := HA.out
      clear HA
      simp only [treillagelaw16_QueueOne.l0] at H
      by_cases c13 : x9_2 < (wrap64 (1 + (Int.tmod (wrap64 (a0)) 4)))
      ·rw [if_pos c13] at H
       have c13b0 : decide (x9_2 < (wrap64 (1 + (Int.tmod (wrap64 (a0)) 4)))) = true := decide_eq_true c13
       clear c13
       as_aux_lemma =>
        have H' := aA H
        clear H
        have hcz14_0 : wr.cell? ⟨gb189, 0, none⟩ = some (.int .i64 1) := (blk_cell BK189.out 0).trans rfl
        have hcz14_1 : wr.cell? ⟨gb189, 1, none⟩ = some (.int .i64 (wrap64 (1 + (Int.tmod (wrap64 (a0)) 4)))) := (blk_cell BK189.out 1).trans rfl
        have hfz14_0 := blk_frozen BK189.out 0
        have hfz14_1 := blk_frozen BK189.out 1
        go_wp2
        repeat (go_quiet (fail); try go_wp2)
        go_roundg k2
        case measure => have := HJ3.out; have := HK2.out; omega
        case rel => exact ⟨(wrap64 (x8_2 * 2)), (wrap64 (x9_2 + 1)), (by first | rfl | (simp; done) | (simp [*]; done)), (by first | rfl | (simp; done) | (simp [*]; done)), H', ⟨by have := HJ3.out; have := HK2.out; omega⟩, ⟨by (with_reducible repeat (first | refine blk_drewN ?_ _ | refine blk_drew ?_ | refine blk_alloc ?_ _)); exact BK189.out⟩, ⟨by repeat (first | (with_reducible first | exact HB.out | apply below_alloc | apply pw_below_drewN | apply below_drew1 | refine below_set ?_ GE189.out) | exact HB.out)⟩⟩
      ·rw [if_neg c13] at H
       have c13b0 : decide (x9_2 < (wrap64 (1 + (Int.tmod (wrap64 (a0)) 4)))) = false := decide_eq_false c13
       clear c13
       replace H := Option.bind_eq_some_iff.mp H
       obtain ⟨t190, A150, H⟩ := H
       replace H : (treillagelaw16_QueueOne.l1 k2 l1 l2 x8_2 t190 (([] : List Int)) 0 1 (wrap64 (1 + (Int.tmod (wrap64 (a0)) 4))) 0 0 0) = some r := H
       have A15 := aA A150
       clear A150
       obtain ⟨y194, hy194⟩ : ∃ y_ : List Int, y_ = (([] : List Int)) := ⟨_, rfl⟩
       replace H : (treillagelaw16_QueueOne.l1 k2 l1 l2 x8_2 t190 y194 0 1 (wrap64 (1 + (Int.tmod (wrap64 (a0)) 4))) 0 0 0) = some r := by first | (rw [hy194]; with_reducible exact H) | (have H2_ := (Option.bind_some _ _).symm.trans H; rw [hy194]; with_reducible exact H2_) | (have H2_ := (Option.bind_some _ _).symm.trans H; with_reducible exact H2_) | with_reducible exact H | (rw [hy194]; exact H) | exact H
       have Ny194 := aA hy194
       clear hy194
       have H' := aA H
       clear H
       have hcz16_0 : wr.cell? ⟨gb189, 0, none⟩ = some (.int .i64 1) := (blk_cell BK189.out 0).trans rfl
       have hcz16_1 : wr.cell? ⟨gb189, 1, none⟩ = some (.int .i64 (wrap64 (1 + (Int.tmod (wrap64 (a0)) 4)))) := (blk_cell BK189.out 1).trans rfl
       have hfz16_0 := blk_frozen BK189.out 0
       have hfz16_1 := blk_frozen BK189.out 1
       go_wp2_with (first | (go_at_call 36; (with_reducible refine (mem_New.calls k2 1 (wrap64 (1 + (Int.tmod (wrap64 (a0)) 4))) t190 _ A15.out).mono ?_); rintro e w17 ⟨v191, rfl, ho0, hb⟩; have n0_ := aA (Kd.R_lower ho0 (below_size (bls HB.out))); have n1_ := aA (blk_below (g := gb189) (o := .cells #[.int .i64 1, .int .i64 (wrap64 (1 + (Int.tmod (wrap64 (a0)) 4)))] 38 (0, 0)) (bku BK189.out) hb); have n2_ := aA (below_step (bls HB.out) hb); clear BK189 HB; have HO192 := n0_; have BK189 := n1_; have HB := n2_; clear n0_ n1_ n2_; (try clear hb); (try clear hb2); (try clear hk); (try clear hi); (try clear ho0)) | ((with_reducible refine gate_dst (N := 11) rfl ?_); (try (refine gate_guard (by rfl) ?_; dsimp only)); refine box_event ?hg (N := 11) ?hd (cs := #[.int .i64 0, .int .u64 0, .int .u64 0]) (t := 56) ?hr ?_; (case hd => rfl); (case hg => rfl); (case hr => first | (go_simp; done) | (go_simp; rfl)); intro gb193 hg w18 hbox hb; have n0_ := aA (Kd.R_below (rlu HO192.out) hb); have n1_ := aA (blk_below (g := gb189) (o := .cells #[.int .i64 1, .int .i64 (wrap64 (1 + (Int.tmod (wrap64 (a0)) 4)))] 38 (0, 0)) (bku BK189.out) hb); have n2_ := aA (below_step (bls HB.out) hb); have n3_ := aA (hbox); have n4_ := aA ((by rw [hg]; exact (below_size (bls HB.out)) : w.heap.size ≤ gb193)); have n5_ := aA ((by rw [hg]; exact (below_size (bls HB.out)) : w.heap.size ≤ gb193)); have n6_ := aA ((by rw [hg]; exact Nat.ne_of_lt (blk_lt (g := gb189) (o := .cells #[.int .i64 1, .int .i64 (wrap64 (1 + (Int.tmod (wrap64 (a0)) 4)))] 38 (0, 0)) (bku BK189.out)) : gb189 ≠ gb193)); have n7_ := aA ((by rw [hg]; exact Nat.ne_of_gt (blk_lt (g := gb189) (o := .cells #[.int .i64 1, .int .i64 (wrap64 (1 + (Int.tmod (wrap64 (a0)) 4)))] 38 (0, 0)) (bku BK189.out)) : gb193 ≠ gb189)); clear HO192 BK189 HB; have HO192 := n0_; have BK189 := n1_; have HB := n2_; have BK193 := n3_; have GW193 := n4_; have GE193 := n5_; have NB189_193 := n6_; have NB193_189 := n7_; clear n0_ n1_ n2_ n3_ n4_ n5_ n6_ n7_ hb hbox hg; have hnb19 := NB193_189.out; have hnc19 := NB189_193.out; have hcz20_0 : w18.cell? ⟨gb193, 0, none⟩ = some (.int .i64 0) := (blk_cell BK193.out 0).trans rfl; have hcz20_1 : w18.cell? ⟨gb193, 1, none⟩ = some (.int .u64 0) := (blk_cell BK193.out 1).trans rfl; have hcz20_2 : w18.cell? ⟨gb193, 2, none⟩ = some (.int .u64 0) := (blk_cell BK193.out 2).trans rfl; have hfz20_0 := blk_frozen BK193.out 0; have hfz20_1 := blk_frozen BK193.out 1; have hfz20_2 := blk_frozen BK193.out 2) | ((with_reducible refine gate_dst (N := 51) rfl ?_); (try (refine gate_guard (by rfl) ?_; dsimp only)); refine Kd.R_lit (Kd.int .u64) _ 23 ?hg (N := 51) ?hd (xs := ([] : List Int)) (inner := []) (ok := fun _ => True) (okp := fun _ => True) ?hr ?hp (fun _ hk => hk) trivial (Below.refl _ _) (Nat.le_refl _) (by simp) ?_; (case hd => rfl); (case hg => rfl); (case hr => first | (go_simp; done) | (go_simp; rfl)); (case hp => exact (Reps.none _ _)); intro v195 w21 ho22 hb hg_ hnew_; clear hg_ hnew_; (first | rw [← Ny194.out] at ho22 | (simp only [Int.reduceToNat] at ho22; rw [← Ny194.out] at ho22)); have n0_ := aA (Kd.R_elder' (rlu ((Kd.R_mono (Kd.R_far (p := ⟨gb193, 2, none⟩) (Kd.R_far (p := ⟨gb193, 1, none⟩) (Kd.R_far (p := ⟨gb193, 0, none⟩) (Kd.R_types HO192.out BK193.out (by decide)) (fun _ hk => hk.2) (.int .i64 0)) (fun _ hk => hk.2) (.int .u64 0)) (fun _ hk => hk.2) (.int .u64 0)) (fun _ h_ => h_.1)))) (Kd.R_base ho22) hb); have n1_ := aA (Kd.R_lower (Kd.R_new' ho22 (Kd.R_lt (rlu ((Kd.R_mono (Kd.R_far (p := ⟨gb193, 2, none⟩) (Kd.R_far (p := ⟨gb193, 1, none⟩) (Kd.R_far (p := ⟨gb193, 0, none⟩) (Kd.R_types HO192.out BK193.out (by decide)) (fun _ hk => hk.2) (.int .i64 0)) (fun _ hk => hk.2) (.int .u64 0)) (fun _ hk => hk.2) (.int .u64 0)) (fun _ h_ => h_.1)))))) (below_size (bls HB.out))); have n2_ := aA (blk_below (g := gb189) (o := .cells #[.int .i64 1, .int .i64 (wrap64 (1 + (Int.tmod (wrap64 (a0)) 4)))] 38 (0, 0)) (by (with_reducible repeat (first | refine blk_drewN ?_ _ | refine blk_drew ?_ | refine blk_alloc ?_ _)); refine blk_far ?_ NB189_193.out _; (with_reducible repeat (first | refine blk_drewN ?_ _ | refine blk_drew ?_ | refine blk_alloc ?_ _)); refine blk_far ?_ NB189_193.out _; (with_reducible repeat (first | refine blk_drewN ?_ _ | refine blk_drew ?_ | refine blk_alloc ?_ _)); refine blk_far ?_ NB189_193.out _; (with_reducible repeat (first | refine blk_drewN ?_ _ | refine blk_drew ?_ | refine blk_alloc ?_ _)); exact BK189.out) hb); have n3_ := aA (blk_below (g := gb193) (o := .cells #[.int .i64 0, .int .u64 0, .int .u64 0] 56 (0, 0)) (by (with_reducible repeat (first | refine blk_drewN ?_ _ | refine blk_drew ?_ | refine blk_alloc ?_ _)); refine blk_put (cs := #[.int .i64 0, .int .u64 0, .int .u64 0]) ?_ 2 _ rfl; (with_reducible repeat (first | refine blk_drewN ?_ _ | refine blk_drew ?_ | refine blk_alloc ?_ _)); refine blk_put (cs := #[.int .i64 0, .int .u64 0, .int .u64 0]) ?_ 1 _ rfl; (with_reducible repeat (first | refine blk_drewN ?_ _ | refine blk_drew ?_ | refine blk_alloc ?_ _)); refine blk_put (cs := #[.int .i64 0, .int .u64 0, .int .u64 0]) ?_ 0 _ rfl; (with_reducible repeat (first | refine blk_drewN ?_ _ | refine blk_drew ?_ | refine blk_alloc ?_ _)); exact BK193.out) hb); have n4_ := aA (below_step (bls HB.out) hb); clear HO192 BK189 BK193 HB; have HO192 := n0_; have HO196 := n1_; have BK189 := n2_; have BK193 := n3_; have HB := n4_; clear n0_ n1_ n2_ n3_ n4_ hb ho22))
       repeat (go_quiet (first | (go_at_call 36; (with_reducible refine (mem_New.calls k2 1 (wrap64 (1 + (Int.tmod (wrap64 (a0)) 4))) t190 _ A15.out).mono ?_); rintro e w17 ⟨v191, rfl, ho0, hb⟩; have n0_ := aA (Kd.R_lower ho0 (below_size (bls HB.out))); have n1_ := aA (blk_below (g := gb189) (o := .cells #[.int .i64 1, .int .i64 (wrap64 (1 + (Int.tmod (wrap64 (a0)) 4)))] 38 (0, 0)) (bku BK189.out) hb); have n2_ := aA (below_step (bls HB.out) hb); clear BK189 HB; have HO192 := n0_; have BK189 := n1_; have HB := n2_; clear n0_ n1_ n2_; (try clear hb); (try clear hb2); (try clear hk); (try clear hi); (try clear ho0)) | ((with_reducible refine gate_dst (N := 11) rfl ?_); (try (refine gate_guard (by rfl) ?_; dsimp only)); refine box_event ?hg (N := 11) ?hd (cs := #[.int .i64 0, .int .u64 0, .int .u64 0]) (t := 56) ?hr ?_; (case hd => rfl); (case hg => rfl); (case hr => first | (go_simp; done) | (go_simp; rfl)); intro gb193 hg w18 hbox hb; have n0_ := aA (Kd.R_below (rlu HO192.out) hb); have n1_ := aA (blk_below (g := gb189) (o := .cells #[.int .i64 1, .int .i64 (wrap64 (1 + (Int.tmod (wrap64 (a0)) 4)))] 38 (0, 0)) (bku BK189.out) hb); have n2_ := aA (below_step (bls HB.out) hb); have n3_ := aA (hbox); have n4_ := aA ((by rw [hg]; exact (below_size (bls HB.out)) : w.heap.size ≤ gb193)); have n5_ := aA ((by rw [hg]; exact (below_size (bls HB.out)) : w.heap.size ≤ gb193)); have n6_ := aA ((by rw [hg]; exact Nat.ne_of_lt (blk_lt (g := gb189) (o := .cells #[.int .i64 1, .int .i64 (wrap64 (1 + (Int.tmod (wrap64 (a0)) 4)))] 38 (0, 0)) (bku BK189.out)) : gb189 ≠ gb193)); have n7_ := aA ((by rw [hg]; exact Nat.ne_of_gt (blk_lt (g := gb189) (o := .cells #[.int .i64 1, .int .i64 (wrap64 (1 + (Int.tmod (wrap64 (a0)) 4)))] 38 (0, 0)) (bku BK189.out)) : gb193 ≠ gb189)); clear HO192 BK189 HB; have HO192 := n0_; have BK189 := n1_; have HB := n2_; have BK193 := n3_; have GW193 := n4_; have GE193 := n5_; have NB189_193 := n6_; have NB193_189 := n7_; clear n0_ n1_ n2_ n3_ n4_ n5_ n6_ n7_ hb hbox hg; have hnb19 := NB193_189.out; have hnc19 := NB189_193.out; have hcz20_0 : w18.cell? ⟨gb193, 0, none⟩ = some (.int .i64 0) := (blk_cell BK193.out 0).trans rfl; have hcz20_1 : w18.cell? ⟨gb193, 1, none⟩ = some (.int .u64 0) := (blk_cell BK193.out 1).trans rfl; have hcz20_2 : w18.cell? ⟨gb193, 2, none⟩ = some (.int .u64 0) := (blk_cell BK193.out 2).trans rfl; have hfz20_0 := blk_frozen BK193.out 0; have hfz20_1 := blk_frozen BK193.out 1; have hfz20_2 := blk_frozen BK193.out 2) | ((with_reducible refine gate_dst (N := 51) rfl ?_); (try (refine gate_guard (by rfl) ?_; dsimp only)); refine Kd.R_lit (Kd.int .u64) _ 23 ?hg (N := 51) ?hd (xs := ([] : List Int)) (inner := []) (ok := fun _ => True) (okp := fun _ => True) ?hr ?hp (fun _ hk => hk) trivial (Below.refl _ _) (Nat.le_refl _) (by simp) ?_; (case hd => rfl); (case hg => rfl); (case hr => first | (go_simp; done) | (go_simp; rfl)); (case hp => exact (Reps.none _ _)); intro v195 w21 ho22 hb hg_ hnew_; clear hg_ hnew_; (first | rw [← Ny194.out] at ho22 | (simp only [Int.reduceToNat] at ho22; rw [← Ny194.out] at ho22)); have n0_ := aA (Kd.R_elder' (rlu ((Kd.R_mono (Kd.R_far (p := ⟨gb193, 2, none⟩) (Kd.R_far (p := ⟨gb193, 1, none⟩) (Kd.R_far (p := ⟨gb193, 0, none⟩) (Kd.R_types HO192.out BK193.out (by decide)) (fun _ hk => hk.2) (.int .i64 0)) (fun _ hk => hk.2) (.int .u64 0)) (fun _ hk => hk.2) (.int .u64 0)) (fun _ h_ => h_.1)))) (Kd.R_base ho22) hb); have n1_ := aA (Kd.R_lower (Kd.R_new' ho22 (Kd.R_lt (rlu ((Kd.R_mono (Kd.R_far (p := ⟨gb193, 2, none⟩) (Kd.R_far (p := ⟨gb193, 1, none⟩) (Kd.R_far (p := ⟨gb193, 0, none⟩) (Kd.R_types HO192.out BK193.out (by decide)) (fun _ hk => hk.2) (.int .i64 0)) (fun _ hk => hk.2) (.int .u64 0)) (fun _ hk => hk.2) (.int .u64 0)) (fun _ h_ => h_.1)))))) (below_size (bls HB.out))); have n2_ := aA (blk_below (g := gb189) (o := .cells #[.int .i64 1, .int .i64 (wrap64 (1 + (Int.tmod (wrap64 (a0)) 4)))] 38 (0, 0)) (by (with_reducible repeat (first | refine blk_drewN ?_ _ | refine blk_drew ?_ | refine blk_alloc ?_ _)); refine blk_far ?_ NB189_193.out _; (with_reducible repeat (first | refine blk_drewN ?_ _ | refine blk_drew ?_ | refine blk_alloc ?_ _)); refine blk_far ?_ NB189_193.out _; (with_reducible repeat (first | refine blk_drewN ?_ _ | refine blk_drew ?_ | refine blk_alloc ?_ _)); refine blk_far ?_ NB189_193.out _; (with_reducible repeat (first | refine blk_drewN ?_ _ | refine blk_drew ?_ | refine blk_alloc ?_ _)); exact BK189.out) hb); have n3_ := aA (blk_below (g := gb193) (o := .cells #[.int .i64 0, .int .u64 0, .int .u64 0] 56 (0, 0)) (by (with_reducible repeat (first | refine blk_drewN ?_ _ | refine blk_drew ?_ | refine blk_alloc ?_ _)); refine blk_put (cs := #[.int .i64 0, .int .u64 0, .int .u64 0]) ?_ 2 _ rfl; (with_reducible repeat (first | refine blk_drewN ?_ _ | refine blk_drew ?_ | refine blk_alloc ?_ _)); refine blk_put (cs := #[.int .i64 0, .int .u64 0, .int .u64 0]) ?_ 1 _ rfl; (with_reducible repeat (first | refine blk_drewN ?_ _ | refine blk_drew ?_ | refine blk_alloc ?_ _)); refine blk_put (cs := #[.int .i64 0, .int .u64 0, .int .u64 0]) ?_ 0 _ rfl; (with_reducible repeat (first | refine blk_drewN ?_ _ | refine blk_drew ?_ | refine blk_alloc ?_ _)); exact BK193.out) hb); have n4_ := aA (below_step (bls HB.out) hb); clear HO192 BK189 BK193 HB; have HO192 := n0_; have HO196 := n1_; have BK189 := n2_; have BK193 := n3_; have HB := n4_; clear n0_ n1_ n2_ n3_ n4_ hb ho22)); try go_wp2_with (first | (go_at_call 36; (with_reducible refine (mem_New.calls k2 1 (wrap64 (1 + (Int.tmod (wrap64 (a0)) 4))) t190 _ A15.out).mono ?_); rintro e w17 ⟨v191, rfl, ho0, hb⟩; have n0_ := aA (Kd.R_lower ho0 (below_size (bls HB.out))); have n1_ := aA (blk_below (g := gb189) (o := .cells #[.int .i64 1, .int .i64 (wrap64 (1 + (Int.tmod (wrap64 (a0)) 4)))] 38 (0, 0)) (bku BK189.out) hb); have n2_ := aA (below_step (bls HB.out) hb); clear BK189 HB; have HO192 := n0_; have BK189 := n1_; have HB := n2_; clear n0_ n1_ n2_; (try clear hb); (try clear hb2); (try clear hk); (try clear hi); (try clear ho0)) | ((with_reducible refine gate_dst (N := 11) rfl ?_); (try (refine gate_guard (by rfl) ?_; dsimp only)); refine box_event ?hg (N := 11) ?hd (cs := #[.int .i64 0, .int .u64 0, .int .u64 0]) (t := 56) ?hr ?_; (case hd => rfl); (case hg => rfl); (case hr => first | (go_simp; done) | (go_simp; rfl)); intro gb193 hg w18 hbox hb; have n0_ := aA (Kd.R_below (rlu HO192.out) hb); have n1_ := aA (blk_below (g := gb189) (o := .cells #[.int .i64 1, .int .i64 (wrap64 (1 + (Int.tmod (wrap64 (a0)) 4)))] 38 (0, 0)) (bku BK189.out) hb); have n2_ := aA (below_step (bls HB.out) hb); have n3_ := aA (hbox); have n4_ := aA ((by rw [hg]; exact (below_size (bls HB.out)) : w.heap.size ≤ gb193)); have n5_ := aA ((by rw [hg]; exact (below_size (bls HB.out)) : w.heap.size ≤ gb193)); have n6_ := aA ((by rw [hg]; exact Nat.ne_of_lt (blk_lt (g := gb189) (o := .cells #[.int .i64 1, .int .i64 (wrap64 (1 + (Int.tmod (wrap64 (a0)) 4)))] 38 (0, 0)) (bku BK189.out)) : gb189 ≠ gb193)); have n7_ := aA ((by rw [hg]; exact Nat.ne_of_gt (blk_lt (g := gb189) (o := .cells #[.int .i64 1, .int .i64 (wrap64 (1 + (Int.tmod (wrap64 (a0)) 4)))] 38 (0, 0)) (bku BK189.out)) : gb193 ≠ gb189)); clear HO192 BK189 HB; have HO192 := n0_; have BK189 := n1_; have HB := n2_; have BK193 := n3_; have GW193 := n4_; have GE193 := n5_; have NB189_193 := n6_; have NB193_189 := n7_; clear n0_ n1_ n2_ n3_ n4_ n5_ n6_ n7_ hb hbox hg; have hnb19 := NB193_189.out; have hnc19 := NB189_193.out; have hcz20_0 : w18.cell? ⟨gb193, 0, none⟩ = some (.int .i64 0) := (blk_cell BK193.out 0).trans rfl; have hcz20_1 : w18.cell? ⟨gb193, 1, none⟩ = some (.int .u64 0) := (blk_cell BK193.out 1).trans rfl; have hcz20_2 : w18.cell? ⟨gb193, 2, none⟩ = some (.int .u64 0) := (blk_cell BK193.out 2).trans rfl; have hfz20_0 := blk_frozen BK193.out 0; have hfz20_1 := blk_frozen BK193.out 1; have hfz20_2 := blk_frozen BK193.out 2) | ((with_reducible refine gate_dst (N := 51) rfl ?_); (try (refine gate_guard (by rfl) ?_; dsimp only)); refine Kd.R_lit (Kd.int .u64) _ 23 ?hg (N := 51) ?hd (xs := ([] : List Int)) (inner := []) (ok := fun _ => True) (okp := fun _ => True) ?hr ?hp (fun _ hk => hk) trivial (Below.refl _ _) (Nat.le_refl _) (by simp) ?_; (case hd => rfl); (case hg => rfl); (case hr => first | (go_simp; done) | (go_simp; rfl)); (case hp => exact (Reps.none _ _)); intro v195 w21 ho22 hb hg_ hnew_; clear hg_ hnew_; (first | rw [← Ny194.out] at ho22 | (simp only [Int.reduceToNat] at ho22; rw [← Ny194.out] at ho22)); have n0_ := aA (Kd.R_elder' (rlu ((Kd.R_mono (Kd.R_far (p := ⟨gb193, 2, none⟩) (Kd.R_far (p := ⟨gb193, 1, none⟩) (Kd.R_far (p := ⟨gb193, 0, none⟩) (Kd.R_types HO192.out BK193.out (by decide)) (fun _ hk => hk.2) (.int .i64 0)) (fun _ hk => hk.2) (.int .u64 0)) (fun _ hk => hk.2) (.int .u64 0)) (fun _ h_ => h_.1)))) (Kd.R_base ho22) hb); have n1_ := aA (Kd.R_lower (Kd.R_new' ho22 (Kd.R_lt (rlu ((Kd.R_mono (Kd.R_far (p := ⟨gb193, 2, none⟩) (Kd.R_far (p := ⟨gb193, 1, none⟩) (Kd.R_far (p := ⟨gb193, 0, none⟩) (Kd.R_types HO192.out BK193.out (by decide)) (fun _ hk => hk.2) (.int .i64 0)) (fun _ hk => hk.2) (.int .u64 0)) (fun _ hk => hk.2) (.int .u64 0)) (fun _ h_ => h_.1)))))) (below_size (bls HB.out))); have n2_ := aA (blk_below (g := gb189) (o := .cells #[.int .i64 1, .int .i64 (wrap64 (1 + (Int.tmod (wrap64 (a0)) 4)))] 38 (0, 0)) (by (with_reducible repeat (first | refine blk_drewN ?_ _ | refine blk_drew ?_ | refine blk_alloc ?_ _)); refine blk_far ?_ NB189_193.out _; (with_reducible repeat (first | refine blk_drewN ?_ _ | refine blk_drew ?_ | refine blk_alloc ?_ _)); refine blk_far ?_ NB189_193.out _; (with_reducible repeat (first | refine blk_drewN ?_ _ | refine blk_drew ?_ | refine blk_alloc ?_ _)); refine blk_far ?_ NB189_193.out _; (with_reducible repeat (first | refine blk_drewN ?_ _ | refine blk_drew ?_ | refine blk_alloc ?_ _)); exact BK189.out) hb); have n3_ := aA (blk_below (g := gb193) (o := .cells #[.int .i64 0, .int .u64 0, .int .u64 0] 56 (0, 0)) (by (with_reducible repeat (first | refine blk_drewN ?_ _ | refine blk_drew ?_ | refine blk_alloc ?_ _)); refine blk_put (cs := #[.int .i64 0, .int .u64 0, .int .u64 0]) ?_ 2 _ rfl; (with_reducible repeat (first | refine blk_drewN ?_ _ | refine blk_drew ?_ | refine blk_alloc ?_ _)); refine blk_put (cs := #[.int .i64 0, .int .u64 0, .int .u64 0]) ?_ 1 _ rfl; (with_reducible repeat (first | refine blk_drewN ?_ _ | refine blk_drew ?_ | refine blk_alloc ?_ _)); refine blk_put (cs := #[.int .i64 0, .int .u64 0, .int .u64 0]) ?_ 0 _ rfl; (with_reducible repeat (first | refine blk_drewN ?_ _ | refine blk_drew ?_ | refine blk_alloc ?_ _)); exact BK193.out) hb); have n4_ := aA (below_step (bls HB.out) hb); clear HO192 BK189 BK193 HB; have HO192 := n0_; have HO196 := n1_; have BK189 := n2_; have BK193 := n3_; have HB := n4_; clear n0_ n1_ n2_ n3_ n4_ hb ho22)))
       go_loopg [10, 12, 13] k2 (fun kq v10 v12 v13 w' => ∃ (x10_3 : List Int) (x12_3 : List Int) (x13_3 : Int) (x194000_3 : Int) (x194001_3 : Int) (x194002_3 : Int), v13 = .int .i64 x13_3 ∧ Aside0 (treillagelaw16_QueueOne.l1 kq l1 l2 x8_2 x10_3 x12_3 x13_3 1 (wrap64 (1 + (Int.tmod (wrap64 (a0)) 4))) x194000_3 x194001_3 x194002_3 = some r) ∧ Aside0 (kq ≤ k2) ∧ Aside0 (Kd.V (Kd.int .u64) 23 w' w.heap.size (fun k_ => some k_ ≠ (v12 : Value).ownBlock ∧ k_ ≠ gb189 ∧ k_ ≠ gb193) v10 x10_3) ∧ Aside0 (Kd.Q (Kd.int .u64) 23 w' w.heap.size (fun _ => True) v12 x12_3) ∧ Aside0 (w'.heap[gb189]? = some (.cells #[.int .i64 1, .int .i64 (wrap64 (1 + (Int.tmod (wrap64 (a0)) 4)))] 38 (0, 0))) ∧ Aside0 (w'.heap[gb193]? = some (.cells #[.int .i64 x194000_3, .int .u64 x194001_3, .int .u64 x194002_3] 56 (0, 0))) ∧ Aside0 (Below w.heap.size w w'))
       case atStart => exact ⟨(t190), (y194), (0), (0), (0), (0), (by first | rfl | (simp; done) | (simp [*]; done)), H', ⟨Nat.le_refl _⟩, ⟨Kd.R_V (rlu (Kd.R_mono (Kd.R_types (Kd.R_types HO192.out BK189.out (by decide)) BK193.out (by decide)) (fun _ hk => ⟨hk.1.1.2, ⟨hk.1.2, hk.2⟩⟩)))⟩, ⟨Kd.Q_of_R (rlu (Kd.R_mono HO196.out (fun _ hk => trivial)))⟩, ⟨by (with_reducible repeat (first | refine blk_drewN ?_ _ | refine blk_drew ?_ | refine blk_alloc ?_ _)); exact BK189.out⟩, ⟨by (with_reducible repeat (first | refine blk_drewN ?_ _ | refine blk_drew ?_ | refine blk_alloc ?_ _)); exact BK193.out⟩, ⟨by repeat (first | (with_reducible first | exact HB.out | apply below_alloc | apply pw_below_drewN | apply below_drew1 | refine below_set ?_ GE189.out | refine below_set ?_ GE193.out) | exact HB.out)⟩⟩
       case round =>
        clear H'
        try clear c1
        try clear c2
        try clear p2
        try clear c5
        try clear c5b0
        try clear c5b1
        try clear p6
        try clear c8
        try clear c12
        try clear c13
        try clear c13b0
        try clear c19
        try clear hcz12_0
        try clear hcz12_1
        try clear hcz14_0
        try clear hcz14_1
        try clear hcz16_0
        try clear hcz16_1
        try clear hcz20_0
        try clear hcz20_1
        try clear hcz20_2
        try clear hfz12_0
        try clear hfz12_1
        try clear hfz14_0
        try clear hfz14_1
        try clear hfz16_0
        try clear hfz16_1
        try clear hfz20_0
        try clear hfz20_1
        try clear hfz20_2
        try clear p2
        try clear p6
        obtain ⟨x10_3, x12_3, x13_3, x194000_3, x194001_3, x194002_3, rfl, HA, HK3, HO_10, HO_12, BK189, BK193, HB⟩ := hrel
        cases gk with
        | zero => exact absurd HA.out (by simp [treillagelaw16_QueueOne.l1])
        | succ k3 =>
         have H := HA.out
         clear HA
         simp only [treillagelaw16_QueueOne.l1] at H
         by_cases c23 : x13_3 < (l1.length : Int)
         ·rw [if_pos c23] at H
          have c23b0 : decide (x13_3 < (l1.length : Int)) = true := decide_eq_true c23
          clear c23
          by_cases c24 : 0 ≤ x13_3
          ·rw [if_pos c24] at H
           have c24b0 : decide (0 ≤ x13_3) = true := decide_eq_true c24
           clear c24
           have HC25 := aA H
           clear H
           have p197 : 0 ≤ (x13_3 : Int) := of_decide_eq_true (by first | (with_reducible assumption) | assumption)
           have q197 : x13_3 < (l1.length : Int) := of_decide_eq_true (by first | (with_reducible assumption) | assumption)
           obtain ⟨ad197, e197, hx197_0⟩ := Kd.at_int HR1.out x13_3 p197 q197
           cases e197
           replace hx197_0 := (HB.out.cell (World.block_lt_of_cell? w _ hx197_0)).trans hx197_0
           replace p197 := eq_true p197
           replace q197 := eq_true q197
           go_upto_block 4 with (first | ((with_reducible refine gate_dst (N := 14) rfl ?_); (try (refine gate_guard (by rfl) ?_; dsimp only)); refine box_event ?hg (N := 14) ?hd (cs := #[.int .i64 0, .int .u64 0, .int .u64 0]) (t := 54) ?hr ?_; (case hd => rfl); (case hg => rfl); (case hr => first | (go_simp; done) | (go_simp; rfl)); intro gb198 hg w26 hbox hb; have n0_ := aA (Kd.V_below (Kd.V_elderB (vlu HO_10.out) gb198 (Nat.le_of_eq hg.symm)) hb); have n1_ := aA (Kd.Q_below (qlu HO_12.out) hb); have n2_ := aA (blk_below (g := gb189) (o := .cells #[.int .i64 1, .int .i64 (wrap64 (1 + (Int.tmod (wrap64 (a0)) 4)))] 38 (0, 0)) (bku BK189.out) hb); have n3_ := aA (blk_below (g := gb193) (o := .cells #[.int .i64 x194000_3, .int .u64 x194001_3, .int .u64 x194002_3] 56 (0, 0)) (bku BK193.out) hb); have n4_ := aA (below_step (bls HB.out) hb); have n5_ := aA (hbox); have n6_ := aA ((by rw [hg]; exact (below_size (bls HB.out)) : w.heap.size ≤ gb198)); have n7_ := aA ((by rw [hg]; exact (below_size (bls HB.out)) : w.heap.size ≤ gb198)); have n8_ := aA ((by rw [hg]; exact Nat.ne_of_lt (blk_lt (g := gb189) (o := .cells #[.int .i64 1, .int .i64 (wrap64 (1 + (Int.tmod (wrap64 (a0)) 4)))] 38 (0, 0)) (bku BK189.out)) : gb189 ≠ gb198)); have n9_ := aA ((by rw [hg]; exact Nat.ne_of_gt (blk_lt (g := gb189) (o := .cells #[.int .i64 1, .int .i64 (wrap64 (1 + (Int.tmod (wrap64 (a0)) 4)))] 38 (0, 0)) (bku BK189.out)) : gb198 ≠ gb189)); have n10_ := aA ((by rw [hg]; exact Nat.ne_of_lt (blk_lt (g := gb193) (o := .cells #[.int .i64 x194000_3, .int .u64 x194001_3, .int .u64 x194002_3] 56 (0, 0)) (bku BK193.out)) : gb193 ≠ gb198)); have n11_ := aA ((by rw [hg]; exact Nat.ne_of_gt (blk_lt (g := gb193) (o := .cells #[.int .i64 x194000_3, .int .u64 x194001_3, .int .u64 x194002_3] 56 (0, 0)) (bku BK193.out)) : gb198 ≠ gb193)); clear HO_10 HO_12 BK189 BK193 HB; have HO_10 := n0_; have HO_12 := n1_; have BK189 := n2_; have BK193 := n3_; have HB := n4_; have BK198 := n5_; have GW198 := n6_; have GE198 := n7_; have NB189_198 := n8_; have NB198_189 := n9_; have NB193_198 := n10_; have NB198_193 := n11_; clear n0_ n1_ n2_ n3_ n4_ n5_ n6_ n7_ n8_ n9_ n10_ n11_ hb hbox hg; have hnb27 := NB198_189.out; have hnc27 := NB189_198.out; have hnb28 := NB198_193.out; have hnc28 := NB193_198.out; have hcz29_0 : w26.cell? ⟨gb198, 0, none⟩ = some (.int .i64 0) := (blk_cell BK198.out 0).trans rfl; have hcz29_1 : w26.cell? ⟨gb198, 1, none⟩ = some (.int .u64 0) := (blk_cell BK198.out 1).trans rfl; have hcz29_2 : w26.cell? ⟨gb198, 2, none⟩ = some (.int .u64 0) := (blk_cell BK198.out 2).trans rfl; have hfz29_0 := blk_frozen BK198.out 0; have hfz29_1 := blk_frozen BK198.out 1; have hfz29_2 := blk_frozen BK198.out 2))
           repeat (go_quiet (first | ((with_reducible refine gate_dst (N := 14) rfl ?_); (try (refine gate_guard (by rfl) ?_; dsimp only)); refine box_event ?hg (N := 14) ?hd (cs := #[.int .i64 0, .int .u64 0, .int .u64 0]) (t := 54) ?hr ?_; (case hd => rfl); (case hg => rfl); (case hr => first | (go_simp; done) | (go_simp; rfl)); intro gb198 hg w26 hbox hb; have n0_ := aA (Kd.V_below (Kd.V_elderB (vlu HO_10.out) gb198 (Nat.le_of_eq hg.symm)) hb); have n1_ := aA (Kd.Q_below (qlu HO_12.out) hb); have n2_ := aA (blk_below (g := gb189) (o := .cells #[.int .i64 1, .int .i64 (wrap64 (1 + (Int.tmod (wrap64 (a0)) 4)))] 38 (0, 0)) (bku BK189.out) hb); have n3_ := aA (blk_below (g := gb193) (o := .cells #[.int .i64 x194000_3, .int .u64 x194001_3, .int .u64 x194002_3] 56 (0, 0)) (bku BK193.out) hb); have n4_ := aA (below_step (bls HB.out) hb); have n5_ := aA (hbox); have n6_ := aA ((by rw [hg]; exact (below_size (bls HB.out)) : w.heap.size ≤ gb198)); have n7_ := aA ((by rw [hg]; exact (below_size (bls HB.out)) : w.heap.size ≤ gb198)); have n8_ := aA ((by rw [hg]; exact Nat.ne_of_lt (blk_lt (g := gb189) (o := .cells #[.int .i64 1, .int .i64 (wrap64 (1 + (Int.tmod (wrap64 (a0)) 4)))] 38 (0, 0)) (bku BK189.out)) : gb189 ≠ gb198)); have n9_ := aA ((by rw [hg]; exact Nat.ne_of_gt (blk_lt (g := gb189) (o := .cells #[.int .i64 1, .int .i64 (wrap64 (1 + (Int.tmod (wrap64 (a0)) 4)))] 38 (0, 0)) (bku BK189.out)) : gb198 ≠ gb189)); have n10_ := aA ((by rw [hg]; exact Nat.ne_of_lt (blk_lt (g := gb193) (o := .cells #[.int .i64 x194000_3, .int .u64 x194001_3, .int .u64 x194002_3] 56 (0, 0)) (bku BK193.out)) : gb193 ≠ gb198)); have n11_ := aA ((by rw [hg]; exact Nat.ne_of_gt (blk_lt (g := gb193) (o := .cells #[.int .i64 x194000_3, .int .u64 x194001_3, .int .u64 x194002_3] 56 (0, 0)) (bku BK193.out)) : gb198 ≠ gb193)); clear HO_10 HO_12 BK189 BK193 HB; have HO_10 := n0_; have HO_12 := n1_; have BK189 := n2_; have BK193 := n3_; have HB := n4_; have BK198 := n5_; have GW198 := n6_; have GE198 := n7_; have NB189_198 := n8_; have NB198_189 := n9_; have NB193_198 := n10_; have NB198_193 := n11_; clear n0_ n1_ n2_ n3_ n4_ n5_ n6_ n7_ n8_ n9_ n10_ n11_ hb hbox hg; have hnb27 := NB198_189.out; have hnc27 := NB189_198.out; have hnb28 := NB198_193.out; have hnc28 := NB193_198.out; have hcz29_0 : w26.cell? ⟨gb198, 0, none⟩ = some (.int .i64 0) := (blk_cell BK198.out 0).trans rfl; have hcz29_1 : w26.cell? ⟨gb198, 1, none⟩ = some (.int .u64 0) := (blk_cell BK198.out 1).trans rfl; have hcz29_2 : w26.cell? ⟨gb198, 2, none⟩ = some (.int .u64 0) := (blk_cell BK198.out 2).trans rfl; have hfz29_0 := blk_frozen BK198.out 0; have hfz29_1 := blk_frozen BK198.out 1; have hfz29_2 := blk_frozen BK198.out 2)); go_upto_block 4 with (first | ((with_reducible refine gate_dst (N := 14) rfl ?_); (try (refine gate_guard (by rfl) ?_; dsimp only)); refine box_event ?hg (N := 14) ?hd (cs := #[.int .i64 0, .int .u64 0, .int .u64 0]) (t := 54) ?hr ?_; (case hd => rfl); (case hg => rfl); (case hr => first | (go_simp; done) | (go_simp; rfl)); intro gb198 hg w26 hbox hb; have n0_ := aA (Kd.V_below (Kd.V_elderB (vlu HO_10.out) gb198 (Nat.le_of_eq hg.symm)) hb); have n1_ := aA (Kd.Q_below (qlu HO_12.out) hb); have n2_ := aA (blk_below (g := gb189) (o := .cells #[.int .i64 1, .int .i64 (wrap64 (1 + (Int.tmod (wrap64 (a0)) 4)))] 38 (0, 0)) (bku BK189.out) hb); have n3_ := aA (blk_below (g := gb193) (o := .cells #[.int .i64 x194000_3, .int .u64 x194001_3, .int .u64 x194002_3] 56 (0, 0)) (bku BK193.out) hb); have n4_ := aA (below_step (bls HB.out) hb); have n5_ := aA (hbox); have n6_ := aA ((by rw [hg]; exact (below_size (bls HB.out)) : w.heap.size ≤ gb198)); have n7_ := aA ((by rw [hg]; exact (below_size (bls HB.out)) : w.heap.size ≤ gb198)); have n8_ := aA ((by rw [hg]; exact Nat.ne_of_lt (blk_lt (g := gb189) (o := .cells #[.int .i64 1, .int .i64 (wrap64 (1 + (Int.tmod (wrap64 (a0)) 4)))] 38 (0, 0)) (bku BK189.out)) : gb189 ≠ gb198)); have n9_ := aA ((by rw [hg]; exact Nat.ne_of_gt (blk_lt (g := gb189) (o := .cells #[.int .i64 1, .int .i64 (wrap64 (1 + (Int.tmod (wrap64 (a0)) 4)))] 38 (0, 0)) (bku BK189.out)) : gb198 ≠ gb189)); have n10_ := aA ((by rw [hg]; exact Nat.ne_of_lt (blk_lt (g := gb193) (o := .cells #[.int .i64 x194000_3, .int .u64 x194001_3, .int .u64 x194002_3] 56 (0, 0)) (bku BK193.out)) : gb193 ≠ gb198)); have n11_ := aA ((by rw [hg]; exact Nat.ne_of_gt (blk_lt (g := gb193) (o := .cells #[.int .i64 x194000_3, .int .u64 x194001_3, .int .u64 x194002_3] 56 (0, 0)) (bku BK193.out)) : gb198 ≠ gb193)); clear HO_10 HO_12 BK189 BK193 HB; have HO_10 := n0_; have HO_12 := n1_; have BK189 := n2_; have BK193 := n3_; have HB := n4_; have BK198 := n5_; have GW198 := n6_; have GE198 := n7_; have NB189_198 := n8_; have NB198_189 := n9_; have NB193_198 := n10_; have NB198_193 := n11_; clear n0_ n1_ n2_ n3_ n4_ n5_ n6_ n7_ n8_ n9_ n10_ n11_ hb hbox hg; have hnb27 := NB198_189.out; have hnc27 := NB189_198.out; have hnb28 := NB198_193.out; have hnc28 := NB193_198.out; have hcz29_0 : w26.cell? ⟨gb198, 0, none⟩ = some (.int .i64 0) := (blk_cell BK198.out 0).trans rfl; have hcz29_1 : w26.cell? ⟨gb198, 1, none⟩ = some (.int .u64 0) := (blk_cell BK198.out 1).trans rfl; have hcz29_2 : w26.cell? ⟨gb198, 2, none⟩ = some (.int .u64 0) := (blk_cell BK198.out 2).trans rfl; have hfz29_0 := blk_frozen BK198.out 0; have hfz29_1 := blk_frozen BK198.out 1; have hfz29_2 := blk_frozen BK198.out 2)))
           (try simp only [Act.put, List.setIfInBounds_toArray, List.set_cons_zero, List.set_cons_succ])
           go_cut [10, 15] (fun v10 v15 wc => ∃ (kq : Nat) (x10_24 : List Int) (x15_24 : Int) (x199000_24 : Int) (x199001_24 : Int) (x199002_24 : Int), v15 = .int .i64 x15_24 ∧ Aside0 (treillagelaw16_QueueOne.j4 kq l1 l2 x8_2 x10_24 x12_3 x13_3 x15_24 1 (wrap64 (1 + (Int.tmod (wrap64 (a0)) 4))) x194000_3 x194001_3 x194002_3 x199000_24 x199001_24 x199002_24 = some r) ∧ Aside0 (kq ≤ k3) ∧ Aside0 (Kd.V (Kd.int .u64) 23 wc w.heap.size (fun k_ => some k_ ≠ (u12 : Value).ownBlock ∧ k_ ≠ gb189 ∧ k_ ≠ gb193 ∧ k_ ≠ gb198) v10 x10_24) ∧ Aside0 (Kd.Q (Kd.int .u64) 23 wc w.heap.size (fun _ => True) u12 x12_3) ∧ Aside0 (wc.heap[gb189]? = some (.cells #[.int .i64 1, .int .i64 (wrap64 (1 + (Int.tmod (wrap64 (a0)) 4)))] 38 (0, 0))) ∧ Aside0 (wc.heap[gb193]? = some (.cells #[.int .i64 x194000_3, .int .u64 x194001_3, .int .u64 x194002_3] 56 (0, 0))) ∧ Aside0 (wc.heap[gb198]? = some (.cells #[.int .i64 x199000_24, .int .u64 x199001_24, .int .u64 x199002_24] 54 (0, 0))) ∧ Aside0 (Below w.heap.size w wc))
           case first =>
            have H := HC25.out
            clear HC25
            have H' := aA H
            clear H
            go_wp2
            repeat (go_quiet (fail); try go_wp2)
            go_loopg [10, 15] k3 (fun kq v10 v15 w' => ∃ (x10_4 : List Int) (x15_4 : Int) (x199000_4 : Int) (x199001_4 : Int) (x199002_4 : Int), v15 = .int .i64 x15_4 ∧ Aside0 (treillagelaw16_QueueOne.l2 kq l1 l2 x8_2 x10_4 x12_3 x13_3 x15_4 1 (wrap64 (1 + (Int.tmod (wrap64 (a0)) 4))) x194000_3 x194001_3 x194002_3 x199000_4 x199001_4 x199002_4 = some r) ∧ Aside0 (kq ≤ k3) ∧ Aside0 (Kd.V (Kd.int .u64) 23 w' w.heap.size (fun k_ => some k_ ≠ (u12 : Value).ownBlock ∧ k_ ≠ gb189 ∧ k_ ≠ gb193 ∧ k_ ≠ gb198) v10 x10_4) ∧ Aside0 (Kd.Q (Kd.int .u64) 23 w' w.heap.size (fun _ => True) u12 x12_3) ∧ Aside0 (w'.heap[gb189]? = some (.cells #[.int .i64 1, .int .i64 (wrap64 (1 + (Int.tmod (wrap64 (a0)) 4)))] 38 (0, 0))) ∧ Aside0 (w'.heap[gb193]? = some (.cells #[.int .i64 x194000_3, .int .u64 x194001_3, .int .u64 x194002_3] 56 (0, 0))) ∧ Aside0 (w'.heap[gb198]? = some (.cells #[.int .i64 x199000_4, .int .u64 x199001_4, .int .u64 x199002_4] 54 (0, 0))) ∧ Aside0 (Below w.heap.size w w'))
            case atStart => exact ⟨(x10_3), (0), (0), (0), (rd l1 x13_3), (by first | rfl | (simp; done) | (simp [*]; done)), H', ⟨Nat.le_refl _⟩, ⟨by (with_reducible repeat (first | apply Kd.V_alloc | apply Kd.V_drewN | apply Kd.V_drew)); exact Kd.V_mono (Kd.V_far (p := ⟨gb198, 2, none⟩) (Kd.V_far (p := ⟨gb198, 1, none⟩) (Kd.V_far (p := ⟨gb198, 0, none⟩) (Kd.V_mono HO_10.out (fun k_ hk => (⟨hk, hk.2⟩ : _ ∧ k_ ≠ gb198))) (fun _ hk => hk.2) (.int .i64 0)) (fun _ hk => hk.2) (.int .u64 0)) (fun _ hk => hk.2) (.int .u64 (rd l1 x13_3))) (fun _ hk => ⟨hk.1.1.1, ⟨hk.1.1.2.1, ⟨hk.1.1.2.2, hk.1.2⟩⟩⟩)⟩, ⟨by (with_reducible repeat (first | apply Kd.Q_alloc | apply Kd.Q_drewN | apply Kd.Q_drew)); exact Kd.Q_mono (Kd.Q_far (p := ⟨gb198, 2, none⟩) (Kd.Q_far (p := ⟨gb198, 1, none⟩) (Kd.Q_far (p := ⟨gb198, 0, none⟩) (Kd.Q_types HO_12.out BK198.out (by decide)) (fun _ hk => hk.2) (.int .i64 0)) (fun _ hk => hk.2) (.int .u64 0)) (fun _ hk => hk.2) (.int .u64 (rd l1 x13_3))) (fun _ hk => trivial)⟩, ⟨by (with_reducible repeat (first | refine blk_drewN ?_ _ | refine blk_drew ?_ | refine blk_alloc ?_ _)); refine blk_far ?_ NB189_198.out _; (with_reducible repeat (first | refine blk_drewN ?_ _ | refine blk_drew ?_ | refine blk_alloc ?_ _)); refine blk_far ?_ NB189_198.out _; (with_reducible repeat (first | refine blk_drewN ?_ _ | refine blk_drew ?_ | refine blk_alloc ?_ _)); refine blk_far ?_ NB189_198.out _; (with_reducible repeat (first | refine blk_drewN ?_ _ | refine blk_drew ?_ | refine blk_alloc ?_ _)); exact BK189.out⟩, ⟨by (with_reducible repeat (first | refine blk_drewN ?_ _ | refine blk_drew ?_ | refine blk_alloc ?_ _)); refine blk_far ?_ NB193_198.out _; (with_reducible repeat (first | refine blk_drewN ?_ _ | refine blk_drew ?_ | refine blk_alloc ?_ _)); refine blk_far ?_ NB193_198.out _; (with_reducible repeat (first | refine blk_drewN ?_ _ | refine blk_drew ?_ | refine blk_alloc ?_ _)); refine blk_far ?_ NB193_198.out _; (with_reducible repeat (first | refine blk_drewN ?_ _ | refine blk_drew ?_ | refine blk_alloc ?_ _)); exact BK193.out⟩, ⟨by (with_reducible repeat (first | refine blk_drewN ?_ _ | refine blk_drew ?_ | refine blk_alloc ?_ _)); refine blk_put (cs := #[.int .i64 0, .int .u64 0, .int .u64 0]) ?_ 2 _ rfl; (with_reducible repeat (first | refine blk_drewN ?_ _ | refine blk_drew ?_ | refine blk_alloc ?_ _)); refine blk_put (cs := #[.int .i64 0, .int .u64 0, .int .u64 0]) ?_ 1 _ rfl; (with_reducible repeat (first | refine blk_drewN ?_ _ | refine blk_drew ?_ | refine blk_alloc ?_ _)); refine blk_put (cs := #[.int .i64 0, .int .u64 0, .int .u64 0]) ?_ 0 _ rfl; (with_reducible repeat (first | refine blk_drewN ?_ _ | refine blk_drew ?_ | refine blk_alloc ?_ _)); exact BK198.out⟩, ⟨by repeat (first | (with_reducible first | exact HB.out | apply below_alloc | apply pw_below_drewN | apply below_drew1 | refine below_set ?_ GE189.out | refine below_set ?_ GE193.out | refine below_set ?_ GE198.out) | exact HB.out)⟩⟩
            case round =>
             clear H'
             try clear c1
             try clear p1
             try clear q1
             try clear hx1
             try clear c2
             try clear p2
             try clear c5
             try clear c5b0
             try clear c5b1
             try clear p6
             try clear c8
             try clear c12
             try clear c13
             try clear c13b0
             try clear c19
             try clear p19
             try clear q19
             try clear hx19
             try clear c23
             try clear c23b0
             try clear c24
             try clear c24b0
             try clear c27
             try clear c28
             try clear hcz12_0
             try clear hcz12_1
             try clear hcz14_0
             try clear hcz14_1
             try clear hcz16_0
             try clear hcz16_1
             try clear hcz20_0
             try clear hcz20_1
             try clear hcz20_2
             try clear hcz29_0
             try clear hcz29_1
             try clear hcz29_2
             try clear hfz12_0
             try clear hfz12_1
             try clear hfz14_0
             try clear hfz14_1
             try clear hfz16_0
             try clear hfz16_1
             try clear hfz20_0
             try clear hfz20_1
             try clear hfz20_2
             try clear hfz29_0
             try clear hfz29_1
             try clear hfz29_2
             try clear hx197_0
             try clear p197
             try clear p2
             try clear p6
             try clear q197
             obtain ⟨x10_4, x15_4, x199000_4, x199001_4, x199002_4, rfl, HA, HK4, HO_10, HO_12, BK189, BK193, BK198, HB⟩ := hrel
             cases gk with
             | zero => exact absurd HA.out (by simp [treillagelaw16_QueueOne.l2])
             | succ k4 =>
              have H := HA.out
              clear HA
              simp only [treillagelaw16_QueueOne.l2] at H
              by_cases c30 : x15_4 < 6
              ·rw [if_pos c30] at H
               have c30b0 : decide (x15_4 < 6) = true := decide_eq_true c30
               clear c30
               (first | rw [c30b0] | (simp only [i64_w, i32_w]; rw [c30b0]) | skip)
               replace H := Option.bind_eq_some_iff.mp H
               obtain ⟨⟨t199, t200, t201, t202, t203⟩, A310, H⟩ := H
               replace H : (if t203 = true then ((mem_Do.f x10_4 t199 t200 t201 t202).bind fun bt205 => ((queue_Got.f k4 x199000_4 x199001_4 x199002_4 bt205.2.1 bt205.2.2).bind fun bt210 => (treillagelaw16_QueueOne.l2 k4 l1 l2 x8_2 bt205.1 x12_3 x13_3 (wrap64 (x15_4 + 1)) 1 (wrap64 (1 + (Int.tmod (wrap64 (a0)) 4))) x194000_3 x194001_3 x194002_3 bt210.1 bt210.2.1 bt210.2.2))) else (treillagelaw16_QueueOne.j4 k4 l1 l2 x8_2 x10_4 x12_3 x13_3 x15_4 1 (wrap64 (1 + (Int.tmod (wrap64 (a0)) 4))) x194000_3 x194001_3 x194002_3 x199000_4 x199001_4 x199002_4)) = some r := H
               have A31 := aA A310
               clear A310
               by_cases c32 : t203 = true
               ·subst c32
                have H1 : ((mem_Do.f x10_4 t199 t200 t201 t202).bind fun bt205 => ((queue_Got.f k4 x199000_4 x199001_4 x199002_4 bt205.2.1 bt205.2.2).bind fun bt210 => (treillagelaw16_QueueOne.l2 k4 l1 l2 x8_2 bt205.1 x12_3 x13_3 (wrap64 (x15_4 + 1)) 1 (wrap64 (1 + (Int.tmod (wrap64 (a0)) 4))) x194000_3 x194001_3 x194002_3 bt210.1 bt210.2.1 bt210.2.2))) = some r := by rw [if_pos rfl] at H; exact H
                clear H
                have H := H1
                clear H1
                replace H := Option.bind_eq_some_iff.mp H
                obtain ⟨⟨t205, t208, t209⟩, A330, H⟩ := H
                replace H : ((queue_Got.f k4 x199000_4 x199001_4 x199002_4 t208 t209).bind fun bt210 => (treillagelaw16_QueueOne.l2 k4 l1 l2 x8_2 t205 x12_3 x13_3 (wrap64 (x15_4 + 1)) 1 (wrap64 (1 + (Int.tmod (wrap64 (a0)) 4))) x194000_3 x194001_3 x194002_3 bt210.1 bt210.2.1 bt210.2.2)) = some r := H
                have A33 := aA A330
                clear A330
                replace H := Option.bind_eq_some_iff.mp H
                obtain ⟨⟨t210, t211, t212⟩, A340, H⟩ := H
                replace H : (treillagelaw16_QueueOne.l2 k4 l1 l2 x8_2 t205 x12_3 x13_3 (wrap64 (x15_4 + 1)) 1 (wrap64 (1 + (Int.tmod (wrap64 (a0)) 4))) x194000_3 x194001_3 x194002_3 t210 t211 t212) = some r := H
                have A34 := aA A340
                clear A340
                as_aux_lemma =>
                 have H' := aA H
                 clear H
                 have hnb35 := NB189_193.out
                 have hnc35 := NB193_189.out
                 have hnb36 := NB189_198.out
                 have hnc36 := NB198_189.out
                 have hcz37_0 : wr.cell? ⟨gb189, 0, none⟩ = some (.int .i64 1) := (blk_cell BK189.out 0).trans rfl
                 have hcz37_1 : wr.cell? ⟨gb189, 1, none⟩ = some (.int .i64 (wrap64 (1 + (Int.tmod (wrap64 (a0)) 4)))) := (blk_cell BK189.out 1).trans rfl
                 have hfz37_0 := blk_frozen BK189.out 0
                 have hfz37_1 := blk_frozen BK189.out 1
                 have hnb38 := NB198_193.out
                 have hnc38 := NB193_198.out
                 have hcz39_0 : wr.cell? ⟨gb198, 0, none⟩ = some (.int .i64 x199000_4) := (blk_cell BK198.out 0).trans rfl
                 have hcz39_1 : wr.cell? ⟨gb198, 1, none⟩ = some (.int .u64 x199001_4) := (blk_cell BK198.out 1).trans rfl
                 have hcz39_2 : wr.cell? ⟨gb198, 2, none⟩ = some (.int .u64 x199002_4) := (blk_cell BK198.out 2).trans rfl
                 have hfz39_0 := blk_frozen BK198.out 0
                 have hfz39_1 := blk_frozen BK198.out 1
                 have hfz39_2 := blk_frozen BK198.out 2
                 go_wp2_with (first | (go_at_call 47; (with_reducible refine (queue_Want.calls 1 (wrap64 (1 + (Int.tmod (wrap64 (a0)) 4))) x199000_4 x199001_4 x199002_4 t199 t200 t201 t202 true _ A31.out).mono ?_); rintro e w40 ⟨rfl, hb⟩; have n0_ := aA (Kd.V_below (vlu HO_10.out) hb); have n1_ := aA (Kd.Q_below (qlu HO_12.out) hb); have n2_ := aA (blk_below (g := gb189) (o := .cells #[.int .i64 1, .int .i64 (wrap64 (1 + (Int.tmod (wrap64 (a0)) 4)))] 38 (0, 0)) (bku BK189.out) hb); have n3_ := aA (blk_below (g := gb193) (o := .cells #[.int .i64 x194000_3, .int .u64 x194001_3, .int .u64 x194002_3] 56 (0, 0)) (bku BK193.out) hb); have n4_ := aA (blk_below (g := gb198) (o := .cells #[.int .i64 x199000_4, .int .u64 x199001_4, .int .u64 x199002_4] 54 (0, 0)) (bku BK198.out) hb); have n5_ := aA (below_step (bls HB.out) hb); clear HO_10 HO_12 BK189 BK193 BK198 HB; have HO_10 := n0_; have HO_12 := n1_; have BK189 := n2_; have BK193 := n3_; have BK198 := n4_; have HB := n5_; clear n0_ n1_ n2_ n3_ n4_ n5_; (try clear hb); (try clear hb2); (try clear hk); (try clear hi)) | ((with_reducible refine gate_dst (N := 16) rfl ?_); (try (refine gate_guard (by rfl) ?_; dsimp only)); refine box_event ?hg (N := 16) ?hd (cs := #[.int .i64 0, .int .i64 0, .int .u64 0, .int .u64 0]) (t := 25) ?hr ?_; (case hd => rfl); (case hg => rfl); (case hr => first | (go_simp; done) | (go_simp; rfl)); intro gb204 hg w41 hbox hb; have n0_ := aA (Kd.V_below (Kd.V_elderB (vlu HO_10.out) gb204 (Nat.le_of_eq hg.symm)) hb); have n1_ := aA (Kd.Q_below (qlu HO_12.out) hb); have n2_ := aA (blk_below (g := gb189) (o := .cells #[.int .i64 1, .int .i64 (wrap64 (1 + (Int.tmod (wrap64 (a0)) 4)))] 38 (0, 0)) (bku BK189.out) hb); have n3_ := aA (blk_below (g := gb193) (o := .cells #[.int .i64 x194000_3, .int .u64 x194001_3, .int .u64 x194002_3] 56 (0, 0)) (bku BK193.out) hb); have n4_ := aA (blk_below (g := gb198) (o := .cells #[.int .i64 x199000_4, .int .u64 x199001_4, .int .u64 x199002_4] 54 (0, 0)) (bku BK198.out) hb); have n5_ := aA (below_step (bls HB.out) hb); have n6_ := aA (hbox); have n7_ := aA ((by rw [hg]; exact (below_size (bls HB.out)) : w.heap.size ≤ gb204)); have n8_ := aA ((by rw [hg]; exact (below_size (bls HB.out)) : w.heap.size ≤ gb204)); have n9_ := aA ((by rw [hg]; exact Nat.ne_of_lt (blk_lt (g := gb189) (o := .cells #[.int .i64 1, .int .i64 (wrap64 (1 + (Int.tmod (wrap64 (a0)) 4)))] 38 (0, 0)) (bku BK189.out)) : gb189 ≠ gb204)); have n10_ := aA ((by rw [hg]; exact Nat.ne_of_gt (blk_lt (g := gb189) (o := .cells #[.int .i64 1, .int .i64 (wrap64 (1 + (Int.tmod (wrap64 (a0)) 4)))] 38 (0, 0)) (bku BK189.out)) : gb204 ≠ gb189)); have n11_ := aA ((by rw [hg]; exact Nat.ne_of_lt (blk_lt (g := gb193) (o := .cells #[.int .i64 x194000_3, .int .u64 x194001_3, .int .u64 x194002_3] 56 (0, 0)) (bku BK193.out)) : gb193 ≠ gb204)); have n12_ := aA ((by rw [hg]; exact Nat.ne_of_gt (blk_lt (g := gb193) (o := .cells #[.int .i64 x194000_3, .int .u64 x194001_3, .int .u64 x194002_3] 56 (0, 0)) (bku BK193.out)) : gb204 ≠ gb193)); have n13_ := aA ((by rw [hg]; exact Nat.ne_of_lt (blk_lt (g := gb198) (o := .cells #[.int .i64 x199000_4, .int .u64 x199001_4, .int .u64 x199002_4] 54 (0, 0)) (bku BK198.out)) : gb198 ≠ gb204)); have n14_ := aA ((by rw [hg]; exact Nat.ne_of_gt (blk_lt (g := gb198) (o := .cells #[.int .i64 x199000_4, .int .u64 x199001_4, .int .u64 x199002_4] 54 (0, 0)) (bku BK198.out)) : gb204 ≠ gb198)); clear HO_10 HO_12 BK189 BK193 BK198 HB; have HO_10 := n0_; have HO_12 := n1_; have BK189 := n2_; have BK193 := n3_; have BK198 := n4_; have HB := n5_; have BK204 := n6_; have GW204 := n7_; have GE204 := n8_; have NB189_204 := n9_; have NB204_189 := n10_; have NB193_204 := n11_; have NB204_193 := n12_; have NB198_204 := n13_; have NB204_198 := n14_; clear n0_ n1_ n2_ n3_ n4_ n5_ n6_ n7_ n8_ n9_ n10_ n11_ n12_ n13_ n14_ hb hbox hg; have hnb42 := NB204_189.out; have hnc42 := NB189_204.out; have hnb43 := NB204_193.out; have hnc43 := NB193_204.out; have hnb44 := NB204_198.out; have hnc44 := NB198_204.out; have hcz45_0 : w41.cell? ⟨gb204, 0, none⟩ = some (.int .i64 0) := (blk_cell BK204.out 0).trans rfl; have hcz45_1 : w41.cell? ⟨gb204, 1, none⟩ = some (.int .i64 0) := (blk_cell BK204.out 1).trans rfl; have hcz45_2 : w41.cell? ⟨gb204, 2, none⟩ = some (.int .u64 0) := (blk_cell BK204.out 2).trans rfl; have hcz45_3 : w41.cell? ⟨gb204, 3, none⟩ = some (.int .u64 0) := (blk_cell BK204.out 3).trans rfl; have hfz45_0 := blk_frozen BK204.out 0; have hfz45_1 := blk_frozen BK204.out 1; have hfz45_2 := blk_frozen BK204.out 2; have hfz45_3 := blk_frozen BK204.out 3) | ((with_reducible refine gate_store (t := 25) (p := 16) rfl ?_); (try (rw [drewN_self w41]; generalize hq_ : World.drewN w41 _ = w41; have n0_ := aA (Kd.V_at hq_ HO_10.out); have n1_ := aA (Kd.Q_at hq_ HO_12.out); have n2_ := aA (blk_at hq_ BK189.out); have n3_ := aA (blk_at hq_ BK193.out); have n4_ := aA (blk_at hq_ BK198.out); have n5_ := aA (blk_at hq_ BK204.out); have n6_ := aA (below_at hq_ HB.out); clear hq_ HO_10 HO_12 BK189 BK193 BK198 BK204 HB; have HO_10 := n0_; have HO_12 := n1_; have BK189 := n2_; have BK193 := n3_; have BK198 := n4_; have BK204 := n5_; have HB := n6_; clear n0_ n1_ n2_ n3_ n4_ n5_ n6_)); refine store_event (t := 25) (p := 16) (v := ?vo_w46) (w1 := ((((w41.setCell ⟨gb204, 0, none⟩ (.int .i64 t199)).setCell ⟨gb204, 1, none⟩ (.int .i64 t200)).setCell ⟨gb204, 2, none⟩ (.int .u64 t201)).setCell ⟨gb204, 3, none⟩ (.int .u64 t202))) ?hg ?ho ?hn ?hr ?_; (case ho => rfl); (case hg => rfl); (case hn => rfl); (case hr => first | (go_simp; done) | (go_simp; rfl)); intro w46 hw; have n0_ : Aside0 (Kd.V (Kd.int .u64) 23 w46 w.heap.size (fun k_ => some k_ ≠ (u12 : Value).ownBlock ∧ k_ ≠ gb189 ∧ k_ ≠ gb193 ∧ k_ ≠ gb198 ∧ k_ ≠ gb204) u10 x10_4) := ⟨(by rw [hw]; exact (vlu (Kd.V_mono (Kd.V_far (p := ⟨gb204, 3, none⟩) (Kd.V_far (p := ⟨gb204, 2, none⟩) (Kd.V_far (p := ⟨gb204, 1, none⟩) (Kd.V_far (p := ⟨gb204, 0, none⟩) (Kd.V_mono HO_10.out (fun k_ hk => (⟨hk, hk.2⟩ : _ ∧ k_ ≠ gb204))) (fun _ hk => hk.2) (.int .i64 t199)) (fun _ hk => hk.2) (.int .i64 t200)) (fun _ hk => hk.2) (.int .u64 t201)) (fun _ hk => hk.2) (.int .u64 t202)) (fun _ hk => ⟨hk.1.1.1, ⟨hk.1.1.2.1, ⟨hk.1.1.2.2.1, ⟨hk.1.1.2.2.2, hk.1.2⟩⟩⟩⟩))))⟩; have n1_ : Aside0 (Kd.Q (Kd.int .u64) 23 w46 w.heap.size (fun _ => True) u12 x12_3) := ⟨(by rw [hw]; exact (qlu (Kd.Q_mono (Kd.Q_far (p := ⟨gb204, 3, none⟩) (Kd.Q_far (p := ⟨gb204, 2, none⟩) (Kd.Q_far (p := ⟨gb204, 1, none⟩) (Kd.Q_far (p := ⟨gb204, 0, none⟩) (Kd.Q_types HO_12.out BK204.out (by decide)) (fun _ hk => hk.2) (.int .i64 t199)) (fun _ hk => hk.2) (.int .i64 t200)) (fun _ hk => hk.2) (.int .u64 t201)) (fun _ hk => hk.2) (.int .u64 t202)) (fun _ hk => trivial))))⟩; have n2_ : Aside0 (w46.heap[gb189]? = some (.cells #[.int .i64 1, .int .i64 (wrap64 (1 + (Int.tmod (wrap64 (a0)) 4)))] 38 (0, 0))) := ⟨(by rw [hw]; exact (by (with_reducible repeat (first | refine blk_drewN ?_ _ | refine blk_drew ?_ | refine blk_alloc ?_ _)); refine blk_far ?_ NB189_204.out _; (with_reducible repeat (first | refine blk_drewN ?_ _ | refine blk_drew ?_ | refine blk_alloc ?_ _)); refine blk_far ?_ NB189_204.out _; (with_reducible repeat (first | refine blk_drewN ?_ _ | refine blk_drew ?_ | refine blk_alloc ?_ _)); refine blk_far ?_ NB189_204.out _; (with_reducible repeat (first | refine blk_drewN ?_ _ | refine blk_drew ?_ | refine blk_alloc ?_ _)); refine blk_far ?_ NB189_204.out _; (with_reducible repeat (first | refine blk_drewN ?_ _ | refine blk_drew ?_ | refine blk_alloc ?_ _)); exact BK189.out))⟩; have n3_ : Aside0 (w46.heap[gb193]? = some (.cells #[.int .i64 x194000_3, .int .u64 x194001_3, .int .u64 x194002_3] 56 (0, 0))) := ⟨(by rw [hw]; exact (by (with_reducible repeat (first | refine blk_drewN ?_ _ | refine blk_drew ?_ | refine blk_alloc ?_ _)); refine blk_far ?_ NB193_204.out _; (with_reducible repeat (first | refine blk_drewN ?_ _ | refine blk_drew ?_ | refine blk_alloc ?_ _)); refine blk_far ?_ NB193_204.out _; (with_reducible repeat (first | refine blk_drewN ?_ _ | refine blk_drew ?_ | refine blk_alloc ?_ _)); refine blk_far ?_ NB193_204.out _; (with_reducible repeat (first | refine blk_drewN ?_ _ | refine blk_drew ?_ | refine blk_alloc ?_ _)); refine blk_far ?_ NB193_204.out _; (with_reducible repeat (first | refine blk_drewN ?_ _ | refine blk_drew ?_ | refine blk_alloc ?_ _)); exact BK193.out))⟩; have n4_ : Aside0 (w46.heap[gb198]? = some (.cells #[.int .i64 x199000_4, .int .u64 x199001_4, .int .u64 x199002_4] 54 (0, 0))) := ⟨(by rw [hw]; exact (by (with_reducible repeat (first | refine blk_drewN ?_ _ | refine blk_drew ?_ | refine blk_alloc ?_ _)); refine blk_far ?_ NB198_204.out _; (with_reducible repeat (first | refine blk_drewN ?_ _ | refine blk_drew ?_ | refine blk_alloc ?_ _)); refine blk_far ?_ NB198_204.out _; (with_reducible repeat (first | refine blk_drewN ?_ _ | refine blk_drew ?_ | refine blk_alloc ?_ _)); refine blk_far ?_ NB198_204.out _; (with_reducible repeat (first | refine blk_drewN ?_ _ | refine blk_drew ?_ | refine blk_alloc ?_ _)); refine blk_far ?_ NB198_204.out _; (with_reducible repeat (first | refine blk_drewN ?_ _ | refine blk_drew ?_ | refine blk_alloc ?_ _)); exact BK198.out))⟩; have n5_ : Aside0 (w46.heap[gb204]? = some (.cells #[.int .i64 t199, .int .i64 t200, .int .u64 t201, .int .u64 t202] 25 (0, 0))) := ⟨(by rw [hw]; exact (by (with_reducible repeat (first | refine blk_drewN ?_ _ | refine blk_drew ?_ | refine blk_alloc ?_ _)); refine blk_put (cs := #[.int .i64 t199, .int .i64 t200, .int .u64 t201, .int .u64 0]) ?_ 3 _ rfl; (with_reducible repeat (first | refine blk_drewN ?_ _ | refine blk_drew ?_ | refine blk_alloc ?_ _)); refine blk_put (cs := #[.int .i64 t199, .int .i64 t200, .int .u64 0, .int .u64 0]) ?_ 2 _ rfl; (with_reducible repeat (first | refine blk_drewN ?_ _ | refine blk_drew ?_ | refine blk_alloc ?_ _)); refine blk_put (cs := #[.int .i64 t199, .int .i64 0, .int .u64 0, .int .u64 0]) ?_ 1 _ rfl; (with_reducible repeat (first | refine blk_drewN ?_ _ | refine blk_drew ?_ | refine blk_alloc ?_ _)); refine blk_put (cs := #[.int .i64 0, .int .i64 0, .int .u64 0, .int .u64 0]) ?_ 0 _ rfl; (with_reducible repeat (first | refine blk_drewN ?_ _ | refine blk_drew ?_ | refine blk_alloc ?_ _)); exact BK204.out))⟩; have n6_ : Aside0 (Below w.heap.size w w46) := ⟨(by rw [hw]; exact (bls HB.out))⟩; clear hw HO_10 HO_12 BK189 BK193 BK198 BK204 HB; have HO_10 := n0_; have HO_12 := n1_; have BK189 := n2_; have BK193 := n3_; have BK198 := n4_; have BK204 := n5_; have HB := n6_; clear n0_ n1_ n2_ n3_ n4_ n5_ n6_; have hcz47_0 : w46.cell? ⟨gb204, 0, none⟩ = some (.int .i64 t199) := (blk_cell BK204.out 0).trans rfl; have hcz47_1 : w46.cell? ⟨gb204, 1, none⟩ = some (.int .i64 t200) := (blk_cell BK204.out 1).trans rfl; have hcz47_2 : w46.cell? ⟨gb204, 2, none⟩ = some (.int .u64 t201) := (blk_cell BK204.out 2).trans rfl; have hcz47_3 : w46.cell? ⟨gb204, 3, none⟩ = some (.int .u64 t202) := (blk_cell BK204.out 3).trans rfl; have hfz47_0 := blk_frozen BK204.out 0; have hfz47_1 := blk_frozen BK204.out 1; have hfz47_2 := blk_frozen BK204.out 2; have hfz47_3 := blk_frozen BK204.out 3; obtain ⟨Ao48, co48, eo48⟩ := Kd.V_slice HO_10.out; subst eo48) | (go_at_call 15; (with_reducible refine (mem_Do.calls (fun k_ => (some k_ ≠ (u12 : Value).ownBlock ∧ (k_ ≠ gb189 ∧ (k_ ≠ gb193 ∧ (k_ ≠ gb198 ∧ k_ ≠ gb204))))) _ _ x10_4 t199 t200 t201 t202 t205 t208 t209 _ ?side1 A33.out).mono ?_); (case side1 => exact HO_10.out); rintro e w49 ⟨v206, rfl, ho0, hb⟩; have n0_ := aA (Kd.V_below (vlu HO_10.out) hb); have n1_ := aA (Kd.Q_below (qlu HO_12.out) hb); have n2_ := aA (Kd.V_lower (Kd.V_mono (ok' := fun k_ => some k_ ≠ (u12 : Value).ownBlock ∧ k_ ≠ gb189 ∧ k_ ≠ gb193 ∧ k_ ≠ gb198 ∧ k_ ≠ gb204) ho0 (fun k_ hk_ => ⟨Or.elim hk_ (fun hs_ => hs_.1) (fun hn_ => (Kd.fresh' (Kd.Q_lt (qlu HO_12.out)) k_ hn_)), Or.elim hk_ (fun hs_ => hs_.2.1) (fun hn_ => (Kd.freshB (g := gb189) (o := .cells #[.int .i64 1, .int .i64 (wrap64 (1 + (Int.tmod (wrap64 (a0)) 4)))] 38 (0, 0)) (bku BK189.out) k_ hn_)), Or.elim hk_ (fun hs_ => hs_.2.2.1) (fun hn_ => (Kd.freshB (g := gb193) (o := .cells #[.int .i64 x194000_3, .int .u64 x194001_3, .int .u64 x194002_3] 56 (0, 0)) (bku BK193.out) k_ hn_)), Or.elim hk_ (fun hs_ => hs_.2.2.2.1) (fun hn_ => (Kd.freshB (g := gb198) (o := .cells #[.int .i64 x199000_4, .int .u64 x199001_4, .int .u64 x199002_4] 54 (0, 0)) (bku BK198.out) k_ hn_)), Or.elim hk_ (fun hs_ => hs_.2.2.2.2) (fun hn_ => (Kd.freshB (g := gb204) (o := .cells #[.int .i64 t199, .int .i64 t200, .int .u64 t201, .int .u64 t202] 25 (0, 0)) (bku BK204.out) k_ hn_))⟩)) (below_size (bls HB.out))); have n3_ := aA (blk_below (g := gb189) (o := .cells #[.int .i64 1, .int .i64 (wrap64 (1 + (Int.tmod (wrap64 (a0)) 4)))] 38 (0, 0)) (bku BK189.out) hb); have n4_ := aA (blk_below (g := gb193) (o := .cells #[.int .i64 x194000_3, .int .u64 x194001_3, .int .u64 x194002_3] 56 (0, 0)) (bku BK193.out) hb); have n5_ := aA (blk_below (g := gb198) (o := .cells #[.int .i64 x199000_4, .int .u64 x199001_4, .int .u64 x199002_4] 54 (0, 0)) (bku BK198.out) hb); have n6_ := aA (blk_below (g := gb204) (o := .cells #[.int .i64 t199, .int .i64 t200, .int .u64 t201, .int .u64 t202] 25 (0, 0)) (bku BK204.out) hb); have n7_ := aA (below_step (bls HB.out) hb); clear HO_10 HO_12 BK189 BK193 BK198 BK204 HB; have HO_10 := n0_; have HO_12 := n1_; have HO207 := n2_; have BK189 := n3_; have BK193 := n4_; have BK198 := n5_; have BK204 := n6_; have HB := n7_; clear n0_ n1_ n2_ n3_ n4_ n5_ n6_ n7_; (try clear hb); (try clear hb2); (try clear hk); (try clear hi); (try clear ho0); have hcz50_0 : w49.cell? ⟨gb198, 0, none⟩ = some (.int .i64 x199000_4) := (blk_cell BK198.out 0).trans rfl; have hcz50_1 : w49.cell? ⟨gb198, 1, none⟩ = some (.int .u64 x199001_4) := (blk_cell BK198.out 1).trans rfl; have hcz50_2 : w49.cell? ⟨gb198, 2, none⟩ = some (.int .u64 x199002_4) := (blk_cell BK198.out 2).trans rfl; have hfz50_0 := blk_frozen BK198.out 0; have hfz50_1 := blk_frozen BK198.out 1; have hfz50_2 := blk_frozen BK198.out 2) | (go_at_call 51; (with_reducible refine (queue_Got.calls k4 x199000_4 x199001_4 x199002_4 t208 t209 t210 t211 t212 _ A34.out).mono ?_); rintro e w51 ⟨rfl, hb⟩; have n0_ := aA (Kd.V_below (vlu HO_10.out) hb); have n1_ := aA (Kd.Q_below (qlu HO_12.out) hb); have n2_ := aA (Kd.V_below (vlu HO207.out) hb); have n3_ := aA (blk_below (g := gb189) (o := .cells #[.int .i64 1, .int .i64 (wrap64 (1 + (Int.tmod (wrap64 (a0)) 4)))] 38 (0, 0)) (bku BK189.out) hb); have n4_ := aA (blk_below (g := gb193) (o := .cells #[.int .i64 x194000_3, .int .u64 x194001_3, .int .u64 x194002_3] 56 (0, 0)) (bku BK193.out) hb); have n5_ := aA (blk_below (g := gb198) (o := .cells #[.int .i64 x199000_4, .int .u64 x199001_4, .int .u64 x199002_4] 54 (0, 0)) (bku BK198.out) hb); have n6_ := aA (blk_below (g := gb204) (o := .cells #[.int .i64 t199, .int .i64 t200, .int .u64 t201, .int .u64 t202] 25 (0, 0)) (bku BK204.out) hb); have n7_ := aA (below_step (bls HB.out) hb); clear HO_10 HO_12 HO207 BK189 BK193 BK198 BK204 HB; have HO_10 := n0_; have HO_12 := n1_; have HO207 := n2_; have BK189 := n3_; have BK193 := n4_; have BK198 := n5_; have BK204 := n6_; have HB := n7_; clear n0_ n1_ n2_ n3_ n4_ n5_ n6_ n7_; (try clear hb); (try clear hb2); (try clear hk); (try clear hi); have hcz52_0 : w51.cell? ⟨gb198, 0, none⟩ = some (.int .i64 x199000_4) := (blk_cell BK198.out 0).trans rfl; have hcz52_1 : w51.cell? ⟨gb198, 1, none⟩ = some (.int .u64 x199001_4) := (blk_cell BK198.out 1).trans rfl; have hcz52_2 : w51.cell? ⟨gb198, 2, none⟩ = some (.int .u64 x199002_4) := (blk_cell BK198.out 2).trans rfl; have hfz52_0 := blk_frozen BK198.out 0; have hfz52_1 := blk_frozen BK198.out 1; have hfz52_2 := blk_frozen BK198.out 2))
                 repeat (go_quiet (first | (go_at_call 47; (with_reducible refine (queue_Want.calls 1 (wrap64 (1 + (Int.tmod (wrap64 (a0)) 4))) x199000_4 x199001_4 x199002_4 t199 t200 t201 t202 true _ A31.out).mono ?_); rintro e w40 ⟨rfl, hb⟩; have n0_ := aA (Kd.V_below (vlu HO_10.out) hb); have n1_ := aA (Kd.Q_below (qlu HO_12.out) hb); have n2_ := aA (blk_below (g := gb189) (o := .cells #[.int .i64 1, .int .i64 (wrap64 (1 + (Int.tmod (wrap64 (a0)) 4)))] 38 (0, 0)) (bku BK189.out) hb); have n3_ := aA (blk_below (g := gb193) (o := .cells #[.int .i64 x194000_3, .int .u64 x194001_3, .int .u64 x194002_3] 56 (0, 0)) (bku BK193.out) hb); have n4_ := aA (blk_below (g := gb198) (o := .cells #[.int .i64 x199000_4, .int .u64 x199001_4, .int .u64 x199002_4] 54 (0, 0)) (bku BK198.out) hb); have n5_ := aA (below_step (bls HB.out) hb); clear HO_10 HO_12 BK189 BK193 BK198 HB; have HO_10 := n0_; have HO_12 := n1_; have BK189 := n2_; have BK193 := n3_; have BK198 := n4_; have HB := n5_; clear n0_ n1_ n2_ n3_ n4_ n5_; (try clear hb); (try clear hb2); (try clear hk); (try clear hi)) | ((with_reducible refine gate_dst (N := 16) rfl ?_); (try (refine gate_guard (by rfl) ?_; dsimp only)); refine box_event ?hg (N := 16) ?hd (cs := #[.int .i64 0, .int .i64 0, .int .u64 0, .int .u64 0]) (t := 25) ?hr ?_; (case hd => rfl); (case hg => rfl); (case hr => first | (go_simp; done) | (go_simp; rfl)); intro gb204 hg w41 hbox hb; have n0_ := aA (Kd.V_below (Kd.V_elderB (vlu HO_10.out) gb204 (Nat.le_of_eq hg.symm)) hb); have n1_ := aA (Kd.Q_below (qlu HO_12.out) hb); have n2_ := aA (blk_below (g := gb189) (o := .cells #[.int .i64 1, .int .i64 (wrap64 (1 + (Int.tmod (wrap64 (a0)) 4)))] 38 (0, 0)) (bku BK189.out) hb); have n3_ := aA (blk_below (g := gb193) (o := .cells #[.int .i64 x194000_3, .int .u64 x194001_3, .int .u64 x194002_3] 56 (0, 0)) (bku BK193.out) hb); have n4_ := aA (blk_below (g := gb198) (o := .cells #[.int .i64 x199000_4, .int .u64 x199001_4, .int .u64 x199002_4] 54 (0, 0)) (bku BK198.out) hb); have n5_ := aA (below_step (bls HB.out) hb); have n6_ := aA (hbox); have n7_ := aA ((by rw [hg]; exact (below_size (bls HB.out)) : w.heap.size ≤ gb204)); have n8_ := aA ((by rw [hg]; exact (below_size (bls HB.out)) : w.heap.size ≤ gb204)); have n9_ := aA ((by rw [hg]; exact Nat.ne_of_lt (blk_lt (g := gb189) (o := .cells #[.int .i64 1, .int .i64 (wrap64 (1 + (Int.tmod (wrap64 (a0)) 4)))] 38 (0, 0)) (bku BK189.out)) : gb189 ≠ gb204)); have n10_ := aA ((by rw [hg]; exact Nat.ne_of_gt (blk_lt (g := gb189) (o := .cells #[.int .i64 1, .int .i64 (wrap64 (1 + (Int.tmod (wrap64 (a0)) 4)))] 38 (0, 0)) (bku BK189.out)) : gb204 ≠ gb189)); have n11_ := aA ((by rw [hg]; exact Nat.ne_of_lt (blk_lt (g := gb193) (o := .cells #[.int .i64 x194000_3, .int .u64 x194001_3, .int .u64 x194002_3] 56 (0, 0)) (bku BK193.out)) : gb193 ≠ gb204)); have n12_ := aA ((by rw [hg]; exact Nat.ne_of_gt (blk_lt (g := gb193) (o := .cells #[.int .i64 x194000_3, .int .u64 x194001_3, .int .u64 x194002_3] 56 (0, 0)) (bku BK193.out)) : gb204 ≠ gb193)); have n13_ := aA ((by rw [hg]; exact Nat.ne_of_lt (blk_lt (g := gb198) (o := .cells #[.int .i64 x199000_4, .int .u64 x199001_4, .int .u64 x199002_4] 54 (0, 0)) (bku BK198.out)) : gb198 ≠ gb204)); have n14_ := aA ((by rw [hg]; exact Nat.ne_of_gt (blk_lt (g := gb198) (o := .cells #[.int .i64 x199000_4, .int .u64 x199001_4, .int .u64 x199002_4] 54 (0, 0)) (bku BK198.out)) : gb204 ≠ gb198)); clear HO_10 HO_12 BK189 BK193 BK198 HB; have HO_10 := n0_; have HO_12 := n1_; have BK189 := n2_; have BK193 := n3_; have BK198 := n4_; have HB := n5_; have BK204 := n6_; have GW204 := n7_; have GE204 := n8_; have NB189_204 := n9_; have NB204_189 := n10_; have NB193_204 := n11_; have NB204_193 := n12_; have NB198_204 := n13_; have NB204_198 := n14_; clear n0_ n1_ n2_ n3_ n4_ n5_ n6_ n7_ n8_ n9_ n10_ n11_ n12_ n13_ n14_ hb hbox hg; have hnb42 := NB204_189.out; have hnc42 := NB189_204.out; have hnb43 := NB204_193.out; have hnc43 := NB193_204.out; have hnb44 := NB204_198.out; have hnc44 := NB198_204.out; have hcz45_0 : w41.cell? ⟨gb204, 0, none⟩ = some (.int .i64 0) := (blk_cell BK204.out 0).trans rfl; have hcz45_1 : w41.cell? ⟨gb204, 1, none⟩ = some (.int .i64 0) := (blk_cell BK204.out 1).trans rfl; have hcz45_2 : w41.cell? ⟨gb204, 2, none⟩ = some (.int .u64 0) := (blk_cell BK204.out 2).trans rfl; have hcz45_3 : w41.cell? ⟨gb204, 3, none⟩ = some (.int .u64 0) := (blk_cell BK204.out 3).trans rfl; have hfz45_0 := blk_frozen BK204.out 0; have hfz45_1 := blk_frozen BK204.out 1; have hfz45_2 := blk_frozen BK204.out 2; have hfz45_3 := blk_frozen BK204.out 3) | ((with_reducible refine gate_store (t := 25) (p := 16) rfl ?_); (try (rw [drewN_self w41]; generalize hq_ : World.drewN w41 _ = w41; have n0_ := aA (Kd.V_at hq_ HO_10.out); have n1_ := aA (Kd.Q_at hq_ HO_12.out); have n2_ := aA (blk_at hq_ BK189.out); have n3_ := aA (blk_at hq_ BK193.out); have n4_ := aA (blk_at hq_ BK198.out); have n5_ := aA (blk_at hq_ BK204.out); have n6_ := aA (below_at hq_ HB.out); clear hq_ HO_10 HO_12 BK189 BK193 BK198 BK204 HB; have HO_10 := n0_; have HO_12 := n1_; have BK189 := n2_; have BK193 := n3_; have BK198 := n4_; have BK204 := n5_; have HB := n6_; clear n0_ n1_ n2_ n3_ n4_ n5_ n6_)); refine store_event (t := 25) (p := 16) (v := ?vo_w46) (w1 := ((((w41.setCell ⟨gb204, 0, none⟩ (.int .i64 t199)).setCell ⟨gb204, 1, none⟩ (.int .i64 t200)).setCell ⟨gb204, 2, none⟩ (.int .u64 t201)).setCell ⟨gb204, 3, none⟩ (.int .u64 t202))) ?hg ?ho ?hn ?hr ?_; (case ho => rfl); (case hg => rfl); (case hn => rfl); (case hr => first | (go_simp; done) | (go_simp; rfl)); intro w46 hw; have n0_ : Aside0 (Kd.V (Kd.int .u64) 23 w46 w.heap.size (fun k_ => some k_ ≠ (u12 : Value).ownBlock ∧ k_ ≠ gb189 ∧ k_ ≠ gb193 ∧ k_ ≠ gb198 ∧ k_ ≠ gb204) u10 x10_4) := ⟨(by rw [hw]; exact (vlu (Kd.V_mono (Kd.V_far (p := ⟨gb204, 3, none⟩) (Kd.V_far (p := ⟨gb204, 2, none⟩) (Kd.V_far (p := ⟨gb204, 1, none⟩) (Kd.V_far (p := ⟨gb204, 0, none⟩) (Kd.V_mono HO_10.out (fun k_ hk => (⟨hk, hk.2⟩ : _ ∧ k_ ≠ gb204))) (fun _ hk => hk.2) (.int .i64 t199)) (fun _ hk => hk.2) (.int .i64 t200)) (fun _ hk => hk.2) (.int .u64 t201)) (fun _ hk => hk.2) (.int .u64 t202)) (fun _ hk => ⟨hk.1.1.1, ⟨hk.1.1.2.1, ⟨hk.1.1.2.2.1, ⟨hk.1.1.2.2.2, hk.1.2⟩⟩⟩⟩))))⟩; have n1_ : Aside0 (Kd.Q (Kd.int .u64) 23 w46 w.heap.size (fun _ => True) u12 x12_3) := ⟨(by rw [hw]; exact (qlu (Kd.Q_mono (Kd.Q_far (p := ⟨gb204, 3, none⟩) (Kd.Q_far (p := ⟨gb204, 2, none⟩) (Kd.Q_far (p := ⟨gb204, 1, none⟩) (Kd.Q_far (p := ⟨gb204, 0, none⟩) (Kd.Q_types HO_12.out BK204.out (by decide)) (fun _ hk => hk.2) (.int .i64 t199)) (fun _ hk => hk.2) (.int .i64 t200)) (fun _ hk => hk.2) (.int .u64 t201)) (fun _ hk => hk.2) (.int .u64 t202)) (fun _ hk => trivial))))⟩; have n2_ : Aside0 (w46.heap[gb189]? = some (.cells #[.int .i64 1, .int .i64 (wrap64 (1 + (Int.tmod (wrap64 (a0)) 4)))] 38 (0, 0))) := ⟨(by rw [hw]; exact (by (with_reducible repeat (first | refine blk_drewN ?_ _ | refine blk_drew ?_ | refine blk_alloc ?_ _)); refine blk_far ?_ NB189_204.out _; (with_reducible repeat (first | refine blk_drewN ?_ _ | refine blk_drew ?_ | refine blk_alloc ?_ _)); refine blk_far ?_ NB189_204.out _; (with_reducible repeat (first | refine blk_drewN ?_ _ | refine blk_drew ?_ | refine blk_alloc ?_ _)); refine blk_far ?_ NB189_204.out _; (with_reducible repeat (first | refine blk_drewN ?_ _ | refine blk_drew ?_ | refine blk_alloc ?_ _)); refine blk_far ?_ NB189_204.out _; (with_reducible repeat (first | refine blk_drewN ?_ _ | refine blk_drew ?_ | refine blk_alloc ?_ _)); exact BK189.out))⟩; have n3_ : Aside0 (w46.heap[gb193]? = some (.cells #[.int .i64 x194000_3, .int .u64 x194001_3, .int .u64 x194002_3] 56 (0, 0))) := ⟨(by rw [hw]; exact (by (with_reducible repeat (first | refine blk_drewN ?_ _ | refine blk_drew ?_ | refine blk_alloc ?_ _)); refine blk_far ?_ NB193_204.out _; (with_reducible repeat (first | refine blk_drewN ?_ _ | refine blk_drew ?_ | refine blk_alloc ?_ _)); refine blk_far ?_ NB193_204.out _; (with_reducible repeat (first | refine blk_drewN ?_ _ | refine blk_drew ?_ | refine blk_alloc ?_ _)); refine blk_far ?_ NB193_204.out _; (with_reducible repeat (first | refine blk_drewN ?_ _ | refine blk_drew ?_ | refine blk_alloc ?_ _)); refine blk_far ?_ NB193_204.out _; (with_reducible repeat (first | refine blk_drewN ?_ _ | refine blk_drew ?_ | refine blk_alloc ?_ _)); exact BK193.out))⟩; have n4_ : Aside0 (w46.heap[gb198]? = some (.cells #[.int .i64 x199000_4, .int .u64 x199001_4, .int .u64 x199002_4] 54 (0, 0))) := ⟨(by rw [hw]; exact (by (with_reducible repeat (first | refine blk_drewN ?_ _ | refine blk_drew ?_ | refine blk_alloc ?_ _)); refine blk_far ?_ NB198_204.out _; (with_reducible repeat (first | refine blk_drewN ?_ _ | refine blk_drew ?_ | refine blk_alloc ?_ _)); refine blk_far ?_ NB198_204.out _; (with_reducible repeat (first | refine blk_drewN ?_ _ | refine blk_drew ?_ | refine blk_alloc ?_ _)); refine blk_far ?_ NB198_204.out _; (with_reducible repeat (first | refine blk_drewN ?_ _ | refine blk_drew ?_ | refine blk_alloc ?_ _)); refine blk_far ?_ NB198_204.out _; (with_reducible repeat (first | refine blk_drewN ?_ _ | refine blk_drew ?_ | refine blk_alloc ?_ _)); exact BK198.out))⟩; have n5_ : Aside0 (w46.heap[gb204]? = some (.cells #[.int .i64 t199, .int .i64 t200, .int .u64 t201, .int .u64 t202] 25 (0, 0))) := ⟨(by rw [hw]; exact (by (with_reducible repeat (first | refine blk_drewN ?_ _ | refine blk_drew ?_ | refine blk_alloc ?_ _)); refine blk_put (cs := #[.int .i64 t199, .int .i64 t200, .int .u64 t201, .int .u64 0]) ?_ 3 _ rfl; (with_reducible repeat (first | refine blk_drewN ?_ _ | refine blk_drew ?_ | refine blk_alloc ?_ _)); refine blk_put (cs := #[.int .i64 t199, .int .i64 t200, .int .u64 0, .int .u64 0]) ?_ 2 _ rfl; (with_reducible repeat (first | refine blk_drewN ?_ _ | refine blk_drew ?_ | refine blk_alloc ?_ _)); refine blk_put (cs := #[.int .i64 t199, .int .i64 0, .int .u64 0, .int .u64 0]) ?_ 1 _ rfl; (with_reducible repeat (first | refine blk_drewN ?_ _ | refine blk_drew ?_ | refine blk_alloc ?_ _)); refine blk_put (cs := #[.int .i64 0, .int .i64 0, .int .u64 0, .int .u64 0]) ?_ 0 _ rfl; (with_reducible repeat (first | refine blk_drewN ?_ _ | refine blk_drew ?_ | refine blk_alloc ?_ _)); exact BK204.out))⟩; have n6_ : Aside0 (Below w.heap.size w w46) := ⟨(by rw [hw]; exact (bls HB.out))⟩; clear hw HO_10 HO_12 BK189 BK193 BK198 BK204 HB; have HO_10 := n0_; have HO_12 := n1_; have BK189 := n2_; have BK193 := n3_; have BK198 := n4_; have BK204 := n5_; have HB := n6_; clear n0_ n1_ n2_ n3_ n4_ n5_ n6_; have hcz47_0 : w46.cell? ⟨gb204, 0, none⟩ = some (.int .i64 t199) := (blk_cell BK204.out 0).trans rfl; have hcz47_1 : w46.cell? ⟨gb204, 1, none⟩ = some (.int .i64 t200) := (blk_cell BK204.out 1).trans rfl; have hcz47_2 : w46.cell? ⟨gb204, 2, none⟩ = some (.int .u64 t201) := (blk_cell BK204.out 2).trans rfl; have hcz47_3 : w46.cell? ⟨gb204, 3, none⟩ = some (.int .u64 t202) := (blk_cell BK204.out 3).trans rfl; have hfz47_0 := blk_frozen BK204.out 0; have hfz47_1 := blk_frozen BK204.out 1; have hfz47_2 := blk_frozen BK204.out 2; have hfz47_3 := blk_frozen BK204.out 3; obtain ⟨Ao48, co48, eo48⟩ := Kd.V_slice HO_10.out; subst eo48) | (go_at_call 15; (with_reducible refine (mem_Do.calls (fun k_ => (some k_ ≠ (u12 : Value).ownBlock ∧ (k_ ≠ gb189 ∧ (k_ ≠ gb193 ∧ (k_ ≠ gb198 ∧ k_ ≠ gb204))))) _ _ x10_4 t199 t200 t201 t202 t205 t208 t209 _ ?side1 A33.out).mono ?_); (case side1 => exact HO_10.out); rintro e w49 ⟨v206, rfl, ho0, hb⟩; have n0_ := aA (Kd.V_below (vlu HO_10.out) hb); have n1_ := aA (Kd.Q_below (qlu HO_12.out) hb); have n2_ := aA (Kd.V_lower (Kd.V_mono (ok' := fun k_ => some k_ ≠ (u12 : Value).ownBlock ∧ k_ ≠ gb189 ∧ k_ ≠ gb193 ∧ k_ ≠ gb198 ∧ k_ ≠ gb204) ho0 (fun k_ hk_ => ⟨Or.elim hk_ (fun hs_ => hs_.1) (fun hn_ => (Kd.fresh' (Kd.Q_lt (qlu HO_12.out)) k_ hn_)), Or.elim hk_ (fun hs_ => hs_.2.1) (fun hn_ => (Kd.freshB (g := gb189) (o := .cells #[.int .i64 1, .int .i64 (wrap64 (1 + (Int.tmod (wrap64 (a0)) 4)))] 38 (0, 0)) (bku BK189.out) k_ hn_)), Or.elim hk_ (fun hs_ => hs_.2.2.1) (fun hn_ => (Kd.freshB (g := gb193) (o := .cells #[.int .i64 x194000_3, .int .u64 x194001_3, .int .u64 x194002_3] 56 (0, 0)) (bku BK193.out) k_ hn_)), Or.elim hk_ (fun hs_ => hs_.2.2.2.1) (fun hn_ => (Kd.freshB (g := gb198) (o := .cells #[.int .i64 x199000_4, .int .u64 x199001_4, .int .u64 x199002_4] 54 (0, 0)) (bku BK198.out) k_ hn_)), Or.elim hk_ (fun hs_ => hs_.2.2.2.2) (fun hn_ => (Kd.freshB (g := gb204) (o := .cells #[.int .i64 t199, .int .i64 t200, .int .u64 t201, .int .u64 t202] 25 (0, 0)) (bku BK204.out) k_ hn_))⟩)) (below_size (bls HB.out))); have n3_ := aA (blk_below (g := gb189) (o := .cells #[.int .i64 1, .int .i64 (wrap64 (1 + (Int.tmod (wrap64 (a0)) 4)))] 38 (0, 0)) (bku BK189.out) hb); have n4_ := aA (blk_below (g := gb193) (o := .cells #[.int .i64 x194000_3, .int .u64 x194001_3, .int .u64 x194002_3] 56 (0, 0)) (bku BK193.out) hb); have n5_ := aA (blk_below (g := gb198) (o := .cells #[.int .i64 x199000_4, .int .u64 x199001_4, .int .u64 x199002_4] 54 (0, 0)) (bku BK198.out) hb); have n6_ := aA (blk_below (g := gb204) (o := .cells #[.int .i64 t199, .int .i64 t200, .int .u64 t201, .int .u64 t202] 25 (0, 0)) (bku BK204.out) hb); have n7_ := aA (below_step (bls HB.out) hb); clear HO_10 HO_12 BK189 BK193 BK198 BK204 HB; have HO_10 := n0_; have HO_12 := n1_; have HO207 := n2_; have BK189 := n3_; have BK193 := n4_; have BK198 := n5_; have BK204 := n6_; have HB := n7_; clear n0_ n1_ n2_ n3_ n4_ n5_ n6_ n7_; (try clear hb); (try clear hb2); (try clear hk); (try clear hi); (try clear ho0); have hcz50_0 : w49.cell? ⟨gb198, 0, none⟩ = some (.int .i64 x199000_4) := (blk_cell BK198.out 0).trans rfl; have hcz50_1 : w49.cell? ⟨gb198, 1, none⟩ = some (.int .u64 x199001_4) := (blk_cell BK198.out 1).trans rfl; have hcz50_2 : w49.cell? ⟨gb198, 2, none⟩ = some (.int .u64 x199002_4) := (blk_cell BK198.out 2).trans rfl; have hfz50_0 := blk_frozen BK198.out 0; have hfz50_1 := blk_frozen BK198.out 1; have hfz50_2 := blk_frozen BK198.out 2) | (go_at_call 51; (with_reducible refine (queue_Got.calls k4 x199000_4 x199001_4 x199002_4 t208 t209 t210 t211 t212 _ A34.out).mono ?_); rintro e w51 ⟨rfl, hb⟩; have n0_ := aA (Kd.V_below (vlu HO_10.out) hb); have n1_ := aA (Kd.Q_below (qlu HO_12.out) hb); have n2_ := aA (Kd.V_below (vlu HO207.out) hb); have n3_ := aA (blk_below (g := gb189) (o := .cells #[.int .i64 1, .int .i64 (wrap64 (1 + (Int.tmod (wrap64 (a0)) 4)))] 38 (0, 0)) (bku BK189.out) hb); have n4_ := aA (blk_below (g := gb193) (o := .cells #[.int .i64 x194000_3, .int .u64 x194001_3, .int .u64 x194002_3] 56 (0, 0)) (bku BK193.out) hb); have n5_ := aA (blk_below (g := gb198) (o := .cells #[.int .i64 x199000_4, .int .u64 x199001_4, .int .u64 x199002_4] 54 (0, 0)) (bku BK198.out) hb); have n6_ := aA (blk_below (g := gb204) (o := .cells #[.int .i64 t199, .int .i64 t200, .int .u64 t201, .int .u64 t202] 25 (0, 0)) (bku BK204.out) hb); have n7_ := aA (below_step (bls HB.out) hb); clear HO_10 HO_12 HO207 BK189 BK193 BK198 BK204 HB; have HO_10 := n0_; have HO_12 := n1_; have HO207 := n2_; have BK189 := n3_; have BK193 := n4_; have BK198 := n5_; have BK204 := n6_; have HB := n7_; clear n0_ n1_ n2_ n3_ n4_ n5_ n6_ n7_; (try clear hb); (try clear hb2); (try clear hk); (try clear hi); have hcz52_0 : w51.cell? ⟨gb198, 0, none⟩ = some (.int .i64 x199000_4) := (blk_cell BK198.out 0).trans rfl; have hcz52_1 : w51.cell? ⟨gb198, 1, none⟩ = some (.int .u64 x199001_4) := (blk_cell BK198.out 1).trans rfl; have hcz52_2 : w51.cell? ⟨gb198, 2, none⟩ = some (.int .u64 x199002_4) := (blk_cell BK198.out 2).trans rfl; have hfz52_0 := blk_frozen BK198.out 0; have hfz52_1 := blk_frozen BK198.out 1; have hfz52_2 := blk_frozen BK198.out 2)); try go_wp2_with (first | (go_at_call 47; (with_reducible refine (queue_Want.calls 1 (wrap64 (1 + (Int.tmod (wrap64 (a0)) 4))) x199000_4 x199001_4 x199002_4 t199 t200 t201 t202 true _ A31.out).mono ?_); rintro e w40 ⟨rfl, hb⟩; have n0_ := aA (Kd.V_below (vlu HO_10.out) hb); have n1_ := aA (Kd.Q_below (qlu HO_12.out) hb); have n2_ := aA (blk_below (g := gb189) (o := .cells #[.int .i64 1, .int .i64 (wrap64 (1 + (Int.tmod (wrap64 (a0)) 4)))] 38 (0, 0)) (bku BK189.out) hb); have n3_ := aA (blk_below (g := gb193) (o := .cells #[.int .i64 x194000_3, .int .u64 x194001_3, .int .u64 x194002_3] 56 (0, 0)) (bku BK193.out) hb); have n4_ := aA (blk_below (g := gb198) (o := .cells #[.int .i64 x199000_4, .int .u64 x199001_4, .int .u64 x199002_4] 54 (0, 0)) (bku BK198.out) hb); have n5_ := aA (below_step (bls HB.out) hb); clear HO_10 HO_12 BK189 BK193 BK198 HB; have HO_10 := n0_; have HO_12 := n1_; have BK189 := n2_; have BK193 := n3_; have BK198 := n4_; have HB := n5_; clear n0_ n1_ n2_ n3_ n4_ n5_; (try clear hb); (try clear hb2); (try clear hk); (try clear hi)) | ((with_reducible refine gate_dst (N := 16) rfl ?_); (try (refine gate_guard (by rfl) ?_; dsimp only)); refine box_event ?hg (N := 16) ?hd (cs := #[.int .i64 0, .int .i64 0, .int .u64 0, .int .u64 0]) (t := 25) ?hr ?_; (case hd => rfl); (case hg => rfl); (case hr => first | (go_simp; done) | (go_simp; rfl)); intro gb204 hg w41 hbox hb; have n0_ := aA (Kd.V_below (Kd.V_elderB (vlu HO_10.out) gb204 (Nat.le_of_eq hg.symm)) hb); have n1_ := aA (Kd.Q_below (qlu HO_12.out) hb); have n2_ := aA (blk_below (g := gb189) (o := .cells #[.int .i64 1, .int .i64 (wrap64 (1 + (Int.tmod (wrap64 (a0)) 4)))] 38 (0, 0)) (bku BK189.out) hb); have n3_ := aA (blk_below (g := gb193) (o := .cells #[.int .i64 x194000_3, .int .u64 x194001_3, .int .u64 x194002_3] 56 (0, 0)) (bku BK193.out) hb); have n4_ := aA (blk_below (g := gb198) (o := .cells #[.int .i64 x199000_4, .int .u64 x199001_4, .int .u64 x199002_4] 54 (0, 0)) (bku BK198.out) hb); have n5_ := aA (below_step (bls HB.out) hb); have n6_ := aA (hbox); have n7_ := aA ((by rw [hg]; exact (below_size (bls HB.out)) : w.heap.size ≤ gb204)); have n8_ := aA ((by rw [hg]; exact (below_size (bls HB.out)) : w.heap.size ≤ gb204)); have n9_ := aA ((by rw [hg]; exact Nat.ne_of_lt (blk_lt (g := gb189) (o := .cells #[.int .i64 1, .int .i64 (wrap64 (1 + (Int.tmod (wrap64 (a0)) 4)))] 38 (0, 0)) (bku BK189.out)) : gb189 ≠ gb204)); have n10_ := aA ((by rw [hg]; exact Nat.ne_of_gt (blk_lt (g := gb189) (o := .cells #[.int .i64 1, .int .i64 (wrap64 (1 + (Int.tmod (wrap64 (a0)) 4)))] 38 (0, 0)) (bku BK189.out)) : gb204 ≠ gb189)); have n11_ := aA ((by rw [hg]; exact Nat.ne_of_lt (blk_lt (g := gb193) (o := .cells #[.int .i64 x194000_3, .int .u64 x194001_3, .int .u64 x194002_3] 56 (0, 0)) (bku BK193.out)) : gb193 ≠ gb204)); have n12_ := aA ((by rw [hg]; exact Nat.ne_of_gt (blk_lt (g := gb193) (o := .cells #[.int .i64 x194000_3, .int .u64 x194001_3, .int .u64 x194002_3] 56 (0, 0)) (bku BK193.out)) : gb204 ≠ gb193)); have n13_ := aA ((by rw [hg]; exact Nat.ne_of_lt (blk_lt (g := gb198) (o := .cells #[.int .i64 x199000_4, .int .u64 x199001_4, .int .u64 x199002_4] 54 (0, 0)) (bku BK198.out)) : gb198 ≠ gb204)); have n14_ := aA ((by rw [hg]; exact Nat.ne_of_gt (blk_lt (g := gb198) (o := .cells #[.int .i64 x199000_4, .int .u64 x199001_4, .int .u64 x199002_4] 54 (0, 0)) (bku BK198.out)) : gb204 ≠ gb198)); clear HO_10 HO_12 BK189 BK193 BK198 HB; have HO_10 := n0_; have HO_12 := n1_; have BK189 := n2_; have BK193 := n3_; have BK198 := n4_; have HB := n5_; have BK204 := n6_; have GW204 := n7_; have GE204 := n8_; have NB189_204 := n9_; have NB204_189 := n10_; have NB193_204 := n11_; have NB204_193 := n12_; have NB198_204 := n13_; have NB204_198 := n14_; clear n0_ n1_ n2_ n3_ n4_ n5_ n6_ n7_ n8_ n9_ n10_ n11_ n12_ n13_ n14_ hb hbox hg; have hnb42 := NB204_189.out; have hnc42 := NB189_204.out; have hnb43 := NB204_193.out; have hnc43 := NB193_204.out; have hnb44 := NB204_198.out; have hnc44 := NB198_204.out; have hcz45_0 : w41.cell? ⟨gb204, 0, none⟩ = some (.int .i64 0) := (blk_cell BK204.out 0).trans rfl; have hcz45_1 : w41.cell? ⟨gb204, 1, none⟩ = some (.int .i64 0) := (blk_cell BK204.out 1).trans rfl; have hcz45_2 : w41.cell? ⟨gb204, 2, none⟩ = some (.int .u64 0) := (blk_cell BK204.out 2).trans rfl; have hcz45_3 : w41.cell? ⟨gb204, 3, none⟩ = some (.int .u64 0) := (blk_cell BK204.out 3).trans rfl; have hfz45_0 := blk_frozen BK204.out 0; have hfz45_1 := blk_frozen BK204.out 1; have hfz45_2 := blk_frozen BK204.out 2; have hfz45_3 := blk_frozen BK204.out 3) | ((with_reducible refine gate_store (t := 25) (p := 16) rfl ?_); (try (rw [drewN_self w41]; generalize hq_ : World.drewN w41 _ = w41; have n0_ := aA (Kd.V_at hq_ HO_10.out); have n1_ := aA (Kd.Q_at hq_ HO_12.out); have n2_ := aA (blk_at hq_ BK189.out); have n3_ := aA (blk_at hq_ BK193.out); have n4_ := aA (blk_at hq_ BK198.out); have n5_ := aA (blk_at hq_ BK204.out); have n6_ := aA (below_at hq_ HB.out); clear hq_ HO_10 HO_12 BK189 BK193 BK198 BK204 HB; have HO_10 := n0_; have HO_12 := n1_; have BK189 := n2_; have BK193 := n3_; have BK198 := n4_; have BK204 := n5_; have HB := n6_; clear n0_ n1_ n2_ n3_ n4_ n5_ n6_)); refine store_event (t := 25) (p := 16) (v := ?vo_w46) (w1 := ((((w41.setCell ⟨gb204, 0, none⟩ (.int .i64 t199)).setCell ⟨gb204, 1, none⟩ (.int .i64 t200)).setCell ⟨gb204, 2, none⟩ (.int .u64 t201)).setCell ⟨gb204, 3, none⟩ (.int .u64 t202))) ?hg ?ho ?hn ?hr ?_; (case ho => rfl); (case hg => rfl); (case hn => rfl); (case hr => first | (go_simp; done) | (go_simp; rfl)); intro w46 hw; have n0_ : Aside0 (Kd.V (Kd.int .u64) 23 w46 w.heap.size (fun k_ => some k_ ≠ (u12 : Value).ownBlock ∧ k_ ≠ gb189 ∧ k_ ≠ gb193 ∧ k_ ≠ gb198 ∧ k_ ≠ gb204) u10 x10_4) := ⟨(by rw [hw]; exact (vlu (Kd.V_mono (Kd.V_far (p := ⟨gb204, 3, none⟩) (Kd.V_far (p := ⟨gb204, 2, none⟩) (Kd.V_far (p := ⟨gb204, 1, none⟩) (Kd.V_far (p := ⟨gb204, 0, none⟩) (Kd.V_mono HO_10.out (fun k_ hk => (⟨hk, hk.2⟩ : _ ∧ k_ ≠ gb204))) (fun _ hk => hk.2) (.int .i64 t199)) (fun _ hk => hk.2) (.int .i64 t200)) (fun _ hk => hk.2) (.int .u64 t201)) (fun _ hk => hk.2) (.int .u64 t202)) (fun _ hk => ⟨hk.1.1.1, ⟨hk.1.1.2.1, ⟨hk.1.1.2.2.1, ⟨hk.1.1.2.2.2, hk.1.2⟩⟩⟩⟩))))⟩; have n1_ : Aside0 (Kd.Q (Kd.int .u64) 23 w46 w.heap.size (fun _ => True) u12 x12_3) := ⟨(by rw [hw]; exact (qlu (Kd.Q_mono (Kd.Q_far (p := ⟨gb204, 3, none⟩) (Kd.Q_far (p := ⟨gb204, 2, none⟩) (Kd.Q_far (p := ⟨gb204, 1, none⟩) (Kd.Q_far (p := ⟨gb204, 0, none⟩) (Kd.Q_types HO_12.out BK204.out (by decide)) (fun _ hk => hk.2) (.int .i64 t199)) (fun _ hk => hk.2) (.int .i64 t200)) (fun _ hk => hk.2) (.int .u64 t201)) (fun _ hk => hk.2) (.int .u64 t202)) (fun _ hk => trivial))))⟩; have n2_ : Aside0 (w46.heap[gb189]? = some (.cells #[.int .i64 1, .int .i64 (wrap64 (1 + (Int.tmod (wrap64 (a0)) 4)))] 38 (0, 0))) := ⟨(by rw [hw]; exact (by (with_reducible repeat (first | refine blk_drewN ?_ _ | refine blk_drew ?_ | refine blk_alloc ?_ _)); refine blk_far ?_ NB189_204.out _; (with_reducible repeat (first | refine blk_drewN ?_ _ | refine blk_drew ?_ | refine blk_alloc ?_ _)); refine blk_far ?_ NB189_204.out _; (with_reducible repeat (first | refine blk_drewN ?_ _ | refine blk_drew ?_ | refine blk_alloc ?_ _)); refine blk_far ?_ NB189_204.out _; (with_reducible repeat (first | refine blk_drewN ?_ _ | refine blk_drew ?_ | refine blk_alloc ?_ _)); refine blk_far ?_ NB189_204.out _; (with_reducible repeat (first | refine blk_drewN ?_ _ | refine blk_drew ?_ | refine blk_alloc ?_ _)); exact BK189.out))⟩; have n3_ : Aside0 (w46.heap[gb193]? = some (.cells #[.int .i64 x194000_3, .int .u64 x194001_3, .int .u64 x194002_3] 56 (0, 0))) := ⟨(by rw [hw]; exact (by (with_reducible repeat (first | refine blk_drewN ?_ _ | refine blk_drew ?_ | refine blk_alloc ?_ _)); refine blk_far ?_ NB193_204.out _; (with_reducible repeat (first | refine blk_drewN ?_ _ | refine blk_drew ?_ | refine blk_alloc ?_ _)); refine blk_far ?_ NB193_204.out _; (with_reducible repeat (first | refine blk_drewN ?_ _ | refine blk_drew ?_ | refine blk_alloc ?_ _)); refine blk_far ?_ NB193_204.out _; (with_reducible repeat (first | refine blk_drewN ?_ _ | refine blk_drew ?_ | refine blk_alloc ?_ _)); refine blk_far ?_ NB193_204.out _; (with_reducible repeat (first | refine blk_drewN ?_ _ | refine blk_drew ?_ | refine blk_alloc ?_ _)); exact BK193.out))⟩; have n4_ : Aside0 (w46.heap[gb198]? = some (.cells #[.int .i64 x199000_4, .int .u64 x199001_4, .int .u64 x199002_4] 54 (0, 0))) := ⟨(by rw [hw]; exact (by (with_reducible repeat (first | refine blk_drewN ?_ _ | refine blk_drew ?_ | refine blk_alloc ?_ _)); refine blk_far ?_ NB198_204.out _; (with_reducible repeat (first | refine blk_drewN ?_ _ | refine blk_drew ?_ | refine blk_alloc ?_ _)); refine blk_far ?_ NB198_204.out _; (with_reducible repeat (first | refine blk_drewN ?_ _ | refine blk_drew ?_ | refine blk_alloc ?_ _)); refine blk_far ?_ NB198_204.out _; (with_reducible repeat (first | refine blk_drewN ?_ _ | refine blk_drew ?_ | refine blk_alloc ?_ _)); refine blk_far ?_ NB198_204.out _; (with_reducible repeat (first | refine blk_drewN ?_ _ | refine blk_drew ?_ | refine blk_alloc ?_ _)); exact BK198.out))⟩; have n5_ : Aside0 (w46.heap[gb204]? = some (.cells #[.int .i64 t199, .int .i64 t200, .int .u64 t201, .int .u64 t202] 25 (0, 0))) := ⟨(by rw [hw]; exact (by (with_reducible repeat (first | refine blk_drewN ?_ _ | refine blk_drew ?_ | refine blk_alloc ?_ _)); refine blk_put (cs := #[.int .i64 t199, .int .i64 t200, .int .u64 t201, .int .u64 0]) ?_ 3 _ rfl; (with_reducible repeat (first | refine blk_drewN ?_ _ | refine blk_drew ?_ | refine blk_alloc ?_ _)); refine blk_put (cs := #[.int .i64 t199, .int .i64 t200, .int .u64 0, .int .u64 0]) ?_ 2 _ rfl; (with_reducible repeat (first | refine blk_drewN ?_ _ | refine blk_drew ?_ | refine blk_alloc ?_ _)); refine blk_put (cs := #[.int .i64 t199, .int .i64 0, .int .u64 0, .int .u64 0]) ?_ 1 _ rfl; (with_reducible repeat (first | refine blk_drewN ?_ _ | refine blk_drew ?_ | refine blk_alloc ?_ _)); refine blk_put (cs := #[.int .i64 0, .int .i64 0, .int .u64 0, .int .u64 0]) ?_ 0 _ rfl; (with_reducible repeat (first | refine blk_drewN ?_ _ | refine blk_drew ?_ | refine blk_alloc ?_ _)); exact BK204.out))⟩; have n6_ : Aside0 (Below w.heap.size w w46) := ⟨(by rw [hw]; exact (bls HB.out))⟩; clear hw HO_10 HO_12 BK189 BK193 BK198 BK204 HB; have HO_10 := n0_; have HO_12 := n1_; have BK189 := n2_; have BK193 := n3_; have BK198 := n4_; have BK204 := n5_; have HB := n6_; clear n0_ n1_ n2_ n3_ n4_ n5_ n6_; have hcz47_0 : w46.cell? ⟨gb204, 0, none⟩ = some (.int .i64 t199) := (blk_cell BK204.out 0).trans rfl; have hcz47_1 : w46.cell? ⟨gb204, 1, none⟩ = some (.int .i64 t200) := (blk_cell BK204.out 1).trans rfl; have hcz47_2 : w46.cell? ⟨gb204, 2, none⟩ = some (.int .u64 t201) := (blk_cell BK204.out 2).trans rfl; have hcz47_3 : w46.cell? ⟨gb204, 3, none⟩ = some (.int .u64 t202) := (blk_cell BK204.out 3).trans rfl; have hfz47_0 := blk_frozen BK204.out 0; have hfz47_1 := blk_frozen BK204.out 1; have hfz47_2 := blk_frozen BK204.out 2; have hfz47_3 := blk_frozen BK204.out 3; obtain ⟨Ao48, co48, eo48⟩ := Kd.V_slice HO_10.out; subst eo48) | (go_at_call 15; (with_reducible refine (mem_Do.calls (fun k_ => (some k_ ≠ (u12 : Value).ownBlock ∧ (k_ ≠ gb189 ∧ (k_ ≠ gb193 ∧ (k_ ≠ gb198 ∧ k_ ≠ gb204))))) _ _ x10_4 t199 t200 t201 t202 t205 t208 t209 _ ?side1 A33.out).mono ?_); (case side1 => exact HO_10.out); rintro e w49 ⟨v206, rfl, ho0, hb⟩; have n0_ := aA (Kd.V_below (vlu HO_10.out) hb); have n1_ := aA (Kd.Q_below (qlu HO_12.out) hb); have n2_ := aA (Kd.V_lower (Kd.V_mono (ok' := fun k_ => some k_ ≠ (u12 : Value).ownBlock ∧ k_ ≠ gb189 ∧ k_ ≠ gb193 ∧ k_ ≠ gb198 ∧ k_ ≠ gb204) ho0 (fun k_ hk_ => ⟨Or.elim hk_ (fun hs_ => hs_.1) (fun hn_ => (Kd.fresh' (Kd.Q_lt (qlu HO_12.out)) k_ hn_)), Or.elim hk_ (fun hs_ => hs_.2.1) (fun hn_ => (Kd.freshB (g := gb189) (o := .cells #[.int .i64 1, .int .i64 (wrap64 (1 + (Int.tmod (wrap64 (a0)) 4)))] 38 (0, 0)) (bku BK189.out) k_ hn_)), Or.elim hk_ (fun hs_ => hs_.2.2.1) (fun hn_ => (Kd.freshB (g := gb193) (o := .cells #[.int .i64 x194000_3, .int .u64 x194001_3, .int .u64 x194002_3] 56 (0, 0)) (bku BK193.out) k_ hn_)), Or.elim hk_ (fun hs_ => hs_.2.2.2.1) (fun hn_ => (Kd.freshB (g := gb198) (o := .cells #[.int .i64 x199000_4, .int .u64 x199001_4, .int .u64 x199002_4] 54 (0, 0)) (bku BK198.out) k_ hn_)), Or.elim hk_ (fun hs_ => hs_.2.2.2.2) (fun hn_ => (Kd.freshB (g := gb204) (o := .cells #[.int .i64 t199, .int .i64 t200, .int .u64 t201, .int .u64 t202] 25 (0, 0)) (bku BK204.out) k_ hn_))⟩)) (below_size (bls HB.out))); have n3_ := aA (blk_below (g := gb189) (o := .cells #[.int .i64 1, .int .i64 (wrap64 (1 + (Int.tmod (wrap64 (a0)) 4)))] 38 (0, 0)) (bku BK189.out) hb); have n4_ := aA (blk_below (g := gb193) (o := .cells #[.int .i64 x194000_3, .int .u64 x194001_3, .int .u64 x194002_3] 56 (0, 0)) (bku BK193.out) hb); have n5_ := aA (blk_below (g := gb198) (o := .cells #[.int .i64 x199000_4, .int .u64 x199001_4, .int .u64 x199002_4] 54 (0, 0)) (bku BK198.out) hb); have n6_ := aA (blk_below (g := gb204) (o := .cells #[.int .i64 t199, .int .i64 t200, .int .u64 t201, .int .u64 t202] 25 (0, 0)) (bku BK204.out) hb); have n7_ := aA (below_step (bls HB.out) hb); clear HO_10 HO_12 BK189 BK193 BK198 BK204 HB; have HO_10 := n0_; have HO_12 := n1_; have HO207 := n2_; have BK189 := n3_; have BK193 := n4_; have BK198 := n5_; have BK204 := n6_; have HB := n7_; clear n0_ n1_ n2_ n3_ n4_ n5_ n6_ n7_; (try clear hb); (try clear hb2); (try clear hk); (try clear hi); (try clear ho0); have hcz50_0 : w49.cell? ⟨gb198, 0, none⟩ = some (.int .i64 x199000_4) := (blk_cell BK198.out 0).trans rfl; have hcz50_1 : w49.cell? ⟨gb198, 1, none⟩ = some (.int .u64 x199001_4) := (blk_cell BK198.out 1).trans rfl; have hcz50_2 : w49.cell? ⟨gb198, 2, none⟩ = some (.int .u64 x199002_4) := (blk_cell BK198.out 2).trans rfl; have hfz50_0 := blk_frozen BK198.out 0; have hfz50_1 := blk_frozen BK198.out 1; have hfz50_2 := blk_frozen BK198.out 2) | (go_at_call 51; (with_reducible refine (queue_Got.calls k4 x199000_4 x199001_4 x199002_4 t208 t209 t210 t211 t212 _ A34.out).mono ?_); rintro e w51 ⟨rfl, hb⟩; have n0_ := aA (Kd.V_below (vlu HO_10.out) hb); have n1_ := aA (Kd.Q_below (qlu HO_12.out) hb); have n2_ := aA (Kd.V_below (vlu HO207.out) hb); have n3_ := aA (blk_below (g := gb189) (o := .cells #[.int .i64 1, .int .i64 (wrap64 (1 + (Int.tmod (wrap64 (a0)) 4)))] 38 (0, 0)) (bku BK189.out) hb); have n4_ := aA (blk_below (g := gb193) (o := .cells #[.int .i64 x194000_3, .int .u64 x194001_3, .int .u64 x194002_3] 56 (0, 0)) (bku BK193.out) hb); have n5_ := aA (blk_below (g := gb198) (o := .cells #[.int .i64 x199000_4, .int .u64 x199001_4, .int .u64 x199002_4] 54 (0, 0)) (bku BK198.out) hb); have n6_ := aA (blk_below (g := gb204) (o := .cells #[.int .i64 t199, .int .i64 t200, .int .u64 t201, .int .u64 t202] 25 (0, 0)) (bku BK204.out) hb); have n7_ := aA (below_step (bls HB.out) hb); clear HO_10 HO_12 HO207 BK189 BK193 BK198 BK204 HB; have HO_10 := n0_; have HO_12 := n1_; have HO207 := n2_; have BK189 := n3_; have BK193 := n4_; have BK198 := n5_; have BK204 := n6_; have HB := n7_; clear n0_ n1_ n2_ n3_ n4_ n5_ n6_ n7_; (try clear hb); (try clear hb2); (try clear hk); (try clear hi); have hcz52_0 : w51.cell? ⟨gb198, 0, none⟩ = some (.int .i64 x199000_4) := (blk_cell BK198.out 0).trans rfl; have hcz52_1 : w51.cell? ⟨gb198, 1, none⟩ = some (.int .u64 x199001_4) := (blk_cell BK198.out 1).trans rfl; have hcz52_2 : w51.cell? ⟨gb198, 2, none⟩ = some (.int .u64 x199002_4) := (blk_cell BK198.out 2).trans rfl; have hfz52_0 := blk_frozen BK198.out 0; have hfz52_1 := blk_frozen BK198.out 1; have hfz52_2 := blk_frozen BK198.out 2)))
                 go_roundg k4
                 case measure => have := HJ3.out; have := HK2.out; have := HK3.out; have := HK4.out; omega
                 case rel => exact ⟨(t205), (wrap64 (x15_4 + 1)), (t210), (t211), (t212), (by first | rfl | (simp; done) | (simp [*]; done)), H', ⟨by have := HJ3.out; have := HK2.out; have := HK3.out; have := HK4.out; omega⟩, ⟨by (with_reducible repeat (first | apply Kd.V_alloc | apply Kd.V_drewN | apply Kd.V_drew)); exact Kd.V_mono (Kd.V_far (p := ⟨gb198, 2, none⟩) (Kd.V_far (p := ⟨gb198, 1, none⟩) (Kd.V_far (p := ⟨gb198, 0, none⟩) (Kd.V_mono HO207.out (fun k_ hk => (⟨hk, hk.2.2.2.1⟩ : _ ∧ k_ ≠ gb198))) (fun _ hk => hk.2) (.int .i64 t210)) (fun _ hk => hk.2) (.int .u64 t211)) (fun _ hk => hk.2) (.int .u64 t212)) (fun _ hk => ⟨hk.1.1, ⟨hk.1.2.1, ⟨hk.1.2.2.1, hk.1.2.2.2.1⟩⟩⟩)⟩, ⟨by (with_reducible repeat (first | apply Kd.Q_alloc | apply Kd.Q_drewN | apply Kd.Q_drew)); exact Kd.Q_mono (Kd.Q_far (p := ⟨gb198, 2, none⟩) (Kd.Q_far (p := ⟨gb198, 1, none⟩) (Kd.Q_far (p := ⟨gb198, 0, none⟩) (Kd.Q_types HO_12.out BK198.out (by decide)) (fun _ hk => hk.2) (.int .i64 t210)) (fun _ hk => hk.2) (.int .u64 t211)) (fun _ hk => hk.2) (.int .u64 t212)) (fun _ hk => trivial)⟩, ⟨by (with_reducible repeat (first | refine blk_drewN ?_ _ | refine blk_drew ?_ | refine blk_alloc ?_ _)); refine blk_far ?_ NB189_198.out _; (with_reducible repeat (first | refine blk_drewN ?_ _ | refine blk_drew ?_ | refine blk_alloc ?_ _)); refine blk_far ?_ NB189_198.out _; (with_reducible repeat (first | refine blk_drewN ?_ _ | refine blk_drew ?_ | refine blk_alloc ?_ _)); refine blk_far ?_ NB189_198.out _; (with_reducible repeat (first | refine blk_drewN ?_ _ | refine blk_drew ?_ | refine blk_alloc ?_ _)); exact BK189.out⟩, ⟨by (with_reducible repeat (first | refine blk_drewN ?_ _ | refine blk_drew ?_ | refine blk_alloc ?_ _)); refine blk_far ?_ NB193_198.out _; (with_reducible repeat (first | refine blk_drewN ?_ _ | refine blk_drew ?_ | refine blk_alloc ?_ _)); refine blk_far ?_ NB193_198.out _; (with_reducible repeat (first | refine blk_drewN ?_ _ | refine blk_drew ?_ | refine blk_alloc ?_ _)); refine blk_far ?_ NB193_198.out _; (with_reducible repeat (first | refine blk_drewN ?_ _ | refine blk_drew ?_ | refine blk_alloc ?_ _)); exact BK193.out⟩, ⟨by (with_reducible repeat (first | refine blk_drewN ?_ _ | refine blk_drew ?_ | refine blk_alloc ?_ _)); refine blk_put (cs := #[.int .i64 t210, .int .u64 t211, .int .u64 x199002_4]) ?_ 2 _ rfl; (with_reducible repeat (first | refine blk_drewN ?_ _ | refine blk_drew ?_ | refine blk_alloc ?_ _)); refine blk_put (cs := #[.int .i64 t210, .int .u64 x199001_4, .int .u64 x199002_4]) ?_ 1 _ rfl; (with_reducible repeat (first | refine blk_drewN ?_ _ | refine blk_drew ?_ | refine blk_alloc ?_ _)); refine blk_put (cs := #[.int .i64 x199000_4, .int .u64 x199001_4, .int .u64 x199002_4]) ?_ 0 _ rfl; (with_reducible repeat (first | refine blk_drewN ?_ _ | refine blk_drew ?_ | refine blk_alloc ?_ _)); exact BK198.out⟩, ⟨by repeat (first | (with_reducible first | exact HB.out | apply below_alloc | apply pw_below_drewN | apply below_drew1 | refine below_set ?_ GE189.out | refine below_set ?_ GE193.out | refine below_set ?_ GE198.out | refine below_set ?_ GE204.out) | exact HB.out)⟩⟩
               ·replace c32 := Bool.eq_false_iff.mpr c32
                subst c32
                have H1 : (treillagelaw16_QueueOne.j4 k4 l1 l2 x8_2 x10_4 x12_3 x13_3 x15_4 1 (wrap64 (1 + (Int.tmod (wrap64 (a0)) 4))) x194000_3 x194001_3 x194002_3 x199000_4 x199001_4 x199002_4) = some r := by rw [if_neg (show ¬ (false = true) by decide)] at H; exact H
                clear H
                have H := H1
                clear H1
                as_aux_lemma =>
                 have H' := aA H
                 clear H
                 have hnb53 := NB189_193.out
                 have hnc53 := NB193_189.out
                 have hnb54 := NB189_198.out
                 have hnc54 := NB198_189.out
                 have hcz55_0 : wr.cell? ⟨gb189, 0, none⟩ = some (.int .i64 1) := (blk_cell BK189.out 0).trans rfl
                 have hcz55_1 : wr.cell? ⟨gb189, 1, none⟩ = some (.int .i64 (wrap64 (1 + (Int.tmod (wrap64 (a0)) 4)))) := (blk_cell BK189.out 1).trans rfl
                 have hfz55_0 := blk_frozen BK189.out 0
                 have hfz55_1 := blk_frozen BK189.out 1
                 have hnb56 := NB198_193.out
                 have hnc56 := NB193_198.out
                 have hcz57_0 : wr.cell? ⟨gb198, 0, none⟩ = some (.int .i64 x199000_4) := (blk_cell BK198.out 0).trans rfl
                 have hcz57_1 : wr.cell? ⟨gb198, 1, none⟩ = some (.int .u64 x199001_4) := (blk_cell BK198.out 1).trans rfl
                 have hcz57_2 : wr.cell? ⟨gb198, 2, none⟩ = some (.int .u64 x199002_4) := (blk_cell BK198.out 2).trans rfl
                 have hfz57_0 := blk_frozen BK198.out 0
                 have hfz57_1 := blk_frozen BK198.out 1
                 have hfz57_2 := blk_frozen BK198.out 2
                 go_wp2_with (first | (go_at_call 47; (with_reducible refine (queue_Want.calls 1 (wrap64 (1 + (Int.tmod (wrap64 (a0)) 4))) x199000_4 x199001_4 x199002_4 t199 t200 t201 t202 false _ A31.out).mono ?_); rintro e w58 ⟨rfl, hb⟩; have n0_ := aA (Kd.V_below (vlu HO_10.out) hb); have n1_ := aA (Kd.Q_below (qlu HO_12.out) hb); have n2_ := aA (blk_below (g := gb189) (o := .cells #[.int .i64 1, .int .i64 (wrap64 (1 + (Int.tmod (wrap64 (a0)) 4)))] 38 (0, 0)) (bku BK189.out) hb); have n3_ := aA (blk_below (g := gb193) (o := .cells #[.int .i64 x194000_3, .int .u64 x194001_3, .int .u64 x194002_3] 56 (0, 0)) (bku BK193.out) hb); have n4_ := aA (blk_below (g := gb198) (o := .cells #[.int .i64 x199000_4, .int .u64 x199001_4, .int .u64 x199002_4] 54 (0, 0)) (bku BK198.out) hb); have n5_ := aA (below_step (bls HB.out) hb); clear HO_10 HO_12 BK189 BK193 BK198 HB; have HO_10 := n0_; have HO_12 := n1_; have BK189 := n2_; have BK193 := n3_; have BK198 := n4_; have HB := n5_; clear n0_ n1_ n2_ n3_ n4_ n5_; (try clear hb); (try clear hb2); (try clear hk); (try clear hi)) | ((with_reducible refine gate_dst (N := 16) rfl ?_); (try (refine gate_guard (by rfl) ?_; dsimp only)); refine box_event ?hg (N := 16) ?hd (cs := #[.int .i64 0, .int .i64 0, .int .u64 0, .int .u64 0]) (t := 25) ?hr ?_; (case hd => rfl); (case hg => rfl); (case hr => first | (go_simp; done) | (go_simp; rfl)); intro gb204 hg w59 hbox hb; have n0_ := aA (Kd.V_below (Kd.V_elderB (vlu HO_10.out) gb204 (Nat.le_of_eq hg.symm)) hb); have n1_ := aA (Kd.Q_below (qlu HO_12.out) hb); have n2_ := aA (blk_below (g := gb189) (o := .cells #[.int .i64 1, .int .i64 (wrap64 (1 + (Int.tmod (wrap64 (a0)) 4)))] 38 (0, 0)) (bku BK189.out) hb); have n3_ := aA (blk_below (g := gb193) (o := .cells #[.int .i64 x194000_3, .int .u64 x194001_3, .int .u64 x194002_3] 56 (0, 0)) (bku BK193.out) hb); have n4_ := aA (blk_below (g := gb198) (o := .cells #[.int .i64 x199000_4, .int .u64 x199001_4, .int .u64 x199002_4] 54 (0, 0)) (bku BK198.out) hb); have n5_ := aA (below_step (bls HB.out) hb); have n6_ := aA (hbox); have n7_ := aA ((by rw [hg]; exact (below_size (bls HB.out)) : w.heap.size ≤ gb204)); have n8_ := aA ((by rw [hg]; exact (below_size (bls HB.out)) : w.heap.size ≤ gb204)); have n9_ := aA ((by rw [hg]; exact Nat.ne_of_lt (blk_lt (g := gb189) (o := .cells #[.int .i64 1, .int .i64 (wrap64 (1 + (Int.tmod (wrap64 (a0)) 4)))] 38 (0, 0)) (bku BK189.out)) : gb189 ≠ gb204)); have n10_ := aA ((by rw [hg]; exact Nat.ne_of_gt (blk_lt (g := gb189) (o := .cells #[.int .i64 1, .int .i64 (wrap64 (1 + (Int.tmod (wrap64 (a0)) 4)))] 38 (0, 0)) (bku BK189.out)) : gb204 ≠ gb189)); have n11_ := aA ((by rw [hg]; exact Nat.ne_of_lt (blk_lt (g := gb193) (o := .cells #[.int .i64 x194000_3, .int .u64 x194001_3, .int .u64 x194002_3] 56 (0, 0)) (bku BK193.out)) : gb193 ≠ gb204)); have n12_ := aA ((by rw [hg]; exact Nat.ne_of_gt (blk_lt (g := gb193) (o := .cells #[.int .i64 x194000_3, .int .u64 x194001_3, .int .u64 x194002_3] 56 (0, 0)) (bku BK193.out)) : gb204 ≠ gb193)); have n13_ := aA ((by rw [hg]; exact Nat.ne_of_lt (blk_lt (g := gb198) (o := .cells #[.int .i64 x199000_4, .int .u64 x199001_4, .int .u64 x199002_4] 54 (0, 0)) (bku BK198.out)) : gb198 ≠ gb204)); have n14_ := aA ((by rw [hg]; exact Nat.ne_of_gt (blk_lt (g := gb198) (o := .cells #[.int .i64 x199000_4, .int .u64 x199001_4, .int .u64 x199002_4] 54 (0, 0)) (bku BK198.out)) : gb204 ≠ gb198)); clear HO_10 HO_12 BK189 BK193 BK198 HB; have HO_10 := n0_; have HO_12 := n1_; have BK189 := n2_; have BK193 := n3_; have BK198 := n4_; have HB := n5_; have BK204 := n6_; have GW204 := n7_; have GE204 := n8_; have NB189_204 := n9_; have NB204_189 := n10_; have NB193_204 := n11_; have NB204_193 := n12_; have NB198_204 := n13_; have NB204_198 := n14_; clear n0_ n1_ n2_ n3_ n4_ n5_ n6_ n7_ n8_ n9_ n10_ n11_ n12_ n13_ n14_ hb hbox hg; have hnb60 := NB204_189.out; have hnc60 := NB189_204.out; have hnb61 := NB204_193.out; have hnc61 := NB193_204.out; have hnb62 := NB204_198.out; have hnc62 := NB198_204.out; have hcz63_0 : w59.cell? ⟨gb204, 0, none⟩ = some (.int .i64 0) := (blk_cell BK204.out 0).trans rfl; have hcz63_1 : w59.cell? ⟨gb204, 1, none⟩ = some (.int .i64 0) := (blk_cell BK204.out 1).trans rfl; have hcz63_2 : w59.cell? ⟨gb204, 2, none⟩ = some (.int .u64 0) := (blk_cell BK204.out 2).trans rfl; have hcz63_3 : w59.cell? ⟨gb204, 3, none⟩ = some (.int .u64 0) := (blk_cell BK204.out 3).trans rfl; have hfz63_0 := blk_frozen BK204.out 0; have hfz63_1 := blk_frozen BK204.out 1; have hfz63_2 := blk_frozen BK204.out 2; have hfz63_3 := blk_frozen BK204.out 3))
                 repeat (go_quiet (first | (go_at_call 47; (with_reducible refine (queue_Want.calls 1 (wrap64 (1 + (Int.tmod (wrap64 (a0)) 4))) x199000_4 x199001_4 x199002_4 t199 t200 t201 t202 false _ A31.out).mono ?_); rintro e w58 ⟨rfl, hb⟩; have n0_ := aA (Kd.V_below (vlu HO_10.out) hb); have n1_ := aA (Kd.Q_below (qlu HO_12.out) hb); have n2_ := aA (blk_below (g := gb189) (o := .cells #[.int .i64 1, .int .i64 (wrap64 (1 + (Int.tmod (wrap64 (a0)) 4)))] 38 (0, 0)) (bku BK189.out) hb); have n3_ := aA (blk_below (g := gb193) (o := .cells #[.int .i64 x194000_3, .int .u64 x194001_3, .int .u64 x194002_3] 56 (0, 0)) (bku BK193.out) hb); have n4_ := aA (blk_below (g := gb198) (o := .cells #[.int .i64 x199000_4, .int .u64 x199001_4, .int .u64 x199002_4] 54 (0, 0)) (bku BK198.out) hb); have n5_ := aA (below_step (bls HB.out) hb); clear HO_10 HO_12 BK189 BK193 BK198 HB; have HO_10 := n0_; have HO_12 := n1_; have BK189 := n2_; have BK193 := n3_; have BK198 := n4_; have HB := n5_; clear n0_ n1_ n2_ n3_ n4_ n5_; (try clear hb); (try clear hb2); (try clear hk); (try clear hi)) | ((with_reducible refine gate_dst (N := 16) rfl ?_); (try (refine gate_guard (by rfl) ?_; dsimp only)); refine box_event ?hg (N := 16) ?hd (cs := #[.int .i64 0, .int .i64 0, .int .u64 0, .int .u64 0]) (t := 25) ?hr ?_; (case hd => rfl); (case hg => rfl); (case hr => first | (go_simp; done) | (go_simp; rfl)); intro gb204 hg w59 hbox hb; have n0_ := aA (Kd.V_below (Kd.V_elderB (vlu HO_10.out) gb204 (Nat.le_of_eq hg.symm)) hb); have n1_ := aA (Kd.Q_below (qlu HO_12.out) hb); have n2_ := aA (blk_below (g := gb189) (o := .cells #[.int .i64 1, .int .i64 (wrap64 (1 + (Int.tmod (wrap64 (a0)) 4)))] 38 (0, 0)) (bku BK189.out) hb); have n3_ := aA (blk_below (g := gb193) (o := .cells #[.int .i64 x194000_3, .int .u64 x194001_3, .int .u64 x194002_3] 56 (0, 0)) (bku BK193.out) hb); have n4_ := aA (blk_below (g := gb198) (o := .cells #[.int .i64 x199000_4, .int .u64 x199001_4, .int .u64 x199002_4] 54 (0, 0)) (bku BK198.out) hb); have n5_ := aA (below_step (bls HB.out) hb); have n6_ := aA (hbox); have n7_ := aA ((by rw [hg]; exact (below_size (bls HB.out)) : w.heap.size ≤ gb204)); have n8_ := aA ((by rw [hg]; exact (below_size (bls HB.out)) : w.heap.size ≤ gb204)); have n9_ := aA ((by rw [hg]; exact Nat.ne_of_lt (blk_lt (g := gb189) (o := .cells #[.int .i64 1, .int .i64 (wrap64 (1 + (Int.tmod (wrap64 (a0)) 4)))] 38 (0, 0)) (bku BK189.out)) : gb189 ≠ gb204)); have n10_ := aA ((by rw [hg]; exact Nat.ne_of_gt (blk_lt (g := gb189) (o := .cells #[.int .i64 1, .int .i64 (wrap64 (1 + (Int.tmod (wrap64 (a0)) 4)))] 38 (0, 0)) (bku BK189.out)) : gb204 ≠ gb189)); have n11_ := aA ((by rw [hg]; exact Nat.ne_of_lt (blk_lt (g := gb193) (o := .cells #[.int .i64 x194000_3, .int .u64 x194001_3, .int .u64 x194002_3] 56 (0, 0)) (bku BK193.out)) : gb193 ≠ gb204)); have n12_ := aA ((by rw [hg]; exact Nat.ne_of_gt (blk_lt (g := gb193) (o := .cells #[.int .i64 x194000_3, .int .u64 x194001_3, .int .u64 x194002_3] 56 (0, 0)) (bku BK193.out)) : gb204 ≠ gb193)); have n13_ := aA ((by rw [hg]; exact Nat.ne_of_lt (blk_lt (g := gb198) (o := .cells #[.int .i64 x199000_4, .int .u64 x199001_4, .int .u64 x199002_4] 54 (0, 0)) (bku BK198.out)) : gb198 ≠ gb204)); have n14_ := aA ((by rw [hg]; exact Nat.ne_of_gt (blk_lt (g := gb198) (o := .cells #[.int .i64 x199000_4, .int .u64 x199001_4, .int .u64 x199002_4] 54 (0, 0)) (bku BK198.out)) : gb204 ≠ gb198)); clear HO_10 HO_12 BK189 BK193 BK198 HB; have HO_10 := n0_; have HO_12 := n1_; have BK189 := n2_; have BK193 := n3_; have BK198 := n4_; have HB := n5_; have BK204 := n6_; have GW204 := n7_; have GE204 := n8_; have NB189_204 := n9_; have NB204_189 := n10_; have NB193_204 := n11_; have NB204_193 := n12_; have NB198_204 := n13_; have NB204_198 := n14_; clear n0_ n1_ n2_ n3_ n4_ n5_ n6_ n7_ n8_ n9_ n10_ n11_ n12_ n13_ n14_ hb hbox hg; have hnb60 := NB204_189.out; have hnc60 := NB189_204.out; have hnb61 := NB204_193.out; have hnc61 := NB193_204.out; have hnb62 := NB204_198.out; have hnc62 := NB198_204.out; have hcz63_0 : w59.cell? ⟨gb204, 0, none⟩ = some (.int .i64 0) := (blk_cell BK204.out 0).trans rfl; have hcz63_1 : w59.cell? ⟨gb204, 1, none⟩ = some (.int .i64 0) := (blk_cell BK204.out 1).trans rfl; have hcz63_2 : w59.cell? ⟨gb204, 2, none⟩ = some (.int .u64 0) := (blk_cell BK204.out 2).trans rfl; have hcz63_3 : w59.cell? ⟨gb204, 3, none⟩ = some (.int .u64 0) := (blk_cell BK204.out 3).trans rfl; have hfz63_0 := blk_frozen BK204.out 0; have hfz63_1 := blk_frozen BK204.out 1; have hfz63_2 := blk_frozen BK204.out 2; have hfz63_3 := blk_frozen BK204.out 3)); try go_wp2_with (first | (go_at_call 47; (with_reducible refine (queue_Want.calls 1 (wrap64 (1 + (Int.tmod (wrap64 (a0)) 4))) x199000_4 x199001_4 x199002_4 t199 t200 t201 t202 false _ A31.out).mono ?_); rintro e w58 ⟨rfl, hb⟩; have n0_ := aA (Kd.V_below (vlu HO_10.out) hb); have n1_ := aA (Kd.Q_below (qlu HO_12.out) hb); have n2_ := aA (blk_below (g := gb189) (o := .cells #[.int .i64 1, .int .i64 (wrap64 (1 + (Int.tmod (wrap64 (a0)) 4)))] 38 (0, 0)) (bku BK189.out) hb); have n3_ := aA (blk_below (g := gb193) (o := .cells #[.int .i64 x194000_3, .int .u64 x194001_3, .int .u64 x194002_3] 56 (0, 0)) (bku BK193.out) hb); have n4_ := aA (blk_below (g := gb198) (o := .cells #[.int .i64 x199000_4, .int .u64 x199001_4, .int .u64 x199002_4] 54 (0, 0)) (bku BK198.out) hb); have n5_ := aA (below_step (bls HB.out) hb); clear HO_10 HO_12 BK189 BK193 BK198 HB; have HO_10 := n0_; have HO_12 := n1_; have BK189 := n2_; have BK193 := n3_; have BK198 := n4_; have HB := n5_; clear n0_ n1_ n2_ n3_ n4_ n5_; (try clear hb); (try clear hb2); (try clear hk); (try clear hi)) | ((with_reducible refine gate_dst (N := 16) rfl ?_); (try (refine gate_guard (by rfl) ?_; dsimp only)); refine box_event ?hg (N := 16) ?hd (cs := #[.int .i64 0, .int .i64 0, .int .u64 0, .int .u64 0]) (t := 25) ?hr ?_; (case hd => rfl); (case hg => rfl); (case hr => first | (go_simp; done) | (go_simp; rfl)); intro gb204 hg w59 hbox hb; have n0_ := aA (Kd.V_below (Kd.V_elderB (vlu HO_10.out) gb204 (Nat.le_of_eq hg.symm)) hb); have n1_ := aA (Kd.Q_below (qlu HO_12.out) hb); have n2_ := aA (blk_below (g := gb189) (o := .cells #[.int .i64 1, .int .i64 (wrap64 (1 + (Int.tmod (wrap64 (a0)) 4)))] 38 (0, 0)) (bku BK189.out) hb); have n3_ := aA (blk_below (g := gb193) (o := .cells #[.int .i64 x194000_3, .int .u64 x194001_3, .int .u64 x194002_3] 56 (0, 0)) (bku BK193.out) hb); have n4_ := aA (blk_below (g := gb198) (o := .cells #[.int .i64 x199000_4, .int .u64 x199001_4, .int .u64 x199002_4] 54 (0, 0)) (bku BK198.out) hb); have n5_ := aA (below_step (bls HB.out) hb); have n6_ := aA (hbox); have n7_ := aA ((by rw [hg]; exact (below_size (bls HB.out)) : w.heap.size ≤ gb204)); have n8_ := aA ((by rw [hg]; exact (below_size (bls HB.out)) : w.heap.size ≤ gb204)); have n9_ := aA ((by rw [hg]; exact Nat.ne_of_lt (blk_lt (g := gb189) (o := .cells #[.int .i64 1, .int .i64 (wrap64 (1 + (Int.tmod (wrap64 (a0)) 4)))] 38 (0, 0)) (bku BK189.out)) : gb189 ≠ gb204)); have n10_ := aA ((by rw [hg]; exact Nat.ne_of_gt (blk_lt (g := gb189) (o := .cells #[.int .i64 1, .int .i64 (wrap64 (1 + (Int.tmod (wrap64 (a0)) 4)))] 38 (0, 0)) (bku BK189.out)) : gb204 ≠ gb189)); have n11_ := aA ((by rw [hg]; exact Nat.ne_of_lt (blk_lt (g := gb193) (o := .cells #[.int .i64 x194000_3, .int .u64 x194001_3, .int .u64 x194002_3] 56 (0, 0)) (bku BK193.out)) : gb193 ≠ gb204)); have n12_ := aA ((by rw [hg]; exact Nat.ne_of_gt (blk_lt (g := gb193) (o := .cells #[.int .i64 x194000_3, .int .u64 x194001_3, .int .u64 x194002_3] 56 (0, 0)) (bku BK193.out)) : gb204 ≠ gb193)); have n13_ := aA ((by rw [hg]; exact Nat.ne_of_lt (blk_lt (g := gb198) (o := .cells #[.int .i64 x199000_4, .int .u64 x199001_4, .int .u64 x199002_4] 54 (0, 0)) (bku BK198.out)) : gb198 ≠ gb204)); have n14_ := aA ((by rw [hg]; exact Nat.ne_of_gt (blk_lt (g := gb198) (o := .cells #[.int .i64 x199000_4, .int .u64 x199001_4, .int .u64 x199002_4] 54 (0, 0)) (bku BK198.out)) : gb204 ≠ gb198)); clear HO_10 HO_12 BK189 BK193 BK198 HB; have HO_10 := n0_; have HO_12 := n1_; have BK189 := n2_; have BK193 := n3_; have BK198 := n4_; have HB := n5_; have BK204 := n6_; have GW204 := n7_; have GE204 := n8_; have NB189_204 := n9_; have NB204_189 := n10_; have NB193_204 := n11_; have NB204_193 := n12_; have NB198_204 := n13_; have NB204_198 := n14_; clear n0_ n1_ n2_ n3_ n4_ n5_ n6_ n7_ n8_ n9_ n10_ n11_ n12_ n13_ n14_ hb hbox hg; have hnb60 := NB204_189.out; have hnc60 := NB189_204.out; have hnb61 := NB204_193.out; have hnc61 := NB193_204.out; have hnb62 := NB204_198.out; have hnc62 := NB198_204.out; have hcz63_0 : w59.cell? ⟨gb204, 0, none⟩ = some (.int .i64 0) := (blk_cell BK204.out 0).trans rfl; have hcz63_1 : w59.cell? ⟨gb204, 1, none⟩ = some (.int .i64 0) := (blk_cell BK204.out 1).trans rfl; have hcz63_2 : w59.cell? ⟨gb204, 2, none⟩ = some (.int .u64 0) := (blk_cell BK204.out 2).trans rfl; have hcz63_3 : w59.cell? ⟨gb204, 3, none⟩ = some (.int .u64 0) := (blk_cell BK204.out 3).trans rfl; have hfz63_0 := blk_frozen BK204.out 0; have hfz63_1 := blk_frozen BK204.out 1; have hfz63_2 := blk_frozen BK204.out 2; have hfz63_3 := blk_frozen BK204.out 3)))
                 (first | go_meet | (refine Met.intro ?_; go_step; (try rw [c30b0]); (repeat apply Exists.intro); refine ⟨?rel, rfl⟩))
                 case rel => exact ⟨_, (x10_4), (x15_4), (x199000_4), (x199001_4), (x199002_4), (by first | rfl | (simp; done) | (simp [*]; done)), H', ⟨by have := HJ3.out; have := HK2.out; have := HK3.out; have := HK4.out; first | omega | exact Nat.le_refl _⟩, ⟨by (with_reducible repeat (first | apply Kd.V_alloc | apply Kd.V_drewN | apply Kd.V_drew)); exact Kd.V_mono (Kd.V_far (p := ⟨gb204, 3, none⟩) (Kd.V_far (p := ⟨gb204, 2, none⟩) (Kd.V_far (p := ⟨gb204, 1, none⟩) (Kd.V_far (p := ⟨gb204, 0, none⟩) (Kd.V_mono HO_10.out (fun k_ hk => (⟨hk, hk.2⟩ : _ ∧ k_ ≠ gb204))) (fun _ hk => hk.2) (.int .i64 t199)) (fun _ hk => hk.2) (.int .i64 t200)) (fun _ hk => hk.2) (.int .u64 t201)) (fun _ hk => hk.2) (.int .u64 t202)) (fun _ hk => ⟨hk.1.1.1, ⟨hk.1.1.2.1, ⟨hk.1.1.2.2.1, hk.1.1.2.2.2⟩⟩⟩)⟩, ⟨by (with_reducible repeat (first | apply Kd.Q_alloc | apply Kd.Q_drewN | apply Kd.Q_drew)); exact Kd.Q_mono (Kd.Q_far (p := ⟨gb204, 3, none⟩) (Kd.Q_far (p := ⟨gb204, 2, none⟩) (Kd.Q_far (p := ⟨gb204, 1, none⟩) (Kd.Q_far (p := ⟨gb204, 0, none⟩) (Kd.Q_types HO_12.out BK204.out (by decide)) (fun _ hk => hk.2) (.int .i64 t199)) (fun _ hk => hk.2) (.int .i64 t200)) (fun _ hk => hk.2) (.int .u64 t201)) (fun _ hk => hk.2) (.int .u64 t202)) (fun _ hk => trivial)⟩, ⟨by (with_reducible repeat (first | refine blk_drewN ?_ _ | refine blk_drew ?_ | refine blk_alloc ?_ _)); refine blk_far ?_ NB189_204.out _; (with_reducible repeat (first | refine blk_drewN ?_ _ | refine blk_drew ?_ | refine blk_alloc ?_ _)); refine blk_far ?_ NB189_204.out _; (with_reducible repeat (first | refine blk_drewN ?_ _ | refine blk_drew ?_ | refine blk_alloc ?_ _)); refine blk_far ?_ NB189_204.out _; (with_reducible repeat (first | refine blk_drewN ?_ _ | refine blk_drew ?_ | refine blk_alloc ?_ _)); refine blk_far ?_ NB189_204.out _; (with_reducible repeat (first | refine blk_drewN ?_ _ | refine blk_drew ?_ | refine blk_alloc ?_ _)); exact BK189.out⟩, ⟨by (with_reducible repeat (first | refine blk_drewN ?_ _ | refine blk_drew ?_ | refine blk_alloc ?_ _)); refine blk_far ?_ NB193_204.out _; (with_reducible repeat (first | refine blk_drewN ?_ _ | refine blk_drew ?_ | refine blk_alloc ?_ _)); refine blk_far ?_ NB193_204.out _; (with_reducible repeat (first | refine blk_drewN ?_ _ | refine blk_drew ?_ | refine blk_alloc ?_ _)); refine blk_far ?_ NB193_204.out _; (with_reducible repeat (first | refine blk_drewN ?_ _ | refine blk_drew ?_ | refine blk_alloc ?_ _)); refine blk_far ?_ NB193_204.out _; (with_reducible repeat (first | refine blk_drewN ?_ _ | refine blk_drew ?_ | refine blk_alloc ?_ _)); exact BK193.out⟩, ⟨by (with_reducible repeat (first | refine blk_drewN ?_ _ | refine blk_drew ?_ | refine blk_alloc ?_ _)); refine blk_far ?_ NB198_204.out _; (with_reducible repeat (first | refine blk_drewN ?_ _ | refine blk_drew ?_ | refine blk_alloc ?_ _)); refine blk_far ?_ NB198_204.out _; (with_reducible repeat (first | refine blk_drewN ?_ _ | refine blk_drew ?_ | refine blk_alloc ?_ _)); refine blk_far ?_ NB198_204.out _; (with_reducible repeat (first | refine blk_drewN ?_ _ | refine blk_drew ?_ | refine blk_alloc ?_ _)); refine blk_far ?_ NB198_204.out _; (with_reducible repeat (first | refine blk_drewN ?_ _ | refine blk_drew ?_ | refine blk_alloc ?_ _)); exact BK198.out⟩, ⟨by repeat (first | (with_reducible first | exact HB.out | apply below_alloc | apply pw_below_drewN | apply below_drew1 | refine below_set ?_ GE189.out | refine below_set ?_ GE193.out | refine below_set ?_ GE198.out | refine below_set ?_ GE204.out) | exact HB.out)⟩⟩
              ·rw [if_neg c30] at H
               have c30b0 : decide (x15_4 < 6) = false := decide_eq_false c30
               clear c30
               (first | rw [c30b0] | (simp only [i64_w, i32_w]; rw [c30b0]) | skip)
               as_aux_lemma =>
                have H' := aA H
                clear H
                go_wp2
                repeat (go_quiet (fail); try go_wp2)
                (first | go_meet | (refine Met.intro ?_; go_step; (try rw [c30b0]); (repeat apply Exists.intro); refine ⟨?rel, rfl⟩))
                case rel => exact ⟨_, (x10_4), (x15_4), (x199000_4), (x199001_4), (x199002_4), (by first | rfl | (simp; done) | (simp [*]; done)), H', ⟨by have := HJ3.out; have := HK2.out; have := HK3.out; have := HK4.out; first | omega | exact Nat.le_refl _⟩, ⟨by (with_reducible repeat (first | apply Kd.V_alloc | apply Kd.V_drewN | apply Kd.V_drew)); exact HO_10.out⟩, ⟨by (with_reducible repeat (first | apply Kd.Q_alloc | apply Kd.Q_drewN | apply Kd.Q_drew)); exact HO_12.out⟩, ⟨by (with_reducible repeat (first | refine blk_drewN ?_ _ | refine blk_drew ?_ | refine blk_alloc ?_ _)); exact BK189.out⟩, ⟨by (with_reducible repeat (first | refine blk_drewN ?_ _ | refine blk_drew ?_ | refine blk_alloc ?_ _)); exact BK193.out⟩, ⟨by (with_reducible repeat (first | refine blk_drewN ?_ _ | refine blk_drew ?_ | refine blk_alloc ?_ _)); exact BK198.out⟩, ⟨by repeat (first | (with_reducible first | exact HB.out | apply below_alloc | apply pw_below_drewN | apply below_drew1 | refine below_set ?_ GE189.out | refine below_set ?_ GE193.out | refine below_set ?_ GE198.out) | exact HB.out)⟩⟩
           case rest =>
            clear HC25
            try clear c1
            try clear p1
            try clear q1
            try clear hx1
            try clear c2
            try clear p2
            try clear c3
            try clear c4
            try clear c5
            try clear c5b0
            try clear c5b1
            try clear c6
            try clear p6
            try clear c8
            try clear c12
            try clear c13
            try clear c13b0
            try clear c19
            try clear p19
            try clear q19
            try clear hx19
            try clear c23
            try clear c23b0
            try clear c24
            try clear c24b0
            try clear c27
            try clear c28
            try clear c30
            try clear c30b0
            try clear c32
            try clear c35
            try clear c36
            try clear c38
            try clear c42
            try clear c43
            try clear c44
            try clear c53
            try clear c54
            try clear c56
            try clear c60
            try clear c61
            try clear c62
            try clear hcz12_0
            try clear hcz12_1
            try clear hcz14_0
            try clear hcz14_1
            try clear hcz16_0
            try clear hcz16_1
            try clear hcz20_0
            try clear hcz20_1
            try clear hcz20_2
            try clear hcz29_0
            try clear hcz29_1
            try clear hcz29_2
            try clear hcz37_0
            try clear hcz37_1
            try clear hcz39_0
            try clear hcz39_1
            try clear hcz39_2
            try clear hcz45_0
            try clear hcz45_1
            try clear hcz45_2
            try clear hcz45_3
            try clear hcz47_0
            try clear hcz47_1
            try clear hcz47_2
            try clear hcz47_3
            try clear hcz50_0
            try clear hcz50_1
            try clear hcz50_2
            try clear hcz52_0
            try clear hcz52_1
            try clear hcz52_2
            try clear hcz55_0
            try clear hcz55_1
            try clear hcz57_0
            try clear hcz57_1
            try clear hcz57_2
            try clear hcz63_0
            try clear hcz63_1
            try clear hcz63_2
            try clear hcz63_3
            try clear hfz12_0
            try clear hfz12_1
            try clear hfz14_0
            try clear hfz14_1
            try clear hfz16_0
            try clear hfz16_1
            try clear hfz20_0
            try clear hfz20_1
            try clear hfz20_2
            try clear hfz29_0
            try clear hfz29_1
            try clear hfz29_2
            try clear hfz37_0
            try clear hfz37_1
            try clear hfz39_0
            try clear hfz39_1
            try clear hfz39_2
            try clear hfz45_0
            try clear hfz45_1
            try clear hfz45_2
            try clear hfz45_3
            try clear hfz47_0
            try clear hfz47_1
            try clear hfz47_2
            try clear hfz47_3
            try clear hfz50_0
            try clear hfz50_1
            try clear hfz50_2
            try clear hfz52_0
            try clear hfz52_1
            try clear hfz52_2
            try clear hfz55_0
            try clear hfz55_1
            try clear hfz57_0
            try clear hfz57_1
            try clear hfz57_2
            try clear hfz63_0
            try clear hfz63_1
            try clear hfz63_2
            try clear hfz63_3
            try clear hx197_0
            try clear p1
            try clear p19
            try clear p197
            try clear p2
            try clear p6
            try clear q1
            try clear q19
            try clear q197
            obtain ⟨kq, x10_24, x15_24, x199000_24, x199001_24, x199002_24, rfl, HA, HJ24, HO_10, HO_12, BK189, BK193, BK198, HB⟩ := hcut
            cases kq with
            | zero => exact absurd HA.out (by simp [treillagelaw16_QueueOne.j4])
            | succ kj24 =>
             have H := HA.out
             clear HA
             simp only [treillagelaw16_QueueOne.j4] at H
             have HC64 := aA H
             clear H
             obtain ⟨Ao65, co65, eo65, _⟩ := Kd.Q_slice HO_12.out
             subst eo65
             go_upto_region 25 with (fail)
             repeat (go_quiet (fail); go_upto_region 25 with (fail))
             go_cut [113] (fun v113 wc => ∃ (kq : Nat) (x113_63 : Bool), v113 = .bool x113_63 ∧ Aside0 (treillagelaw16_QueueOne.j5 kq l1 l2 x8_2 x10_24 x12_3 x13_3 ((x12_3.length : Int) == x8_2) x113_63 1 (wrap64 (1 + (Int.tmod (wrap64 (a0)) 4))) x194000_3 x194001_3 x194002_3 = some r) ∧ Aside0 (kq ≤ kj24) ∧ Aside0 (Kd.V (Kd.int .u64) 23 wc w.heap.size (fun k_ => some k_ ≠ ((.slice Ao65 x12_3.length co65) : Value).ownBlock ∧ k_ ≠ gb189 ∧ k_ ≠ gb193 ∧ k_ ≠ gb198) u10 x10_24) ∧ Aside0 (Kd.Q (Kd.int .u64) 23 wc w.heap.size (fun _ => True) (.slice Ao65 x12_3.length co65) x12_3) ∧ Aside0 (wc.heap[gb189]? = some (.cells #[.int .i64 1, .int .i64 (wrap64 (1 + (Int.tmod (wrap64 (a0)) 4)))] 38 (0, 0))) ∧ Aside0 (wc.heap[gb193]? = some (.cells #[.int .i64 x194000_3, .int .u64 x194001_3, .int .u64 x194002_3] 56 (0, 0))) ∧ Aside0 (wc.heap[gb198]? = some (.cells #[.int .i64 x199000_24, .int .u64 x199001_24, .int .u64 x199002_24] 54 (0, 0))) ∧ Aside0 (Below w.heap.size w wc))
             case first =>
              have H := HC64.out
              clear HC64
              by_cases c66 : (x12_3.length : Int) = x8_2
              ·rw [if_pos c66] at H
               have c66b0 : ((x12_3.length : Int) == x8_2) = true := beq_iff_eq.mpr c66
               have c66b1 : ((x12_3.length : Int) != x8_2) = false := bne_eq_false_iff_eq.mpr c66
               clear c66
               (first | rw [c66b0] | (simp only [i64_w, i32_w]; rw [c66b0]) | skip)
               by_cases c67 : x199000_24 = 6
               ·rw [if_pos c67] at H
                have c67b0 : (x199000_24 == 6) = true := beq_iff_eq.mpr c67
                have c67b1 : (x199000_24 != 6) = false := bne_eq_false_iff_eq.mpr c67
                clear c67
                by_cases c68 : x15_24 = 2
                ·rw [if_pos c68] at H
                 have c68b0 : (x15_24 == 2) = true := beq_iff_eq.mpr c68
                 have c68b1 : (x15_24 != 2) = false := bne_eq_false_iff_eq.mpr c68
                 clear c68
                 as_aux_lemma =>
                  have H' := aA H
                  clear H
                  have hnb69 := NB198_189.out
                  have hnc69 := NB189_198.out
                  have hnb70 := NB198_193.out
                  have hnc70 := NB193_198.out
                  have hcz71_0 : wc.cell? ⟨gb198, 0, none⟩ = some (.int .i64 x199000_24) := (blk_cell BK198.out 0).trans rfl
                  have hcz71_1 : wc.cell? ⟨gb198, 1, none⟩ = some (.int .u64 x199001_24) := (blk_cell BK198.out 1).trans rfl
                  have hcz71_2 : wc.cell? ⟨gb198, 2, none⟩ = some (.int .u64 x199002_24) := (blk_cell BK198.out 2).trans rfl
                  have hfz71_0 := blk_frozen BK198.out 0
                  have hfz71_1 := blk_frozen BK198.out 1
                  have hfz71_2 := blk_frozen BK198.out 2
                  go_wp2
                  repeat (go_quiet (fail); try go_wp2)
                  (first | go_meet | (refine Met.intro ?_; go_step; (try rw [c66b0]); (repeat apply Exists.intro); refine ⟨?rel, rfl⟩))
                  case rel => exact ⟨_, (false), (by first | rfl | (simp; done) | (simp [*]; done)), H', ⟨by have := HJ3.out; have := HK2.out; have := HK3.out; have := HJ24.out; first | omega | exact Nat.le_refl _⟩, ⟨by (with_reducible repeat (first | apply Kd.V_alloc | apply Kd.V_drewN | apply Kd.V_drew)); exact HO_10.out⟩, ⟨by (with_reducible repeat (first | apply Kd.Q_alloc | apply Kd.Q_drewN | apply Kd.Q_drew)); exact HO_12.out⟩, ⟨by (with_reducible repeat (first | refine blk_drewN ?_ _ | refine blk_drew ?_ | refine blk_alloc ?_ _)); exact BK189.out⟩, ⟨by (with_reducible repeat (first | refine blk_drewN ?_ _ | refine blk_drew ?_ | refine blk_alloc ?_ _)); exact BK193.out⟩, ⟨by (with_reducible repeat (first | refine blk_drewN ?_ _ | refine blk_drew ?_ | refine blk_alloc ?_ _)); exact BK198.out⟩, ⟨by repeat (first | (with_reducible first | exact HB.out | apply below_alloc | apply pw_below_drewN | apply below_drew1 | refine below_set ?_ GE189.out | refine below_set ?_ GE193.out | refine below_set ?_ GE198.out) | exact HB.out)⟩⟩
                ·rw [if_neg c68] at H
                 have c68b0 : (x15_24 == 2) = false := beq_eq_false_iff_ne.mpr c68
                 have c68b1 : (x15_24 != 2) = true := bne_iff_ne.mpr c68
                 as_aux_lemma =>
                  have H' := aA H
                  clear H
                  have hnb72 := NB198_189.out
                  have hnc72 := NB189_198.out
                  have hnb73 := NB198_193.out
                  have hnc73 := NB193_198.out
                  have hcz74_0 : wc.cell? ⟨gb198, 0, none⟩ = some (.int .i64 x199000_24) := (blk_cell BK198.out 0).trans rfl
                  have hcz74_1 : wc.cell? ⟨gb198, 1, none⟩ = some (.int .u64 x199001_24) := (blk_cell BK198.out 1).trans rfl
                  have hcz74_2 : wc.cell? ⟨gb198, 2, none⟩ = some (.int .u64 x199002_24) := (blk_cell BK198.out 2).trans rfl
                  have hfz74_0 := blk_frozen BK198.out 0
                  have hfz74_1 := blk_frozen BK198.out 1
                  have hfz74_2 := blk_frozen BK198.out 2
                  go_wp2
                  repeat (go_quiet (fail); try go_wp2)
                  (first | go_meet | (refine Met.intro ?_; go_step; (try rw [c66b0]); (repeat apply Exists.intro); refine ⟨?rel, rfl⟩))
                  case rel => exact ⟨_, (true), (by first | rfl | (simp; done) | (simp [*]; done)), H', ⟨by have := HJ3.out; have := HK2.out; have := HK3.out; have := HJ24.out; first | omega | exact Nat.le_refl _⟩, ⟨by (with_reducible repeat (first | apply Kd.V_alloc | apply Kd.V_drewN | apply Kd.V_drew)); exact HO_10.out⟩, ⟨by (with_reducible repeat (first | apply Kd.Q_alloc | apply Kd.Q_drewN | apply Kd.Q_drew)); exact HO_12.out⟩, ⟨by (with_reducible repeat (first | refine blk_drewN ?_ _ | refine blk_drew ?_ | refine blk_alloc ?_ _)); exact BK189.out⟩, ⟨by (with_reducible repeat (first | refine blk_drewN ?_ _ | refine blk_drew ?_ | refine blk_alloc ?_ _)); exact BK193.out⟩, ⟨by (with_reducible repeat (first | refine blk_drewN ?_ _ | refine blk_drew ?_ | refine blk_alloc ?_ _)); exact BK198.out⟩, ⟨by repeat (first | (with_reducible first | exact HB.out | apply below_alloc | apply pw_below_drewN | apply below_drew1 | refine below_set ?_ GE189.out | refine below_set ?_ GE193.out | refine below_set ?_ GE198.out) | exact HB.out)⟩⟩
               ·rw [if_neg c67] at H
                have c67b0 : (x199000_24 == 6) = false := beq_eq_false_iff_ne.mpr c67
                have c67b1 : (x199000_24 != 6) = true := bne_iff_ne.mpr c67
                as_aux_lemma =>
                 have H' := aA H
                 clear H
                 have hnb75 := NB198_189.out
                 have hnc75 := NB189_198.out
                 have hnb76 := NB198_193.out
                 have hnc76 := NB193_198.out
                 have hcz77_0 : wc.cell? ⟨gb198, 0, none⟩ = some (.int .i64 x199000_24) := (blk_cell BK198.out 0).trans rfl
                 have hcz77_1 : wc.cell? ⟨gb198, 1, none⟩ = some (.int .u64 x199001_24) := (blk_cell BK198.out 1).trans rfl
                 have hcz77_2 : wc.cell? ⟨gb198, 2, none⟩ = some (.int .u64 x199002_24) := (blk_cell BK198.out 2).trans rfl
                 have hfz77_0 := blk_frozen BK198.out 0
                 have hfz77_1 := blk_frozen BK198.out 1
                 have hfz77_2 := blk_frozen BK198.out 2
                 go_wp2
                 repeat (go_quiet (fail); try go_wp2)
                 (first | go_meet | (refine Met.intro ?_; go_step; (try rw [c66b0]); (repeat apply Exists.intro); refine ⟨?rel, rfl⟩))
                 case rel => exact ⟨_, (true), (by first | rfl | (simp; done) | (simp [*]; done)), H', ⟨by have := HJ3.out; have := HK2.out; have := HK3.out; have := HJ24.out; first | omega | exact Nat.le_refl _⟩, ⟨by (with_reducible repeat (first | apply Kd.V_alloc | apply Kd.V_drewN | apply Kd.V_drew)); exact HO_10.out⟩, ⟨by (with_reducible repeat (first | apply Kd.Q_alloc | apply Kd.Q_drewN | apply Kd.Q_drew)); exact HO_12.out⟩, ⟨by (with_reducible repeat (first | refine blk_drewN ?_ _ | refine blk_drew ?_ | refine blk_alloc ?_ _)); exact BK189.out⟩, ⟨by (with_reducible repeat (first | refine blk_drewN ?_ _ | refine blk_drew ?_ | refine blk_alloc ?_ _)); exact BK193.out⟩, ⟨by (with_reducible repeat (first | refine blk_drewN ?_ _ | refine blk_drew ?_ | refine blk_alloc ?_ _)); exact BK198.out⟩, ⟨by repeat (first | (with_reducible first | exact HB.out | apply below_alloc | apply pw_below_drewN | apply below_drew1 | refine below_set ?_ GE189.out | refine below_set ?_ GE193.out | refine below_set ?_ GE198.out) | exact HB.out)⟩⟩
              ·rw [if_neg c66] at H
               have c66b0 : ((x12_3.length : Int) == x8_2) = false := beq_eq_false_iff_ne.mpr c66
               have c66b1 : ((x12_3.length : Int) != x8_2) = true := bne_iff_ne.mpr c66
               (first | rw [c66b0] | (simp only [i64_w, i32_w]; rw [c66b0]) | skip)
               by_cases c78 : x199000_24 = 5
               ·rw [if_pos c78] at H
                have c78b0 : (x199000_24 == 5) = true := beq_iff_eq.mpr c78
                have c78b1 : (x199000_24 != 5) = false := bne_eq_false_iff_eq.mpr c78
                clear c78
                as_aux_lemma =>
                 have H' := aA H
                 clear H
                 have hnb79 := NB198_189.out
                 have hnc79 := NB189_198.out
                 have hnb80 := NB198_193.out
                 have hnc80 := NB193_198.out
                 have hcz81_0 : wc.cell? ⟨gb198, 0, none⟩ = some (.int .i64 x199000_24) := (blk_cell BK198.out 0).trans rfl
                 have hcz81_1 : wc.cell? ⟨gb198, 1, none⟩ = some (.int .u64 x199001_24) := (blk_cell BK198.out 1).trans rfl
                 have hcz81_2 : wc.cell? ⟨gb198, 2, none⟩ = some (.int .u64 x199002_24) := (blk_cell BK198.out 2).trans rfl
                 have hfz81_0 := blk_frozen BK198.out 0
                 have hfz81_1 := blk_frozen BK198.out 1
                 have hfz81_2 := blk_frozen BK198.out 2
                 go_wp2
                 repeat (go_quiet (fail); try go_wp2)
                 (first | go_meet | (refine Met.intro ?_; go_step; (try rw [c66b0]); (repeat apply Exists.intro); refine ⟨?rel, rfl⟩))
                 case rel => exact ⟨_, ((x15_24 != 5)), (by first | rfl | (simp; done) | (simp [*]; done)), H', ⟨by have := HJ3.out; have := HK2.out; have := HK3.out; have := HJ24.out; first | omega | exact Nat.le_refl _⟩, ⟨by (with_reducible repeat (first | apply Kd.V_alloc | apply Kd.V_drewN | apply Kd.V_drew)); exact HO_10.out⟩, ⟨by (with_reducible repeat (first | apply Kd.Q_alloc | apply Kd.Q_drewN | apply Kd.Q_drew)); exact HO_12.out⟩, ⟨by (with_reducible repeat (first | refine blk_drewN ?_ _ | refine blk_drew ?_ | refine blk_alloc ?_ _)); exact BK189.out⟩, ⟨by (with_reducible repeat (first | refine blk_drewN ?_ _ | refine blk_drew ?_ | refine blk_alloc ?_ _)); exact BK193.out⟩, ⟨by (with_reducible repeat (first | refine blk_drewN ?_ _ | refine blk_drew ?_ | refine blk_alloc ?_ _)); exact BK198.out⟩, ⟨by repeat (first | (with_reducible first | exact HB.out | apply below_alloc | apply pw_below_drewN | apply below_drew1 | refine below_set ?_ GE189.out | refine below_set ?_ GE193.out | refine below_set ?_ GE198.out) | exact HB.out)⟩⟩
               ·rw [if_neg c78] at H
                have c78b0 : (x199000_24 == 5) = false := beq_eq_false_iff_ne.mpr c78
                have c78b1 : (x199000_24 != 5) = true := bne_iff_ne.mpr c78
                as_aux_lemma =>
                 have H' := aA H
                 clear H
                 have hnb82 := NB198_189.out
                 have hnc82 := NB189_198.out
                 have hnb83 := NB198_193.out
                 have hnc83 := NB193_198.out
                 have hcz84_0 : wc.cell? ⟨gb198, 0, none⟩ = some (.int .i64 x199000_24) := (blk_cell BK198.out 0).trans rfl
                 have hcz84_1 : wc.cell? ⟨gb198, 1, none⟩ = some (.int .u64 x199001_24) := (blk_cell BK198.out 1).trans rfl
                 have hcz84_2 : wc.cell? ⟨gb198, 2, none⟩ = some (.int .u64 x199002_24) := (blk_cell BK198.out 2).trans rfl
                 have hfz84_0 := blk_frozen BK198.out 0
                 have hfz84_1 := blk_frozen BK198.out 1
                 have hfz84_2 := blk_frozen BK198.out 2
                 go_wp2
                 repeat (go_quiet (fail); try go_wp2)
                 (first | go_meet | (refine Met.intro ?_; go_step; (try rw [c66b0]); (repeat apply Exists.intro); refine ⟨?rel, rfl⟩))
                 case rel => exact ⟨_, (true), (by first | rfl | (simp; done) | (simp [*]; done)), H', ⟨by have := HJ3.out; have := HK2.out; have := HK3.out; have := HJ24.out; first | omega | exact Nat.le_refl _⟩, ⟨by (with_reducible repeat (first | apply Kd.V_alloc | apply Kd.V_drewN | apply Kd.V_drew)); exact HO_10.out⟩, ⟨by (with_reducible repeat (first | apply Kd.Q_alloc | apply Kd.Q_drewN | apply Kd.Q_drew)); exact HO_12.out⟩, ⟨by (with_reducible repeat (first | refine blk_drewN ?_ _ | refine blk_drew ?_ | refine blk_alloc ?_ _)); exact BK189.out⟩, ⟨by (with_reducible repeat (first | refine blk_drewN ?_ _ | refine blk_drew ?_ | refine blk_alloc ?_ _)); exact BK193.out⟩, ⟨by (with_reducible repeat (first | refine blk_drewN ?_ _ | refine blk_drew ?_ | refine blk_alloc ?_ _)); exact BK198.out⟩, ⟨by repeat (first | (with_reducible first | exact HB.out | apply below_alloc | apply pw_below_drewN | apply below_drew1 | refine below_set ?_ GE189.out | refine below_set ?_ GE193.out | refine below_set ?_ GE198.out) | exact HB.out)⟩⟩
             case rest =>
              clear HC64
              try clear c1
              try clear p1
              try clear q1
              try clear hx1
              try clear c2
              try clear p2
              try clear c3
              try clear c4
              try clear c5
              try clear c5b0
              try clear c5b1
              try clear c6
              try clear p6
              try clear c7
              try clear c8
              try clear c12
              try clear c13
              try clear c13b0
              try clear c19
              try clear p19
              try clear q19
              try clear hx19
              try clear c23
              try clear c23b0
              try clear c24
              try clear c24b0
              try clear c27
              try clear c28
              try clear c30
              try clear c30b0
              try clear c32
              try clear c35
              try clear c36
              try clear c38
              try clear c42
              try clear c43
              try clear c44
              try clear c53
              try clear c54
              try clear c56
              try clear c60
              try clear c61
              try clear c62
              try clear p64
              try clear c66
              try clear c66b0
              try clear c66b1
              try clear c67
              try clear c67b0
              try clear c67b1
              try clear c68
              try clear c68b0
              try clear c68b1
              try clear c69
              try clear c70
              try clear c72
              try clear c73
              try clear c75
              try clear c76
              try clear c78
              try clear c78b0
              try clear c78b1
              try clear c79
              try clear c80
              try clear c82
              try clear c83
              try clear hcz12_0
              try clear hcz12_1
              try clear hcz14_0
              try clear hcz14_1
              try clear hcz16_0
              try clear hcz16_1
              try clear hcz20_0
              try clear hcz20_1
              try clear hcz20_2
              try clear hcz29_0
              try clear hcz29_1
              try clear hcz29_2
              try clear hcz37_0
              try clear hcz37_1
              try clear hcz39_0
              try clear hcz39_1
              try clear hcz39_2
              try clear hcz45_0
              try clear hcz45_1
              try clear hcz45_2
              try clear hcz45_3
              try clear hcz47_0
              try clear hcz47_1
              try clear hcz47_2
              try clear hcz47_3
              try clear hcz50_0
              try clear hcz50_1
              try clear hcz50_2
              try clear hcz52_0
              try clear hcz52_1
              try clear hcz52_2
              try clear hcz55_0
              try clear hcz55_1
              try clear hcz57_0
              try clear hcz57_1
              try clear hcz57_2
              try clear hcz63_0
              try clear hcz63_1
              try clear hcz63_2
              try clear hcz63_3
              try clear hcz71_0
              try clear hcz71_1
              try clear hcz71_2
              try clear hcz74_0
              try clear hcz74_1
              try clear hcz74_2
              try clear hcz77_0
              try clear hcz77_1
              try clear hcz77_2
              try clear hcz81_0
              try clear hcz81_1
              try clear hcz81_2
              try clear hcz84_0
              try clear hcz84_1
              try clear hcz84_2
              try clear hfz12_0
              try clear hfz12_1
              try clear hfz14_0
              try clear hfz14_1
              try clear hfz16_0
              try clear hfz16_1
              try clear hfz20_0
              try clear hfz20_1
              try clear hfz20_2
              try clear hfz29_0
              try clear hfz29_1
              try clear hfz29_2
              try clear hfz37_0
              try clear hfz37_1
              try clear hfz39_0
              try clear hfz39_1
              try clear hfz39_2
              try clear hfz45_0
              try clear hfz45_1
              try clear hfz45_2
              try clear hfz45_3
              try clear hfz47_0
              try clear hfz47_1
              try clear hfz47_2
              try clear hfz47_3
              try clear hfz50_0
              try clear hfz50_1
              try clear hfz50_2
              try clear hfz52_0
              try clear hfz52_1
              try clear hfz52_2
              try clear hfz55_0
              try clear hfz55_1
              try clear hfz57_0
              try clear hfz57_1
              try clear hfz57_2
              try clear hfz63_0
              try clear hfz63_1
              try clear hfz63_2
              try clear hfz63_3
              try clear hfz71_0
              try clear hfz71_1
              try clear hfz71_2
              try clear hfz74_0
              try clear hfz74_1
              try clear hfz74_2
              try clear hfz77_0
              try clear hfz77_1
              try clear hfz77_2
              try clear hfz81_0
              try clear hfz81_1
              try clear hfz81_2
              try clear hfz84_0
              try clear hfz84_1
              try clear hfz84_2
              try clear hx197_0
              try clear p1
              try clear p19
              try clear p197
              try clear p2
              try clear p6
              try clear q1
              try clear q19
              try clear q197
              obtain ⟨kq, x113_63, rfl, HA, HJ63, HO_10, HO_12, BK189, BK193, BK198, HB⟩ := hcut
              cases kq with
              | zero => exact absurd HA.out (by simp [treillagelaw16_QueueOne.j5])
              | succ kj63 =>
               have H := HA.out
               clear HA
               simp only [treillagelaw16_QueueOne.j5] at H
               by_cases c85 : x113_63 = true
               ·subst c85
                have H1 : (some false) = some r := by rw [if_pos rfl] at H; exact H
                clear H
                have H := H1
                clear H1
                as_aux_lemma =>
                 exact absurd ((Option.some.inj H).trans hr_) (by decide)
               ·replace c85 := Bool.eq_false_iff.mpr c85
                subst c85
                have H1 : (if ((x12_3.length : Int) == x8_2) = true then (treillagelaw16_QueueOne.j6 kj63 l1 l2 x8_2 x10_24 x12_3 x13_3 1 (wrap64 (1 + (Int.tmod (wrap64 (a0)) 4))) x194000_3 x194001_3 x194002_3) else (if 0 ≤ x13_3 then (if x13_3 < (l1.length : Int) then (if x12_3.length < 17592186044416 then (treillagelaw16_QueueOne.j6 kj63 l1 l2 x8_2 x10_24 (x12_3 ++ [rd l1 x13_3]) x13_3 1 (wrap64 (1 + (Int.tmod (wrap64 (a0)) 4))) x194000_3 x194001_3 x194002_3) else (none)) else (none)) else (none))) = some r := by rw [if_neg (show ¬ (false = true) by decide)] at H; exact H
                clear H
                have H := H1
                clear H1
                have HC86 := aA H
                clear H
                go_upto_if 115 with (fail)
                repeat (go_quiet (fail); go_upto_if 115 with (fail))
                go_cut [12] (fun v12 wc => ∃ (kq : Nat) (x12_85 : List Int), Aside0 (treillagelaw16_QueueOne.j6 kq l1 l2 x8_2 x10_24 x12_85 x13_3 1 (wrap64 (1 + (Int.tmod (wrap64 (a0)) 4))) x194000_3 x194001_3 x194002_3 = some r) ∧ Aside0 (kq ≤ kj63) ∧ Aside0 (Kd.V (Kd.int .u64) 23 wc w.heap.size (fun k_ => some k_ ≠ (v12 : Value).ownBlock ∧ k_ ≠ gb189 ∧ k_ ≠ gb193 ∧ k_ ≠ gb198) u10 x10_24) ∧ Aside0 (Kd.Q (Kd.int .u64) 23 wc w.heap.size (fun _ => True) v12 x12_85) ∧ Aside0 (wc.heap[gb189]? = some (.cells #[.int .i64 1, .int .i64 (wrap64 (1 + (Int.tmod (wrap64 (a0)) 4)))] 38 (0, 0))) ∧ Aside0 (wc.heap[gb193]? = some (.cells #[.int .i64 x194000_3, .int .u64 x194001_3, .int .u64 x194002_3] 56 (0, 0))) ∧ Aside0 (wc.heap[gb198]? = some (.cells #[.int .i64 x199000_24, .int .u64 x199001_24, .int .u64 x199002_24] 54 (0, 0))) ∧ Aside0 (Below w.heap.size w wc))
                case first =>
                 have H := HC86.out
                 clear HC86
                 by_cases c87 : ((x12_3.length : Int) == x8_2) = true
                 ·rw [if_pos c87] at H
                  have c87b0 : ((x12_3.length : Int) == x8_2) = true := c87
                  (try (have c87b1 : decide ((x12_3.length : Int) = x8_2) = true := by simpa using c87))
                  (try (have c87b2 : ((x12_3.length : Int) == x8_2) = true := by simpa using c87))
                  clear c87
                  (first | rw [c87b0] | (simp only [i64_w, i32_w]; rw [c87b0]) | skip)
                  as_aux_lemma =>
                   have H' := aA H
                   clear H
                   go_wp2
                   repeat (go_quiet (fail); try go_wp2)
                   (first | go_meet | (refine Met.intro ?_; go_step; (try rw [c87b0]); (repeat apply Exists.intro); refine ⟨?rel, rfl⟩))
                   case rel => exact ⟨_, (x12_3), H', ⟨by have := HJ3.out; have := HK2.out; have := HK3.out; have := HJ24.out; have := HJ63.out; first | omega | exact Nat.le_refl _⟩, ⟨by (with_reducible repeat (first | apply Kd.V_alloc | apply Kd.V_drewN | apply Kd.V_drew)); exact HO_10.out⟩, ⟨by (with_reducible repeat (first | apply Kd.Q_alloc | apply Kd.Q_drewN | apply Kd.Q_drew)); exact HO_12.out⟩, ⟨by (with_reducible repeat (first | refine blk_drewN ?_ _ | refine blk_drew ?_ | refine blk_alloc ?_ _)); exact BK189.out⟩, ⟨by (with_reducible repeat (first | refine blk_drewN ?_ _ | refine blk_drew ?_ | refine blk_alloc ?_ _)); exact BK193.out⟩, ⟨by (with_reducible repeat (first | refine blk_drewN ?_ _ | refine blk_drew ?_ | refine blk_alloc ?_ _)); exact BK198.out⟩, ⟨by repeat (first | (with_reducible first | exact HB.out | apply below_alloc | apply pw_below_drewN | apply below_drew1 | refine below_set ?_ GE189.out | refine below_set ?_ GE193.out | refine below_set ?_ GE198.out) | exact HB.out)⟩⟩
                 ·rw [if_neg c87] at H
                  have c87b0 : ((x12_3.length : Int) == x8_2) = false := by simpa using c87
                  (try (have c87b1 : decide ((x12_3.length : Int) = x8_2) = false := by simpa using c87))
                  (try (have c87b2 : ((x12_3.length : Int) == x8_2) = false := by simpa using c87))
                  (try (have c87b3 : ¬ ((x12_3.length : Int) = x8_2) := by simpa using c87))
                  clear c87
                  (first | rw [c87b0] | (simp only [i64_w, i32_w]; rw [c87b0]) | skip)
                  by_cases c88 : 0 ≤ x13_3
                  ·rw [if_pos c88] at H
                   have c88b0 : decide (0 ≤ x13_3) = true := decide_eq_true c88
                   clear c88
                   by_cases c89 : x13_3 < (l1.length : Int)
                   ·rw [if_pos c89] at H
                    have c89b0 : decide (x13_3 < (l1.length : Int)) = true := decide_eq_true c89
                    clear c89
                    by_cases c90 : x12_3.length < 17592186044416
                    ·rw [if_pos c90] at H
                     have LMc90 := aA c90
                     clear c90
                     obtain ⟨y214, hy214⟩ : ∃ y_ : List Int, y_ = (x12_3 ++ [rd l1 x13_3]) := ⟨_, rfl⟩
                     replace H : (treillagelaw16_QueueOne.j6 kj63 l1 l2 x8_2 x10_24 y214 x13_3 1 (wrap64 (1 + (Int.tmod (wrap64 (a0)) 4))) x194000_3 x194001_3 x194002_3) = some r := by first | (rw [hy214]; with_reducible exact H) | (have H2_ := (Option.bind_some _ _).symm.trans H; rw [hy214]; with_reducible exact H2_) | (have H2_ := (Option.bind_some _ _).symm.trans H; with_reducible exact H2_) | with_reducible exact H | (rw [hy214]; exact H) | exact H
                     have Ny214 := aA hy214
                     clear hy214
                     as_aux_lemma =>
                      have H' := aA H
                      clear H
                      have p213 : 0 ≤ (x13_3 : Int) := of_decide_eq_true (by first | (with_reducible assumption) | assumption)
                      have q213 : x13_3 < (l1.length : Int) := of_decide_eq_true (by first | (with_reducible assumption) | assumption)
                      obtain ⟨ad213, e213, hx213_0⟩ := Kd.at_int HR1.out x13_3 p213 q213
                      obtain rfl : ad197 = ad213 := (by injection e213)
                      replace hx213_0 := (HB.out.cell (World.block_lt_of_cell? w _ hx213_0)).trans hx213_0
                      replace p213 := eq_true p213
                      replace q213 := eq_true q213
                      go_wp2_with (first | ((with_reducible refine gate_builtin (b := .append) (xs := #[.tmp 116, .tmp 121]) rfl ?_); (try (refine gate_guard (by rfl) ?_; dsimp only)); at_builtin; refine Kd.Q_append (Kd.int .u64) (w0 := w) w.heap.size rfl (.tmp 116) (.tmp 121) 22 23 (.int .u64 0) 8 rfl Try.underlying22 info23 rfl (by decide) (by omega) (.slice Ao65 x12_3.length co65) x12_3 (rd l1 x13_3) [.int .u64 (rd l1 x13_3)] (fun _ => True) (fun _ => False) rfl rfl ?aP (fun _ hk => hk.elim) ?aF ?aO ?aB ?aS ?aL ?_; (case aP => exact rfl); (case aB => exact (bls HB.out)); (case aF => exact (fun _ _ => trivial)); (case aO => exact (qlu HO_12.out)); (case aS => exact (below_size (bls HB.out))); (case aL => have := LMc90.out; omega); intro v215 w91 ho hb hg hat; rw [← Ny214.out] at ho; have n0_ := aA (Kd.V_afterv (ok := (fun k_ => k_ ≠ gb189 ∧ k_ ≠ gb193 ∧ k_ ≠ gb198)) (vlu (Kd.V_mono HO_10.out (fun _ hk => ⟨⟨hk.2.1, ⟨hk.2.2.1, hk.2.2.2⟩⟩, hk.1⟩))) hg hat); have n1_ := aA (blk_grown (g := gb189) (o := .cells #[.int .i64 1, .int .i64 (wrap64 (1 + (Int.tmod (wrap64 (a0)) 4)))] 38 (0, 0)) (bku BK189.out) hg (Kd.Q_ne HO_12.out BK189.out (by decide))); have n2_ := aA (blk_grown (g := gb193) (o := .cells #[.int .i64 x194000_3, .int .u64 x194001_3, .int .u64 x194002_3] 56 (0, 0)) (bku BK193.out) hg (Kd.Q_ne HO_12.out BK193.out (by decide))); have n3_ := aA (blk_grown (g := gb198) (o := .cells #[.int .i64 x199000_24, .int .u64 x199001_24, .int .u64 x199002_24] 54 (0, 0)) (bku BK198.out) hg (Kd.Q_ne HO_12.out BK198.out (by decide))); have n4_ := aA (hb); have n5_ := aA (ho); clear HO_10 BK189 BK193 BK198 HB HO_12; have HO_10 := n0_; have BK189 := n1_; have BK193 := n2_; have BK198 := n3_; have HB := n4_; have HO216 := n5_; clear n0_ n1_ n2_ n3_ n4_ n5_ ho hb hg hat))
                      repeat (go_quiet (first | ((with_reducible refine gate_builtin (b := .append) (xs := #[.tmp 116, .tmp 121]) rfl ?_); (try (refine gate_guard (by rfl) ?_; dsimp only)); at_builtin; refine Kd.Q_append (Kd.int .u64) (w0 := w) w.heap.size rfl (.tmp 116) (.tmp 121) 22 23 (.int .u64 0) 8 rfl Try.underlying22 info23 rfl (by decide) (by omega) (.slice Ao65 x12_3.length co65) x12_3 (rd l1 x13_3) [.int .u64 (rd l1 x13_3)] (fun _ => True) (fun _ => False) rfl rfl ?aP (fun _ hk => hk.elim) ?aF ?aO ?aB ?aS ?aL ?_; (case aP => exact rfl); (case aB => exact (bls HB.out)); (case aF => exact (fun _ _ => trivial)); (case aO => exact (qlu HO_12.out)); (case aS => exact (below_size (bls HB.out))); (case aL => have := LMc90.out; omega); intro v215 w91 ho hb hg hat; rw [← Ny214.out] at ho; have n0_ := aA (Kd.V_afterv (ok := (fun k_ => k_ ≠ gb189 ∧ k_ ≠ gb193 ∧ k_ ≠ gb198)) (vlu (Kd.V_mono HO_10.out (fun _ hk => ⟨⟨hk.2.1, ⟨hk.2.2.1, hk.2.2.2⟩⟩, hk.1⟩))) hg hat); have n1_ := aA (blk_grown (g := gb189) (o := .cells #[.int .i64 1, .int .i64 (wrap64 (1 + (Int.tmod (wrap64 (a0)) 4)))] 38 (0, 0)) (bku BK189.out) hg (Kd.Q_ne HO_12.out BK189.out (by decide))); have n2_ := aA (blk_grown (g := gb193) (o := .cells #[.int .i64 x194000_3, .int .u64 x194001_3, .int .u64 x194002_3] 56 (0, 0)) (bku BK193.out) hg (Kd.Q_ne HO_12.out BK193.out (by decide))); have n3_ := aA (blk_grown (g := gb198) (o := .cells #[.int .i64 x199000_24, .int .u64 x199001_24, .int .u64 x199002_24] 54 (0, 0)) (bku BK198.out) hg (Kd.Q_ne HO_12.out BK198.out (by decide))); have n4_ := aA (hb); have n5_ := aA (ho); clear HO_10 BK189 BK193 BK198 HB HO_12; have HO_10 := n0_; have BK189 := n1_; have BK193 := n2_; have BK198 := n3_; have HB := n4_; have HO216 := n5_; clear n0_ n1_ n2_ n3_ n4_ n5_ ho hb hg hat)); try go_wp2_with (first | ((with_reducible refine gate_builtin (b := .append) (xs := #[.tmp 116, .tmp 121]) rfl ?_); (try (refine gate_guard (by rfl) ?_; dsimp only)); at_builtin; refine Kd.Q_append (Kd.int .u64) (w0 := w) w.heap.size rfl (.tmp 116) (.tmp 121) 22 23 (.int .u64 0) 8 rfl Try.underlying22 info23 rfl (by decide) (by omega) (.slice Ao65 x12_3.length co65) x12_3 (rd l1 x13_3) [.int .u64 (rd l1 x13_3)] (fun _ => True) (fun _ => False) rfl rfl ?aP (fun _ hk => hk.elim) ?aF ?aO ?aB ?aS ?aL ?_; (case aP => exact rfl); (case aB => exact (bls HB.out)); (case aF => exact (fun _ _ => trivial)); (case aO => exact (qlu HO_12.out)); (case aS => exact (below_size (bls HB.out))); (case aL => have := LMc90.out; omega); intro v215 w91 ho hb hg hat; rw [← Ny214.out] at ho; have n0_ := aA (Kd.V_afterv (ok := (fun k_ => k_ ≠ gb189 ∧ k_ ≠ gb193 ∧ k_ ≠ gb198)) (vlu (Kd.V_mono HO_10.out (fun _ hk => ⟨⟨hk.2.1, ⟨hk.2.2.1, hk.2.2.2⟩⟩, hk.1⟩))) hg hat); have n1_ := aA (blk_grown (g := gb189) (o := .cells #[.int .i64 1, .int .i64 (wrap64 (1 + (Int.tmod (wrap64 (a0)) 4)))] 38 (0, 0)) (bku BK189.out) hg (Kd.Q_ne HO_12.out BK189.out (by decide))); have n2_ := aA (blk_grown (g := gb193) (o := .cells #[.int .i64 x194000_3, .int .u64 x194001_3, .int .u64 x194002_3] 56 (0, 0)) (bku BK193.out) hg (Kd.Q_ne HO_12.out BK193.out (by decide))); have n3_ := aA (blk_grown (g := gb198) (o := .cells #[.int .i64 x199000_24, .int .u64 x199001_24, .int .u64 x199002_24] 54 (0, 0)) (bku BK198.out) hg (Kd.Q_ne HO_12.out BK198.out (by decide))); have n4_ := aA (hb); have n5_ := aA (ho); clear HO_10 BK189 BK193 BK198 HB HO_12; have HO_10 := n0_; have BK189 := n1_; have BK193 := n2_; have BK198 := n3_; have HB := n4_; have HO216 := n5_; clear n0_ n1_ n2_ n3_ n4_ n5_ ho hb hg hat)))
                      (first | go_meet | (refine Met.intro ?_; go_step; (try rw [c87b0]); (repeat apply Exists.intro); refine ⟨?rel, rfl⟩))
                      case rel => exact ⟨_, (y214), H', ⟨by have := HJ3.out; have := HK2.out; have := HK3.out; have := HJ24.out; have := HJ63.out; first | omega | exact Nat.le_refl _⟩, ⟨by (with_reducible repeat (first | apply Kd.V_alloc | apply Kd.V_drewN | apply Kd.V_drew)); exact Kd.V_mono HO_10.out (fun _ hk => ⟨hk.2, ⟨hk.1.1, ⟨hk.1.2.1, hk.1.2.2⟩⟩⟩)⟩, ⟨by (with_reducible repeat (first | apply Kd.Q_alloc | apply Kd.Q_drewN | apply Kd.Q_drew)); exact HO216.out⟩, ⟨by (with_reducible repeat (first | refine blk_drewN ?_ _ | refine blk_drew ?_ | refine blk_alloc ?_ _)); exact BK189.out⟩, ⟨by (with_reducible repeat (first | refine blk_drewN ?_ _ | refine blk_drew ?_ | refine blk_alloc ?_ _)); exact BK193.out⟩, ⟨by (with_reducible repeat (first | refine blk_drewN ?_ _ | refine blk_drew ?_ | refine blk_alloc ?_ _)); exact BK198.out⟩, ⟨by repeat (first | (with_reducible first | exact HB.out | apply below_alloc | apply pw_below_drewN | apply below_drew1 | refine below_set ?_ GE189.out | refine below_set ?_ GE193.out | refine below_set ?_ GE198.out) | exact HB.out)⟩⟩
                    ·rw [if_neg c90] at H
                     exact absurd H (by simp)
                   ·rw [if_neg c89] at H
                    exact absurd H (by simp)
                  ·rw [if_neg c88] at H
                   exact absurd H (by simp)
                case rest =>
                 clear HC86
                 try clear c1
                 try clear p1
                 try clear q1
                 try clear hx1
                 try clear c2
                 try clear p2
                 try clear q2
                 try clear hx2
                 try clear c3
                 try clear c4
                 try clear c5
                 try clear c5b0
                 try clear c5b1
                 try clear c6
                 try clear p6
                 try clear c7
                 try clear c8
                 try clear c9
                 try clear c12
                 try clear c13
                 try clear c13b0
                 try clear c19
                 try clear p19
                 try clear q19
                 try clear hx19
                 try clear p21
                 try clear q21
                 try clear hx21
                 try clear c23
                 try clear c23b0
                 try clear c24
                 try clear c24b0
                 try clear c27
                 try clear c28
                 try clear c30
                 try clear c30b0
                 try clear c32
                 try clear c35
                 try clear c36
                 try clear c38
                 try clear c42
                 try clear c43
                 try clear c44
                 try clear c53
                 try clear c54
                 try clear c56
                 try clear c60
                 try clear c61
                 try clear c62
                 try clear p64
                 try clear c66
                 try clear c66b0
                 try clear c66b1
                 try clear c67
                 try clear c67b0
                 try clear c67b1
                 try clear c68
                 try clear c68b0
                 try clear c68b1
                 try clear c69
                 try clear c70
                 try clear c72
                 try clear c73
                 try clear c75
                 try clear c76
                 try clear c78
                 try clear c78b0
                 try clear c78b1
                 try clear c79
                 try clear c80
                 try clear c82
                 try clear c83
                 try clear c85
                 try clear c87
                 try clear c87b0
                 try clear c87b1
                 try clear c87b2
                 try clear c88
                 try clear c88b0
                 try clear c89
                 try clear c89b0
                 try clear c90
                 try clear hcz12_0
                 try clear hcz12_1
                 try clear hcz14_0
                 try clear hcz14_1
                 try clear hcz16_0
                 try clear hcz16_1
                 try clear hcz20_0
                 try clear hcz20_1
                 try clear hcz20_2
                 try clear hcz29_0
                 try clear hcz29_1
                 try clear hcz29_2
                 try clear hcz37_0
                 try clear hcz37_1
                 try clear hcz39_0
                 try clear hcz39_1
                 try clear hcz39_2
                 try clear hcz45_0
                 try clear hcz45_1
                 try clear hcz45_2
                 try clear hcz45_3
                 try clear hcz47_0
                 try clear hcz47_1
                 try clear hcz47_2
                 try clear hcz47_3
                 try clear hcz50_0
                 try clear hcz50_1
                 try clear hcz50_2
                 try clear hcz52_0
                 try clear hcz52_1
                 try clear hcz52_2
                 try clear hcz55_0
                 try clear hcz55_1
                 try clear hcz57_0
                 try clear hcz57_1
                 try clear hcz57_2
                 try clear hcz63_0
                 try clear hcz63_1
                 try clear hcz63_2
                 try clear hcz63_3
                 try clear hcz71_0
                 try clear hcz71_1
                 try clear hcz71_2
                 try clear hcz74_0
                 try clear hcz74_1
                 try clear hcz74_2
                 try clear hcz77_0
                 try clear hcz77_1
                 try clear hcz77_2
                 try clear hcz81_0
                 try clear hcz81_1
                 try clear hcz81_2
                 try clear hcz84_0
                 try clear hcz84_1
                 try clear hcz84_2
                 try clear hfz12_0
                 try clear hfz12_1
                 try clear hfz14_0
                 try clear hfz14_1
                 try clear hfz16_0
                 try clear hfz16_1
                 try clear hfz20_0
                 try clear hfz20_1
                 try clear hfz20_2
                 try clear hfz29_0
                 try clear hfz29_1
                 try clear hfz29_2
                 try clear hfz37_0
                 try clear hfz37_1
                 try clear hfz39_0
                 try clear hfz39_1
                 try clear hfz39_2
                 try clear hfz45_0
                 try clear hfz45_1
                 try clear hfz45_2
                 try clear hfz45_3
                 try clear hfz47_0
                 try clear hfz47_1
                 try clear hfz47_2
                 try clear hfz47_3
                 try clear hfz50_0
                 try clear hfz50_1
                 try clear hfz50_2
                 try clear hfz52_0
                 try clear hfz52_1
                 try clear hfz52_2
                 try clear hfz55_0
                 try clear hfz55_1
                 try clear hfz57_0
                 try clear hfz57_1
                 try clear hfz57_2
                 try clear hfz63_0
                 try clear hfz63_1
                 try clear hfz63_2
                 try clear hfz63_3
                 try clear hfz71_0
                 try clear hfz71_1
                 try clear hfz71_2
                 try clear hfz74_0
                 try clear hfz74_1
                 try clear hfz74_2
                 try clear hfz77_0
                 try clear hfz77_1
                 try clear hfz77_2
                 try clear hfz81_0
                 try clear hfz81_1
                 try clear hfz81_2
                 try clear hfz84_0
                 try clear hfz84_1
                 try clear hfz84_2
                 try clear hx197_0
                 try clear hx213_0
                 try clear p1
                 try clear p19
                 try clear p197
                 try clear p2
                 try clear p213
                 try clear p6
                 try clear p64
                 try clear q1
                 try clear q19
                 try clear q197
                 try clear q213
                 obtain ⟨kq, x12_85, HA, HJ85, HO_10, HO_12, BK189, BK193, BK198, HB⟩ := hcut
                 cases kq with
                 | zero => exact absurd HA.out (by simp [treillagelaw16_QueueOne.j6])
                 | succ kj85 =>
                  have H := HA.out
                  clear HA
                  simp only [treillagelaw16_QueueOne.j6] at H
                  have HC92 := aA H
                  clear H
                  go_upto_region 29 with (fail)
                  repeat (go_quiet (fail); go_upto_region 29 with (fail))
                  go_cut [137] (fun v137 wc => ∃ (kq : Nat) (x137_91 : Bool), v137 = .bool x137_91 ∧ Aside0 (treillagelaw16_QueueOne.j7 kq l1 l2 x8_2 x10_24 x12_85 x13_3 x137_91 1 (wrap64 (1 + (Int.tmod (wrap64 (a0)) 4))) x194000_3 x194001_3 x194002_3 = some r) ∧ Aside0 (kq ≤ kj85) ∧ Aside0 (Kd.V (Kd.int .u64) 23 wc w.heap.size (fun k_ => some k_ ≠ (u12 : Value).ownBlock ∧ k_ ≠ gb189 ∧ k_ ≠ gb193 ∧ k_ ≠ gb198) u10 x10_24) ∧ Aside0 (Kd.Q (Kd.int .u64) 23 wc w.heap.size (fun _ => True) u12 x12_85) ∧ Aside0 (wc.heap[gb189]? = some (.cells #[.int .i64 1, .int .i64 (wrap64 (1 + (Int.tmod (wrap64 (a0)) 4)))] 38 (0, 0))) ∧ Aside0 (wc.heap[gb193]? = some (.cells #[.int .i64 x194000_3, .int .u64 x194001_3, .int .u64 x194002_3] 56 (0, 0))) ∧ Aside0 (wc.heap[gb198]? = some (.cells #[.int .i64 x199000_24, .int .u64 x199001_24, .int .u64 x199002_24] 54 (0, 0))) ∧ Aside0 (Below w.heap.size w wc))
                  case first =>
                   have H := HC92.out
                   clear HC92
                   by_cases c93 : x13_3 < (l2.length : Int)
                   ·rw [if_pos c93] at H
                    have c93b0 : decide (x13_3 < (l2.length : Int)) = true := decide_eq_true c93
                    clear c93
                    (first | rw [c93b0] | (simp only [i64_w, i32_w]; rw [c93b0]) | skip)
                    by_cases c94 : 0 ≤ x13_3
                    ·rw [if_pos c94] at H
                     have c94b0 : decide (0 ≤ x13_3) = true := decide_eq_true c94
                     clear c94
                     obtain ⟨bq95, hbq95⟩ : ∃ b_ : Bool, b_ = (rdOf false l2 x13_3) := ⟨_, rfl⟩
                     replace H : (if bq95 = true then (treillagelaw16_QueueOne.j7 kj85 l1 l2 x8_2 x10_24 x12_85 x13_3 (decide ((x12_85.length : Int) > 0)) 1 (wrap64 (1 + (Int.tmod (wrap64 (a0)) 4))) x194000_3 x194001_3 x194002_3) else (treillagelaw16_QueueOne.j7 kj85 l1 l2 x8_2 x10_24 x12_85 x13_3 false 1 (wrap64 (1 + (Int.tmod (wrap64 (a0)) 4))) x194000_3 x194001_3 x194002_3)) = some r := by rw [← hbq95] at H; exact H
                     have Nbq95 := aA hbq95
                     clear hbq95
                     by_cases c96 : bq95 = true
                     ·subst c96
                      have H1 : (treillagelaw16_QueueOne.j7 kj85 l1 l2 x8_2 x10_24 x12_85 x13_3 (decide ((x12_85.length : Int) > 0)) 1 (wrap64 (1 + (Int.tmod (wrap64 (a0)) 4))) x194000_3 x194001_3 x194002_3) = some r := by rw [if_pos rfl] at H; exact H
                      clear H
                      have H := H1
                      clear H1
                      as_aux_lemma =>
                       have H' := aA H
                       clear H
                       have p217 : 0 ≤ (x13_3 : Int) := of_decide_eq_true (by first | (with_reducible assumption) | assumption)
                       have q217 : x13_3 < (l2.length : Int) := of_decide_eq_true (by first | (with_reducible assumption) | assumption)
                       obtain ⟨ad217, e217, hx217_0⟩ := Kd.at_bool HR2.out x13_3 p217 q217
                       (try rw [← Nbq95.out] at hx217_0)
                       cases e217
                       replace hx217_0 := (HB.out.cell (World.block_lt_of_cell? w _ hx217_0)).trans hx217_0
                       replace p217 := eq_true p217
                       replace q217 := eq_true q217
                       obtain ⟨Ao97, co97, eo97, _⟩ := Kd.Q_slice HO_12.out
                       subst eo97
                       go_wp2
                       repeat (go_quiet (fail); try go_wp2)
                       (first | go_meet | (refine Met.intro ?_; go_step; (try rw [c93b0]); (repeat apply Exists.intro); refine ⟨?rel, rfl⟩))
                       case rel => exact ⟨_, (decide ((x12_85.length : Int) > 0)), (by first | rfl | (simp; done) | (simp [*]; done)), H', ⟨by have := HJ3.out; have := HK2.out; have := HK3.out; have := HJ24.out; have := HJ63.out; have := HJ85.out; first | omega | exact Nat.le_refl _⟩, ⟨by (with_reducible repeat (first | apply Kd.V_alloc | apply Kd.V_drewN | apply Kd.V_drew)); exact HO_10.out⟩, ⟨by (with_reducible repeat (first | apply Kd.Q_alloc | apply Kd.Q_drewN | apply Kd.Q_drew)); exact HO_12.out⟩, ⟨by (with_reducible repeat (first | refine blk_drewN ?_ _ | refine blk_drew ?_ | refine blk_alloc ?_ _)); exact BK189.out⟩, ⟨by (with_reducible repeat (first | refine blk_drewN ?_ _ | refine blk_drew ?_ | refine blk_alloc ?_ _)); exact BK193.out⟩, ⟨by (with_reducible repeat (first | refine blk_drewN ?_ _ | refine blk_drew ?_ | refine blk_alloc ?_ _)); exact BK198.out⟩, ⟨by repeat (first | (with_reducible first | exact HB.out | apply below_alloc | apply pw_below_drewN | apply below_drew1 | refine below_set ?_ GE189.out | refine below_set ?_ GE193.out | refine below_set ?_ GE198.out) | exact HB.out)⟩⟩
                     ·replace c96 := Bool.eq_false_iff.mpr c96
                      subst c96
                      have H1 : (treillagelaw16_QueueOne.j7 kj85 l1 l2 x8_2 x10_24 x12_85 x13_3 false 1 (wrap64 (1 + (Int.tmod (wrap64 (a0)) 4))) x194000_3 x194001_3 x194002_3) = some r := by rw [if_neg (show ¬ (false = true) by decide)] at H; exact H
                      clear H
                      have H := H1
                      clear H1
                      as_aux_lemma =>
                       have H' := aA H
                       clear H
                       have p217 : 0 ≤ (x13_3 : Int) := of_decide_eq_true (by first | (with_reducible assumption) | assumption)
                       have q217 : x13_3 < (l2.length : Int) := of_decide_eq_true (by first | (with_reducible assumption) | assumption)
                       obtain ⟨ad217, e217, hx217_0⟩ := Kd.at_bool HR2.out x13_3 p217 q217
                       (try rw [← Nbq95.out] at hx217_0)
                       cases e217
                       replace hx217_0 := (HB.out.cell (World.block_lt_of_cell? w _ hx217_0)).trans hx217_0
                       replace p217 := eq_true p217
                       replace q217 := eq_true q217
                       go_wp2
                       repeat (go_quiet (fail); try go_wp2)
                       (first | go_meet | (refine Met.intro ?_; go_step; (try rw [c93b0]); (repeat apply Exists.intro); refine ⟨?rel, rfl⟩))
                       case rel => exact ⟨_, (false), (by first | rfl | (simp; done) | (simp [*]; done)), H', ⟨by have := HJ3.out; have := HK2.out; have := HK3.out; have := HJ24.out; have := HJ63.out; have := HJ85.out; first | omega | exact Nat.le_refl _⟩, ⟨by (with_reducible repeat (first | apply Kd.V_alloc | apply Kd.V_drewN | apply Kd.V_drew)); exact HO_10.out⟩, ⟨by (with_reducible repeat (first | apply Kd.Q_alloc | apply Kd.Q_drewN | apply Kd.Q_drew)); exact HO_12.out⟩, ⟨by (with_reducible repeat (first | refine blk_drewN ?_ _ | refine blk_drew ?_ | refine blk_alloc ?_ _)); exact BK189.out⟩, ⟨by (with_reducible repeat (first | refine blk_drewN ?_ _ | refine blk_drew ?_ | refine blk_alloc ?_ _)); exact BK193.out⟩, ⟨by (with_reducible repeat (first | refine blk_drewN ?_ _ | refine blk_drew ?_ | refine blk_alloc ?_ _)); exact BK198.out⟩, ⟨by repeat (first | (with_reducible first | exact HB.out | apply below_alloc | apply pw_below_drewN | apply below_drew1 | refine below_set ?_ GE189.out | refine below_set ?_ GE193.out | refine below_set ?_ GE198.out) | exact HB.out)⟩⟩
                    ·rw [if_neg c94] at H
                     exact absurd H (by simp)
                   ·rw [if_neg c93] at H
                    have c93b0 : decide (x13_3 < (l2.length : Int)) = false := decide_eq_false c93
                    clear c93
                    (first | rw [c93b0] | (simp only [i64_w, i32_w]; rw [c93b0]) | skip)
                    as_aux_lemma =>
                     have H' := aA H
                     clear H
                     go_wp2
                     repeat (go_quiet (fail); try go_wp2)
                     (first | go_meet | (refine Met.intro ?_; go_step; (try rw [c93b0]); (repeat apply Exists.intro); refine ⟨?rel, rfl⟩))
                     case rel => exact ⟨_, (false), (by first | rfl | (simp; done) | (simp [*]; done)), H', ⟨by have := HJ3.out; have := HK2.out; have := HK3.out; have := HJ24.out; have := HJ63.out; have := HJ85.out; first | omega | exact Nat.le_refl _⟩, ⟨by (with_reducible repeat (first | apply Kd.V_alloc | apply Kd.V_drewN | apply Kd.V_drew)); exact HO_10.out⟩, ⟨by (with_reducible repeat (first | apply Kd.Q_alloc | apply Kd.Q_drewN | apply Kd.Q_drew)); exact HO_12.out⟩, ⟨by (with_reducible repeat (first | refine blk_drewN ?_ _ | refine blk_drew ?_ | refine blk_alloc ?_ _)); exact BK189.out⟩, ⟨by (with_reducible repeat (first | refine blk_drewN ?_ _ | refine blk_drew ?_ | refine blk_alloc ?_ _)); exact BK193.out⟩, ⟨by (with_reducible repeat (first | refine blk_drewN ?_ _ | refine blk_drew ?_ | refine blk_alloc ?_ _)); exact BK198.out⟩, ⟨by repeat (first | (with_reducible first | exact HB.out | apply below_alloc | apply pw_below_drewN | apply below_drew1 | refine below_set ?_ GE189.out | refine below_set ?_ GE193.out | refine below_set ?_ GE198.out) | exact HB.out)⟩⟩
                  case rest =>
                   clear HC92
                   try clear c1
                   try clear p1
                   try clear q1
                   try clear hx1
                   try clear c2
                   try clear p2
                   try clear q2
                   try clear hx2
                   try clear c3
                   try clear c4
                   try clear c5
                   try clear c5b0
                   try clear c5b1
                   try clear c6
                   try clear p6
                   try clear c7
                   try clear c8
                   try clear c9
                   try clear q9
                   try clear c12
                   try clear c13
                   try clear c13b0
                   try clear c19
                   try clear p19
                   try clear q19
                   try clear hx19
                   try clear p21
                   try clear q21
                   try clear hx21
                   try clear c23
                   try clear c23b0
                   try clear c24
                   try clear c24b0
                   try clear c27
                   try clear c28
                   try clear c30
                   try clear c30b0
                   try clear c32
                   try clear c35
                   try clear c36
                   try clear c38
                   try clear c42
                   try clear c43
                   try clear c44
                   try clear c53
                   try clear c54
                   try clear c56
                   try clear c60
                   try clear c61
                   try clear c62
                   try clear p64
                   try clear c66
                   try clear c66b0
                   try clear c66b1
                   try clear c67
                   try clear c67b0
                   try clear c67b1
                   try clear c68
                   try clear c68b0
                   try clear c68b1
                   try clear c69
                   try clear c70
                   try clear c72
                   try clear c73
                   try clear c75
                   try clear c76
                   try clear c78
                   try clear c78b0
                   try clear c78b1
                   try clear c79
                   try clear c80
                   try clear c82
                   try clear c83
                   try clear c85
                   try clear c87
                   try clear c87b0
                   try clear c87b1
                   try clear c87b2
                   try clear c88
                   try clear c88b0
                   try clear c89
                   try clear c89b0
                   try clear c90
                   try clear c93
                   try clear c93b0
                   try clear c94
                   try clear c94b0
                   try clear q95
                   try clear c96
                   try clear hcz12_0
                   try clear hcz12_1
                   try clear hcz14_0
                   try clear hcz14_1
                   try clear hcz16_0
                   try clear hcz16_1
                   try clear hcz20_0
                   try clear hcz20_1
                   try clear hcz20_2
                   try clear hcz29_0
                   try clear hcz29_1
                   try clear hcz29_2
                   try clear hcz37_0
                   try clear hcz37_1
                   try clear hcz39_0
                   try clear hcz39_1
                   try clear hcz39_2
                   try clear hcz45_0
                   try clear hcz45_1
                   try clear hcz45_2
                   try clear hcz45_3
                   try clear hcz47_0
                   try clear hcz47_1
                   try clear hcz47_2
                   try clear hcz47_3
                   try clear hcz50_0
                   try clear hcz50_1
                   try clear hcz50_2
                   try clear hcz52_0
                   try clear hcz52_1
                   try clear hcz52_2
                   try clear hcz55_0
                   try clear hcz55_1
                   try clear hcz57_0
                   try clear hcz57_1
                   try clear hcz57_2
                   try clear hcz63_0
                   try clear hcz63_1
                   try clear hcz63_2
                   try clear hcz63_3
                   try clear hcz71_0
                   try clear hcz71_1
                   try clear hcz71_2
                   try clear hcz74_0
                   try clear hcz74_1
                   try clear hcz74_2
                   try clear hcz77_0
                   try clear hcz77_1
                   try clear hcz77_2
                   try clear hcz81_0
                   try clear hcz81_1
                   try clear hcz81_2
                   try clear hcz84_0
                   try clear hcz84_1
                   try clear hcz84_2
                   try clear hfz12_0
                   try clear hfz12_1
                   try clear hfz14_0
                   try clear hfz14_1
                   try clear hfz16_0
                   try clear hfz16_1
                   try clear hfz20_0
                   try clear hfz20_1
                   try clear hfz20_2
                   try clear hfz29_0
                   try clear hfz29_1
                   try clear hfz29_2
                   try clear hfz37_0
                   try clear hfz37_1
                   try clear hfz39_0
                   try clear hfz39_1
                   try clear hfz39_2
                   try clear hfz45_0
                   try clear hfz45_1
                   try clear hfz45_2
                   try clear hfz45_3
                   try clear hfz47_0
                   try clear hfz47_1
                   try clear hfz47_2
                   try clear hfz47_3
                   try clear hfz50_0
                   try clear hfz50_1
                   try clear hfz50_2
                   try clear hfz52_0
                   try clear hfz52_1
                   try clear hfz52_2
                   try clear hfz55_0
                   try clear hfz55_1
                   try clear hfz57_0
                   try clear hfz57_1
                   try clear hfz57_2
                   try clear hfz63_0
                   try clear hfz63_1
                   try clear hfz63_2
                   try clear hfz63_3
                   try clear hfz71_0
                   try clear hfz71_1
                   try clear hfz71_2
                   try clear hfz74_0
                   try clear hfz74_1
                   try clear hfz74_2
                   try clear hfz77_0
                   try clear hfz77_1
                   try clear hfz77_2
                   try clear hfz81_0
                   try clear hfz81_1
                   try clear hfz81_2
                   try clear hfz84_0
                   try clear hfz84_1
                   try clear hfz84_2
                   try clear hx197_0
                   try clear hx213_0
                   try clear hx217_0
                   try clear p1
                   try clear p19
                   try clear p197
                   try clear p2
                   try clear p21
                   try clear p213
                   try clear p217
                   try clear p6
                   try clear p64
                   try clear q1
                   try clear q19
                   try clear q197
                   try clear q2
                   try clear q21
                   try clear q213
                   try clear q217
                   obtain ⟨kq, x137_91, rfl, HA, HJ91, HO_10, HO_12, BK189, BK193, BK198, HB⟩ := hcut
                   cases kq with
                   | zero => exact absurd HA.out (by simp [treillagelaw16_QueueOne.j7])
                   | succ kj91 =>
                    have H := HA.out
                    clear HA
                    simp only [treillagelaw16_QueueOne.j7] at H
                    by_cases c98 : x137_91 = true
                    ·subst c98
                     have H1 : (treillagelaw16_QueueOne.l3 kj91 l1 l2 x8_2 x10_24 x12_85 x13_3 false 0 1 (wrap64 (1 + (Int.tmod (wrap64 (a0)) 4))) x194000_3 x194001_3 x194002_3) = some r := by rw [if_pos rfl] at H; exact H
                     clear H
                     have H := H1
                     clear H1
                     have H' := aA H
                     clear H
                     go_wp2
                     repeat (go_quiet (fail); try go_wp2)
                     go_loopg [10, 22, 23] kj91 (fun kq v10 v22 v23 w' => ∃ (x10_8 : List Int) (x22_8 : Bool) (x23_8 : Int) (x194000_8 : Int) (x194001_8 : Int) (x194002_8 : Int), v22 = .bool x22_8 ∧ v23 = .int .i64 x23_8 ∧ Aside0 (treillagelaw16_QueueOne.l3 kq l1 l2 x8_2 x10_8 x12_85 x13_3 x22_8 x23_8 1 (wrap64 (1 + (Int.tmod (wrap64 (a0)) 4))) x194000_8 x194001_8 x194002_8 = some r) ∧ Aside0 (kq ≤ kj91) ∧ Aside0 (Kd.V (Kd.int .u64) 23 w' w.heap.size (fun k_ => some k_ ≠ (u12 : Value).ownBlock ∧ k_ ≠ gb189 ∧ k_ ≠ gb193 ∧ k_ ≠ gb198) v10 x10_8) ∧ Aside0 (Kd.Q (Kd.int .u64) 23 w' w.heap.size (fun _ => True) u12 x12_85) ∧ Aside0 (w'.heap[gb189]? = some (.cells #[.int .i64 1, .int .i64 (wrap64 (1 + (Int.tmod (wrap64 (a0)) 4)))] 38 (0, 0))) ∧ Aside0 (w'.heap[gb193]? = some (.cells #[.int .i64 x194000_8, .int .u64 x194001_8, .int .u64 x194002_8] 56 (0, 0))) ∧ Aside0 (w'.heap[gb198]? = some (.cells #[.int .i64 x199000_24, .int .u64 x199001_24, .int .u64 x199002_24] 54 (0, 0))) ∧ Aside0 (Below w.heap.size w w'))
                     case atStart => exact ⟨(x10_24), (false), (0), (x194000_3), (x194001_3), (x194002_3), (by first | rfl | (simp; done) | (simp [*]; done)), (by first | rfl | (simp; done) | (simp [*]; done)), H', ⟨Nat.le_refl _⟩, ⟨by (with_reducible repeat (first | apply Kd.V_alloc | apply Kd.V_drewN | apply Kd.V_drew)); exact HO_10.out⟩, ⟨by (with_reducible repeat (first | apply Kd.Q_alloc | apply Kd.Q_drewN | apply Kd.Q_drew)); exact HO_12.out⟩, ⟨by (with_reducible repeat (first | refine blk_drewN ?_ _ | refine blk_drew ?_ | refine blk_alloc ?_ _)); exact BK189.out⟩, ⟨by (with_reducible repeat (first | refine blk_drewN ?_ _ | refine blk_drew ?_ | refine blk_alloc ?_ _)); exact BK193.out⟩, ⟨by (with_reducible repeat (first | refine blk_drewN ?_ _ | refine blk_drew ?_ | refine blk_alloc ?_ _)); exact BK198.out⟩, ⟨by repeat (first | (with_reducible first | exact HB.out | apply below_alloc | apply pw_below_drewN | apply below_drew1 | refine below_set ?_ GE189.out | refine below_set ?_ GE193.out | refine below_set ?_ GE198.out) | exact HB.out)⟩⟩
                     case round =>
                      clear H'
                      try clear c1
                      try clear p1
                      try clear q1
                      try clear hx1
                      try clear c2
                      try clear p2
                      try clear q2
                      try clear hx2
                      try clear c3
                      try clear c4
                      try clear c5
                      try clear c5b0
                      try clear c5b1
                      try clear c6
                      try clear p6
                      try clear c7
                      try clear c8
                      try clear c9
                      try clear q9
                      try clear c12
                      try clear c13
                      try clear c13b0
                      try clear c19
                      try clear p19
                      try clear q19
                      try clear hx19
                      try clear p21
                      try clear q21
                      try clear hx21
                      try clear c23
                      try clear c23b0
                      try clear c24
                      try clear c24b0
                      try clear c27
                      try clear c28
                      try clear c30
                      try clear c30b0
                      try clear c32
                      try clear c35
                      try clear c36
                      try clear c38
                      try clear c42
                      try clear c43
                      try clear c44
                      try clear c53
                      try clear c54
                      try clear c56
                      try clear c60
                      try clear c61
                      try clear c62
                      try clear p64
                      try clear c66
                      try clear c66b0
                      try clear c66b1
                      try clear c67
                      try clear c67b0
                      try clear c67b1
                      try clear c68
                      try clear c68b0
                      try clear c68b1
                      try clear c69
                      try clear c70
                      try clear c72
                      try clear c73
                      try clear c75
                      try clear c76
                      try clear c78
                      try clear c78b0
                      try clear c78b1
                      try clear c79
                      try clear c80
                      try clear c82
                      try clear c83
                      try clear c85
                      try clear c87
                      try clear c87b0
                      try clear c87b1
                      try clear c87b2
                      try clear c88
                      try clear c88b0
                      try clear c89
                      try clear c89b0
                      try clear c90
                      try clear c93
                      try clear c93b0
                      try clear c94
                      try clear c94b0
                      try clear q95
                      try clear c96
                      try clear c98
                      try clear hcz12_0
                      try clear hcz12_1
                      try clear hcz14_0
                      try clear hcz14_1
                      try clear hcz16_0
                      try clear hcz16_1
                      try clear hcz20_0
                      try clear hcz20_1
                      try clear hcz20_2
                      try clear hcz29_0
                      try clear hcz29_1
                      try clear hcz29_2
                      try clear hcz37_0
                      try clear hcz37_1
                      try clear hcz39_0
                      try clear hcz39_1
                      try clear hcz39_2
                      try clear hcz45_0
                      try clear hcz45_1
                      try clear hcz45_2
                      try clear hcz45_3
                      try clear hcz47_0
                      try clear hcz47_1
                      try clear hcz47_2
                      try clear hcz47_3
                      try clear hcz50_0
                      try clear hcz50_1
                      try clear hcz50_2
                      try clear hcz52_0
                      try clear hcz52_1
                      try clear hcz52_2
                      try clear hcz55_0
                      try clear hcz55_1
                      try clear hcz57_0
                      try clear hcz57_1
                      try clear hcz57_2
                      try clear hcz63_0
                      try clear hcz63_1
                      try clear hcz63_2
                      try clear hcz63_3
                      try clear hcz71_0
                      try clear hcz71_1
                      try clear hcz71_2
                      try clear hcz74_0
                      try clear hcz74_1
                      try clear hcz74_2
                      try clear hcz77_0
                      try clear hcz77_1
                      try clear hcz77_2
                      try clear hcz81_0
                      try clear hcz81_1
                      try clear hcz81_2
                      try clear hcz84_0
                      try clear hcz84_1
                      try clear hcz84_2
                      try clear hfz12_0
                      try clear hfz12_1
                      try clear hfz14_0
                      try clear hfz14_1
                      try clear hfz16_0
                      try clear hfz16_1
                      try clear hfz20_0
                      try clear hfz20_1
                      try clear hfz20_2
                      try clear hfz29_0
                      try clear hfz29_1
                      try clear hfz29_2
                      try clear hfz37_0
                      try clear hfz37_1
                      try clear hfz39_0
                      try clear hfz39_1
                      try clear hfz39_2
                      try clear hfz45_0
                      try clear hfz45_1
                      try clear hfz45_2
                      try clear hfz45_3
                      try clear hfz47_0
                      try clear hfz47_1
                      try clear hfz47_2
                      try clear hfz47_3
                      try clear hfz50_0
                      try clear hfz50_1
                      try clear hfz50_2
                      try clear hfz52_0
                      try clear hfz52_1
                      try clear hfz52_2
                      try clear hfz55_0
                      try clear hfz55_1
                      try clear hfz57_0
                      try clear hfz57_1
                      try clear hfz57_2
                      try clear hfz63_0
                      try clear hfz63_1
                      try clear hfz63_2
                      try clear hfz63_3
                      try clear hfz71_0
                      try clear hfz71_1
                      try clear hfz71_2
                      try clear hfz74_0
                      try clear hfz74_1
                      try clear hfz74_2
                      try clear hfz77_0
                      try clear hfz77_1
                      try clear hfz77_2
                      try clear hfz81_0
                      try clear hfz81_1
                      try clear hfz81_2
                      try clear hfz84_0
                      try clear hfz84_1
                      try clear hfz84_2
                      try clear hx197_0
                      try clear hx213_0
                      try clear hx217_0
                      try clear p1
                      try clear p19
                      try clear p197
                      try clear p2
                      try clear p21
                      try clear p213
                      try clear p217
                      try clear p6
                      try clear p64
                      try clear q1
                      try clear q19
                      try clear q197
                      try clear q2
                      try clear q21
                      try clear q213
                      try clear q217
                      try clear q9
                      try clear q95
                      obtain ⟨x10_8, x22_8, x23_8, x194000_8, x194001_8, x194002_8, rfl, rfl, HA, HK8, HO_10, HO_12, BK189, BK193, BK198, HB⟩ := hrel
                      cases gk with
                      | zero => exact absurd HA.out (by simp [treillagelaw16_QueueOne.l3])
                      | succ k8 =>
                       have H := HA.out
                       clear HA
                       simp only [treillagelaw16_QueueOne.l3] at H
                       by_cases c99 : x23_8 < 3
                       ·rw [if_pos c99] at H
                        have c99b0 : decide (x23_8 < 3) = true := decide_eq_true c99
                        clear c99
                        replace H := Option.bind_eq_some_iff.mp H
                        obtain ⟨⟨t218, t219, t220, t221⟩, A1000, H⟩ := H
                        replace H : ((mem_Do.f x10_8 t218 t219 t220 t221).bind fun bt222 => ((queue_Given.f k8 1 (wrap64 (1 + (Int.tmod (wrap64 (a0)) 4))) x194000_8 x194001_8 x194002_8 bt222.2.1).bind fun bt227 => (treillagelaw16_QueueOne.l3 k8 l1 l2 x8_2 bt222.1 x12_85 x13_3 bt227.2.2.2 (wrap64 (x23_8 + 1)) 1 (wrap64 (1 + (Int.tmod (wrap64 (a0)) 4))) bt227.1 bt227.2.1 bt227.2.2.1))) = some r := H
                        have A100 := aA A1000
                        clear A1000
                        replace H := Option.bind_eq_some_iff.mp H
                        obtain ⟨⟨t222, t225, t226⟩, A1010, H⟩ := H
                        replace H : ((queue_Given.f k8 1 (wrap64 (1 + (Int.tmod (wrap64 (a0)) 4))) x194000_8 x194001_8 x194002_8 t225).bind fun bt227 => (treillagelaw16_QueueOne.l3 k8 l1 l2 x8_2 t222 x12_85 x13_3 bt227.2.2.2 (wrap64 (x23_8 + 1)) 1 (wrap64 (1 + (Int.tmod (wrap64 (a0)) 4))) bt227.1 bt227.2.1 bt227.2.2.1)) = some r := H
                        have A101 := aA A1010
                        clear A1010
                        replace H := Option.bind_eq_some_iff.mp H
                        obtain ⟨⟨t227, t228, t229, t230⟩, A1020, H⟩ := H
                        replace H : (treillagelaw16_QueueOne.l3 k8 l1 l2 x8_2 t222 x12_85 x13_3 t230 (wrap64 (x23_8 + 1)) 1 (wrap64 (1 + (Int.tmod (wrap64 (a0)) 4))) t227 t228 t229) = some r := H
                        have A102 := aA A1020
                        clear A1020
                        as_aux_lemma =>
                         have H' := aA H
                         clear H
                         have hnb103 := NB189_193.out
                         have hnc103 := NB193_189.out
                         have hnb104 := NB189_198.out
                         have hnc104 := NB198_189.out
                         have hcz105_0 : wr.cell? ⟨gb189, 0, none⟩ = some (.int .i64 1) := (blk_cell BK189.out 0).trans rfl
                         have hcz105_1 : wr.cell? ⟨gb189, 1, none⟩ = some (.int .i64 (wrap64 (1 + (Int.tmod (wrap64 (a0)) 4)))) := (blk_cell BK189.out 1).trans rfl
                         have hfz105_0 := blk_frozen BK189.out 0
                         have hfz105_1 := blk_frozen BK189.out 1
                         have hnb106 := NB193_198.out
                         have hnc106 := NB198_193.out
                         have hcz107_0 : wr.cell? ⟨gb193, 0, none⟩ = some (.int .i64 x194000_8) := (blk_cell BK193.out 0).trans rfl
                         have hcz107_1 : wr.cell? ⟨gb193, 1, none⟩ = some (.int .u64 x194001_8) := (blk_cell BK193.out 1).trans rfl
                         have hcz107_2 : wr.cell? ⟨gb193, 2, none⟩ = some (.int .u64 x194002_8) := (blk_cell BK193.out 2).trans rfl
                         have hfz107_0 := blk_frozen BK193.out 0
                         have hfz107_1 := blk_frozen BK193.out 1
                         have hfz107_2 := blk_frozen BK193.out 2
                         go_wp2_with (first | (go_at_call 53; (with_reducible refine (queue_Next.calls 1 (wrap64 (1 + (Int.tmod (wrap64 (a0)) 4))) x194000_8 x194001_8 x194002_8 t218 t219 t220 t221 _ A100.out).mono ?_); rintro e w108 ⟨rfl, hb⟩; have n0_ := aA (Kd.V_below (vlu HO_10.out) hb); have n1_ := aA (Kd.Q_below (qlu HO_12.out) hb); have n2_ := aA (blk_below (g := gb189) (o := .cells #[.int .i64 1, .int .i64 (wrap64 (1 + (Int.tmod (wrap64 (a0)) 4)))] 38 (0, 0)) (bku BK189.out) hb); have n3_ := aA (blk_below (g := gb193) (o := .cells #[.int .i64 x194000_8, .int .u64 x194001_8, .int .u64 x194002_8] 56 (0, 0)) (bku BK193.out) hb); have n4_ := aA (blk_below (g := gb198) (o := .cells #[.int .i64 x199000_24, .int .u64 x199001_24, .int .u64 x199002_24] 54 (0, 0)) (bku BK198.out) hb); have n5_ := aA (below_step (bls HB.out) hb); clear HO_10 HO_12 BK189 BK193 BK198 HB; have HO_10 := n0_; have HO_12 := n1_; have BK189 := n2_; have BK193 := n3_; have BK198 := n4_; have HB := n5_; clear n0_ n1_ n2_ n3_ n4_ n5_; (try clear hb); (try clear hb2); (try clear hk); (try clear hi); obtain ⟨Ao109, co109, eo109⟩ := Kd.V_slice HO_10.out; subst eo109) | (go_at_call 15; (with_reducible refine (mem_Do.calls (fun k_ => (some k_ ≠ (u12 : Value).ownBlock ∧ (k_ ≠ gb189 ∧ (k_ ≠ gb193 ∧ k_ ≠ gb198)))) _ _ x10_8 t218 t219 t220 t221 t222 t225 t226 _ ?side1 A101.out).mono ?_); (case side1 => exact HO_10.out); rintro e w110 ⟨v223, rfl, ho0, hb⟩; have n0_ := aA (Kd.V_below (vlu HO_10.out) hb); have n1_ := aA (Kd.Q_below (qlu HO_12.out) hb); have n2_ := aA (Kd.V_lower (Kd.V_mono (ok' := fun k_ => some k_ ≠ (u12 : Value).ownBlock ∧ k_ ≠ gb189 ∧ k_ ≠ gb193 ∧ k_ ≠ gb198) ho0 (fun k_ hk_ => ⟨Or.elim hk_ (fun hs_ => hs_.1) (fun hn_ => (Kd.fresh' (Kd.Q_lt (qlu HO_12.out)) k_ hn_)), Or.elim hk_ (fun hs_ => hs_.2.1) (fun hn_ => (Kd.freshB (g := gb189) (o := .cells #[.int .i64 1, .int .i64 (wrap64 (1 + (Int.tmod (wrap64 (a0)) 4)))] 38 (0, 0)) (bku BK189.out) k_ hn_)), Or.elim hk_ (fun hs_ => hs_.2.2.1) (fun hn_ => (Kd.freshB (g := gb193) (o := .cells #[.int .i64 x194000_8, .int .u64 x194001_8, .int .u64 x194002_8] 56 (0, 0)) (bku BK193.out) k_ hn_)), Or.elim hk_ (fun hs_ => hs_.2.2.2) (fun hn_ => (Kd.freshB (g := gb198) (o := .cells #[.int .i64 x199000_24, .int .u64 x199001_24, .int .u64 x199002_24] 54 (0, 0)) (bku BK198.out) k_ hn_))⟩)) (below_size (bls HB.out))); have n3_ := aA (blk_below (g := gb189) (o := .cells #[.int .i64 1, .int .i64 (wrap64 (1 + (Int.tmod (wrap64 (a0)) 4)))] 38 (0, 0)) (bku BK189.out) hb); have n4_ := aA (blk_below (g := gb193) (o := .cells #[.int .i64 x194000_8, .int .u64 x194001_8, .int .u64 x194002_8] 56 (0, 0)) (bku BK193.out) hb); have n5_ := aA (blk_below (g := gb198) (o := .cells #[.int .i64 x199000_24, .int .u64 x199001_24, .int .u64 x199002_24] 54 (0, 0)) (bku BK198.out) hb); have n6_ := aA (below_step (bls HB.out) hb); clear HO_10 HO_12 BK189 BK193 BK198 HB; have HO_10 := n0_; have HO_12 := n1_; have HO224 := n2_; have BK189 := n3_; have BK193 := n4_; have BK198 := n5_; have HB := n6_; clear n0_ n1_ n2_ n3_ n4_ n5_ n6_; (try clear hb); (try clear hb2); (try clear hk); (try clear hi); (try clear ho0); have hcz111_0 : w110.cell? ⟨gb189, 0, none⟩ = some (.int .i64 1) := (blk_cell BK189.out 0).trans rfl; have hcz111_1 : w110.cell? ⟨gb189, 1, none⟩ = some (.int .i64 (wrap64 (1 + (Int.tmod (wrap64 (a0)) 4)))) := (blk_cell BK189.out 1).trans rfl; have hfz111_0 := blk_frozen BK189.out 0; have hfz111_1 := blk_frozen BK189.out 1; have hcz112_0 : w110.cell? ⟨gb193, 0, none⟩ = some (.int .i64 x194000_8) := (blk_cell BK193.out 0).trans rfl; have hcz112_1 : w110.cell? ⟨gb193, 1, none⟩ = some (.int .u64 x194001_8) := (blk_cell BK193.out 1).trans rfl; have hcz112_2 : w110.cell? ⟨gb193, 2, none⟩ = some (.int .u64 x194002_8) := (blk_cell BK193.out 2).trans rfl; have hfz112_0 := blk_frozen BK193.out 0; have hfz112_1 := blk_frozen BK193.out 1; have hfz112_2 := blk_frozen BK193.out 2) | (go_at_call 49; (with_reducible refine (queue_Given.calls k8 1 (wrap64 (1 + (Int.tmod (wrap64 (a0)) 4))) x194000_8 x194001_8 x194002_8 t225 t227 t228 t229 t230 _ A102.out).mono ?_); rintro e w113 ⟨rfl, hb⟩; have n0_ := aA (Kd.V_below (vlu HO_10.out) hb); have n1_ := aA (Kd.Q_below (qlu HO_12.out) hb); have n2_ := aA (Kd.V_below (vlu HO224.out) hb); have n3_ := aA (blk_below (g := gb189) (o := .cells #[.int .i64 1, .int .i64 (wrap64 (1 + (Int.tmod (wrap64 (a0)) 4)))] 38 (0, 0)) (bku BK189.out) hb); have n4_ := aA (blk_below (g := gb193) (o := .cells #[.int .i64 x194000_8, .int .u64 x194001_8, .int .u64 x194002_8] 56 (0, 0)) (bku BK193.out) hb); have n5_ := aA (blk_below (g := gb198) (o := .cells #[.int .i64 x199000_24, .int .u64 x199001_24, .int .u64 x199002_24] 54 (0, 0)) (bku BK198.out) hb); have n6_ := aA (below_step (bls HB.out) hb); clear HO_10 HO_12 HO224 BK189 BK193 BK198 HB; have HO_10 := n0_; have HO_12 := n1_; have HO224 := n2_; have BK189 := n3_; have BK193 := n4_; have BK198 := n5_; have HB := n6_; clear n0_ n1_ n2_ n3_ n4_ n5_ n6_; (try clear hb); (try clear hb2); (try clear hk); (try clear hi); have hcz114_0 : w113.cell? ⟨gb193, 0, none⟩ = some (.int .i64 x194000_8) := (blk_cell BK193.out 0).trans rfl; have hcz114_1 : w113.cell? ⟨gb193, 1, none⟩ = some (.int .u64 x194001_8) := (blk_cell BK193.out 1).trans rfl; have hcz114_2 : w113.cell? ⟨gb193, 2, none⟩ = some (.int .u64 x194002_8) := (blk_cell BK193.out 2).trans rfl; have hfz114_0 := blk_frozen BK193.out 0; have hfz114_1 := blk_frozen BK193.out 1; have hfz114_2 := blk_frozen BK193.out 2))
                         repeat (go_quiet (first | (go_at_call 53; (with_reducible refine (queue_Next.calls 1 (wrap64 (1 + (Int.tmod (wrap64 (a0)) 4))) x194000_8 x194001_8 x194002_8 t218 t219 t220 t221 _ A100.out).mono ?_); rintro e w108 ⟨rfl, hb⟩; have n0_ := aA (Kd.V_below (vlu HO_10.out) hb); have n1_ := aA (Kd.Q_below (qlu HO_12.out) hb); have n2_ := aA (blk_below (g := gb189) (o := .cells #[.int .i64 1, .int .i64 (wrap64 (1 + (Int.tmod (wrap64 (a0)) 4)))] 38 (0, 0)) (bku BK189.out) hb); have n3_ := aA (blk_below (g := gb193) (o := .cells #[.int .i64 x194000_8, .int .u64 x194001_8, .int .u64 x194002_8] 56 (0, 0)) (bku BK193.out) hb); have n4_ := aA (blk_below (g := gb198) (o := .cells #[.int .i64 x199000_24, .int .u64 x199001_24, .int .u64 x199002_24] 54 (0, 0)) (bku BK198.out) hb); have n5_ := aA (below_step (bls HB.out) hb); clear HO_10 HO_12 BK189 BK193 BK198 HB; have HO_10 := n0_; have HO_12 := n1_; have BK189 := n2_; have BK193 := n3_; have BK198 := n4_; have HB := n5_; clear n0_ n1_ n2_ n3_ n4_ n5_; (try clear hb); (try clear hb2); (try clear hk); (try clear hi); obtain ⟨Ao109, co109, eo109⟩ := Kd.V_slice HO_10.out; subst eo109) | (go_at_call 15; (with_reducible refine (mem_Do.calls (fun k_ => (some k_ ≠ (u12 : Value).ownBlock ∧ (k_ ≠ gb189 ∧ (k_ ≠ gb193 ∧ k_ ≠ gb198)))) _ _ x10_8 t218 t219 t220 t221 t222 t225 t226 _ ?side1 A101.out).mono ?_); (case side1 => exact HO_10.out); rintro e w110 ⟨v223, rfl, ho0, hb⟩; have n0_ := aA (Kd.V_below (vlu HO_10.out) hb); have n1_ := aA (Kd.Q_below (qlu HO_12.out) hb); have n2_ := aA (Kd.V_lower (Kd.V_mono (ok' := fun k_ => some k_ ≠ (u12 : Value).ownBlock ∧ k_ ≠ gb189 ∧ k_ ≠ gb193 ∧ k_ ≠ gb198) ho0 (fun k_ hk_ => ⟨Or.elim hk_ (fun hs_ => hs_.1) (fun hn_ => (Kd.fresh' (Kd.Q_lt (qlu HO_12.out)) k_ hn_)), Or.elim hk_ (fun hs_ => hs_.2.1) (fun hn_ => (Kd.freshB (g := gb189) (o := .cells #[.int .i64 1, .int .i64 (wrap64 (1 + (Int.tmod (wrap64 (a0)) 4)))] 38 (0, 0)) (bku BK189.out) k_ hn_)), Or.elim hk_ (fun hs_ => hs_.2.2.1) (fun hn_ => (Kd.freshB (g := gb193) (o := .cells #[.int .i64 x194000_8, .int .u64 x194001_8, .int .u64 x194002_8] 56 (0, 0)) (bku BK193.out) k_ hn_)), Or.elim hk_ (fun hs_ => hs_.2.2.2) (fun hn_ => (Kd.freshB (g := gb198) (o := .cells #[.int .i64 x199000_24, .int .u64 x199001_24, .int .u64 x199002_24] 54 (0, 0)) (bku BK198.out) k_ hn_))⟩)) (below_size (bls HB.out))); have n3_ := aA (blk_below (g := gb189) (o := .cells #[.int .i64 1, .int .i64 (wrap64 (1 + (Int.tmod (wrap64 (a0)) 4)))] 38 (0, 0)) (bku BK189.out) hb); have n4_ := aA (blk_below (g := gb193) (o := .cells #[.int .i64 x194000_8, .int .u64 x194001_8, .int .u64 x194002_8] 56 (0, 0)) (bku BK193.out) hb); have n5_ := aA (blk_below (g := gb198) (o := .cells #[.int .i64 x199000_24, .int .u64 x199001_24, .int .u64 x199002_24] 54 (0, 0)) (bku BK198.out) hb); have n6_ := aA (below_step (bls HB.out) hb); clear HO_10 HO_12 BK189 BK193 BK198 HB; have HO_10 := n0_; have HO_12 := n1_; have HO224 := n2_; have BK189 := n3_; have BK193 := n4_; have BK198 := n5_; have HB := n6_; clear n0_ n1_ n2_ n3_ n4_ n5_ n6_; (try clear hb); (try clear hb2); (try clear hk); (try clear hi); (try clear ho0); have hcz111_0 : w110.cell? ⟨gb189, 0, none⟩ = some (.int .i64 1) := (blk_cell BK189.out 0).trans rfl; have hcz111_1 : w110.cell? ⟨gb189, 1, none⟩ = some (.int .i64 (wrap64 (1 + (Int.tmod (wrap64 (a0)) 4)))) := (blk_cell BK189.out 1).trans rfl; have hfz111_0 := blk_frozen BK189.out 0; have hfz111_1 := blk_frozen BK189.out 1; have hcz112_0 : w110.cell? ⟨gb193, 0, none⟩ = some (.int .i64 x194000_8) := (blk_cell BK193.out 0).trans rfl; have hcz112_1 : w110.cell? ⟨gb193, 1, none⟩ = some (.int .u64 x194001_8) := (blk_cell BK193.out 1).trans rfl; have hcz112_2 : w110.cell? ⟨gb193, 2, none⟩ = some (.int .u64 x194002_8) := (blk_cell BK193.out 2).trans rfl; have hfz112_0 := blk_frozen BK193.out 0; have hfz112_1 := blk_frozen BK193.out 1; have hfz112_2 := blk_frozen BK193.out 2) | (go_at_call 49; (with_reducible refine (queue_Given.calls k8 1 (wrap64 (1 + (Int.tmod (wrap64 (a0)) 4))) x194000_8 x194001_8 x194002_8 t225 t227 t228 t229 t230 _ A102.out).mono ?_); rintro e w113 ⟨rfl, hb⟩; have n0_ := aA (Kd.V_below (vlu HO_10.out) hb); have n1_ := aA (Kd.Q_below (qlu HO_12.out) hb); have n2_ := aA (Kd.V_below (vlu HO224.out) hb); have n3_ := aA (blk_below (g := gb189) (o := .cells #[.int .i64 1, .int .i64 (wrap64 (1 + (Int.tmod (wrap64 (a0)) 4)))] 38 (0, 0)) (bku BK189.out) hb); have n4_ := aA (blk_below (g := gb193) (o := .cells #[.int .i64 x194000_8, .int .u64 x194001_8, .int .u64 x194002_8] 56 (0, 0)) (bku BK193.out) hb); have n5_ := aA (blk_below (g := gb198) (o := .cells #[.int .i64 x199000_24, .int .u64 x199001_24, .int .u64 x199002_24] 54 (0, 0)) (bku BK198.out) hb); have n6_ := aA (below_step (bls HB.out) hb); clear HO_10 HO_12 HO224 BK189 BK193 BK198 HB; have HO_10 := n0_; have HO_12 := n1_; have HO224 := n2_; have BK189 := n3_; have BK193 := n4_; have BK198 := n5_; have HB := n6_; clear n0_ n1_ n2_ n3_ n4_ n5_ n6_; (try clear hb); (try clear hb2); (try clear hk); (try clear hi); have hcz114_0 : w113.cell? ⟨gb193, 0, none⟩ = some (.int .i64 x194000_8) := (blk_cell BK193.out 0).trans rfl; have hcz114_1 : w113.cell? ⟨gb193, 1, none⟩ = some (.int .u64 x194001_8) := (blk_cell BK193.out 1).trans rfl; have hcz114_2 : w113.cell? ⟨gb193, 2, none⟩ = some (.int .u64 x194002_8) := (blk_cell BK193.out 2).trans rfl; have hfz114_0 := blk_frozen BK193.out 0; have hfz114_1 := blk_frozen BK193.out 1; have hfz114_2 := blk_frozen BK193.out 2)); try go_wp2_with (first | (go_at_call 53; (with_reducible refine (queue_Next.calls 1 (wrap64 (1 + (Int.tmod (wrap64 (a0)) 4))) x194000_8 x194001_8 x194002_8 t218 t219 t220 t221 _ A100.out).mono ?_); rintro e w108 ⟨rfl, hb⟩; have n0_ := aA (Kd.V_below (vlu HO_10.out) hb); have n1_ := aA (Kd.Q_below (qlu HO_12.out) hb); have n2_ := aA (blk_below (g := gb189) (o := .cells #[.int .i64 1, .int .i64 (wrap64 (1 + (Int.tmod (wrap64 (a0)) 4)))] 38 (0, 0)) (bku BK189.out) hb); have n3_ := aA (blk_below (g := gb193) (o := .cells #[.int .i64 x194000_8, .int .u64 x194001_8, .int .u64 x194002_8] 56 (0, 0)) (bku BK193.out) hb); have n4_ := aA (blk_below (g := gb198) (o := .cells #[.int .i64 x199000_24, .int .u64 x199001_24, .int .u64 x199002_24] 54 (0, 0)) (bku BK198.out) hb); have n5_ := aA (below_step (bls HB.out) hb); clear HO_10 HO_12 BK189 BK193 BK198 HB; have HO_10 := n0_; have HO_12 := n1_; have BK189 := n2_; have BK193 := n3_; have BK198 := n4_; have HB := n5_; clear n0_ n1_ n2_ n3_ n4_ n5_; (try clear hb); (try clear hb2); (try clear hk); (try clear hi); obtain ⟨Ao109, co109, eo109⟩ := Kd.V_slice HO_10.out; subst eo109) | (go_at_call 15; (with_reducible refine (mem_Do.calls (fun k_ => (some k_ ≠ (u12 : Value).ownBlock ∧ (k_ ≠ gb189 ∧ (k_ ≠ gb193 ∧ k_ ≠ gb198)))) _ _ x10_8 t218 t219 t220 t221 t222 t225 t226 _ ?side1 A101.out).mono ?_); (case side1 => exact HO_10.out); rintro e w110 ⟨v223, rfl, ho0, hb⟩; have n0_ := aA (Kd.V_below (vlu HO_10.out) hb); have n1_ := aA (Kd.Q_below (qlu HO_12.out) hb); have n2_ := aA (Kd.V_lower (Kd.V_mono (ok' := fun k_ => some k_ ≠ (u12 : Value).ownBlock ∧ k_ ≠ gb189 ∧ k_ ≠ gb193 ∧ k_ ≠ gb198) ho0 (fun k_ hk_ => ⟨Or.elim hk_ (fun hs_ => hs_.1) (fun hn_ => (Kd.fresh' (Kd.Q_lt (qlu HO_12.out)) k_ hn_)), Or.elim hk_ (fun hs_ => hs_.2.1) (fun hn_ => (Kd.freshB (g := gb189) (o := .cells #[.int .i64 1, .int .i64 (wrap64 (1 + (Int.tmod (wrap64 (a0)) 4)))] 38 (0, 0)) (bku BK189.out) k_ hn_)), Or.elim hk_ (fun hs_ => hs_.2.2.1) (fun hn_ => (Kd.freshB (g := gb193) (o := .cells #[.int .i64 x194000_8, .int .u64 x194001_8, .int .u64 x194002_8] 56 (0, 0)) (bku BK193.out) k_ hn_)), Or.elim hk_ (fun hs_ => hs_.2.2.2) (fun hn_ => (Kd.freshB (g := gb198) (o := .cells #[.int .i64 x199000_24, .int .u64 x199001_24, .int .u64 x199002_24] 54 (0, 0)) (bku BK198.out) k_ hn_))⟩)) (below_size (bls HB.out))); have n3_ := aA (blk_below (g := gb189) (o := .cells #[.int .i64 1, .int .i64 (wrap64 (1 + (Int.tmod (wrap64 (a0)) 4)))] 38 (0, 0)) (bku BK189.out) hb); have n4_ := aA (blk_below (g := gb193) (o := .cells #[.int .i64 x194000_8, .int .u64 x194001_8, .int .u64 x194002_8] 56 (0, 0)) (bku BK193.out) hb); have n5_ := aA (blk_below (g := gb198) (o := .cells #[.int .i64 x199000_24, .int .u64 x199001_24, .int .u64 x199002_24] 54 (0, 0)) (bku BK198.out) hb); have n6_ := aA (below_step (bls HB.out) hb); clear HO_10 HO_12 BK189 BK193 BK198 HB; have HO_10 := n0_; have HO_12 := n1_; have HO224 := n2_; have BK189 := n3_; have BK193 := n4_; have BK198 := n5_; have HB := n6_; clear n0_ n1_ n2_ n3_ n4_ n5_ n6_; (try clear hb); (try clear hb2); (try clear hk); (try clear hi); (try clear ho0); have hcz111_0 : w110.cell? ⟨gb189, 0, none⟩ = some (.int .i64 1) := (blk_cell BK189.out 0).trans rfl; have hcz111_1 : w110.cell? ⟨gb189, 1, none⟩ = some (.int .i64 (wrap64 (1 + (Int.tmod (wrap64 (a0)) 4)))) := (blk_cell BK189.out 1).trans rfl; have hfz111_0 := blk_frozen BK189.out 0; have hfz111_1 := blk_frozen BK189.out 1; have hcz112_0 : w110.cell? ⟨gb193, 0, none⟩ = some (.int .i64 x194000_8) := (blk_cell BK193.out 0).trans rfl; have hcz112_1 : w110.cell? ⟨gb193, 1, none⟩ = some (.int .u64 x194001_8) := (blk_cell BK193.out 1).trans rfl; have hcz112_2 : w110.cell? ⟨gb193, 2, none⟩ = some (.int .u64 x194002_8) := (blk_cell BK193.out 2).trans rfl; have hfz112_0 := blk_frozen BK193.out 0; have hfz112_1 := blk_frozen BK193.out 1; have hfz112_2 := blk_frozen BK193.out 2) | (go_at_call 49; (with_reducible refine (queue_Given.calls k8 1 (wrap64 (1 + (Int.tmod (wrap64 (a0)) 4))) x194000_8 x194001_8 x194002_8 t225 t227 t228 t229 t230 _ A102.out).mono ?_); rintro e w113 ⟨rfl, hb⟩; have n0_ := aA (Kd.V_below (vlu HO_10.out) hb); have n1_ := aA (Kd.Q_below (qlu HO_12.out) hb); have n2_ := aA (Kd.V_below (vlu HO224.out) hb); have n3_ := aA (blk_below (g := gb189) (o := .cells #[.int .i64 1, .int .i64 (wrap64 (1 + (Int.tmod (wrap64 (a0)) 4)))] 38 (0, 0)) (bku BK189.out) hb); have n4_ := aA (blk_below (g := gb193) (o := .cells #[.int .i64 x194000_8, .int .u64 x194001_8, .int .u64 x194002_8] 56 (0, 0)) (bku BK193.out) hb); have n5_ := aA (blk_below (g := gb198) (o := .cells #[.int .i64 x199000_24, .int .u64 x199001_24, .int .u64 x199002_24] 54 (0, 0)) (bku BK198.out) hb); have n6_ := aA (below_step (bls HB.out) hb); clear HO_10 HO_12 HO224 BK189 BK193 BK198 HB; have HO_10 := n0_; have HO_12 := n1_; have HO224 := n2_; have BK189 := n3_; have BK193 := n4_; have BK198 := n5_; have HB := n6_; clear n0_ n1_ n2_ n3_ n4_ n5_ n6_; (try clear hb); (try clear hb2); (try clear hk); (try clear hi); have hcz114_0 : w113.cell? ⟨gb193, 0, none⟩ = some (.int .i64 x194000_8) := (blk_cell BK193.out 0).trans rfl; have hcz114_1 : w113.cell? ⟨gb193, 1, none⟩ = some (.int .u64 x194001_8) := (blk_cell BK193.out 1).trans rfl; have hcz114_2 : w113.cell? ⟨gb193, 2, none⟩ = some (.int .u64 x194002_8) := (blk_cell BK193.out 2).trans rfl; have hfz114_0 := blk_frozen BK193.out 0; have hfz114_1 := blk_frozen BK193.out 1; have hfz114_2 := blk_frozen BK193.out 2)))
                         go_roundg k8
                         case measure => have := HJ3.out; have := HK2.out; have := HK3.out; have := HJ24.out; have := HJ63.out; have := HJ85.out; have := HJ91.out; have := HK8.out; omega
                         case rel => exact ⟨(t222), (t230), (wrap64 (x23_8 + 1)), (t227), (t228), (t229), (by first | rfl | (simp; done) | (simp [*]; done)), (by first | rfl | (simp; done) | (simp [*]; done)), H', ⟨by have := HJ3.out; have := HK2.out; have := HK3.out; have := HJ24.out; have := HJ63.out; have := HJ85.out; have := HJ91.out; have := HK8.out; omega⟩, ⟨by (with_reducible repeat (first | apply Kd.V_alloc | apply Kd.V_drewN | apply Kd.V_drew)); exact Kd.V_mono (Kd.V_far (p := ⟨gb193, 2, none⟩) (Kd.V_far (p := ⟨gb193, 1, none⟩) (Kd.V_far (p := ⟨gb193, 0, none⟩) (Kd.V_mono HO224.out (fun k_ hk => (⟨hk, hk.2.2.1⟩ : _ ∧ k_ ≠ gb193))) (fun _ hk => hk.2) (.int .i64 t227)) (fun _ hk => hk.2) (.int .u64 t228)) (fun _ hk => hk.2) (.int .u64 t229)) (fun _ hk => ⟨hk.1.1, ⟨hk.1.2.1, ⟨hk.1.2.2.1, hk.1.2.2.2⟩⟩⟩)⟩, ⟨by (with_reducible repeat (first | apply Kd.Q_alloc | apply Kd.Q_drewN | apply Kd.Q_drew)); exact Kd.Q_mono (Kd.Q_far (p := ⟨gb193, 2, none⟩) (Kd.Q_far (p := ⟨gb193, 1, none⟩) (Kd.Q_far (p := ⟨gb193, 0, none⟩) (Kd.Q_types HO_12.out BK193.out (by decide)) (fun _ hk => hk.2) (.int .i64 t227)) (fun _ hk => hk.2) (.int .u64 t228)) (fun _ hk => hk.2) (.int .u64 t229)) (fun _ hk => trivial)⟩, ⟨by (with_reducible repeat (first | refine blk_drewN ?_ _ | refine blk_drew ?_ | refine blk_alloc ?_ _)); refine blk_far ?_ NB189_193.out _; (with_reducible repeat (first | refine blk_drewN ?_ _ | refine blk_drew ?_ | refine blk_alloc ?_ _)); refine blk_far ?_ NB189_193.out _; (with_reducible repeat (first | refine blk_drewN ?_ _ | refine blk_drew ?_ | refine blk_alloc ?_ _)); refine blk_far ?_ NB189_193.out _; (with_reducible repeat (first | refine blk_drewN ?_ _ | refine blk_drew ?_ | refine blk_alloc ?_ _)); exact BK189.out⟩, ⟨by (with_reducible repeat (first | refine blk_drewN ?_ _ | refine blk_drew ?_ | refine blk_alloc ?_ _)); refine blk_put (cs := #[.int .i64 t227, .int .u64 t228, .int .u64 x194002_8]) ?_ 2 _ rfl; (with_reducible repeat (first | refine blk_drewN ?_ _ | refine blk_drew ?_ | refine blk_alloc ?_ _)); refine blk_put (cs := #[.int .i64 t227, .int .u64 x194001_8, .int .u64 x194002_8]) ?_ 1 _ rfl; (with_reducible repeat (first | refine blk_drewN ?_ _ | refine blk_drew ?_ | refine blk_alloc ?_ _)); refine blk_put (cs := #[.int .i64 x194000_8, .int .u64 x194001_8, .int .u64 x194002_8]) ?_ 0 _ rfl; (with_reducible repeat (first | refine blk_drewN ?_ _ | refine blk_drew ?_ | refine blk_alloc ?_ _)); exact BK193.out⟩, ⟨by (with_reducible repeat (first | refine blk_drewN ?_ _ | refine blk_drew ?_ | refine blk_alloc ?_ _)); refine blk_far ?_ NB198_193.out _; (with_reducible repeat (first | refine blk_drewN ?_ _ | refine blk_drew ?_ | refine blk_alloc ?_ _)); refine blk_far ?_ NB198_193.out _; (with_reducible repeat (first | refine blk_drewN ?_ _ | refine blk_drew ?_ | refine blk_alloc ?_ _)); refine blk_far ?_ NB198_193.out _; (with_reducible repeat (first | refine blk_drewN ?_ _ | refine blk_drew ?_ | refine blk_alloc ?_ _)); exact BK198.out⟩, ⟨by repeat (first | (with_reducible first | exact HB.out | apply below_alloc | apply pw_below_drewN | apply below_drew1 | refine below_set ?_ GE189.out | refine below_set ?_ GE193.out | refine below_set ?_ GE198.out) | exact HB.out)⟩⟩
                       ·rw [if_neg c99] at H
                        have c99b0 : decide (x23_8 < 3) = false := decide_eq_false c99
                        clear c99
                        by_cases c115 : x22_8 = true
                        ·subst c115
                         have H1 : (if 0 < (x12_85.length : Int) then (if x194002_8 = (rd x12_85 0) then (if 1 ≤ (x12_85.length : Int) then (treillagelaw16_QueueOne.l1 k8 l1 l2 x8_2 x10_8 (x12_85.drop (1 : Int).toNat) (wrap64 (x13_3 + 1)) 1 (wrap64 (1 + (Int.tmod (wrap64 (a0)) 4))) x194000_8 x194001_8 x194002_8) else (none)) else (some false)) else (none)) = some r := by rw [if_pos rfl] at H; exact H
                         clear H
                         have H := H1
                         clear H1
                         by_cases c116 : 0 < (x12_85.length : Int)
                         ·rw [if_pos c116] at H
                          have c116b0 : decide (0 < (x12_85.length : Int)) = true := decide_eq_true c116
                          have c116b1 : decide (0 < x12_85.length) = true := decide_eq_true (by omega)
                          clear c116
                          by_cases c117 : x194002_8 = (rd x12_85 0)
                          ·rw [if_pos c117] at H
                           have c117b0 : (x194002_8 == (rd x12_85 0)) = true := beq_iff_eq.mpr c117
                           have c117b1 : (x194002_8 != (rd x12_85 0)) = false := bne_eq_false_iff_eq.mpr c117
                           clear c117
                           by_cases c118 : 1 ≤ (x12_85.length : Int)
                           ·rw [if_pos c118] at H
                            have c118b0 := eq_true c118
                            have c118b1 : decide (1 ≤ (x12_85.length : Int)) = true := decide_eq_true c118
                            clear c118
                            obtain ⟨y232, hy232⟩ : ∃ y_ : List Int, y_ = (x12_85.drop (1 : Int).toNat) := ⟨_, rfl⟩
                            replace H : (treillagelaw16_QueueOne.l1 k8 l1 l2 x8_2 x10_8 y232 (wrap64 (x13_3 + 1)) 1 (wrap64 (1 + (Int.tmod (wrap64 (a0)) 4))) x194000_8 x194001_8 x194002_8) = some r := by first | (rw [hy232]; with_reducible exact H) | (have H2_ := (Option.bind_some _ _).symm.trans H; rw [hy232]; with_reducible exact H2_) | (have H2_ := (Option.bind_some _ _).symm.trans H; with_reducible exact H2_) | with_reducible exact H | (rw [hy232]; exact H) | exact H
                            have Ny232 := aA hy232
                            clear hy232
                            as_aux_lemma =>
                             have H' := aA H
                             clear H
                             have hnb119 := NB193_189.out
                             have hnc119 := NB189_193.out
                             have hnb120 := NB193_198.out
                             have hnc120 := NB198_193.out
                             have hcz121_0 : wr.cell? ⟨gb193, 0, none⟩ = some (.int .i64 x194000_8) := (blk_cell BK193.out 0).trans rfl
                             have hcz121_1 : wr.cell? ⟨gb193, 1, none⟩ = some (.int .u64 x194001_8) := (blk_cell BK193.out 1).trans rfl
                             have hcz121_2 : wr.cell? ⟨gb193, 2, none⟩ = some (.int .u64 x194002_8) := (blk_cell BK193.out 2).trans rfl
                             have hfz121_0 := blk_frozen BK193.out 0
                             have hfz121_1 := blk_frozen BK193.out 1
                             have hfz121_2 := blk_frozen BK193.out 2
                             obtain ⟨Ao122, co122, eo122, _⟩ := Kd.Q_slice HO_12.out
                             subst eo122
                             have p231 : 0 ≤ (0 : Int) := (by omega)
                             have q231 : 0 < (x12_85.length : Int) := of_decide_eq_true (by first | (with_reducible assumption) | assumption)
                             obtain ⟨ad231, e231, hx231_0⟩ := Kd.at_int (Kd.Q_reads' HO_12.out).2.2 0 p231 q231
                             cases e231
                             have qi231 : (0 < x12_85.length) = True := eq_true (by omega)
                             (try rw [show ((0 : Int)).toNat = 0 from rfl] at hx231_0)
                             (try rw [Addr.add_zero'] at hx231_0)
                             replace p231 := eq_true p231
                             replace q231 := eq_true q231
                             have q123 : (1 : Int) ≤ ((x12_85.length : Int) : Int) := of_decide_eq_true (by first | (with_reducible assumption) | assumption)
                             obtain ⟨i0123, hi0123, _, hsz123, _⟩ := info_parts info23
                             have hcut123 := cut_from (P := Try.prog) 22 23 .i64 Try.underlying22 hi0123 1 hsz123 (some ad231) x12_85.length co122 1 (by omega) q123
                             have hr123 := Kd.Q_drop (k := (1 : Int).toNat) HO_12.out (by omega)
                             obtain ⟨A123, hA123⟩ : ∃ A1, A1 = (if co122 = (1 : Int).toNat then (some ad231) else ((some ad231) : Option Addr).map (·.add ((1 : Int).toNat * 1))) := ⟨_, rfl⟩
                             obtain ⟨c123, hc123⟩ : ∃ c1, c1 = co122 - (1 : Int).toNat := ⟨_, rfl⟩
                             have hy123 : y232.length = x12_85.length - (1 : Int).toNat := (by rw [Ny232.out, List.length_drop])
                             rw [← Ny232.out] at hr123
                             rw [← hy123, ← hA123, ← hc123] at hcut123
                             replace hr123 : Kd.Q (Kd.int .u64) 23 wr w.heap.size (fun _ => True) (.slice A123 y232.length c123) y232 := (by rw [hA123, hc123, hy123]; exact hr123)
                             have HE123 : Aside0 ((Value.slice A123 y232.length c123).ownBlock = (.slice (some ad231) x12_85.length co122 : Value).ownBlock) := ⟨by rw [hA123]; split <;> (cases ((some ad231) : Option Addr) <;> rfl)⟩
                             clear hy123 hi0123 hsz123 HO_12 hA123 hc123
                             have HO234 := aA hr123
                             clear hr123
                             replace q123 := eq_true q123
                             have n_ := aA (Kd.V_mono (ok' := fun k_ => (some k_ ≠ (.slice A123 y232.length c123 : Value).ownBlock ∧ (k_ ≠ gb189 ∧ (k_ ≠ gb193 ∧ k_ ≠ gb198)))) HO_10.out (fun k_ hk => ⟨(by rw [HE123.out]; exact hk.1), ⟨hk.2.1, ⟨hk.2.2.1, hk.2.2.2⟩⟩⟩))
                             clear HO_10
                             have HO_10 := n_
                             clear n_
                             go_wp2
                             repeat (go_quiet (fail); try go_wp2)
                             go_roundg k8
                             case measure => have := HJ3.out; have := HK2.out; have := HK3.out; have := HJ24.out; have := HJ63.out; have := HJ85.out; have := HJ91.out; have := HK8.out; omega
                             case rel => exact ⟨(x10_8), (y232), (wrap64 (x13_3 + 1)), (x194000_8), (x194001_8), (x194002_8), (by first | rfl | (simp; done) | (simp [*]; done)), H', ⟨by have := HJ3.out; have := HK2.out; have := HK3.out; have := HJ24.out; have := HJ63.out; have := HJ85.out; have := HJ91.out; have := HK8.out; omega⟩, ⟨by (with_reducible repeat (first | apply Kd.V_alloc | apply Kd.V_drewN | apply Kd.V_drew)); exact Kd.V_mono HO_10.out (fun _ hk => ⟨hk.1, ⟨hk.2.1, hk.2.2.1⟩⟩)⟩, ⟨by (with_reducible repeat (first | apply Kd.Q_alloc | apply Kd.Q_drewN | apply Kd.Q_drew)); exact HO234.out⟩, ⟨by (with_reducible repeat (first | refine blk_drewN ?_ _ | refine blk_drew ?_ | refine blk_alloc ?_ _)); exact BK189.out⟩, ⟨by (with_reducible repeat (first | refine blk_drewN ?_ _ | refine blk_drew ?_ | refine blk_alloc ?_ _)); exact BK193.out⟩, ⟨by repeat (first | (with_reducible first | exact HB.out | apply below_alloc | apply pw_below_drewN | apply below_drew1 | refine below_set ?_ GE189.out | refine below_set ?_ GE193.out | refine below_set ?_ GE198.out) | exact HB.out)⟩⟩
                           ·rw [if_neg c118] at H
                            exact absurd H (by simp)
                          ·rw [if_neg c117] at H
                           have c117b0 : (x194002_8 == (rd x12_85 0)) = false := beq_eq_false_iff_ne.mpr c117
                           have c117b1 : (x194002_8 != (rd x12_85 0)) = true := bne_iff_ne.mpr c117
                           as_aux_lemma =>
                            exact absurd ((Option.some.inj H).trans hr_) (by decide)
                         ·rw [if_neg c116] at H
                          exact absurd H (by simp)
                        ·replace c115 := Bool.eq_false_iff.mpr c115
                         subst c115
                         have H1 : (some false) = some r := by rw [if_neg (show ¬ (false = true) by decide)] at H; exact H
                         clear H
                         have H := H1
                         clear H1
                         as_aux_lemma =>
                          exact absurd ((Option.some.inj H).trans hr_) (by decide)
                    ·replace c98 := Bool.eq_false_iff.mpr c98
                     subst c98
                     have H1 : (treillagelaw16_QueueOne.l1 kj91 l1 l2 x8_2 x10_24 x12_85 (wrap64 (x13_3 + 1)) 1 (wrap64 (1 + (Int.tmod (wrap64 (a0)) 4))) x194000_3 x194001_3 x194002_3) = some r := by rw [if_neg (show ¬ (false = true) by decide)] at H; exact H
                     clear H
                     have H := H1
                     clear H1
                     as_aux_lemma =>
                      have H' := aA H
                      clear H
                      go_wp2
                      repeat (go_quiet (fail); try go_wp2)
                      go_roundg kj91
                      case measure => have := HJ3.out; have := HK2.out; have := HK3.out; have := HJ24.out; have := HJ63.out; have := HJ85.out; have := HJ91.out; omega
                      case rel => exact ⟨(x10_24), (x12_85), (wrap64 (x13_3 + 1)), (x194000_3), (x194001_3), (x194002_3), (by first | rfl | (simp; done) | (simp [*]; done)), H', ⟨by have := HJ3.out; have := HK2.out; have := HK3.out; have := HJ24.out; have := HJ63.out; have := HJ85.out; have := HJ91.out; omega⟩, ⟨by (with_reducible repeat (first | apply Kd.V_alloc | apply Kd.V_drewN | apply Kd.V_drew)); exact Kd.V_mono HO_10.out (fun _ hk => ⟨hk.1, ⟨hk.2.1, hk.2.2.1⟩⟩)⟩, ⟨by (with_reducible repeat (first | apply Kd.Q_alloc | apply Kd.Q_drewN | apply Kd.Q_drew)); exact HO_12.out⟩, ⟨by (with_reducible repeat (first | refine blk_drewN ?_ _ | refine blk_drew ?_ | refine blk_alloc ?_ _)); exact BK189.out⟩, ⟨by (with_reducible repeat (first | refine blk_drewN ?_ _ | refine blk_drew ?_ | refine blk_alloc ?_ _)); exact BK193.out⟩, ⟨by repeat (first | (with_reducible first | exact HB.out | apply below_alloc | apply pw_below_drewN | apply below_drew1 | refine below_set ?_ GE189.out | refine below_set ?_ GE193.out | refine below_set ?_ GE198.out) | exact HB.out)⟩⟩
          ·rw [if_neg c24] at H
           exact absurd H (by simp)
         ·rw [if_neg c23] at H
          have c23b0 : decide (x13_3 < (l1.length : Int)) = false := decide_eq_false c23
          clear c23
          as_aux_lemma =>
           obtain rfl := Option.some.inj H
           go_wp2
           repeat (go_quiet (fail); try go_wp2)
           go_ret
           exact ⟨by first | rfl | (simp [errW_none, errW_some] <;> rfl) | (simp [*, errW_none, errW_some] <;> rfl), by repeat (first | (with_reducible first | exact HB.out | apply below_alloc | apply pw_below_drewN | apply below_drew1 | refine below_set ?_ GE189.out | refine below_set ?_ GE193.out) | exact HB.out)⟩

theorem treillagelaw16_QueueOne.calls (k : Nat) (a0 : Int) (A1 : Option Addr) (c1 : Nat) (l1 : List Int) (A2 : Option Addr) (c2 : Nat) (l2 : List Bool) (r : Bool) (w : World) (hr1 : Kd.C (Kd.int .u64) w A1 l1.length l1) (hc1 : l1.length ≤ c1) (hr2 : Kd.C Kd.bool w A2 l2.length l2) (hc2 : l2.length ≤ c2) (h : treillagelaw16_QueueOne.f k a0 l1 l2 = some true) :
  Calls Try.prog 12 #[.int .u8 a0, .slice A1 l1.length c1, .slice A2 l2.length c2] w fun e w' => e = .returned (.bool true) ∧ Below w.heap.size w w' := treillagelaw16_QueueOne.calls1 k a0 A1 c1 l1 A2 c2 l2 true w hr1 hc1 hr2 hc2 h rfl
end Go.Proofs.Ytcjkjlopbjijaaa.PQ
