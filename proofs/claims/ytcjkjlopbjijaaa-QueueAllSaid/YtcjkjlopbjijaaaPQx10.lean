-- Written by wip/hprint/hprint.py (a program of this session, over the print): not typed by hand
import Derived.Test.YtcjkjlopbjijaaaPQx0
import Derived.Test.YtcjkjlopbjijaaaPQx4
import Derived.Test.YtcjkjlopbjijaaaPQx5
import Derived.Test.YtcjkjlopbjijaaaPQx6
import Derived.Test.YtcjkjlopbjijaaaPQx7
namespace Go.Proofs.Ytcjkjlopbjijaaa.PQ
open Go.RowKit Go.Proofs.YtcjkjlopbjijaaaW.PrintWords Go.Proofs.YtcjkjlopbjijaaaW.PrintLast Go.Proofs.YtcjkjlopbjijaaaW.PrintMore
attribute [local go_sem] max2_int min2_int max_two min_two max_three min_three max_four min_four   -- for this text's walks alone
open Go.Proofs.YtcjkjlopbjijaaaH
set_option linter.unusedVariables false
set_option linter.unusedSimpArgs false

/-! ### treillagelaw16_QueueAll: function 11 -/
mutual
def treillagelaw16_QueueAll.j0 : Nat → Int → Int → List Int → Bool → Option (Bool)
 | 0, _, _, _, _ => none
 | k + 1, x0, x1, x2, x40 => if x40 = true then ((treillagelaw16_shown.f k).bind fun t261 => (some t261)) else ((mem_New.f k 1 (wrap64 (1 + (Int.tmod (wrap64 (x0)) 4)))).bind fun t263 => (if 0 ≤ 11728124029610 then (treillagelaw16_QueueAll.l0 k x2 (wrap64 (1 + (Int.tmod (wrap64 (x1)) 12))) t263 (List.replicate 0 z54) 0 1 (wrap64 (1 + (Int.tmod (wrap64 (x0)) 4)))) else (none)))
def treillagelaw16_QueueAll.l0 : Nat → List Int → Int → List Int → List (S54) → Int → Int → Int → Option (Bool)
 | 0, _, _, _, _, _, _, _ => none
 | k + 1, x2, x8, x9, x10, x11, x263000, x263001 => if x11 < x8 then (if x10.length < 5864062014805 then (treillagelaw16_QueueAll.l0 k x2 x8 x9 (x10 ++ [(⟨0, 0, IntKind.u64.wrap (x11)⟩ : S54)]) (wrap64 (x11 + 1)) x263000 x263001) else (none)) else (treillagelaw16_QueueAll.l1 k x2 x8 x9 x10 0 0 x263000 x263001 0 0 0)
def treillagelaw16_QueueAll.l1 : Nat → List Int → Int → List Int → List (S54) → Int → Int → Int → Int → Int → Int → Int → Option (Bool)
 | 0, _, _, _, _, _, _, _, _, _, _, _ => none
 | k + 1, x2, x8, x9, x10, x13, x14, x263000, x263001, x273000, x273001, x273002 => if x14 < (wrap64 ((x2.length : Int) + (wrap64 (60 * x8)))) then (if (wrap64 (x8 + 1)) = 0 then (none) else (if x14 < (x2.length : Int) then (if 0 ≤ x14 then (treillagelaw16_QueueAll.j3 k x2 x8 x9 x10 x13 x14 (Int.tmod (wrap64 (rd x2 x14)) (wrap64 (x8 + 1))) x263000 x263001 x273000 x273001 x273002) else (none)) else (treillagelaw16_QueueAll.j3 k x2 x8 x9 x10 x13 x14 (Int.tmod x14 (wrap64 (x8 + 1))) x263000 x263001 x273000 x273001 x273002))) else (treillagelaw16_QueueAll.l2 k x8 x9 x10 x13 0 0 x263000 x263001 x273000 x273001 x273002)
def treillagelaw16_QueueAll.j3 : Nat → List Int → Int → List Int → List (S54) → Int → Int → Int → Int → Int → Int → Int → Int → Option (Bool)
 | 0, _, _, _, _, _, _, _, _, _, _, _, _ => none
 | k + 1, x2, x8, x9, x10, x13, x14, x15, x263000, x263001, x273000, x273001, x273002 => if x15 = x8 then ((queue_Next.f x263000 x263001 x273000 x273001 x273002).bind fun bt274 => ((mem_Do.f x9 bt274.1 bt274.2.1 bt274.2.2.1 bt274.2.2.2).bind fun bt278 => ((queue_Given.f k x263000 x263001 x273000 x273001 x273002 bt278.2.1).bind fun bt283 => (if bt283.2.2.2 = true then (treillagelaw16_QueueAll.l1 k x2 x8 bt278.1 x10 (wrap64 (x13 + 1)) (wrap64 (x14 + 1)) x263000 x263001 bt283.1 bt283.2.1 bt283.2.2.1) else (treillagelaw16_QueueAll.l1 k x2 x8 bt278.1 x10 x13 (wrap64 (x14 + 1)) x263000 x263001 bt283.1 bt283.2.1 bt283.2.2.1))))) else (if 0 ≤ x15 then (if x15 < (x10.length : Int) then ((queue_Want.f x263000 x263001 ((rd_T54 x10 x15).f0) ((rd_T54 x10 x15).f1) ((rd_T54 x10 x15).f2)).bind fun bt289 => (if bt289.2.2.2.2 = true then ((mem_Do.f x9 bt289.1 bt289.2.1 bt289.2.2.1 bt289.2.2.2.1).bind fun bt295 => ((queue_Got.f k ((rd_T54 x10 x15).f0) ((rd_T54 x10 x15).f1) ((rd_T54 x10 x15).f2) bt295.2.1 bt295.2.2).bind fun bt301 => (treillagelaw16_QueueAll.l1 k x2 x8 bt295.1 (x10.set (x15 : Int).toNat (⟨bt301.1, bt301.2.1, bt301.2.2⟩ : S54)) x13 (wrap64 (x14 + 1)) x263000 x263001 x273000 x273001 x273002))) else (treillagelaw16_QueueAll.l1 k x2 x8 x9 x10 x13 (wrap64 (x14 + 1)) x263000 x263001 x273000 x273001 x273002))) else (none)) else (none))
def treillagelaw16_QueueAll.l2 : Nat → Int → List Int → List (S54) → Int → Int → Int → Int → Int → Int → Int → Int → Option (Bool)
 | 0, _, _, _, _, _, _, _, _, _, _, _ => none
 | k + 1, x8, x9, x10, x13, x26, x27, x263000, x263001, x273000, x273001, x273002 => if x27 < x8 then (if 0 ≤ x27 then (if x27 < (x10.length : Int) then (if ((rd_T54 x10 x27).f0) = 5 then (treillagelaw16_QueueAll.l2 k x8 x9 x10 x13 (wrap64 (x26 + 1)) (wrap64 (x27 + 1)) x263000 x263001 x273000 x273001 x273002) else (treillagelaw16_QueueAll.l2 k x8 x9 x10 x13 x26 (wrap64 (x27 + 1)) x263000 x263001 x273000 x273001 x273002)) else (none)) else (none)) else (treillagelaw16_QueueAll.l3 k x8 x9 x13 x26 0 x263000 x263001 x273000 x273001 x273002)
def treillagelaw16_QueueAll.l3 : Nat → Int → List Int → Int → Int → Int → Int → Int → Int → Int → Int → Option (Bool)
 | 0, _, _, _, _, _, _, _, _, _, _ => none
 | k + 1, x8, x9, x13, x26, x28, x263000, x263001, x273000, x273001, x273002 => if x28 < (wrap64 ((wrap64 (3 * x8)) + 3)) then ((queue_Next.f x263000 x263001 x273000 x273001 x273002).bind fun bt306 => ((mem_Do.f x9 bt306.1 bt306.2.1 bt306.2.2.1 bt306.2.2.2).bind fun bt310 => ((queue_Given.f k x263000 x263001 x273000 x273001 x273002 bt310.2.1).bind fun bt315 => (if bt315.2.2.2 = true then (treillagelaw16_QueueAll.l3 k x8 bt310.1 (wrap64 (x13 + 1)) x26 (wrap64 (x28 + 1)) x263000 x263001 bt315.1 bt315.2.1 bt315.2.2.1) else (treillagelaw16_QueueAll.l3 k x8 bt310.1 x13 x26 (wrap64 (x28 + 1)) x263000 x263001 bt315.1 bt315.2.1 bt315.2.2.1))))) else (some (x13 == x26))
end
def treillagelaw16_QueueAll.f (k : Nat) (a0 : Int) (a1 : Int) (l2 : List Int) : Option (Bool) := if (l2.length : Int) > 300 then (treillagelaw16_QueueAll.j0 k a0 a1 l2 true) else ((treillagelaw16_shown.f k).bind fun t260 => (treillagelaw16_QueueAll.j0 k a0 a1 l2 (!t260)))
theorem treillagelaw16_QueueAll.mono_l : ∀ k, (∀ y0 y1 y2 y3, LeO (treillagelaw16_QueueAll.j0 k y0 y1 y2 y3) (treillagelaw16_QueueAll.j0 (k + 1) y0 y1 y2 y3)) ∧ (∀ y0 y1 y2 y3 y4 y5 y6, LeO (treillagelaw16_QueueAll.l0 k y0 y1 y2 y3 y4 y5 y6) (treillagelaw16_QueueAll.l0 (k + 1) y0 y1 y2 y3 y4 y5 y6)) ∧ (∀ y0 y1 y2 y3 y4 y5 y6 y7 y8 y9 y10, LeO (treillagelaw16_QueueAll.l1 k y0 y1 y2 y3 y4 y5 y6 y7 y8 y9 y10) (treillagelaw16_QueueAll.l1 (k + 1) y0 y1 y2 y3 y4 y5 y6 y7 y8 y9 y10)) ∧ (∀ y0 y1 y2 y3 y4 y5 y6 y7 y8 y9 y10 y11, LeO (treillagelaw16_QueueAll.j3 k y0 y1 y2 y3 y4 y5 y6 y7 y8 y9 y10 y11) (treillagelaw16_QueueAll.j3 (k + 1) y0 y1 y2 y3 y4 y5 y6 y7 y8 y9 y10 y11)) ∧ (∀ y0 y1 y2 y3 y4 y5 y6 y7 y8 y9 y10, LeO (treillagelaw16_QueueAll.l2 k y0 y1 y2 y3 y4 y5 y6 y7 y8 y9 y10) (treillagelaw16_QueueAll.l2 (k + 1) y0 y1 y2 y3 y4 y5 y6 y7 y8 y9 y10)) ∧ (∀ y0 y1 y2 y3 y4 y5 y6 y7 y8 y9, LeO (treillagelaw16_QueueAll.l3 k y0 y1 y2 y3 y4 y5 y6 y7 y8 y9) (treillagelaw16_QueueAll.l3 (k + 1) y0 y1 y2 y3 y4 y5 y6 y7 y8 y9))
 | 0 => ⟨fun _ _ _ _ r h => by simp [treillagelaw16_QueueAll.j0] at h, fun _ _ _ _ _ _ _ r h => by simp [treillagelaw16_QueueAll.l0] at h, fun _ _ _ _ _ _ _ _ _ _ _ r h => by simp [treillagelaw16_QueueAll.l1] at h, fun _ _ _ _ _ _ _ _ _ _ _ _ r h => by simp [treillagelaw16_QueueAll.j3] at h, fun _ _ _ _ _ _ _ _ _ _ _ r h => by simp [treillagelaw16_QueueAll.l2] at h, fun _ _ _ _ _ _ _ _ _ _ r h => by simp [treillagelaw16_QueueAll.l3] at h⟩
 | k + 1 => by
  obtain ⟨ih0, ih1, ih2, ih3, ih4, ih5⟩ := treillagelaw16_QueueAll.mono_l k
  refine ⟨?_, ?_, ?_, ?_, ?_, ?_⟩
  ·intro y0 y1 y2 y3
   unfold treillagelaw16_QueueAll.j0
   repeat' first
   | (with_reducible exact ih0 _ _ _ _)
   | (with_reducible exact ih1 _ _ _ _ _ _ _)
   | (with_reducible exact ih2 _ _ _ _ _ _ _ _ _ _ _)
   | (with_reducible exact ih3 _ _ _ _ _ _ _ _ _ _ _ _)
   | (with_reducible exact ih4 _ _ _ _ _ _ _ _ _ _ _)
   | (with_reducible exact ih5 _ _ _ _ _ _ _ _ _ _)
   | (with_reducible exact mem_New.mono _ _ _)
   | (with_reducible exact queue_Given.mono _ _ _ _ _ _ _)
   | (with_reducible exact queue_Got.mono _ _ _ _ _ _)
   | (with_reducible exact treillagelaw16_shown.mono _)
   | (with_reducible exact LeO.refl _)
   | (with_reducible exact LeO.none _)
   | (with_reducible refine LeO.ite ?_ ?_)
   | (with_reducible refine LeO.bind ?_ (fun _ => ?_))
   | exact ih0 _ _ _ _
   | exact ih1 _ _ _ _ _ _ _
   | exact ih2 _ _ _ _ _ _ _ _ _ _ _
   | exact ih3 _ _ _ _ _ _ _ _ _ _ _ _
   | exact ih4 _ _ _ _ _ _ _ _ _ _ _
   | exact ih5 _ _ _ _ _ _ _ _ _ _
   | exact mem_New.mono _ _ _
   | exact queue_Given.mono _ _ _ _ _ _ _
   | exact queue_Got.mono _ _ _ _ _ _
   | exact treillagelaw16_shown.mono _
   | exact LeO.none _
   | refine LeO.ite ?_ ?_
   | refine LeO.bind ?_ (fun _ => ?_)
  ·intro y0 y1 y2 y3 y4 y5 y6
   unfold treillagelaw16_QueueAll.l0
   repeat' first
   | (with_reducible exact ih0 _ _ _ _)
   | (with_reducible exact ih1 _ _ _ _ _ _ _)
   | (with_reducible exact ih2 _ _ _ _ _ _ _ _ _ _ _)
   | (with_reducible exact ih3 _ _ _ _ _ _ _ _ _ _ _ _)
   | (with_reducible exact ih4 _ _ _ _ _ _ _ _ _ _ _)
   | (with_reducible exact ih5 _ _ _ _ _ _ _ _ _ _)
   | (with_reducible exact mem_New.mono _ _ _)
   | (with_reducible exact queue_Given.mono _ _ _ _ _ _ _)
   | (with_reducible exact queue_Got.mono _ _ _ _ _ _)
   | (with_reducible exact treillagelaw16_shown.mono _)
   | (with_reducible exact LeO.refl _)
   | (with_reducible exact LeO.none _)
   | (with_reducible refine LeO.ite ?_ ?_)
   | (with_reducible refine LeO.bind ?_ (fun _ => ?_))
   | exact ih0 _ _ _ _
   | exact ih1 _ _ _ _ _ _ _
   | exact ih2 _ _ _ _ _ _ _ _ _ _ _
   | exact ih3 _ _ _ _ _ _ _ _ _ _ _ _
   | exact ih4 _ _ _ _ _ _ _ _ _ _ _
   | exact ih5 _ _ _ _ _ _ _ _ _ _
   | exact mem_New.mono _ _ _
   | exact queue_Given.mono _ _ _ _ _ _ _
   | exact queue_Got.mono _ _ _ _ _ _
   | exact treillagelaw16_shown.mono _
   | exact LeO.none _
   | refine LeO.ite ?_ ?_
   | refine LeO.bind ?_ (fun _ => ?_)
  ·intro y0 y1 y2 y3 y4 y5 y6 y7 y8 y9 y10
   unfold treillagelaw16_QueueAll.l1
   repeat' first
   | (with_reducible exact ih0 _ _ _ _)
   | (with_reducible exact ih1 _ _ _ _ _ _ _)
   | (with_reducible exact ih2 _ _ _ _ _ _ _ _ _ _ _)
   | (with_reducible exact ih3 _ _ _ _ _ _ _ _ _ _ _ _)
   | (with_reducible exact ih4 _ _ _ _ _ _ _ _ _ _ _)
   | (with_reducible exact ih5 _ _ _ _ _ _ _ _ _ _)
   | (with_reducible exact mem_New.mono _ _ _)
   | (with_reducible exact queue_Given.mono _ _ _ _ _ _ _)
   | (with_reducible exact queue_Got.mono _ _ _ _ _ _)
   | (with_reducible exact treillagelaw16_shown.mono _)
   | (with_reducible exact LeO.refl _)
   | (with_reducible exact LeO.none _)
   | (with_reducible refine LeO.ite ?_ ?_)
   | (with_reducible refine LeO.bind ?_ (fun _ => ?_))
   | exact ih0 _ _ _ _
   | exact ih1 _ _ _ _ _ _ _
   | exact ih2 _ _ _ _ _ _ _ _ _ _ _
   | exact ih3 _ _ _ _ _ _ _ _ _ _ _ _
   | exact ih4 _ _ _ _ _ _ _ _ _ _ _
   | exact ih5 _ _ _ _ _ _ _ _ _ _
   | exact mem_New.mono _ _ _
   | exact queue_Given.mono _ _ _ _ _ _ _
   | exact queue_Got.mono _ _ _ _ _ _
   | exact treillagelaw16_shown.mono _
   | exact LeO.none _
   | refine LeO.ite ?_ ?_
   | refine LeO.bind ?_ (fun _ => ?_)
  ·intro y0 y1 y2 y3 y4 y5 y6 y7 y8 y9 y10 y11
   unfold treillagelaw16_QueueAll.j3
   repeat' first
   | (with_reducible exact ih0 _ _ _ _)
   | (with_reducible exact ih1 _ _ _ _ _ _ _)
   | (with_reducible exact ih2 _ _ _ _ _ _ _ _ _ _ _)
   | (with_reducible exact ih3 _ _ _ _ _ _ _ _ _ _ _ _)
   | (with_reducible exact ih4 _ _ _ _ _ _ _ _ _ _ _)
   | (with_reducible exact ih5 _ _ _ _ _ _ _ _ _ _)
   | (with_reducible exact mem_New.mono _ _ _)
   | (with_reducible exact queue_Given.mono _ _ _ _ _ _ _)
   | (with_reducible exact queue_Got.mono _ _ _ _ _ _)
   | (with_reducible exact treillagelaw16_shown.mono _)
   | (with_reducible exact LeO.refl _)
   | (with_reducible exact LeO.none _)
   | (with_reducible refine LeO.ite ?_ ?_)
   | (with_reducible refine LeO.bind ?_ (fun _ => ?_))
   | exact ih0 _ _ _ _
   | exact ih1 _ _ _ _ _ _ _
   | exact ih2 _ _ _ _ _ _ _ _ _ _ _
   | exact ih3 _ _ _ _ _ _ _ _ _ _ _ _
   | exact ih4 _ _ _ _ _ _ _ _ _ _ _
   | exact ih5 _ _ _ _ _ _ _ _ _ _
   | exact mem_New.mono _ _ _
   | exact queue_Given.mono _ _ _ _ _ _ _
   | exact queue_Got.mono _ _ _ _ _ _
   | exact treillagelaw16_shown.mono _
   | exact LeO.none _
   | refine LeO.ite ?_ ?_
   | refine LeO.bind ?_ (fun _ => ?_)
  ·intro y0 y1 y2 y3 y4 y5 y6 y7 y8 y9 y10
   unfold treillagelaw16_QueueAll.l2
   repeat' first
   | (with_reducible exact ih0 _ _ _ _)
   | (with_reducible exact ih1 _ _ _ _ _ _ _)
   | (with_reducible exact ih2 _ _ _ _ _ _ _ _ _ _ _)
   | (with_reducible exact ih3 _ _ _ _ _ _ _ _ _ _ _ _)
   | (with_reducible exact ih4 _ _ _ _ _ _ _ _ _ _ _)
   | (with_reducible exact ih5 _ _ _ _ _ _ _ _ _ _)
   | (with_reducible exact mem_New.mono _ _ _)
   | (with_reducible exact queue_Given.mono _ _ _ _ _ _ _)
   | (with_reducible exact queue_Got.mono _ _ _ _ _ _)
   | (with_reducible exact treillagelaw16_shown.mono _)
   | (with_reducible exact LeO.refl _)
   | (with_reducible exact LeO.none _)
   | (with_reducible refine LeO.ite ?_ ?_)
   | (with_reducible refine LeO.bind ?_ (fun _ => ?_))
   | exact ih0 _ _ _ _
   | exact ih1 _ _ _ _ _ _ _
   | exact ih2 _ _ _ _ _ _ _ _ _ _ _
   | exact ih3 _ _ _ _ _ _ _ _ _ _ _ _
   | exact ih4 _ _ _ _ _ _ _ _ _ _ _
   | exact ih5 _ _ _ _ _ _ _ _ _ _
   | exact mem_New.mono _ _ _
   | exact queue_Given.mono _ _ _ _ _ _ _
   | exact queue_Got.mono _ _ _ _ _ _
   | exact treillagelaw16_shown.mono _
   | exact LeO.none _
   | refine LeO.ite ?_ ?_
   | refine LeO.bind ?_ (fun _ => ?_)
  ·intro y0 y1 y2 y3 y4 y5 y6 y7 y8 y9
   unfold treillagelaw16_QueueAll.l3
   repeat' first
   | (with_reducible exact ih0 _ _ _ _)
   | (with_reducible exact ih1 _ _ _ _ _ _ _)
   | (with_reducible exact ih2 _ _ _ _ _ _ _ _ _ _ _)
   | (with_reducible exact ih3 _ _ _ _ _ _ _ _ _ _ _ _)
   | (with_reducible exact ih4 _ _ _ _ _ _ _ _ _ _ _)
   | (with_reducible exact ih5 _ _ _ _ _ _ _ _ _ _)
   | (with_reducible exact mem_New.mono _ _ _)
   | (with_reducible exact queue_Given.mono _ _ _ _ _ _ _)
   | (with_reducible exact queue_Got.mono _ _ _ _ _ _)
   | (with_reducible exact treillagelaw16_shown.mono _)
   | (with_reducible exact LeO.refl _)
   | (with_reducible exact LeO.none _)
   | (with_reducible refine LeO.ite ?_ ?_)
   | (with_reducible refine LeO.bind ?_ (fun _ => ?_))
   | exact ih0 _ _ _ _
   | exact ih1 _ _ _ _ _ _ _
   | exact ih2 _ _ _ _ _ _ _ _ _ _ _
   | exact ih3 _ _ _ _ _ _ _ _ _ _ _ _
   | exact ih4 _ _ _ _ _ _ _ _ _ _ _
   | exact ih5 _ _ _ _ _ _ _ _ _ _
   | exact mem_New.mono _ _ _
   | exact queue_Given.mono _ _ _ _ _ _ _
   | exact queue_Got.mono _ _ _ _ _ _
   | exact treillagelaw16_shown.mono _
   | exact LeO.none _
   | refine LeO.ite ?_ ?_
   | refine LeO.bind ?_ (fun _ => ?_)
theorem treillagelaw16_QueueAll.mono : ∀ a0 a1 a2 k, LeO (treillagelaw16_QueueAll.f k a0 a1 a2) (treillagelaw16_QueueAll.f (k + 1) a0 a1 a2) := by
 intro a0 a1 a2 k
 obtain ⟨ih0, ih1, ih2, ih3, ih4, ih5⟩ := treillagelaw16_QueueAll.mono_l k
 unfold treillagelaw16_QueueAll.f
 repeat' first
   | (with_reducible exact ih0 _ _ _ _)
   | (with_reducible exact ih1 _ _ _ _ _ _ _)
   | (with_reducible exact ih2 _ _ _ _ _ _ _ _ _ _ _)
   | (with_reducible exact ih3 _ _ _ _ _ _ _ _ _ _ _ _)
   | (with_reducible exact ih4 _ _ _ _ _ _ _ _ _ _ _)
   | (with_reducible exact ih5 _ _ _ _ _ _ _ _ _ _)
   | (with_reducible exact mem_New.mono _ _ _)
   | (with_reducible exact queue_Given.mono _ _ _ _ _ _ _)
   | (with_reducible exact queue_Got.mono _ _ _ _ _ _)
   | (with_reducible exact treillagelaw16_shown.mono _)
   | (with_reducible exact LeO.refl _)
   | (with_reducible exact LeO.none _)
   | (with_reducible refine LeO.ite ?_ ?_)
   | (with_reducible refine LeO.bind ?_ (fun _ => ?_))
   | exact ih0 _ _ _ _
   | exact ih1 _ _ _ _ _ _ _
   | exact ih2 _ _ _ _ _ _ _ _ _ _ _
   | exact ih3 _ _ _ _ _ _ _ _ _ _ _ _
   | exact ih4 _ _ _ _ _ _ _ _ _ _ _
   | exact ih5 _ _ _ _ _ _ _ _ _ _
   | exact mem_New.mono _ _ _
   | exact queue_Given.mono _ _ _ _ _ _ _
   | exact queue_Got.mono _ _ _ _ _ _
   | exact treillagelaw16_shown.mono _
   | exact LeO.none _
   | refine LeO.ite ?_ ?_
   | refine LeO.bind ?_ (fun _ => ?_)
def treillagelaw16_QueueAll.T26 : Bool × List (List Nat × List Nat) := (true, [([], []), ([], []), ([], []), ([1, 2], [1, 2]), ([3], [3]), ([0, 4], [0, 4]), ([5], [5]), ([6], [6]), ([6], [6]), ([], []), ([9, 7, 5, 0, 1, 2, 3, 4, 5, 6, 7, 9], [7, 9]), ([8, 10, 0, 1, 2, 3, 4, 5, 6, 7, 8, 9, 10], [8])])
def treillagelaw16_QueueAll.B26 : List Nat := [0, 0, 0, 6, 14, 31, 63, 127, 127, 0, 767, 2047]
theorem treillagelaw16_QueueAll.tab26 : rtab .any (opsOf Try.f11 26) = treillagelaw16_QueueAll.T26 := by kernel_rfl
theorem treillagelaw16_QueueAll.bits26 : waitsOk treillagelaw16_QueueAll.T26.2 treillagelaw16_QueueAll.B26 = true := by kernel_rfl
set_option maxHeartbeats 8000000 in
set_option maxRecDepth 100000 in
theorem treillagelaw16_QueueAll.calls1 (k : Nat) (a0 : Int) (a1 : Int) (A2 : Option Addr) (c2 : Nat) (l2 : List Int) (r : Bool) (w : World) (hr2 : Kd.C (Kd.int .u8) w A2 l2.length l2) (hc2 : l2.length ≤ c2) (h : treillagelaw16_QueueAll.f k a0 a1 l2 = some r) (hr_ : r = true) :
  Calls Try.prog 11 #[.int .u8 a0, .int .u8 a1, .slice A2 l2.length c2] w fun e w' => e = .returned (.bool r) ∧ Below w.heap.size w w' := by
 have hu38 := Try.underlying38
 have hu54 := Try.underlying54
 have hu56 := Try.underlying56
 have hu25 := Try.underlying25
 have HR2 := aA hr2
 have HC2 := aA hc2
 clear hr2 hc2
 have HB := aA (Below.refl w.heap.size w)
 have H : (if (l2.length : Int) > 300 then (treillagelaw16_QueueAll.j0 k a0 a1 l2 true) else ((treillagelaw16_shown.f k).bind fun t260 => (treillagelaw16_QueueAll.j0 k a0 a1 l2 (!t260)))) = some r := h
 clear h
 have HC4 := aA H
 clear H
 go_enter Try.func11, Try.ntmps11
 go_upto_region 1 with (fail)
 go_cut [40] (fun v40 wc => ∃ (kq : Nat) (x40_3 : Bool), v40 = .bool x40_3 ∧ Aside0 (treillagelaw16_QueueAll.j0 kq a0 a1 l2 x40_3 = some r) ∧ Aside0 (kq ≤ k) ∧ Aside0 (Below w.heap.size w wc))
 case first =>
  have H := HC4.out
  clear HC4
  by_cases c5 : (l2.length : Int) > 300
  ·rw [if_pos c5] at H
   have c5b0 : decide (300 < (l2.length : Int)) = true := decide_eq_true c5
   have c5b1 : decide (300 < l2.length) = true := decide_eq_true (by omega)
   clear c5
   (first | rw [c5b0] | (simp only [i64_w, i32_w]; rw [c5b0]) | skip)
   have H' := aA H
   clear H
   go_wp2
   go_meet
   case rel => exact ⟨_, (true), (by first | rfl | (simp; done) | (simp [*]; done)), H', ⟨by first | omega | exact Nat.le_refl _⟩, ⟨by repeat (first | (with_reducible first | exact HB.out | apply below_alloc | apply pw_below_drewN | apply below_drew1) | exact HB.out)⟩⟩
  ·rw [if_neg c5] at H
   have c5b0 : decide (300 < (l2.length : Int)) = false := decide_eq_false c5
   have c5b1 : decide (300 < l2.length) = false := decide_eq_false (by omega)
   clear c5
   (first | rw [c5b0] | (simp only [i64_w, i32_w]; rw [c5b0]) | skip)
   replace H := Option.bind_eq_some_iff.mp H
   obtain ⟨t260, A60, H⟩ := H
   replace H : (treillagelaw16_QueueAll.j0 k a0 a1 l2 (!t260)) = some r := H
   have A6 := aA A60
   clear A60
   have H' := aA H
   clear H
   go_wp2_with (first | (go_at_call 46; (with_reducible refine (treillagelaw16_shown.calls k  t260 _ A6.out).mono ?_); rintro e w7 ⟨rfl, hb⟩; have n0_ := aA (below_step (blw HB.out) hb); clear HB; have HB := n0_; clear n0_; (try clear hb); (try clear hb2); (try clear hk); (try clear hi)))
   go_meet
   case rel => exact ⟨_, (!t260), (by first | rfl | (simp; done) | (simp [*]; done)), H', ⟨by first | omega | exact Nat.le_refl _⟩, ⟨by repeat (first | (with_reducible first | exact HB.out | apply below_alloc | apply pw_below_drewN | apply below_drew1) | exact HB.out)⟩⟩
 case rest =>
  clear HC4
  try clear c1
  try clear c2
  try clear p2
  try clear c5
  try clear c5b0
  try clear c5b1
  obtain ⟨kq, x40_3, rfl, HA, HJ3, HB⟩ := hcut
  cases kq with
  | zero => exact absurd HA.out (by simp [treillagelaw16_QueueAll.j0])
  | succ kj3 =>
   have H := HA.out
   clear HA
   simp only [treillagelaw16_QueueAll.j0] at H
   by_cases c8 : x40_3 = true
   ·subst c8
    have H1 : ((treillagelaw16_shown.f kj3).bind fun t261 => (some t261)) = some r := by rw [if_pos rfl] at H; exact H
    clear H
    have H := H1
    clear H1
    replace H := Option.bind_eq_some_iff.mp H
    obtain ⟨t261, A90, H⟩ := H
    replace H : (some t261) = some r := H
    have A9 := aA A90
    clear A90
    obtain rfl := Option.some.inj H
    go_wp2_with (first | ((with_reducible refine gate_callee (f := 46) rfl ?_); refine goesL_ (some 41) rfl rfl Try.func46 (by kernel_rfl) rfl #[] rfl (by (try simp only [List.map_toArray, List.map_cons, List.map_nil]); first | done | rfl | (simp only [List.length_drop, List.length_take]; rfl)) ?_; (with_reducible refine (treillagelaw16_shown.calls kj3  t261 _ A9.out).mono ?_); rintro e w10 ⟨rfl, hb⟩; refine ⟨_, rfl, ?_⟩; have n0_ := aA (below_step (blw HB.out) hb); clear HB; have HB := n0_; clear n0_; (try clear hb); (try clear hb2); (try clear hk); (try clear hi)))
    go_ret
    exact ⟨by first | rfl | (simp [errW_none, errW_some] <;> rfl) | (simp [*, errW_none, errW_some] <;> rfl), by repeat (first | (with_reducible first | exact HB.out | apply below_alloc | apply pw_below_drewN | apply below_drew1) | exact HB.out)⟩
   ·replace c8 := Bool.eq_false_iff.mpr c8
    subst c8
    have H1 : ((mem_New.f kj3 1 (wrap64 (1 + (Int.tmod (wrap64 (a0)) 4)))).bind fun t263 => (if 0 ≤ 11728124029610 then (treillagelaw16_QueueAll.l0 kj3 l2 (wrap64 (1 + (Int.tmod (wrap64 (a1)) 12))) t263 (List.replicate 0 z54) 0 1 (wrap64 (1 + (Int.tmod (wrap64 (a0)) 4)))) else (none))) = some r := by rw [if_neg (show ¬ (false = true) by decide)] at H; exact H
    clear H
    have H := H1
    clear H1
    replace H := Option.bind_eq_some_iff.mp H
    obtain ⟨t263, A110, H⟩ := H
    replace H : (if 0 ≤ 11728124029610 then (treillagelaw16_QueueAll.l0 kj3 l2 (wrap64 (1 + (Int.tmod (wrap64 (a1)) 12))) t263 (List.replicate 0 z54) 0 1 (wrap64 (1 + (Int.tmod (wrap64 (a0)) 4)))) else (none)) = some r := H
    have A11 := aA A110
    clear A110
    by_cases c12 : 0 ≤ 11728124029610
    ·rw [if_pos c12] at H
     have c12b0 := eq_true c12
     have c12b1 : decide (0 ≤ 11728124029610) = true := decide_eq_true c12
     clear c12
     obtain ⟨y266, hy266⟩ : ∃ y_ : List (S54), y_ = (List.replicate 0 z54) := ⟨_, rfl⟩
     replace H : (treillagelaw16_QueueAll.l0 kj3 l2 (wrap64 (1 + (Int.tmod (wrap64 (a1)) 12))) t263 y266 0 1 (wrap64 (1 + (Int.tmod (wrap64 (a0)) 4)))) = some r := by first | (rw [hy266]; with_reducible exact H) | (have H2_ := (Option.bind_some _ _).symm.trans H; rw [hy266]; with_reducible exact H2_) | (have H2_ := (Option.bind_some _ _).symm.trans H; with_reducible exact H2_) | with_reducible exact H | (rw [hy266]; exact H) | exact H
     have Ny266 := aA hy266
     clear hy266
     have H' := aA H
     clear H
     go_wp2_with (first | ((with_reducible refine gate_dst (N := 7) rfl ?_); refine box_event ?hg (N := 7) ?hd (cs := #[.int .i64 0, .int .i64 0]) (t := 38) ?hr ?_; (case hd => rfl); (case hg => rfl); (case hr => first | (go_simp; done) | (go_simp; rfl)); intro gb262 hg w13 hbox hb; have n0_ := aA (below_step (blw HB.out) hb); have n1_ := aA (hbox); have n2_ := aA ((by rw [hg]; exact (below_size (blw HB.out)) : w.heap.size ≤ gb262)); have n3_ := aA ((by rw [hg]; exact (below_size (blw HB.out)) : w.heap.size ≤ gb262)); clear HB; have HB := n0_; have BK262 := n1_; have GW262 := n2_; have GE262 := n3_; clear n0_ n1_ n2_ n3_ hb hbox hg; have hcz14_0 : w13.cell? ⟨gb262, 0, none⟩ = some (.int .i64 0) := (blk_cell BK262.out 0).trans rfl; have hcz14_1 : w13.cell? ⟨gb262, 1, none⟩ = some (.int .i64 0) := (blk_cell BK262.out 1).trans rfl; have hfz14_0 := blk_frozen BK262.out 0; have hfz14_1 := blk_frozen BK262.out 1) | ((with_reducible refine gate_callee (f := 36) rfl ?_); refine goesL_ (some 52) rfl rfl Try.func36 (by kernel_rfl) rfl #[.agg #[.int .i64 1, .int .i64 (wrap64 (1 + (Int.tmod (wrap64 (a0)) 4)))]] rfl (by (try simp only [List.map_toArray, List.map_cons, List.map_nil]); first | done | rfl | (simp only [List.length_drop, List.length_take]; rfl)) ?_; (with_reducible refine (mem_New.calls kj3 1 (wrap64 (1 + (Int.tmod (wrap64 (a0)) 4))) t263 _ A11.out).mono ?_); rintro e w15 ⟨v264, rfl, ho0, hb⟩; refine ⟨_, rfl, ?_⟩; have n0_ := aA (Kd.R_lower ho0 (below_size (bls HB.out))); have n1_ := aA (blk_below (g := gb262) (o := .cells #[.int .i64 1, .int .i64 (wrap64 (1 + (Int.tmod (wrap64 (a0)) 4)))] 38 (0, 0)) (by refine bku ?_; refine blk_put (cs := #[.int .i64 1, .int .i64 0]) ?_ 1 _ rfl; refine bku ?_; refine blk_put (cs := #[.int .i64 0, .int .i64 0]) ?_ 0 _ rfl; refine bku ?_; exact BK262.out) hb); have n2_ := aA (below_step (bls HB.out) hb); clear BK262 HB; have HO265 := n0_; have BK262 := n1_; have HB := n2_; clear n0_ n1_ n2_; (try clear hb); (try clear hb2); (try clear hk); (try clear hi); (try clear ho0)) | ((with_reducible refine gate_dst (N := 53) rfl ?_); refine Kd.R_make k54 _ 54 rfl (N := 53) rfl 73 _ _ rfl 0 rfl rfl Try.underlying73 (.agg #[(.int .i64 0), (.int .u64 0), (.int .u64 0)]) 24 info54 rfl (by decide) (by omega) z54 (ok := fun _ => True) (okp := fun _ => True) (k54_mkM _ _ _ z54 ) (fun _ hk => hk) trivial (by omega) (by omega) (Below.refl _ _) (Nat.le_refl _) ?_; intro v267 w16 ho17 hb hg_ hnew_; clear hg_ hnew_; (first | rw [← Ny266.out] at ho17 | (simp only [Int.reduceToNat] at ho17; rw [← Ny266.out] at ho17)); have n0_ := aA (Kd.R_below (rlu HO265.out) hb); have n1_ := aA (Kd.R_lower ho17 (below_size (bls HB.out))); have n2_ := aA (blk_below (g := gb262) (o := .cells #[.int .i64 1, .int .i64 (wrap64 (1 + (Int.tmod (wrap64 (a0)) 4)))] 38 (0, 0)) (bku BK262.out) hb); have n3_ := aA (below_step (bls HB.out) hb); clear HO265 BK262 HB; have HO265 := n0_; have HO268 := n1_; have BK262 := n2_; have HB := n3_; clear n0_ n1_ n2_ n3_ hb ho17))
     go_loopg [10, 11] kj3 (fun kq v10 v11 w' => ∃ (x10_2 : List (S54)) (x11_2 : Int), v11 = .int .i64 x11_2 ∧ Aside0 (treillagelaw16_QueueAll.l0 kq l2 (wrap64 (1 + (Int.tmod (wrap64 (a1)) 12))) t263 x10_2 x11_2 1 (wrap64 (1 + (Int.tmod (wrap64 (a0)) 4))) = some r) ∧ Aside0 (kq ≤ kj3) ∧ Aside0 (Kd.V (Kd.int .u64) 23 w' w.heap.size (fun k_ => some k_ ≠ (v10 : Value).ownBlock ∧ k_ ≠ gb262) v264 t263) ∧ Aside0 (Kd.R k54 54 w' w.heap.size (fun _ => True) v10 x10_2) ∧ Aside0 (w'.heap[gb262]? = some (.cells #[.int .i64 1, .int .i64 (wrap64 (1 + (Int.tmod (wrap64 (a0)) 4)))] 38 (0, 0))) ∧ Aside0 (Below w.heap.size w w'))
     case atStart => exact ⟨(y266), (0), (by first | rfl | (simp; done) | (simp [*]; done)), H', ⟨Nat.le_refl _⟩, ⟨Kd.R_V (rlu (Kd.R_mono (Kd.R_types (Kd.R_apart' HO265.out (Kd.R_typed HO268.out) (by decide)) BK262.out (by decide)) (fun _ hk => ⟨hk.1.2, hk.2⟩)))⟩, ⟨by (with_reducible repeat (first | apply Kd.R_alloc | apply Kd.R_drewN | apply Kd.R_drew)); exact HO268.out⟩, ⟨by refine bku ?_; exact BK262.out⟩, ⟨by repeat (first | (with_reducible first | exact HB.out | apply below_alloc | apply pw_below_drewN | apply below_drew1 | refine below_set ?_ GE262.out) | exact HB.out)⟩⟩
     case round =>
      clear H'
      try clear c1
      try clear c2
      try clear p2
      try clear c3
      try clear c4
      try clear c5
      try clear c5b0
      try clear c5b1
      try clear p6
      try clear c8
      try clear c11
      try clear c12
      try clear c12b0
      try clear c12b1
      try clear hcz14_0
      try clear hcz14_1
      try clear hfz14_0
      try clear hfz14_1
      try clear p2
      obtain ⟨x10_2, x11_2, rfl, HA, HK2, HO_9, HO_10, BK262, HB⟩ := hrel
      cases gk with
      | zero => exact absurd HA.out (by simp [treillagelaw16_QueueAll.l0])
      | succ k2 =>
       have H := HA.out
       clear HA
       simp only [treillagelaw16_QueueAll.l0] at H
       by_cases c18 : x11_2 < (wrap64 (1 + (Int.tmod (wrap64 (a1)) 12)))
       ·rw [if_pos c18] at H
        have c18b0 : decide (x11_2 < (wrap64 (1 + (Int.tmod (wrap64 (a1)) 12)))) = true := decide_eq_true c18
        clear c18
        by_cases c19 : x10_2.length < 5864062014805
        ·rw [if_pos c19] at H
         have LMc19 := aA c19
         clear c19
         obtain ⟨y269, hy269⟩ : ∃ y_ : List (S54), y_ = (x10_2 ++ [(⟨0, 0, IntKind.u64.wrap (x11_2)⟩ : S54)]) := ⟨_, rfl⟩
         replace H : (treillagelaw16_QueueAll.l0 k2 l2 (wrap64 (1 + (Int.tmod (wrap64 (a1)) 12))) t263 y269 (wrap64 (x11_2 + 1)) 1 (wrap64 (1 + (Int.tmod (wrap64 (a0)) 4)))) = some r := by first | (rw [hy269]; with_reducible exact H) | (have H2_ := (Option.bind_some _ _).symm.trans H; rw [hy269]; with_reducible exact H2_) | (have H2_ := (Option.bind_some _ _).symm.trans H; with_reducible exact H2_) | with_reducible exact H | (rw [hy269]; exact H) | exact H
         have Ny269 := aA hy269
         clear hy269
         have H' := aA H
         clear H
         go_wp2_with (first | ((with_reducible refine gate_builtin (b := .append) (xs := #[.tmp 59, .tmp 63]) rfl ?_); at_builtin; refine Kd.R_append k54 (w0 := w) w.heap.size rfl (.tmp 59) (.tmp 63) 73 54 (.agg #[(.int .i64 0), (.int .u64 0), (.int .u64 0)]) 24 rfl Try.underlying73 info54 rfl (by decide) (by omega) u10 x10_2 (⟨0, 0, IntKind.u64.wrap (x11_2)⟩ : S54) [.int .i64 0, .int .u64 0, .int .u64 (IntKind.u64.wrap (x11_2))] (fun _ => True) (fun _ => False) rfl rfl ?aP (fun _ hk => hk.elim) ?aF ?aO ?aB ?aS ?aL ?_; (case aP => exact k54_mkM _ _ _ (⟨0, 0, IntKind.u64.wrap (x11_2)⟩ : S54)); (case aB => exact (bls HB.out)); (case aF => exact (fun _ _ => trivial)); (case aO => exact (rlu HO_10.out)); (case aS => exact (below_size (bls HB.out))); (case aL => have := LMc19.out; omega); intro v270 w20 ho hb hg hat; rw [← Ny269.out] at ho; have n0_ := aA (Kd.V_afterv (ok := (fun k_ => k_ ≠ gb262)) (vlu (Kd.V_mono HO_9.out (fun _ hk => ⟨hk.2, hk.1⟩))) hg hat); have n1_ := aA (blk_grown (g := gb262) (o := .cells #[.int .i64 1, .int .i64 (wrap64 (1 + (Int.tmod (wrap64 (a0)) 4)))] 38 (0, 0)) (bku BK262.out) hg (Kd.R_ne HO_10.out BK262.out (by decide))); have n2_ := aA (hb); have n3_ := aA (ho); clear HO_9 BK262 HB HO_10; have HO_9 := n0_; have BK262 := n1_; have HB := n2_; have HO271 := n3_; clear n0_ n1_ n2_ n3_ ho hb hg hat))
         go_roundg k2
         case measure => have := HJ3.out; have := HK2.out; omega
         case rel => exact ⟨(y269), (wrap64 (x11_2 + 1)), (by first | rfl | (simp; done) | (simp [*]; done)), H', ⟨by have := HJ3.out; have := HK2.out; omega⟩, ⟨by (with_reducible repeat (first | apply Kd.V_alloc | apply Kd.V_drewN | apply Kd.V_drew)); exact Kd.V_mono HO_9.out (fun _ hk => ⟨hk.2, hk.1⟩)⟩, ⟨by (with_reducible repeat (first | apply Kd.R_alloc | apply Kd.R_drewN | apply Kd.R_drew)); exact HO271.out⟩, ⟨by refine bku ?_; exact BK262.out⟩, ⟨by repeat (first | (with_reducible first | exact HB.out | apply below_alloc | apply pw_below_drewN | apply below_drew1 | refine below_set ?_ GE262.out) | exact HB.out)⟩⟩
        ·rw [if_neg c19] at H
         exact absurd H (by simp)
       ·rw [if_neg c18] at H
        have c18b0 : decide (x11_2 < (wrap64 (1 + (Int.tmod (wrap64 (a1)) 12)))) = false := decide_eq_false c18
        clear c18
        have H' := aA H
        clear H
        go_wp2_with (first | ((with_reducible refine gate_dst (N := 12) rfl ?_); refine box_event ?hg (N := 12) ?hd (cs := #[.int .i64 0, .int .u64 0, .int .u64 0]) (t := 56) ?hr ?_; (case hd => rfl); (case hg => rfl); (case hr => first | (go_simp; done) | (go_simp; rfl)); intro gb272 hg w21 hbox hb; have n0_ := aA (Kd.V_below (Kd.V_elderB (vlu HO_9.out) gb272 (Nat.le_of_eq hg.symm)) hb); have n1_ := aA (Kd.R_below (rlu HO_10.out) hb); have n2_ := aA (blk_below (g := gb262) (o := .cells #[.int .i64 1, .int .i64 (wrap64 (1 + (Int.tmod (wrap64 (a0)) 4)))] 38 (0, 0)) (bku BK262.out) hb); have n3_ := aA (below_step (bls HB.out) hb); have n4_ := aA (hbox); have n5_ := aA ((by rw [hg]; exact (below_size (bls HB.out)) : w.heap.size ≤ gb272)); have n6_ := aA ((by rw [hg]; exact (below_size (bls HB.out)) : w.heap.size ≤ gb272)); have n7_ := aA ((by rw [hg]; exact Nat.ne_of_lt (blk_lt (g := gb262) (o := .cells #[.int .i64 1, .int .i64 (wrap64 (1 + (Int.tmod (wrap64 (a0)) 4)))] 38 (0, 0)) (bku BK262.out)) : gb262 ≠ gb272)); have n8_ := aA ((by rw [hg]; exact Nat.ne_of_gt (blk_lt (g := gb262) (o := .cells #[.int .i64 1, .int .i64 (wrap64 (1 + (Int.tmod (wrap64 (a0)) 4)))] 38 (0, 0)) (bku BK262.out)) : gb272 ≠ gb262)); clear HO_9 HO_10 BK262 HB; have HO_9 := n0_; have HO_10 := n1_; have BK262 := n2_; have HB := n3_; have BK272 := n4_; have GW272 := n5_; have GE272 := n6_; have NB262_272 := n7_; have NB272_262 := n8_; clear n0_ n1_ n2_ n3_ n4_ n5_ n6_ n7_ n8_ hb hbox hg; have hnb22 := NB272_262.out; have hnc22 := NB262_272.out; have hcz23_0 : w21.cell? ⟨gb272, 0, none⟩ = some (.int .i64 0) := (blk_cell BK272.out 0).trans rfl; have hcz23_1 : w21.cell? ⟨gb272, 1, none⟩ = some (.int .u64 0) := (blk_cell BK272.out 1).trans rfl; have hcz23_2 : w21.cell? ⟨gb272, 2, none⟩ = some (.int .u64 0) := (blk_cell BK272.out 2).trans rfl; have hfz23_0 := blk_frozen BK272.out 0; have hfz23_1 := blk_frozen BK272.out 1; have hfz23_2 := blk_frozen BK272.out 2))
        go_loopg [9, 13, 14] k2 (fun kq v9 v13 v14 w' => ∃ (x9_3 : List Int) (x10_3 : List (S54)) (x13_3 : Int) (x14_3 : Int) (x273000_3 : Int) (x273001_3 : Int) (x273002_3 : Int), v13 = .int .i64 x13_3 ∧ v14 = .int .i64 x14_3 ∧ Aside0 (treillagelaw16_QueueAll.l1 kq l2 (wrap64 (1 + (Int.tmod (wrap64 (a1)) 12))) x9_3 x10_3 x13_3 x14_3 1 (wrap64 (1 + (Int.tmod (wrap64 (a0)) 4))) x273000_3 x273001_3 x273002_3 = some r) ∧ Aside0 (kq ≤ k2) ∧ Aside0 (Kd.V (Kd.int .u64) 23 w' w.heap.size (fun k_ => some k_ ≠ (u10 : Value).ownBlock ∧ k_ ≠ gb262 ∧ k_ ≠ gb272) v9 x9_3) ∧ Aside0 (Kd.R k54 54 w' w.heap.size (fun _ => True) u10 x10_3) ∧ Aside0 (w'.heap[gb262]? = some (.cells #[.int .i64 1, .int .i64 (wrap64 (1 + (Int.tmod (wrap64 (a0)) 4)))] 38 (0, 0))) ∧ Aside0 (w'.heap[gb272]? = some (.cells #[.int .i64 x273000_3, .int .u64 x273001_3, .int .u64 x273002_3] 56 (0, 0))) ∧ Aside0 (Below w.heap.size w w'))
        case atStart => exact ⟨(t263), (x10_2), (0), (0), (0), (0), (0), (by first | rfl | (simp; done) | (simp [*]; done)), (by first | rfl | (simp; done) | (simp [*]; done)), H', ⟨Nat.le_refl _⟩, ⟨by (with_reducible repeat (first | apply Kd.V_alloc | apply Kd.V_drewN | apply Kd.V_drew)); exact Kd.V_mono (Kd.V_far (p := ⟨gb272, 2, none⟩) (Kd.V_far (p := ⟨gb272, 1, none⟩) (Kd.V_far (p := ⟨gb272, 0, none⟩) (Kd.V_mono HO_9.out (fun k_ hk => (⟨hk, hk.2⟩ : _ ∧ k_ ≠ gb272))) (fun _ hk => hk.2) (.int .i64 0)) (fun _ hk => hk.2) (.int .u64 0)) (fun _ hk => hk.2) (.int .u64 0)) (fun _ hk => ⟨hk.1.1.1, ⟨hk.1.1.2, hk.1.2⟩⟩)⟩, ⟨by (with_reducible repeat (first | apply Kd.R_alloc | apply Kd.R_drewN | apply Kd.R_drew)); exact Kd.R_mono (Kd.R_far (p := ⟨gb272, 2, none⟩) (Kd.R_far (p := ⟨gb272, 1, none⟩) (Kd.R_far (p := ⟨gb272, 0, none⟩) (Kd.R_types HO_10.out BK272.out (by decide)) (fun _ hk => hk.2) (.int .i64 0)) (fun _ hk => hk.2) (.int .u64 0)) (fun _ hk => hk.2) (.int .u64 0)) (fun _ hk => trivial)⟩, ⟨by refine bku ?_; refine blk_far ?_ NB262_272.out _; refine bku ?_; refine blk_far ?_ NB262_272.out _; refine bku ?_; refine blk_far ?_ NB262_272.out _; refine bku ?_; exact BK262.out⟩, ⟨by refine bku ?_; refine blk_put (cs := #[.int .i64 0, .int .u64 0, .int .u64 0]) ?_ 2 _ rfl; refine bku ?_; refine blk_put (cs := #[.int .i64 0, .int .u64 0, .int .u64 0]) ?_ 1 _ rfl; refine bku ?_; refine blk_put (cs := #[.int .i64 0, .int .u64 0, .int .u64 0]) ?_ 0 _ rfl; refine bku ?_; exact BK272.out⟩, ⟨by repeat (first | (with_reducible first | exact HB.out | apply below_alloc | apply pw_below_drewN | apply below_drew1 | refine below_set ?_ GE262.out | refine below_set ?_ GE272.out) | exact HB.out)⟩⟩
        case round =>
         clear H'
         try clear c1
         try clear c2
         try clear p2
         try clear c3
         try clear c4
         try clear c5
         try clear c5b0
         try clear c5b1
         try clear p6
         try clear c8
         try clear c11
         try clear c12
         try clear c12b0
         try clear c12b1
         try clear c18
         try clear c18b0
         try clear c19
         try clear c22
         try clear hcz14_0
         try clear hcz14_1
         try clear hcz23_0
         try clear hcz23_1
         try clear hcz23_2
         try clear hfz14_0
         try clear hfz14_1
         try clear hfz23_0
         try clear hfz23_1
         try clear hfz23_2
         try clear p2
         try clear p6
         obtain ⟨x9_3, x10_3, x13_3, x14_3, x273000_3, x273001_3, x273002_3, rfl, rfl, HA, HK3, HO_9, HO_10, BK262, BK272, HB⟩ := hrel
         cases gk with
         | zero => exact absurd HA.out (by simp [treillagelaw16_QueueAll.l1])
         | succ k3 =>
          have H := HA.out
          clear HA
          simp only [treillagelaw16_QueueAll.l1] at H
          by_cases c24 : x14_3 < (wrap64 ((l2.length : Int) + (wrap64 (60 * (wrap64 (1 + (Int.tmod (wrap64 (a1)) 12)))))))
          ·rw [if_pos c24] at H
           have c24b0 : decide (x14_3 < (wrap64 ((l2.length : Int) + (wrap64 (60 * (wrap64 (1 + (Int.tmod (wrap64 (a1)) 12)))))))) = true := decide_eq_true c24
           clear c24
           by_cases c25 : (wrap64 ((wrap64 (1 + (Int.tmod (wrap64 (a1)) 12))) + 1)) = 0
           ·rw [if_pos c25] at H
            exact absurd H (by simp)
           ·rw [if_neg c25] at H
            have c25b0 : ((wrap64 ((wrap64 (1 + (Int.tmod (wrap64 (a1)) 12))) + 1)) == 0) = false := beq_eq_false_iff_ne.mpr c25
            have c25b1 : ((wrap64 ((wrap64 (1 + (Int.tmod (wrap64 (a1)) 12))) + 1)) != 0) = true := bne_iff_ne.mpr c25
            have HC26 := aA H
            clear H
            go_upto_if 82 with (fail)
            go_cut [15] (fun v15 wc => ∃ (kq : Nat) (x15_25 : Int), v15 = .int .i64 x15_25 ∧ Aside0 (treillagelaw16_QueueAll.j3 kq l2 (wrap64 (1 + (Int.tmod (wrap64 (a1)) 12))) x9_3 x10_3 x13_3 x14_3 x15_25 1 (wrap64 (1 + (Int.tmod (wrap64 (a0)) 4))) x273000_3 x273001_3 x273002_3 = some r) ∧ Aside0 (kq ≤ k3) ∧ Aside0 (Kd.V (Kd.int .u64) 23 wc w.heap.size (fun k_ => some k_ ≠ (u10 : Value).ownBlock ∧ k_ ≠ gb262 ∧ k_ ≠ gb272) u9 x9_3) ∧ Aside0 (Kd.R k54 54 wc w.heap.size (fun _ => True) u10 x10_3) ∧ Aside0 (wc.heap[gb262]? = some (.cells #[.int .i64 1, .int .i64 (wrap64 (1 + (Int.tmod (wrap64 (a0)) 4)))] 38 (0, 0))) ∧ Aside0 (wc.heap[gb272]? = some (.cells #[.int .i64 x273000_3, .int .u64 x273001_3, .int .u64 x273002_3] 56 (0, 0))) ∧ Aside0 (Below w.heap.size w wc))
            case first =>
             have H := HC26.out
             clear HC26
             by_cases c27 : x14_3 < (l2.length : Int)
             ·rw [if_pos c27] at H
              have c27b0 : decide (x14_3 < (l2.length : Int)) = true := decide_eq_true c27
              clear c27
              (first | rw [c27b0] | (simp only [i64_w, i32_w]; rw [c27b0]) | skip)
              by_cases c28 : 0 ≤ x14_3
              ·rw [if_pos c28] at H
               have c28b0 : decide (0 ≤ x14_3) = true := decide_eq_true c28
               clear c28
               have H' := aA H
               clear H
               have p273 : 0 ≤ (x14_3 : Int) := of_decide_eq_true (by first | (with_reducible assumption) | assumption)
               have q273 : x14_3 < (l2.length : Int) := of_decide_eq_true (by first | (with_reducible assumption) | assumption)
               obtain ⟨ad273, e273, hx273_0⟩ := Kd.at_int HR2.out x14_3 p273 q273
               cases e273
               replace hx273_0 := (HB.out.cell (World.block_lt_of_cell? w _ hx273_0)).trans hx273_0
               replace p273 := eq_true p273
               replace q273 := eq_true q273
               go_wp2
               go_meet
               case rel => exact ⟨_, (Int.tmod (wrap64 (rd l2 x14_3)) (wrap64 ((wrap64 (1 + (Int.tmod (wrap64 (a1)) 12))) + 1))), (by first | rfl | (simp; done) | (simp [*]; done)), H', ⟨by have := HJ3.out; have := HK2.out; have := HK3.out; first | omega | exact Nat.le_refl _⟩, ⟨by (with_reducible repeat (first | apply Kd.V_alloc | apply Kd.V_drewN | apply Kd.V_drew)); exact HO_9.out⟩, ⟨by (with_reducible repeat (first | apply Kd.R_alloc | apply Kd.R_drewN | apply Kd.R_drew)); exact HO_10.out⟩, ⟨by refine bku ?_; exact BK262.out⟩, ⟨by refine bku ?_; exact BK272.out⟩, ⟨by repeat (first | (with_reducible first | exact HB.out | apply below_alloc | apply pw_below_drewN | apply below_drew1 | refine below_set ?_ GE262.out | refine below_set ?_ GE272.out) | exact HB.out)⟩⟩
              ·rw [if_neg c28] at H
               exact absurd H (by simp)
             ·rw [if_neg c27] at H
              have c27b0 : decide (x14_3 < (l2.length : Int)) = false := decide_eq_false c27
              clear c27
              (first | rw [c27b0] | (simp only [i64_w, i32_w]; rw [c27b0]) | skip)
              have H' := aA H
              clear H
              go_wp2
              go_meet
              case rel => exact ⟨_, (Int.tmod x14_3 (wrap64 ((wrap64 (1 + (Int.tmod (wrap64 (a1)) 12))) + 1))), (by first | rfl | (simp; done) | (simp [*]; done)), H', ⟨by have := HJ3.out; have := HK2.out; have := HK3.out; first | omega | exact Nat.le_refl _⟩, ⟨by (with_reducible repeat (first | apply Kd.V_alloc | apply Kd.V_drewN | apply Kd.V_drew)); exact HO_9.out⟩, ⟨by (with_reducible repeat (first | apply Kd.R_alloc | apply Kd.R_drewN | apply Kd.R_drew)); exact HO_10.out⟩, ⟨by refine bku ?_; exact BK262.out⟩, ⟨by refine bku ?_; exact BK272.out⟩, ⟨by repeat (first | (with_reducible first | exact HB.out | apply below_alloc | apply pw_below_drewN | apply below_drew1 | refine below_set ?_ GE262.out | refine below_set ?_ GE272.out) | exact HB.out)⟩⟩
            case rest =>
             clear HC26
             try clear c1
             try clear c2
             try clear p2
             try clear q2
             try clear hx2
             try clear c3
             try clear c4
             try clear c5
             try clear c5b0
             try clear c5b1
             try clear p6
             try clear c8
             try clear c11
             try clear c12
             try clear c12b0
             try clear c12b1
             try clear c18
             try clear c18b0
             try clear c19
             try clear c22
             try clear c24
             try clear c24b0
             try clear c25
             try clear c25b0
             try clear c25b1
             try clear c27
             try clear c27b0
             try clear p27
             try clear q27
             try clear hx27
             try clear c28
             try clear c28b0
             try clear hcz14_0
             try clear hcz14_1
             try clear hcz23_0
             try clear hcz23_1
             try clear hcz23_2
             try clear hfz14_0
             try clear hfz14_1
             try clear hfz23_0
             try clear hfz23_1
             try clear hfz23_2
             try clear hx273_0
             try clear p2
             try clear p273
             try clear p6
             try clear q273
             obtain ⟨kq, x15_25, rfl, HA, HJ25, HO_9, HO_10, BK262, BK272, HB⟩ := hcut
             cases kq with
             | zero => exact absurd HA.out (by simp [treillagelaw16_QueueAll.j3])
             | succ kj25 =>
              have H := HA.out
              clear HA
              simp only [treillagelaw16_QueueAll.j3] at H
              by_cases c29 : x15_25 = (wrap64 (1 + (Int.tmod (wrap64 (a1)) 12)))
              ·rw [if_pos c29] at H
               have c29b0 : (x15_25 == (wrap64 (1 + (Int.tmod (wrap64 (a1)) 12)))) = true := beq_iff_eq.mpr c29
               have c29b1 : (x15_25 != (wrap64 (1 + (Int.tmod (wrap64 (a1)) 12)))) = false := bne_eq_false_iff_eq.mpr c29
               clear c29
               replace H := Option.bind_eq_some_iff.mp H
               obtain ⟨⟨t274, t275, t276, t277⟩, A300, H⟩ := H
               replace H : ((mem_Do.f x9_3 t274 t275 t276 t277).bind fun bt278 => ((queue_Given.f kj25 1 (wrap64 (1 + (Int.tmod (wrap64 (a0)) 4))) x273000_3 x273001_3 x273002_3 bt278.2.1).bind fun bt283 => (if bt283.2.2.2 = true then (treillagelaw16_QueueAll.l1 kj25 l2 (wrap64 (1 + (Int.tmod (wrap64 (a1)) 12))) bt278.1 x10_3 (wrap64 (x13_3 + 1)) (wrap64 (x14_3 + 1)) 1 (wrap64 (1 + (Int.tmod (wrap64 (a0)) 4))) bt283.1 bt283.2.1 bt283.2.2.1) else (treillagelaw16_QueueAll.l1 kj25 l2 (wrap64 (1 + (Int.tmod (wrap64 (a1)) 12))) bt278.1 x10_3 x13_3 (wrap64 (x14_3 + 1)) 1 (wrap64 (1 + (Int.tmod (wrap64 (a0)) 4))) bt283.1 bt283.2.1 bt283.2.2.1)))) = some r := H
               have A30 := aA A300
               clear A300
               replace H := Option.bind_eq_some_iff.mp H
               obtain ⟨⟨t278, t281, t282⟩, A310, H⟩ := H
               replace H : ((queue_Given.f kj25 1 (wrap64 (1 + (Int.tmod (wrap64 (a0)) 4))) x273000_3 x273001_3 x273002_3 t281).bind fun bt283 => (if bt283.2.2.2 = true then (treillagelaw16_QueueAll.l1 kj25 l2 (wrap64 (1 + (Int.tmod (wrap64 (a1)) 12))) t278 x10_3 (wrap64 (x13_3 + 1)) (wrap64 (x14_3 + 1)) 1 (wrap64 (1 + (Int.tmod (wrap64 (a0)) 4))) bt283.1 bt283.2.1 bt283.2.2.1) else (treillagelaw16_QueueAll.l1 kj25 l2 (wrap64 (1 + (Int.tmod (wrap64 (a1)) 12))) t278 x10_3 x13_3 (wrap64 (x14_3 + 1)) 1 (wrap64 (1 + (Int.tmod (wrap64 (a0)) 4))) bt283.1 bt283.2.1 bt283.2.2.1))) = some r := H
               have A31 := aA A310
               clear A310
               replace H := Option.bind_eq_some_iff.mp H
               obtain ⟨⟨t283, t284, t285, t286⟩, A320, H⟩ := H
               replace H : (if t286 = true then (treillagelaw16_QueueAll.l1 kj25 l2 (wrap64 (1 + (Int.tmod (wrap64 (a1)) 12))) t278 x10_3 (wrap64 (x13_3 + 1)) (wrap64 (x14_3 + 1)) 1 (wrap64 (1 + (Int.tmod (wrap64 (a0)) 4))) t283 t284 t285) else (treillagelaw16_QueueAll.l1 kj25 l2 (wrap64 (1 + (Int.tmod (wrap64 (a1)) 12))) t278 x10_3 x13_3 (wrap64 (x14_3 + 1)) 1 (wrap64 (1 + (Int.tmod (wrap64 (a0)) 4))) t283 t284 t285)) = some r := H
               have A32 := aA A320
               clear A320
               by_cases c33 : t286 = true
               ·subst c33
                have H1 : (treillagelaw16_QueueAll.l1 kj25 l2 (wrap64 (1 + (Int.tmod (wrap64 (a1)) 12))) t278 x10_3 (wrap64 (x13_3 + 1)) (wrap64 (x14_3 + 1)) 1 (wrap64 (1 + (Int.tmod (wrap64 (a0)) 4))) t283 t284 t285) = some r := by rw [if_pos rfl] at H; exact H
                clear H
                have H := H1
                clear H1
                have H' := aA H
                clear H
                have hnb34 := NB262_272.out
                have hnc34 := NB272_262.out
                have hcz35_0 : wc.cell? ⟨gb262, 0, none⟩ = some (.int .i64 1) := (blk_cell BK262.out 0).trans rfl
                have hcz35_1 : wc.cell? ⟨gb262, 1, none⟩ = some (.int .i64 (wrap64 (1 + (Int.tmod (wrap64 (a0)) 4)))) := (blk_cell BK262.out 1).trans rfl
                have hfz35_0 := blk_frozen BK262.out 0
                have hfz35_1 := blk_frozen BK262.out 1
                have hcz36_0 : wc.cell? ⟨gb272, 0, none⟩ = some (.int .i64 x273000_3) := (blk_cell BK272.out 0).trans rfl
                have hcz36_1 : wc.cell? ⟨gb272, 1, none⟩ = some (.int .u64 x273001_3) := (blk_cell BK272.out 1).trans rfl
                have hcz36_2 : wc.cell? ⟨gb272, 2, none⟩ = some (.int .u64 x273002_3) := (blk_cell BK272.out 2).trans rfl
                have hfz36_0 := blk_frozen BK272.out 0
                have hfz36_1 := blk_frozen BK272.out 1
                have hfz36_2 := blk_frozen BK272.out 2
                go_wp2_with (first | ((with_reducible refine gate_callee (f := 53) rfl ?_); refine goesL_ (some 98) rfl rfl Try.func53 (by kernel_rfl) rfl #[.agg #[.int .i64 1, .int .i64 (wrap64 (1 + (Int.tmod (wrap64 (a0)) 4)))], .agg #[.int .i64 x273000_3, .int .u64 x273001_3, .int .u64 x273002_3]] rfl (by (try simp only [List.map_toArray, List.map_cons, List.map_nil]); first | done | rfl | (simp only [List.length_drop, List.length_take]; rfl)) ?_; (with_reducible refine (queue_Next.calls 1 (wrap64 (1 + (Int.tmod (wrap64 (a0)) 4))) x273000_3 x273001_3 x273002_3 t274 t275 t276 t277 _ A30.out).mono ?_); rintro e w37 ⟨rfl, hb⟩; refine ⟨_, rfl, ?_⟩; have n0_ := aA (Kd.V_below (vlu HO_9.out) hb); have n1_ := aA (Kd.R_below (rlu HO_10.out) hb); have n2_ := aA (blk_below (g := gb262) (o := .cells #[.int .i64 1, .int .i64 (wrap64 (1 + (Int.tmod (wrap64 (a0)) 4)))] 38 (0, 0)) (bku BK262.out) hb); have n3_ := aA (blk_below (g := gb272) (o := .cells #[.int .i64 x273000_3, .int .u64 x273001_3, .int .u64 x273002_3] 56 (0, 0)) (bku BK272.out) hb); have n4_ := aA (below_step (bls HB.out) hb); clear HO_9 HO_10 BK262 BK272 HB; have HO_9 := n0_; have HO_10 := n1_; have BK262 := n2_; have BK272 := n3_; have HB := n4_; clear n0_ n1_ n2_ n3_ n4_; (try clear hb); (try clear hb2); (try clear hk); (try clear hi); obtain ⟨Ao38, co38, eo38⟩ := Kd.V_slice HO_9.out; subst eo38) | ((with_reducible refine gate_callee (f := 15) rfl ?_); refine goesL_ (some 99) rfl rfl Try.func15 (by kernel_rfl) rfl #[.slice Ao38 x9_3.length co38, .agg #[.int .i64 t274, .int .i64 t275, .int .u64 t276, .int .u64 t277]] rfl (by (try simp only [List.map_toArray, List.map_cons, List.map_nil]); first | done | rfl | (simp only [List.length_drop, List.length_take]; rfl)) ?_; (with_reducible refine (mem_Do.calls (fun k_ => (some k_ ≠ (u10 : Value).ownBlock ∧ (k_ ≠ gb262 ∧ k_ ≠ gb272))) _ _ x9_3 t274 t275 t276 t277 t278 t281 t282 _ ?side1 A31.out).mono ?_); (case side1 => exact HO_9.out); rintro e w39 ⟨v279, rfl, ho0, hb⟩; refine ⟨_, rfl, ?_⟩; have n0_ := aA (Kd.V_below (vlu HO_9.out) hb); have n1_ := aA (Kd.R_below (rlu HO_10.out) hb); have n2_ := aA (Kd.V_lower (Kd.V_mono (ok' := fun k_ => some k_ ≠ (u10 : Value).ownBlock ∧ k_ ≠ gb262 ∧ k_ ≠ gb272) ho0 (fun k_ hk_ => ⟨Or.elim hk_ (fun hs_ => hs_.1) (fun hn_ => (Kd.fresh' (Kd.R_lt (rlu HO_10.out)) k_ hn_)), Or.elim hk_ (fun hs_ => hs_.2.1) (fun hn_ => (Kd.freshB (g := gb262) (o := .cells #[.int .i64 1, .int .i64 (wrap64 (1 + (Int.tmod (wrap64 (a0)) 4)))] 38 (0, 0)) (bku BK262.out) k_ hn_)), Or.elim hk_ (fun hs_ => hs_.2.2) (fun hn_ => (Kd.freshB (g := gb272) (o := .cells #[.int .i64 x273000_3, .int .u64 x273001_3, .int .u64 x273002_3] 56 (0, 0)) (bku BK272.out) k_ hn_))⟩)) (below_size (bls HB.out))); have n3_ := aA (blk_below (g := gb262) (o := .cells #[.int .i64 1, .int .i64 (wrap64 (1 + (Int.tmod (wrap64 (a0)) 4)))] 38 (0, 0)) (bku BK262.out) hb); have n4_ := aA (blk_below (g := gb272) (o := .cells #[.int .i64 x273000_3, .int .u64 x273001_3, .int .u64 x273002_3] 56 (0, 0)) (bku BK272.out) hb); have n5_ := aA (below_step (bls HB.out) hb); clear HO_9 HO_10 BK262 BK272 HB; have HO_9 := n0_; have HO_10 := n1_; have HO280 := n2_; have BK262 := n3_; have BK272 := n4_; have HB := n5_; clear n0_ n1_ n2_ n3_ n4_ n5_; (try clear hb); (try clear hb2); (try clear hk); (try clear hi); (try clear ho0); have hcz40_0 : w39.cell? ⟨gb262, 0, none⟩ = some (.int .i64 1) := (blk_cell BK262.out 0).trans rfl; have hcz40_1 : w39.cell? ⟨gb262, 1, none⟩ = some (.int .i64 (wrap64 (1 + (Int.tmod (wrap64 (a0)) 4)))) := (blk_cell BK262.out 1).trans rfl; have hfz40_0 := blk_frozen BK262.out 0; have hfz40_1 := blk_frozen BK262.out 1; have hcz41_0 : w39.cell? ⟨gb272, 0, none⟩ = some (.int .i64 x273000_3) := (blk_cell BK272.out 0).trans rfl; have hcz41_1 : w39.cell? ⟨gb272, 1, none⟩ = some (.int .u64 x273001_3) := (blk_cell BK272.out 1).trans rfl; have hcz41_2 : w39.cell? ⟨gb272, 2, none⟩ = some (.int .u64 x273002_3) := (blk_cell BK272.out 2).trans rfl; have hfz41_0 := blk_frozen BK272.out 0; have hfz41_1 := blk_frozen BK272.out 1; have hfz41_2 := blk_frozen BK272.out 2) | ((with_reducible refine gate_callee (f := 49) rfl ?_); refine goesL_ (some 108) rfl rfl Try.func49 (by kernel_rfl) rfl #[.agg #[.int .i64 1, .int .i64 (wrap64 (1 + (Int.tmod (wrap64 (a0)) 4)))], .agg #[.int .i64 x273000_3, .int .u64 x273001_3, .int .u64 x273002_3], .int .u64 t281] rfl (by (try simp only [List.map_toArray, List.map_cons, List.map_nil]); first | done | rfl | (simp only [List.length_drop, List.length_take]; rfl)) ?_; (with_reducible refine (queue_Given.calls kj25 1 (wrap64 (1 + (Int.tmod (wrap64 (a0)) 4))) x273000_3 x273001_3 x273002_3 t281 t283 t284 t285 true _ A32.out).mono ?_); rintro e w42 ⟨rfl, hb⟩; refine ⟨_, rfl, ?_⟩; have n0_ := aA (Kd.V_below (vlu HO_9.out) hb); have n1_ := aA (Kd.R_below (rlu HO_10.out) hb); have n2_ := aA (Kd.V_below (vlu HO280.out) hb); have n3_ := aA (blk_below (g := gb262) (o := .cells #[.int .i64 1, .int .i64 (wrap64 (1 + (Int.tmod (wrap64 (a0)) 4)))] 38 (0, 0)) (bku BK262.out) hb); have n4_ := aA (blk_below (g := gb272) (o := .cells #[.int .i64 x273000_3, .int .u64 x273001_3, .int .u64 x273002_3] 56 (0, 0)) (bku BK272.out) hb); have n5_ := aA (below_step (bls HB.out) hb); clear HO_9 HO_10 HO280 BK262 BK272 HB; have HO_9 := n0_; have HO_10 := n1_; have HO280 := n2_; have BK262 := n3_; have BK272 := n4_; have HB := n5_; clear n0_ n1_ n2_ n3_ n4_ n5_; (try clear hb); (try clear hb2); (try clear hk); (try clear hi)) | ((with_reducible refine gate_dst (N := 19) rfl ?_); refine box_event ?hg (N := 19) ?hd (cs := #[.int .i64 0, .int .u64 0, .int .u64 0]) (t := 56) ?hr ?_; (case hd => rfl); (case hg => rfl); (case hr => first | (go_simp; done) | (go_simp; rfl)); intro gb287 hg w43 hbox hb; have n0_ := aA (Kd.V_below (Kd.V_elderB (vlu HO_9.out) gb287 (Nat.le_of_eq hg.symm)) hb); have n1_ := aA (Kd.R_below (rlu HO_10.out) hb); have n2_ := aA (Kd.V_below (Kd.V_elderB (vlu HO280.out) gb287 (Nat.le_of_eq hg.symm)) hb); have n3_ := aA (blk_below (g := gb262) (o := .cells #[.int .i64 1, .int .i64 (wrap64 (1 + (Int.tmod (wrap64 (a0)) 4)))] 38 (0, 0)) (bku BK262.out) hb); have n4_ := aA (blk_below (g := gb272) (o := .cells #[.int .i64 x273000_3, .int .u64 x273001_3, .int .u64 x273002_3] 56 (0, 0)) (bku BK272.out) hb); have n5_ := aA (below_step (bls HB.out) hb); have n6_ := aA (hbox); have n7_ := aA ((by rw [hg]; exact (below_size (bls HB.out)) : w.heap.size ≤ gb287)); have n8_ := aA ((by rw [hg]; exact (below_size (bls HB.out)) : w.heap.size ≤ gb287)); have n9_ := aA ((by rw [hg]; exact Nat.ne_of_lt (blk_lt (g := gb262) (o := .cells #[.int .i64 1, .int .i64 (wrap64 (1 + (Int.tmod (wrap64 (a0)) 4)))] 38 (0, 0)) (bku BK262.out)) : gb262 ≠ gb287)); have n10_ := aA ((by rw [hg]; exact Nat.ne_of_gt (blk_lt (g := gb262) (o := .cells #[.int .i64 1, .int .i64 (wrap64 (1 + (Int.tmod (wrap64 (a0)) 4)))] 38 (0, 0)) (bku BK262.out)) : gb287 ≠ gb262)); have n11_ := aA ((by rw [hg]; exact Nat.ne_of_lt (blk_lt (g := gb272) (o := .cells #[.int .i64 x273000_3, .int .u64 x273001_3, .int .u64 x273002_3] 56 (0, 0)) (bku BK272.out)) : gb272 ≠ gb287)); have n12_ := aA ((by rw [hg]; exact Nat.ne_of_gt (blk_lt (g := gb272) (o := .cells #[.int .i64 x273000_3, .int .u64 x273001_3, .int .u64 x273002_3] 56 (0, 0)) (bku BK272.out)) : gb287 ≠ gb272)); clear HO_9 HO_10 HO280 BK262 BK272 HB; have HO_9 := n0_; have HO_10 := n1_; have HO280 := n2_; have BK262 := n3_; have BK272 := n4_; have HB := n5_; have BK287 := n6_; have GW287 := n7_; have GE287 := n8_; have NB262_287 := n9_; have NB287_262 := n10_; have NB272_287 := n11_; have NB287_272 := n12_; clear n0_ n1_ n2_ n3_ n4_ n5_ n6_ n7_ n8_ n9_ n10_ n11_ n12_ hb hbox hg; have hnb44 := NB287_262.out; have hnc44 := NB262_287.out; have hnb45 := NB287_272.out; have hnc45 := NB272_287.out; have hcz46_0 : w43.cell? ⟨gb287, 0, none⟩ = some (.int .i64 0) := (blk_cell BK287.out 0).trans rfl; have hcz46_1 : w43.cell? ⟨gb287, 1, none⟩ = some (.int .u64 0) := (blk_cell BK287.out 1).trans rfl; have hcz46_2 : w43.cell? ⟨gb287, 2, none⟩ = some (.int .u64 0) := (blk_cell BK287.out 2).trans rfl; have hfz46_0 := blk_frozen BK287.out 0; have hfz46_1 := blk_frozen BK287.out 1; have hfz46_2 := blk_frozen BK287.out 2; have hcz47_0 : w43.cell? ⟨gb272, 0, none⟩ = some (.int .i64 x273000_3) := (blk_cell BK272.out 0).trans rfl; have hcz47_1 : w43.cell? ⟨gb272, 1, none⟩ = some (.int .u64 x273001_3) := (blk_cell BK272.out 1).trans rfl; have hcz47_2 : w43.cell? ⟨gb272, 2, none⟩ = some (.int .u64 x273002_3) := (blk_cell BK272.out 2).trans rfl; have hfz47_0 := blk_frozen BK272.out 0; have hfz47_1 := blk_frozen BK272.out 1; have hfz47_2 := blk_frozen BK272.out 2))
                go_roundg kj25
                case measure => have := HJ3.out; have := HK2.out; have := HK3.out; have := HJ25.out; omega
                case rel => exact ⟨(t278), (x10_3), (wrap64 (x13_3 + 1)), (wrap64 (x14_3 + 1)), (t283), (t284), (t285), (by first | rfl | (simp; done) | (simp [*]; done)), (by first | rfl | (simp; done) | (simp [*]; done)), H', ⟨by have := HJ3.out; have := HK2.out; have := HK3.out; have := HJ25.out; omega⟩, ⟨by (with_reducible repeat (first | apply Kd.V_alloc | apply Kd.V_drewN | apply Kd.V_drew)); exact Kd.V_mono (Kd.V_far (p := ⟨gb272, 2, none⟩) (Kd.V_far (p := ⟨gb272, 1, none⟩) (Kd.V_far (p := ⟨gb272, 0, none⟩) (Kd.V_far (p := ⟨gb287, 2, none⟩) (Kd.V_far (p := ⟨gb287, 1, none⟩) (Kd.V_far (p := ⟨gb287, 0, none⟩) (Kd.V_mono (Kd.V_mono HO280.out (fun k_ hk => (⟨hk, hk.2⟩ : _ ∧ k_ ≠ gb287))) (fun k_ hk => (⟨hk, hk.1.1.2.2⟩ : _ ∧ k_ ≠ gb272))) (fun _ hk => hk.1.2) (.int .i64 t283)) (fun _ hk => hk.1.2) (.int .u64 t284)) (fun _ hk => hk.1.2) (.int .u64 t285)) (fun _ hk => hk.2) (.int .i64 t283)) (fun _ hk => hk.2) (.int .u64 t284)) (fun _ hk => hk.2) (.int .u64 t285)) (fun _ hk => ⟨hk.1.1.1.1, ⟨hk.1.1.1.2.1, hk.1.1.1.2.2⟩⟩)⟩, ⟨by (with_reducible repeat (first | apply Kd.R_alloc | apply Kd.R_drewN | apply Kd.R_drew)); exact Kd.R_mono (Kd.R_far (p := ⟨gb272, 2, none⟩) (Kd.R_far (p := ⟨gb272, 1, none⟩) (Kd.R_far (p := ⟨gb272, 0, none⟩) (Kd.R_far (p := ⟨gb287, 2, none⟩) (Kd.R_far (p := ⟨gb287, 1, none⟩) (Kd.R_far (p := ⟨gb287, 0, none⟩) (Kd.R_types (Kd.R_types HO_10.out BK287.out (by decide)) BK272.out (by decide)) (fun _ hk => hk.1.2) (.int .i64 t283)) (fun _ hk => hk.1.2) (.int .u64 t284)) (fun _ hk => hk.1.2) (.int .u64 t285)) (fun _ hk => hk.2) (.int .i64 t283)) (fun _ hk => hk.2) (.int .u64 t284)) (fun _ hk => hk.2) (.int .u64 t285)) (fun _ hk => trivial)⟩, ⟨by refine bku ?_; refine blk_far ?_ NB262_272.out _; refine bku ?_; refine blk_far ?_ NB262_272.out _; refine bku ?_; refine blk_far ?_ NB262_272.out _; refine bku ?_; refine blk_far ?_ NB262_287.out _; refine bku ?_; refine blk_far ?_ NB262_287.out _; refine bku ?_; refine blk_far ?_ NB262_287.out _; refine bku ?_; exact BK262.out⟩, ⟨by refine bku ?_; refine blk_put (cs := #[.int .i64 t283, .int .u64 t284, .int .u64 x273002_3]) ?_ 2 _ rfl; refine bku ?_; refine blk_put (cs := #[.int .i64 t283, .int .u64 x273001_3, .int .u64 x273002_3]) ?_ 1 _ rfl; refine bku ?_; refine blk_put (cs := #[.int .i64 x273000_3, .int .u64 x273001_3, .int .u64 x273002_3]) ?_ 0 _ rfl; refine bku ?_; refine blk_far ?_ NB272_287.out _; refine bku ?_; refine blk_far ?_ NB272_287.out _; refine bku ?_; refine blk_far ?_ NB272_287.out _; refine bku ?_; exact BK272.out⟩, ⟨by repeat (first | (with_reducible first | exact HB.out | apply below_alloc | apply pw_below_drewN | apply below_drew1 | refine below_set ?_ GE262.out | refine below_set ?_ GE272.out | refine below_set ?_ GE287.out) | exact HB.out)⟩⟩
               ·replace c33 := Bool.eq_false_iff.mpr c33
                subst c33
                have H1 : (treillagelaw16_QueueAll.l1 kj25 l2 (wrap64 (1 + (Int.tmod (wrap64 (a1)) 12))) t278 x10_3 x13_3 (wrap64 (x14_3 + 1)) 1 (wrap64 (1 + (Int.tmod (wrap64 (a0)) 4))) t283 t284 t285) = some r := by rw [if_neg (show ¬ (false = true) by decide)] at H; exact H
                clear H
                have H := H1
                clear H1
                have H' := aA H
                clear H
                have hnb48 := NB262_272.out
                have hnc48 := NB272_262.out
                have hcz49_0 : wc.cell? ⟨gb262, 0, none⟩ = some (.int .i64 1) := (blk_cell BK262.out 0).trans rfl
                have hcz49_1 : wc.cell? ⟨gb262, 1, none⟩ = some (.int .i64 (wrap64 (1 + (Int.tmod (wrap64 (a0)) 4)))) := (blk_cell BK262.out 1).trans rfl
                have hfz49_0 := blk_frozen BK262.out 0
                have hfz49_1 := blk_frozen BK262.out 1
                have hcz50_0 : wc.cell? ⟨gb272, 0, none⟩ = some (.int .i64 x273000_3) := (blk_cell BK272.out 0).trans rfl
                have hcz50_1 : wc.cell? ⟨gb272, 1, none⟩ = some (.int .u64 x273001_3) := (blk_cell BK272.out 1).trans rfl
                have hcz50_2 : wc.cell? ⟨gb272, 2, none⟩ = some (.int .u64 x273002_3) := (blk_cell BK272.out 2).trans rfl
                have hfz50_0 := blk_frozen BK272.out 0
                have hfz50_1 := blk_frozen BK272.out 1
                have hfz50_2 := blk_frozen BK272.out 2
                go_wp2_with (first | ((with_reducible refine gate_callee (f := 53) rfl ?_); refine goesL_ (some 98) rfl rfl Try.func53 (by kernel_rfl) rfl #[.agg #[.int .i64 1, .int .i64 (wrap64 (1 + (Int.tmod (wrap64 (a0)) 4)))], .agg #[.int .i64 x273000_3, .int .u64 x273001_3, .int .u64 x273002_3]] rfl (by (try simp only [List.map_toArray, List.map_cons, List.map_nil]); first | done | rfl | (simp only [List.length_drop, List.length_take]; rfl)) ?_; (with_reducible refine (queue_Next.calls 1 (wrap64 (1 + (Int.tmod (wrap64 (a0)) 4))) x273000_3 x273001_3 x273002_3 t274 t275 t276 t277 _ A30.out).mono ?_); rintro e w51 ⟨rfl, hb⟩; refine ⟨_, rfl, ?_⟩; have n0_ := aA (Kd.V_below (vlu HO_9.out) hb); have n1_ := aA (Kd.R_below (rlu HO_10.out) hb); have n2_ := aA (blk_below (g := gb262) (o := .cells #[.int .i64 1, .int .i64 (wrap64 (1 + (Int.tmod (wrap64 (a0)) 4)))] 38 (0, 0)) (bku BK262.out) hb); have n3_ := aA (blk_below (g := gb272) (o := .cells #[.int .i64 x273000_3, .int .u64 x273001_3, .int .u64 x273002_3] 56 (0, 0)) (bku BK272.out) hb); have n4_ := aA (below_step (bls HB.out) hb); clear HO_9 HO_10 BK262 BK272 HB; have HO_9 := n0_; have HO_10 := n1_; have BK262 := n2_; have BK272 := n3_; have HB := n4_; clear n0_ n1_ n2_ n3_ n4_; (try clear hb); (try clear hb2); (try clear hk); (try clear hi); obtain ⟨Ao52, co52, eo52⟩ := Kd.V_slice HO_9.out; subst eo52) | ((with_reducible refine gate_callee (f := 15) rfl ?_); refine goesL_ (some 99) rfl rfl Try.func15 (by kernel_rfl) rfl #[.slice Ao52 x9_3.length co52, .agg #[.int .i64 t274, .int .i64 t275, .int .u64 t276, .int .u64 t277]] rfl (by (try simp only [List.map_toArray, List.map_cons, List.map_nil]); first | done | rfl | (simp only [List.length_drop, List.length_take]; rfl)) ?_; (with_reducible refine (mem_Do.calls (fun k_ => (some k_ ≠ (u10 : Value).ownBlock ∧ (k_ ≠ gb262 ∧ k_ ≠ gb272))) _ _ x9_3 t274 t275 t276 t277 t278 t281 t282 _ ?side1 A31.out).mono ?_); (case side1 => exact HO_9.out); rintro e w53 ⟨v279, rfl, ho0, hb⟩; refine ⟨_, rfl, ?_⟩; have n0_ := aA (Kd.V_below (vlu HO_9.out) hb); have n1_ := aA (Kd.R_below (rlu HO_10.out) hb); have n2_ := aA (Kd.V_lower (Kd.V_mono (ok' := fun k_ => some k_ ≠ (u10 : Value).ownBlock ∧ k_ ≠ gb262 ∧ k_ ≠ gb272) ho0 (fun k_ hk_ => ⟨Or.elim hk_ (fun hs_ => hs_.1) (fun hn_ => (Kd.fresh' (Kd.R_lt (rlu HO_10.out)) k_ hn_)), Or.elim hk_ (fun hs_ => hs_.2.1) (fun hn_ => (Kd.freshB (g := gb262) (o := .cells #[.int .i64 1, .int .i64 (wrap64 (1 + (Int.tmod (wrap64 (a0)) 4)))] 38 (0, 0)) (bku BK262.out) k_ hn_)), Or.elim hk_ (fun hs_ => hs_.2.2) (fun hn_ => (Kd.freshB (g := gb272) (o := .cells #[.int .i64 x273000_3, .int .u64 x273001_3, .int .u64 x273002_3] 56 (0, 0)) (bku BK272.out) k_ hn_))⟩)) (below_size (bls HB.out))); have n3_ := aA (blk_below (g := gb262) (o := .cells #[.int .i64 1, .int .i64 (wrap64 (1 + (Int.tmod (wrap64 (a0)) 4)))] 38 (0, 0)) (bku BK262.out) hb); have n4_ := aA (blk_below (g := gb272) (o := .cells #[.int .i64 x273000_3, .int .u64 x273001_3, .int .u64 x273002_3] 56 (0, 0)) (bku BK272.out) hb); have n5_ := aA (below_step (bls HB.out) hb); clear HO_9 HO_10 BK262 BK272 HB; have HO_9 := n0_; have HO_10 := n1_; have HO280 := n2_; have BK262 := n3_; have BK272 := n4_; have HB := n5_; clear n0_ n1_ n2_ n3_ n4_ n5_; (try clear hb); (try clear hb2); (try clear hk); (try clear hi); (try clear ho0); have hcz54_0 : w53.cell? ⟨gb262, 0, none⟩ = some (.int .i64 1) := (blk_cell BK262.out 0).trans rfl; have hcz54_1 : w53.cell? ⟨gb262, 1, none⟩ = some (.int .i64 (wrap64 (1 + (Int.tmod (wrap64 (a0)) 4)))) := (blk_cell BK262.out 1).trans rfl; have hfz54_0 := blk_frozen BK262.out 0; have hfz54_1 := blk_frozen BK262.out 1; have hcz55_0 : w53.cell? ⟨gb272, 0, none⟩ = some (.int .i64 x273000_3) := (blk_cell BK272.out 0).trans rfl; have hcz55_1 : w53.cell? ⟨gb272, 1, none⟩ = some (.int .u64 x273001_3) := (blk_cell BK272.out 1).trans rfl; have hcz55_2 : w53.cell? ⟨gb272, 2, none⟩ = some (.int .u64 x273002_3) := (blk_cell BK272.out 2).trans rfl; have hfz55_0 := blk_frozen BK272.out 0; have hfz55_1 := blk_frozen BK272.out 1; have hfz55_2 := blk_frozen BK272.out 2) | ((with_reducible refine gate_callee (f := 49) rfl ?_); refine goesL_ (some 108) rfl rfl Try.func49 (by kernel_rfl) rfl #[.agg #[.int .i64 1, .int .i64 (wrap64 (1 + (Int.tmod (wrap64 (a0)) 4)))], .agg #[.int .i64 x273000_3, .int .u64 x273001_3, .int .u64 x273002_3], .int .u64 t281] rfl (by (try simp only [List.map_toArray, List.map_cons, List.map_nil]); first | done | rfl | (simp only [List.length_drop, List.length_take]; rfl)) ?_; (with_reducible refine (queue_Given.calls kj25 1 (wrap64 (1 + (Int.tmod (wrap64 (a0)) 4))) x273000_3 x273001_3 x273002_3 t281 t283 t284 t285 false _ A32.out).mono ?_); rintro e w56 ⟨rfl, hb⟩; refine ⟨_, rfl, ?_⟩; have n0_ := aA (Kd.V_below (vlu HO_9.out) hb); have n1_ := aA (Kd.R_below (rlu HO_10.out) hb); have n2_ := aA (Kd.V_below (vlu HO280.out) hb); have n3_ := aA (blk_below (g := gb262) (o := .cells #[.int .i64 1, .int .i64 (wrap64 (1 + (Int.tmod (wrap64 (a0)) 4)))] 38 (0, 0)) (bku BK262.out) hb); have n4_ := aA (blk_below (g := gb272) (o := .cells #[.int .i64 x273000_3, .int .u64 x273001_3, .int .u64 x273002_3] 56 (0, 0)) (bku BK272.out) hb); have n5_ := aA (below_step (bls HB.out) hb); clear HO_9 HO_10 HO280 BK262 BK272 HB; have HO_9 := n0_; have HO_10 := n1_; have HO280 := n2_; have BK262 := n3_; have BK272 := n4_; have HB := n5_; clear n0_ n1_ n2_ n3_ n4_ n5_; (try clear hb); (try clear hb2); (try clear hk); (try clear hi)) | ((with_reducible refine gate_dst (N := 19) rfl ?_); refine box_event ?hg (N := 19) ?hd (cs := #[.int .i64 0, .int .u64 0, .int .u64 0]) (t := 56) ?hr ?_; (case hd => rfl); (case hg => rfl); (case hr => first | (go_simp; done) | (go_simp; rfl)); intro gb287 hg w57 hbox hb; have n0_ := aA (Kd.V_below (Kd.V_elderB (vlu HO_9.out) gb287 (Nat.le_of_eq hg.symm)) hb); have n1_ := aA (Kd.R_below (rlu HO_10.out) hb); have n2_ := aA (Kd.V_below (Kd.V_elderB (vlu HO280.out) gb287 (Nat.le_of_eq hg.symm)) hb); have n3_ := aA (blk_below (g := gb262) (o := .cells #[.int .i64 1, .int .i64 (wrap64 (1 + (Int.tmod (wrap64 (a0)) 4)))] 38 (0, 0)) (bku BK262.out) hb); have n4_ := aA (blk_below (g := gb272) (o := .cells #[.int .i64 x273000_3, .int .u64 x273001_3, .int .u64 x273002_3] 56 (0, 0)) (bku BK272.out) hb); have n5_ := aA (below_step (bls HB.out) hb); have n6_ := aA (hbox); have n7_ := aA ((by rw [hg]; exact (below_size (bls HB.out)) : w.heap.size ≤ gb287)); have n8_ := aA ((by rw [hg]; exact (below_size (bls HB.out)) : w.heap.size ≤ gb287)); have n9_ := aA ((by rw [hg]; exact Nat.ne_of_lt (blk_lt (g := gb262) (o := .cells #[.int .i64 1, .int .i64 (wrap64 (1 + (Int.tmod (wrap64 (a0)) 4)))] 38 (0, 0)) (bku BK262.out)) : gb262 ≠ gb287)); have n10_ := aA ((by rw [hg]; exact Nat.ne_of_gt (blk_lt (g := gb262) (o := .cells #[.int .i64 1, .int .i64 (wrap64 (1 + (Int.tmod (wrap64 (a0)) 4)))] 38 (0, 0)) (bku BK262.out)) : gb287 ≠ gb262)); have n11_ := aA ((by rw [hg]; exact Nat.ne_of_lt (blk_lt (g := gb272) (o := .cells #[.int .i64 x273000_3, .int .u64 x273001_3, .int .u64 x273002_3] 56 (0, 0)) (bku BK272.out)) : gb272 ≠ gb287)); have n12_ := aA ((by rw [hg]; exact Nat.ne_of_gt (blk_lt (g := gb272) (o := .cells #[.int .i64 x273000_3, .int .u64 x273001_3, .int .u64 x273002_3] 56 (0, 0)) (bku BK272.out)) : gb287 ≠ gb272)); clear HO_9 HO_10 HO280 BK262 BK272 HB; have HO_9 := n0_; have HO_10 := n1_; have HO280 := n2_; have BK262 := n3_; have BK272 := n4_; have HB := n5_; have BK287 := n6_; have GW287 := n7_; have GE287 := n8_; have NB262_287 := n9_; have NB287_262 := n10_; have NB272_287 := n11_; have NB287_272 := n12_; clear n0_ n1_ n2_ n3_ n4_ n5_ n6_ n7_ n8_ n9_ n10_ n11_ n12_ hb hbox hg; have hnb58 := NB287_262.out; have hnc58 := NB262_287.out; have hnb59 := NB287_272.out; have hnc59 := NB272_287.out; have hcz60_0 : w57.cell? ⟨gb287, 0, none⟩ = some (.int .i64 0) := (blk_cell BK287.out 0).trans rfl; have hcz60_1 : w57.cell? ⟨gb287, 1, none⟩ = some (.int .u64 0) := (blk_cell BK287.out 1).trans rfl; have hcz60_2 : w57.cell? ⟨gb287, 2, none⟩ = some (.int .u64 0) := (blk_cell BK287.out 2).trans rfl; have hfz60_0 := blk_frozen BK287.out 0; have hfz60_1 := blk_frozen BK287.out 1; have hfz60_2 := blk_frozen BK287.out 2; have hcz61_0 : w57.cell? ⟨gb272, 0, none⟩ = some (.int .i64 x273000_3) := (blk_cell BK272.out 0).trans rfl; have hcz61_1 : w57.cell? ⟨gb272, 1, none⟩ = some (.int .u64 x273001_3) := (blk_cell BK272.out 1).trans rfl; have hcz61_2 : w57.cell? ⟨gb272, 2, none⟩ = some (.int .u64 x273002_3) := (blk_cell BK272.out 2).trans rfl; have hfz61_0 := blk_frozen BK272.out 0; have hfz61_1 := blk_frozen BK272.out 1; have hfz61_2 := blk_frozen BK272.out 2))
                go_roundg kj25
                case measure => have := HJ3.out; have := HK2.out; have := HK3.out; have := HJ25.out; omega
                case rel => exact ⟨(t278), (x10_3), (x13_3), (wrap64 (x14_3 + 1)), (t283), (t284), (t285), (by first | rfl | (simp; done) | (simp [*]; done)), (by first | rfl | (simp; done) | (simp [*]; done)), H', ⟨by have := HJ3.out; have := HK2.out; have := HK3.out; have := HJ25.out; omega⟩, ⟨by (with_reducible repeat (first | apply Kd.V_alloc | apply Kd.V_drewN | apply Kd.V_drew)); exact Kd.V_mono (Kd.V_far (p := ⟨gb272, 2, none⟩) (Kd.V_far (p := ⟨gb272, 1, none⟩) (Kd.V_far (p := ⟨gb272, 0, none⟩) (Kd.V_far (p := ⟨gb287, 2, none⟩) (Kd.V_far (p := ⟨gb287, 1, none⟩) (Kd.V_far (p := ⟨gb287, 0, none⟩) (Kd.V_mono (Kd.V_mono HO280.out (fun k_ hk => (⟨hk, hk.2⟩ : _ ∧ k_ ≠ gb287))) (fun k_ hk => (⟨hk, hk.1.1.2.2⟩ : _ ∧ k_ ≠ gb272))) (fun _ hk => hk.1.2) (.int .i64 t283)) (fun _ hk => hk.1.2) (.int .u64 t284)) (fun _ hk => hk.1.2) (.int .u64 t285)) (fun _ hk => hk.2) (.int .i64 t283)) (fun _ hk => hk.2) (.int .u64 t284)) (fun _ hk => hk.2) (.int .u64 t285)) (fun _ hk => ⟨hk.1.1.1.1, ⟨hk.1.1.1.2.1, hk.1.1.1.2.2⟩⟩)⟩, ⟨by (with_reducible repeat (first | apply Kd.R_alloc | apply Kd.R_drewN | apply Kd.R_drew)); exact Kd.R_mono (Kd.R_far (p := ⟨gb272, 2, none⟩) (Kd.R_far (p := ⟨gb272, 1, none⟩) (Kd.R_far (p := ⟨gb272, 0, none⟩) (Kd.R_far (p := ⟨gb287, 2, none⟩) (Kd.R_far (p := ⟨gb287, 1, none⟩) (Kd.R_far (p := ⟨gb287, 0, none⟩) (Kd.R_types (Kd.R_types HO_10.out BK287.out (by decide)) BK272.out (by decide)) (fun _ hk => hk.1.2) (.int .i64 t283)) (fun _ hk => hk.1.2) (.int .u64 t284)) (fun _ hk => hk.1.2) (.int .u64 t285)) (fun _ hk => hk.2) (.int .i64 t283)) (fun _ hk => hk.2) (.int .u64 t284)) (fun _ hk => hk.2) (.int .u64 t285)) (fun _ hk => trivial)⟩, ⟨by refine bku ?_; refine blk_far ?_ NB262_272.out _; refine bku ?_; refine blk_far ?_ NB262_272.out _; refine bku ?_; refine blk_far ?_ NB262_272.out _; refine bku ?_; refine blk_far ?_ NB262_287.out _; refine bku ?_; refine blk_far ?_ NB262_287.out _; refine bku ?_; refine blk_far ?_ NB262_287.out _; refine bku ?_; exact BK262.out⟩, ⟨by refine bku ?_; refine blk_put (cs := #[.int .i64 t283, .int .u64 t284, .int .u64 x273002_3]) ?_ 2 _ rfl; refine bku ?_; refine blk_put (cs := #[.int .i64 t283, .int .u64 x273001_3, .int .u64 x273002_3]) ?_ 1 _ rfl; refine bku ?_; refine blk_put (cs := #[.int .i64 x273000_3, .int .u64 x273001_3, .int .u64 x273002_3]) ?_ 0 _ rfl; refine bku ?_; refine blk_far ?_ NB272_287.out _; refine bku ?_; refine blk_far ?_ NB272_287.out _; refine bku ?_; refine blk_far ?_ NB272_287.out _; refine bku ?_; exact BK272.out⟩, ⟨by repeat (first | (with_reducible first | exact HB.out | apply below_alloc | apply pw_below_drewN | apply below_drew1 | refine below_set ?_ GE262.out | refine below_set ?_ GE272.out | refine below_set ?_ GE287.out) | exact HB.out)⟩⟩
              ·rw [if_neg c29] at H
               have c29b0 : (x15_25 == (wrap64 (1 + (Int.tmod (wrap64 (a1)) 12)))) = false := beq_eq_false_iff_ne.mpr c29
               have c29b1 : (x15_25 != (wrap64 (1 + (Int.tmod (wrap64 (a1)) 12)))) = true := bne_iff_ne.mpr c29
               by_cases c62 : 0 ≤ x15_25
               ·rw [if_pos c62] at H
                have c62b0 : decide (0 ≤ x15_25) = true := decide_eq_true c62
                clear c62
                by_cases c63 : x15_25 < (x10_3.length : Int)
                ·rw [if_pos c63] at H
                 have c63b0 : decide (x15_25 < (x10_3.length : Int)) = true := decide_eq_true c63
                 clear c63
                 replace H := Option.bind_eq_some_iff.mp H
                 obtain ⟨⟨t289, t290, t291, t292, t293⟩, A640, H⟩ := H
                 replace H : (if t293 = true then ((mem_Do.f x9_3 t289 t290 t291 t292).bind fun bt295 => ((queue_Got.f kj25 ((rd_T54 x10_3 x15_25).f0) ((rd_T54 x10_3 x15_25).f1) ((rd_T54 x10_3 x15_25).f2) bt295.2.1 bt295.2.2).bind fun bt301 => (treillagelaw16_QueueAll.l1 kj25 l2 (wrap64 (1 + (Int.tmod (wrap64 (a1)) 12))) bt295.1 (x10_3.set (x15_25 : Int).toNat (⟨bt301.1, bt301.2.1, bt301.2.2⟩ : S54)) x13_3 (wrap64 (x14_3 + 1)) 1 (wrap64 (1 + (Int.tmod (wrap64 (a0)) 4))) x273000_3 x273001_3 x273002_3))) else (treillagelaw16_QueueAll.l1 kj25 l2 (wrap64 (1 + (Int.tmod (wrap64 (a1)) 12))) x9_3 x10_3 x13_3 (wrap64 (x14_3 + 1)) 1 (wrap64 (1 + (Int.tmod (wrap64 (a0)) 4))) x273000_3 x273001_3 x273002_3)) = some r := H
                 have A64 := aA A640
                 clear A640
                 by_cases c65 : t293 = true
                 ·subst c65
                  have H1 : ((mem_Do.f x9_3 t289 t290 t291 t292).bind fun bt295 => ((queue_Got.f kj25 ((rd_T54 x10_3 x15_25).f0) ((rd_T54 x10_3 x15_25).f1) ((rd_T54 x10_3 x15_25).f2) bt295.2.1 bt295.2.2).bind fun bt301 => (treillagelaw16_QueueAll.l1 kj25 l2 (wrap64 (1 + (Int.tmod (wrap64 (a1)) 12))) bt295.1 (x10_3.set (x15_25 : Int).toNat (⟨bt301.1, bt301.2.1, bt301.2.2⟩ : S54)) x13_3 (wrap64 (x14_3 + 1)) 1 (wrap64 (1 + (Int.tmod (wrap64 (a0)) 4))) x273000_3 x273001_3 x273002_3))) = some r := by rw [if_pos rfl] at H; exact H
                  clear H
                  have H := H1
                  clear H1
                  replace H := Option.bind_eq_some_iff.mp H
                  obtain ⟨⟨t295, t298, t299⟩, A660, H⟩ := H
                  replace H : ((queue_Got.f kj25 ((rd_T54 x10_3 x15_25).f0) ((rd_T54 x10_3 x15_25).f1) ((rd_T54 x10_3 x15_25).f2) t298 t299).bind fun bt301 => (treillagelaw16_QueueAll.l1 kj25 l2 (wrap64 (1 + (Int.tmod (wrap64 (a1)) 12))) t295 (x10_3.set (x15_25 : Int).toNat (⟨bt301.1, bt301.2.1, bt301.2.2⟩ : S54)) x13_3 (wrap64 (x14_3 + 1)) 1 (wrap64 (1 + (Int.tmod (wrap64 (a0)) 4))) x273000_3 x273001_3 x273002_3)) = some r := H
                  have A66 := aA A660
                  clear A660
                  replace H := Option.bind_eq_some_iff.mp H
                  obtain ⟨⟨t301, t302, t303⟩, A670, H⟩ := H
                  replace H : (treillagelaw16_QueueAll.l1 kj25 l2 (wrap64 (1 + (Int.tmod (wrap64 (a1)) 12))) t295 (x10_3.set (x15_25 : Int).toNat (⟨t301, t302, t303⟩ : S54)) x13_3 (wrap64 (x14_3 + 1)) 1 (wrap64 (1 + (Int.tmod (wrap64 (a0)) 4))) x273000_3 x273001_3 x273002_3) = some r := H
                  have A67 := aA A670
                  clear A670
                  obtain ⟨y304, hy304⟩ : ∃ y_ : List (S54), y_ = (x10_3.set (x15_25 : Int).toNat (⟨t301, t302, t303⟩ : S54)) := ⟨_, rfl⟩
                  replace H : (treillagelaw16_QueueAll.l1 kj25 l2 (wrap64 (1 + (Int.tmod (wrap64 (a1)) 12))) t295 y304 x13_3 (wrap64 (x14_3 + 1)) 1 (wrap64 (1 + (Int.tmod (wrap64 (a0)) 4))) x273000_3 x273001_3 x273002_3) = some r := by first | (rw [hy304]; with_reducible exact H) | (have H2_ := (Option.bind_some _ _).symm.trans H; rw [hy304]; with_reducible exact H2_) | (have H2_ := (Option.bind_some _ _).symm.trans H; with_reducible exact H2_) | with_reducible exact H | (rw [hy304]; exact H) | exact H
                  have Ny304 := aA hy304
                  clear hy304
                  have H' := aA H
                  clear H
                  try go_wp2
                  have n0_ := aA (Kd.V_drew HO_9.out)
                  have n1_ := aA (Kd.R_drew HO_10.out)
                  have n2_ := aA (blk_drew BK262.out)
                  have n3_ := aA (blk_drew BK272.out)
                  have n4_ := aA (below_drew1 HB.out)
                  clear HO_9
                  clear HO_10
                  clear BK262
                  clear BK272
                  clear HB
                  have HO_9 := n0_
                  have HO_10 := n1_
                  have BK262 := n2_
                  have BK272 := n3_
                  have HB := n4_
                  clear n0_ n1_ n2_ n3_ n4_
                  obtain ⟨Ao70, co70, eo70⟩ := Kd.R_slice HO_10.out
                  (first | subst eo70 | (injection eo70 with f1_ f2_ f3_; have f4_ := f1_.symm; have f5_ := f3_.symm; clear f1_ f2_ f3_; subst f4_; subst f5_))
                  have p288 : 0 ≤ (x15_25 : Int) := of_decide_eq_true (by first | (with_reducible assumption) | assumption)
                  have q288 : x15_25 < (x10_3.length : Int) := of_decide_eq_true (by first | (with_reducible assumption) | assumption)
                  obtain ⟨ad288, e288, hx288_0, hx288_1, hx288_2⟩ := at_T54 (Kd.R_reads' HO_10.out).2.2 x15_25 p288 q288
                  cases e288
                  replace p288 := eq_true p288
                  replace q288 := eq_true q288
                  refine start_ (n := 12) (S := fun w' => w'.cell? ⟨gb262, 0, none⟩ = some (.int .i64 1) ∧ w'.cell? ⟨gb262, 1, none⟩ = some (.int .i64 (wrap64 (1 + (Int.tmod (wrap64 (a0)) 4)))) ∧ w'.cell? (ad288.add ((x15_25).toNat * 3)) = some (.int .i64 ((rd_T54 x10_3 x15_25).f0)) ∧ w'.cell? ⟨(ad288.add ((x15_25).toNat * 3)).block, (ad288.add ((x15_25).toNat * 3)).off + 1, none⟩ = some (.int .u64 ((rd_T54 x10_3 x15_25).f1)) ∧ w'.cell? ⟨(ad288.add ((x15_25).toNat * 3)).block, (ad288.add ((x15_25).toNat * 3)).off + 2, none⟩ = some (.int .u64 ((rd_T54 x10_3 x15_25).f2))) (ds := []) #[false, false, false, false, false, false, false, false, false, false, false, false] (by kernel_rfl) rfl rfl ⟨(blk_cell BK262.out 0).trans rfl, (blk_cell BK262.out 1).trans rfl, hx288_0, hx288_1, hx288_2⟩ (fun hHeld => ?_); refine with_tabW treillagelaw16_QueueAll.tab26 treillagelaw16_QueueAll.bits26 (fun HT_ HW_ => ?_)
                  generalize wc.drew = w69 at HO_9 HO_10 BK262 BK272 HB hx288_0 hx288_1 hx288_2 hHeld ⊢
                  refine pure_ (i := 1) (N := some 117) (v := ?_) (a' := ?_) #[false, true, false, false, false, false, false, false, false, false, false, false] rfl rfl (any_of HT_.out (by kernel_rfl)) (fun _ _ _ h => h) (Or.inl ⟨by rfl, ?_⟩) ?_ ?_
                  rotate_left
                  ·intro w'
                   go_simp
                   with_reducible rfl
                  rotate_left
                  ·simp only [Act.put, List.setIfInBounds_toArray, List.set_cons_zero, List.set_cons_succ, i64_w, i32_w]
                   rfl
                  refine pure_ (i := 2) (N := some 118) (v := ?_) (a' := ?_) #[false, true, true, false, false, false, false, false, false, false, false, false] rfl rfl (any_of HT_.out (by kernel_rfl)) (fun _ _ _ h => h) (Or.inl ⟨by rfl, ?_⟩) ?_ ?_
                  rotate_left
                  ·intro w'
                   go_simp
                   with_reducible rfl
                  rotate_left
                  ·simp only [Act.put, List.setIfInBounds_toArray, List.set_cons_zero, List.set_cons_succ, i64_w, i32_w]
                   rfl
                  refine pure_ (i := 3) (N := some 119) (v := ?_) (a' := ?_) #[false, true, true, true, false, false, false, false, false, false, false, false] rfl rfl (any_of HT_.out (by kernel_rfl)) (fun _ _ _ h => h) (Or.inl ⟨by rfl, ?_⟩) ?_ ?_
                  rotate_left
                  ·intro w'
                   go_simp
                   with_reducible rfl
                  rotate_left
                  ·simp only [Act.put, List.setIfInBounds_toArray, List.set_cons_zero, List.set_cons_succ, i64_w, i32_w]
                   rfl
                  refine take_ (i := 0) (N := some 116) (v := ?_) (a' := ?_) #[true, true, true, true, false, false, false, false, false, false, false, false] rfl rfl (take_ofW HT_.out HW_.out (by kernel_rfl)) (fun _ _ _ h => h) (Or.inl ⟨by rfl, ?_⟩) hHeld ?_ ?_
                  rotate_left
                  ·rintro w' ⟨s0, s1, s2, s3, s4⟩
                   go_simp
                   with_reducible rfl
                  rotate_left
                  ·simp only [Act.put, List.setIfInBounds_toArray, List.set_cons_zero, List.set_cons_succ, i64_w, i32_w]
                   rfl
                  refine take_ (i := 4) (N := some 120) (v := ?_) (a' := ?_) #[true, true, true, true, true, false, false, false, false, false, false, false] rfl rfl (take_ofW HT_.out HW_.out (by kernel_rfl)) (fun _ _ _ h => h) (Or.inl ⟨by rfl, ?_⟩) hHeld ?_ ?_
                  rotate_left
                  ·rintro w' ⟨s0, s1, s2, s3, s4⟩
                   go_simp
                   with_reducible rfl
                  rotate_left
                  ·simp only [Act.put, List.setIfInBounds_toArray, List.set_cons_zero, List.set_cons_succ, i64_w, i32_w]
                   rfl
                  refine join_ (σ := Nat) 2 #[true, true, true, true, true, true, true, true, true, true, false, false] (fun s_ => [(121, .tuple #[.agg #[.int .i64 t289, .int .i64 t290, .int .u64 t291, .int .u64 t292], .bool true]), (21, .pointer (some ⟨s_, 0, none⟩)), (115, .tuple #[.agg #[.int .i64 t289, .int .i64 t290, .int .u64 t291, .int .u64 t292], .bool true]), (122, .agg #[.int .i64 t289, .int .i64 t290, .int .u64 t291, .int .u64 t292]), (123, .bool true)]) (fun s_ w' => (w'.cell? ⟨gb262, 0, none⟩ = some (.int .i64 1) ∧ w'.cell? ⟨gb262, 1, none⟩ = some (.int .i64 (wrap64 (1 + (Int.tmod (wrap64 (a0)) 4)))) ∧ w'.cell? (ad288.add ((x15_25).toNat * 3)) = some (.int .i64 ((rd_T54 x10_3 x15_25).f0)) ∧ w'.cell? ⟨(ad288.add ((x15_25).toNat * 3)).block, (ad288.add ((x15_25).toNat * 3)).off + 1, none⟩ = some (.int .u64 ((rd_T54 x10_3 x15_25).f1)) ∧ w'.cell? ⟨(ad288.add ((x15_25).toNat * 3)).block, (ad288.add ((x15_25).toNat * 3)).off + 2, none⟩ = some (.int .u64 ((rd_T54 x10_3 x15_25).f2))) ∧ (Kd.R k54 54 w' w.heap.size (fun _ => True) (.slice (some ad288) x10_3.length co70) x10_3) ∧ (Kd.V (Kd.int .u64) 23 w' w.heap.size (fun k_ => some k_ ≠ (.slice (some ad288) x10_3.length co70 : Value).ownBlock ∧ k_ ≠ gb262 ∧ k_ ≠ gb272 ∧ k_ ≠ s_) u9 x9_3) ∧ (w'.heap[gb262]? = some (.cells #[.int .i64 1, .int .i64 (wrap64 (1 + (Int.tmod (wrap64 (a0)) 4)))] 38 (0, 0))) ∧ (w'.heap[gb272]? = some (.cells #[.int .i64 x273000_3, .int .u64 x273001_3, .int .u64 x273002_3] 56 (0, 0))) ∧ (w'.heap[s_]? = some (.cells #[.int .i64 0, .int .i64 0, .int .u64 0, .int .u64 0] 25 (0, 0))) ∧ (w.heap.size ≤ s_) ∧ (w.heap.size ≤ s_) ∧ (gb262 ≠ s_) ∧ (s_ ≠ gb262) ∧ (gb272 ≠ s_) ∧ (s_ ≠ gb272) ∧ (Below w.heap.size w w')) ?_ ?_
                  rotate_left
                  ·intro hCont
                   refine two_ (i := 5) (j := 9) (Ni := some 121) (Nj := some 21) #[true, true, true, true, true, true, false, false, false, false, false, false] #[true, true, true, true, true, false, false, false, false, true, false, false] rfl rfl rfl rfl (two_of HT_.out (by kernel_rfl)) (by decide) (by decide) (fun K hK => ?_) (fun K hK => ?_)
                   ·skip
                    refine goes_ Try.func47 (by kernel_rfl) rfl #[.agg #[.int .i64 1, .int .i64 (wrap64 (1 + (Int.tmod (wrap64 (a0)) 4)))], .agg #[.int .i64 ((rd_T54 x10_3 x15_25).f0), .int .u64 ((rd_T54 x10_3 x15_25).f1), .int .u64 ((rd_T54 x10_3 x15_25).f2)]] (by rfl) rfl rfl (by (try simp only [List.map_toArray, List.map_cons, List.map_nil]); first | done | rfl | (simp only [List.length_drop, List.length_take]; rfl)) ?_
                    with_reducible refine (queue_Want.calls 1 (wrap64 (1 + (Int.tmod (wrap64 (a0)) 4))) ((rd_T54 x10_3 x15_25).f0) ((rd_T54 x10_3 x15_25).f1) ((rd_T54 x10_3 x15_25).f2) t289 t290 t291 t292 true _ A64.out).mono ?_
                    rintro e w71 ⟨rfl, hb⟩
                    have HS2_ := (hb.cell (World.block_lt_of_cell? _ _ (hHeld.2.2.1))).trans (hHeld.2.2.1)
                    have HS3_ := (hb.cell (World.block_lt_of_cell? _ _ (hHeld.2.2.2.1))).trans (hHeld.2.2.2.1)
                    have HS4_ := (hb.cell (World.block_lt_of_cell? _ _ (hHeld.2.2.2.2))).trans (hHeld.2.2.2.2)
                    refine ⟨_, rfl, ?_⟩
                    have n0_ := aA (Kd.V_below (vlu HO_9.out) hb)
                    have n1_ := aA (Kd.R_below (rlu HO_10.out) hb)
                    have n2_ := aA (blk_below (g := gb262) (o := .cells #[.int .i64 1, .int .i64 (wrap64 (1 + (Int.tmod (wrap64 (a0)) 4)))] 38 (0, 0)) (bku BK262.out) hb)
                    have n3_ := aA (blk_below (g := gb272) (o := .cells #[.int .i64 x273000_3, .int .u64 x273001_3, .int .u64 x273002_3] 56 (0, 0)) (bku BK272.out) hb)
                    have n4_ := aA (below_step (bls HB.out) hb)
                    clear HO_9
                    clear HO_10
                    clear BK262
                    clear BK272
                    clear HB
                    have HO_9 := n0_
                    have HO_10 := n1_
                    have BK262 := n2_
                    have BK272 := n3_
                    have HB := n4_
                    clear n0_ n1_ n2_ n3_ n4_
                    (try clear hb)
                    (try clear hb2)
                    (try clear hk)
                    (try clear hi)
                    refine hK.out _ _ ⟨(blk_cell BK262.out 0).trans rfl, (blk_cell BK262.out 1).trans rfl, HS2_, HS3_, HS4_⟩ (fun hHeld => ?_)
                    clear hK K
                    refine norm_ (a' := ?_) ?_ ?_
                    rotate_left
                    ·show Act.put _ (some 121) _ = _
                     simp only [Act.put, List.setIfInBounds_toArray, List.set_cons_zero, List.set_cons_succ, i64_w, i32_w]
                     rfl
                    refine pure_ (i := 6) (N := some 115) (v := ?_) (a' := ?_) #[true, true, true, true, true, true, true, false, false, false, false, false] rfl rfl (any_of HT_.out (by kernel_rfl)) (fun _ _ _ h => h) (Or.inl ⟨by rfl, ?_⟩) ?_ ?_
                    rotate_left
                    ·intro w'
                     go_simp
                     with_reducible rfl
                    rotate_left
                    ·simp only [Act.put, List.setIfInBounds_toArray, List.set_cons_zero, List.set_cons_succ, i64_w, i32_w]
                     rfl
                    refine pure_ (i := 7) (N := some 122) (v := ?_) (a' := ?_) #[true, true, true, true, true, true, true, true, false, false, false, false] rfl rfl (any_of HT_.out (by kernel_rfl)) (fun _ _ _ h => h) (Or.inl ⟨by rfl, ?_⟩) ?_ ?_
                    rotate_left
                    ·intro w'
                     go_simp
                     with_reducible rfl
                    rotate_left
                    ·simp only [Act.put, List.setIfInBounds_toArray, List.set_cons_zero, List.set_cons_succ, i64_w, i32_w]
                     rfl
                    refine pure_ (i := 8) (N := some 123) (v := ?_) (a' := ?_) #[true, true, true, true, true, true, true, true, true, false, false, false] rfl rfl (any_of HT_.out (by kernel_rfl)) (fun _ _ _ h => h) (Or.inl ⟨by rfl, ?_⟩) ?_ ?_
                    rotate_left
                    ·intro w'
                     go_simp
                     with_reducible rfl
                    rotate_left
                    ·simp only [Act.put, List.setIfInBounds_toArray, List.set_cons_zero, List.set_cons_succ, i64_w, i32_w]
                     rfl
                    refine one_ (i := 9) (N := some 21) #[true, true, true, true, true, true, true, true, true, true, false, false] rfl rfl (one_of HT_.out (by kernel_rfl)) (by decide) (fun K hK => ?_)
                    refine box_step ?hg (N := 21) ?hd (cs := #[.int .i64 0, .int .i64 0, .int .u64 0, .int .u64 0]) (t := 25) ?hr ?_; (case hd => rfl); (case hg => rfl); (case hr => first | (go_simp; done) | (go_simp; rfl))
                    intro gb294 hg w72 hbox hb
                    have HS2_ := (hb.cell (World.block_lt_of_cell? _ _ (hHeld.2.2.1))).trans (hHeld.2.2.1)
                    have HS3_ := (hb.cell (World.block_lt_of_cell? _ _ (hHeld.2.2.2.1))).trans (hHeld.2.2.2.1)
                    have HS4_ := (hb.cell (World.block_lt_of_cell? _ _ (hHeld.2.2.2.2))).trans (hHeld.2.2.2.2)
                    have n0_ := aA (Kd.V_below (Kd.V_elderB (vlu HO_9.out) gb294 (Nat.le_of_eq hg.symm)) hb)
                    have n1_ := aA (Kd.R_below (rlu HO_10.out) hb)
                    have n2_ := aA (blk_below (g := gb262) (o := .cells #[.int .i64 1, .int .i64 (wrap64 (1 + (Int.tmod (wrap64 (a0)) 4)))] 38 (0, 0)) (bku BK262.out) hb)
                    have n3_ := aA (blk_below (g := gb272) (o := .cells #[.int .i64 x273000_3, .int .u64 x273001_3, .int .u64 x273002_3] 56 (0, 0)) (bku BK272.out) hb)
                    have n4_ := aA (below_step (bls HB.out) hb)
                    have n5_ := aA (hbox)
                    have n6_ := aA ((by rw [hg]; exact (below_size (bls HB.out)) : w.heap.size ≤ gb294))
                    have n7_ := aA ((by rw [hg]; exact (below_size (bls HB.out)) : w.heap.size ≤ gb294))
                    have n8_ := aA ((by rw [hg]; exact Nat.ne_of_lt (blk_lt (g := gb262) (o := .cells #[.int .i64 1, .int .i64 (wrap64 (1 + (Int.tmod (wrap64 (a0)) 4)))] 38 (0, 0)) (bku BK262.out)) : gb262 ≠ gb294))
                    have n9_ := aA ((by rw [hg]; exact Nat.ne_of_gt (blk_lt (g := gb262) (o := .cells #[.int .i64 1, .int .i64 (wrap64 (1 + (Int.tmod (wrap64 (a0)) 4)))] 38 (0, 0)) (bku BK262.out)) : gb294 ≠ gb262))
                    have n10_ := aA ((by rw [hg]; exact Nat.ne_of_lt (blk_lt (g := gb272) (o := .cells #[.int .i64 x273000_3, .int .u64 x273001_3, .int .u64 x273002_3] 56 (0, 0)) (bku BK272.out)) : gb272 ≠ gb294))
                    have n11_ := aA ((by rw [hg]; exact Nat.ne_of_gt (blk_lt (g := gb272) (o := .cells #[.int .i64 x273000_3, .int .u64 x273001_3, .int .u64 x273002_3] 56 (0, 0)) (bku BK272.out)) : gb294 ≠ gb272))
                    clear HO_9
                    clear HO_10
                    clear BK262
                    clear BK272
                    clear HB
                    have HO_9 := n0_
                    have HO_10 := n1_
                    have BK262 := n2_
                    have BK272 := n3_
                    have HB := n4_
                    have BK294 := n5_
                    have GW294 := n6_
                    have GE294 := n7_
                    have NB262_294 := n8_
                    have NB294_262 := n9_
                    have NB272_294 := n10_
                    have NB294_272 := n11_
                    clear n0_ n1_ n2_ n3_ n4_ n5_ n6_ n7_ n8_ n9_ n10_ n11_
                    clear hb hbox hg
                    refine hK.out _ _ ⟨(blk_cell BK262.out 0).trans rfl, (blk_cell BK262.out 1).trans rfl, HS2_, HS3_, HS4_⟩ (fun hHeld => ?_)
                    clear hK K
                    refine norm_ (a' := ?_) ?_ ?_
                    rotate_left
                    ·show Act.put _ (some 21) _ = _
                     simp only [Act.put, List.setIfInBounds_toArray, List.set_cons_zero, List.set_cons_succ, i64_w, i32_w]
                     rfl
                    exact norm_ (by simp only [putAll, Act.put, List.setIfInBounds_toArray, List.set_cons_zero, List.set_cons_succ]) (hCont (gb294) _ ⟨hHeld, (rlu HO_10.out), (vlu (Kd.V_mono HO_9.out (fun _ hk => ⟨hk.1.1, ⟨hk.1.2.1, ⟨hk.1.2.2, hk.2⟩⟩⟩))), (bku BK262.out), (bku BK272.out), (bku BK294.out), GW294.out, GE294.out, NB262_294.out, NB294_262.out, NB272_294.out, NB294_272.out, (bls HB.out)⟩)
                   ·skip
                    refine box_step ?hg (N := 21) ?hd (cs := #[.int .i64 0, .int .i64 0, .int .u64 0, .int .u64 0]) (t := 25) ?hr ?_; (case hd => rfl); (case hg => rfl); (case hr => first | (go_simp; done) | (go_simp; rfl))
                    intro gb294 hg w71 hbox hb
                    have HS2_ := (hb.cell (World.block_lt_of_cell? _ _ (hHeld.2.2.1))).trans (hHeld.2.2.1)
                    have HS3_ := (hb.cell (World.block_lt_of_cell? _ _ (hHeld.2.2.2.1))).trans (hHeld.2.2.2.1)
                    have HS4_ := (hb.cell (World.block_lt_of_cell? _ _ (hHeld.2.2.2.2))).trans (hHeld.2.2.2.2)
                    have n0_ := aA (Kd.V_below (Kd.V_elderB (vlu HO_9.out) gb294 (Nat.le_of_eq hg.symm)) hb)
                    have n1_ := aA (Kd.R_below (rlu HO_10.out) hb)
                    have n2_ := aA (blk_below (g := gb262) (o := .cells #[.int .i64 1, .int .i64 (wrap64 (1 + (Int.tmod (wrap64 (a0)) 4)))] 38 (0, 0)) (bku BK262.out) hb)
                    have n3_ := aA (blk_below (g := gb272) (o := .cells #[.int .i64 x273000_3, .int .u64 x273001_3, .int .u64 x273002_3] 56 (0, 0)) (bku BK272.out) hb)
                    have n4_ := aA (below_step (bls HB.out) hb)
                    have n5_ := aA (hbox)
                    have n6_ := aA ((by rw [hg]; exact (below_size (bls HB.out)) : w.heap.size ≤ gb294))
                    have n7_ := aA ((by rw [hg]; exact (below_size (bls HB.out)) : w.heap.size ≤ gb294))
                    have n8_ := aA ((by rw [hg]; exact Nat.ne_of_lt (blk_lt (g := gb262) (o := .cells #[.int .i64 1, .int .i64 (wrap64 (1 + (Int.tmod (wrap64 (a0)) 4)))] 38 (0, 0)) (bku BK262.out)) : gb262 ≠ gb294))
                    have n9_ := aA ((by rw [hg]; exact Nat.ne_of_gt (blk_lt (g := gb262) (o := .cells #[.int .i64 1, .int .i64 (wrap64 (1 + (Int.tmod (wrap64 (a0)) 4)))] 38 (0, 0)) (bku BK262.out)) : gb294 ≠ gb262))
                    have n10_ := aA ((by rw [hg]; exact Nat.ne_of_lt (blk_lt (g := gb272) (o := .cells #[.int .i64 x273000_3, .int .u64 x273001_3, .int .u64 x273002_3] 56 (0, 0)) (bku BK272.out)) : gb272 ≠ gb294))
                    have n11_ := aA ((by rw [hg]; exact Nat.ne_of_gt (blk_lt (g := gb272) (o := .cells #[.int .i64 x273000_3, .int .u64 x273001_3, .int .u64 x273002_3] 56 (0, 0)) (bku BK272.out)) : gb294 ≠ gb272))
                    clear HO_9
                    clear HO_10
                    clear BK262
                    clear BK272
                    clear HB
                    have HO_9 := n0_
                    have HO_10 := n1_
                    have BK262 := n2_
                    have BK272 := n3_
                    have HB := n4_
                    have BK294 := n5_
                    have GW294 := n6_
                    have GE294 := n7_
                    have NB262_294 := n8_
                    have NB294_262 := n9_
                    have NB272_294 := n10_
                    have NB294_272 := n11_
                    clear n0_ n1_ n2_ n3_ n4_ n5_ n6_ n7_ n8_ n9_ n10_ n11_
                    clear hb hbox hg
                    refine hK.out _ _ ⟨(blk_cell BK262.out 0).trans rfl, (blk_cell BK262.out 1).trans rfl, HS2_, HS3_, HS4_⟩ (fun hHeld => ?_)
                    clear hK K
                    refine norm_ (a' := ?_) ?_ ?_
                    rotate_left
                    ·show Act.put _ (some 21) _ = _
                     simp only [Act.put, List.setIfInBounds_toArray, List.set_cons_zero, List.set_cons_succ, i64_w, i32_w]
                     rfl
                    refine one_ (i := 5) (N := some 121) #[true, true, true, true, true, true, false, false, false, true, false, false] rfl rfl (one_of HT_.out (by kernel_rfl)) (by decide) (fun K hK => ?_)
                    refine goes_ Try.func47 (by kernel_rfl) rfl #[.agg #[.int .i64 1, .int .i64 (wrap64 (1 + (Int.tmod (wrap64 (a0)) 4)))], .agg #[.int .i64 ((rd_T54 x10_3 x15_25).f0), .int .u64 ((rd_T54 x10_3 x15_25).f1), .int .u64 ((rd_T54 x10_3 x15_25).f2)]] (by rfl) rfl rfl (by (try simp only [List.map_toArray, List.map_cons, List.map_nil]); first | done | rfl | (simp only [List.length_drop, List.length_take]; rfl)) ?_
                    with_reducible refine (queue_Want.calls 1 (wrap64 (1 + (Int.tmod (wrap64 (a0)) 4))) ((rd_T54 x10_3 x15_25).f0) ((rd_T54 x10_3 x15_25).f1) ((rd_T54 x10_3 x15_25).f2) t289 t290 t291 t292 true _ A64.out).mono ?_
                    rintro e w72 ⟨rfl, hb⟩
                    have HS2_ := (hb.cell (World.block_lt_of_cell? _ _ (hHeld.2.2.1))).trans (hHeld.2.2.1)
                    have HS3_ := (hb.cell (World.block_lt_of_cell? _ _ (hHeld.2.2.2.1))).trans (hHeld.2.2.2.1)
                    have HS4_ := (hb.cell (World.block_lt_of_cell? _ _ (hHeld.2.2.2.2))).trans (hHeld.2.2.2.2)
                    refine ⟨_, rfl, ?_⟩
                    have n0_ := aA (Kd.V_below (vlu HO_9.out) hb)
                    have n1_ := aA (Kd.R_below (rlu HO_10.out) hb)
                    have n2_ := aA (blk_below (g := gb262) (o := .cells #[.int .i64 1, .int .i64 (wrap64 (1 + (Int.tmod (wrap64 (a0)) 4)))] 38 (0, 0)) (bku BK262.out) hb)
                    have n3_ := aA (blk_below (g := gb272) (o := .cells #[.int .i64 x273000_3, .int .u64 x273001_3, .int .u64 x273002_3] 56 (0, 0)) (bku BK272.out) hb)
                    have n4_ := aA (blk_below (g := gb294) (o := .cells #[.int .i64 0, .int .i64 0, .int .u64 0, .int .u64 0] 25 (0, 0)) (bku BK294.out) hb)
                    have n5_ := aA (below_step (bls HB.out) hb)
                    clear HO_9
                    clear HO_10
                    clear BK262
                    clear BK272
                    clear BK294
                    clear HB
                    have HO_9 := n0_
                    have HO_10 := n1_
                    have BK262 := n2_
                    have BK272 := n3_
                    have BK294 := n4_
                    have HB := n5_
                    clear n0_ n1_ n2_ n3_ n4_ n5_
                    (try clear hb)
                    (try clear hb2)
                    (try clear hk)
                    (try clear hi)
                    refine hK.out _ _ ⟨(blk_cell BK262.out 0).trans rfl, (blk_cell BK262.out 1).trans rfl, HS2_, HS3_, HS4_⟩ (fun hHeld => ?_)
                    clear hK K
                    refine norm_ (a' := ?_) ?_ ?_
                    rotate_left
                    ·show Act.put _ (some 121) _ = _
                     simp only [Act.put, List.setIfInBounds_toArray, List.set_cons_zero, List.set_cons_succ, i64_w, i32_w]
                     rfl
                    refine pure_ (i := 6) (N := some 115) (v := ?_) (a' := ?_) #[true, true, true, true, true, true, true, false, false, true, false, false] rfl rfl (any_of HT_.out (by kernel_rfl)) (fun _ _ _ h => h) (Or.inl ⟨by rfl, ?_⟩) ?_ ?_
                    rotate_left
                    ·intro w'
                     go_simp
                     with_reducible rfl
                    rotate_left
                    ·simp only [Act.put, List.setIfInBounds_toArray, List.set_cons_zero, List.set_cons_succ, i64_w, i32_w]
                     rfl
                    refine pure_ (i := 7) (N := some 122) (v := ?_) (a' := ?_) #[true, true, true, true, true, true, true, true, false, true, false, false] rfl rfl (any_of HT_.out (by kernel_rfl)) (fun _ _ _ h => h) (Or.inl ⟨by rfl, ?_⟩) ?_ ?_
                    rotate_left
                    ·intro w'
                     go_simp
                     with_reducible rfl
                    rotate_left
                    ·simp only [Act.put, List.setIfInBounds_toArray, List.set_cons_zero, List.set_cons_succ, i64_w, i32_w]
                     rfl
                    refine pure_ (i := 8) (N := some 123) (v := ?_) (a' := ?_) #[true, true, true, true, true, true, true, true, true, true, false, false] rfl rfl (any_of HT_.out (by kernel_rfl)) (fun _ _ _ h => h) (Or.inl ⟨by rfl, ?_⟩) ?_ ?_
                    rotate_left
                    ·intro w'
                     go_simp
                     with_reducible rfl
                    rotate_left
                    ·simp only [Act.put, List.setIfInBounds_toArray, List.set_cons_zero, List.set_cons_succ, i64_w, i32_w]
                     rfl
                    exact norm_ (by simp only [putAll, Act.put, List.setIfInBounds_toArray, List.set_cons_zero, List.set_cons_succ]) (hCont (gb294) _ ⟨hHeld, (rlu HO_10.out), (vlu (Kd.V_mono HO_9.out (fun _ hk => ⟨hk.1.1, ⟨hk.1.2.1, ⟨hk.1.2.2, hk.2⟩⟩⟩))), (bku BK262.out), (bku BK272.out), (bku BK294.out), GW294.out, GE294.out, NB262_294.out, NB294_262.out, NB272_294.out, NB294_272.out, (bls HB.out)⟩)
                  rintro gb294 w73 ⟨hS_, h0_, h1_, h2_, h3_, h4_, h5_, h6_, h7_, h8_, h9_, h10_, h11_⟩
                  have n0_ : Aside0 (Kd.R k54 54 w73 w.heap.size (fun _ => True) (.slice (some ad288) x10_3.length co70) x10_3) := ⟨h0_⟩
                  have n1_ : Aside0 (Kd.V (Kd.int .u64) 23 w73 w.heap.size (fun k_ => some k_ ≠ (.slice (some ad288) x10_3.length co70 : Value).ownBlock ∧ k_ ≠ gb262 ∧ k_ ≠ gb272 ∧ k_ ≠ gb294) u9 x9_3) := ⟨h1_⟩
                  have n2_ : Aside0 (w73.heap[gb262]? = some (.cells #[.int .i64 1, .int .i64 (wrap64 (1 + (Int.tmod (wrap64 (a0)) 4)))] 38 (0, 0))) := ⟨h2_⟩
                  have n3_ : Aside0 (w73.heap[gb272]? = some (.cells #[.int .i64 x273000_3, .int .u64 x273001_3, .int .u64 x273002_3] 56 (0, 0))) := ⟨h3_⟩
                  have n4_ : Aside0 (w73.heap[gb294]? = some (.cells #[.int .i64 0, .int .i64 0, .int .u64 0, .int .u64 0] 25 (0, 0))) := ⟨h4_⟩
                  have n5_ : Aside0 (w.heap.size ≤ gb294) := ⟨h5_⟩
                  have n6_ : Aside0 (w.heap.size ≤ gb294) := ⟨h6_⟩
                  have n7_ : Aside0 (gb262 ≠ gb294) := ⟨h7_⟩
                  have n8_ : Aside0 (gb294 ≠ gb262) := ⟨h8_⟩
                  have n9_ : Aside0 (gb272 ≠ gb294) := ⟨h9_⟩
                  have n10_ : Aside0 (gb294 ≠ gb272) := ⟨h10_⟩
                  have n11_ : Aside0 (Below w.heap.size w w73) := ⟨h11_⟩
                  clear HO_9
                  clear HO_10
                  clear BK262
                  clear BK272
                  clear HB
                  clear h0_ h1_ h2_ h3_ h4_ h5_ h6_ h7_ h8_ h9_ h10_ h11_
                  have HO_10 := n0_
                  have HO_9 := n1_
                  have BK262 := n2_
                  have BK272 := n3_
                  have BK294 := n4_
                  have GW294 := n5_
                  have GE294 := n6_
                  have NB262_294 := n7_
                  have NB294_262 := n8_
                  have NB272_294 := n9_
                  have NB294_272 := n10_
                  have HB := n11_
                  clear n0_ n1_ n2_ n3_ n4_ n5_ n6_ n7_ n8_ n9_ n10_ n11_
                  have hHeld : w73.cell? ⟨gb262, 0, none⟩ = some (.int .i64 1) ∧ w73.cell? ⟨gb262, 1, none⟩ = some (.int .i64 (wrap64 (1 + (Int.tmod (wrap64 (a0)) 4)))) ∧ w73.cell? (ad288.add ((x15_25).toNat * 3)) = some (.int .i64 ((rd_T54 x10_3 x15_25).f0)) ∧ w73.cell? ⟨(ad288.add ((x15_25).toNat * 3)).block, (ad288.add ((x15_25).toNat * 3)).off + 1, none⟩ = some (.int .u64 ((rd_T54 x10_3 x15_25).f1)) ∧ w73.cell? ⟨(ad288.add ((x15_25).toNat * 3)).block, (ad288.add ((x15_25).toNat * 3)).off + 2, none⟩ = some (.int .u64 ((rd_T54 x10_3 x15_25).f2)) := hS_
                  refine norm_ (a' := ?_) ?_ ?_
                  rotate_left
                  ·simp only [putAll, Act.put, List.setIfInBounds_toArray, List.set_cons_zero, List.set_cons_succ]
                   rfl
                  refine one_ (i := 10) (N := none) #[true, true, true, true, true, true, true, true, true, true, true, false] rfl rfl (one_of HT_.out (by kernel_rfl)) (by decide) (fun K hK => ?_)
                  have hs74 : w73.cell? ⟨gb294, 0, none⟩ = some (.int .i64 0) := (blk_cell BK294.out 0).trans rfl
                  have hfs74 := blk_frozen BK294.out 0
                  have hns74_0 := NB262_294.out
                  have hns74_1 := NB272_294.out
                  have hms74_0 := NB294_262.out
                  have hms74_1 := NB294_272.out
                  have hs75 : w73.cell? ⟨gb294, 1, none⟩ = some (.int .i64 0) := (blk_cell BK294.out 1).trans rfl
                  have hfs75 := blk_frozen BK294.out 1
                  have hns75_0 := NB262_294.out
                  have hns75_1 := NB272_294.out
                  have hms75_0 := NB294_262.out
                  have hms75_1 := NB294_272.out
                  have hs76 : w73.cell? ⟨gb294, 2, none⟩ = some (.int .u64 0) := (blk_cell BK294.out 2).trans rfl
                  have hfs76 := blk_frozen BK294.out 2
                  have hns76_0 := NB262_294.out
                  have hns76_1 := NB272_294.out
                  have hms76_0 := NB294_262.out
                  have hms76_1 := NB294_272.out
                  have hs77 : w73.cell? ⟨gb294, 3, none⟩ = some (.int .u64 0) := (blk_cell BK294.out 3).trans rfl
                  have hfs77 := blk_frozen BK294.out 3
                  have hns77_0 := NB262_294.out
                  have hns77_1 := NB272_294.out
                  have hms77_0 := NB294_262.out
                  have hms77_1 := NB294_272.out
                  refine skip_ (w1 := ?_) (by rfl) rfl ?_ ?_
                  rotate_left
                  ·go_simp
                   rfl
                  refine hK.out _ _ ⟨((cell_far (p := ⟨gb294, _, none⟩) NB262_294.out _).trans (((cell_far (p := ⟨gb294, _, none⟩) NB262_294.out _).trans (((cell_far (p := ⟨gb294, _, none⟩) NB262_294.out _).trans (((cell_far (p := ⟨gb294, _, none⟩) NB262_294.out _).trans (hHeld.1)))))))), ((cell_far (p := ⟨gb294, _, none⟩) NB262_294.out _).trans (((cell_far (p := ⟨gb294, _, none⟩) NB262_294.out _).trans (((cell_far (p := ⟨gb294, _, none⟩) NB262_294.out _).trans (((cell_far (p := ⟨gb294, _, none⟩) NB262_294.out _).trans (hHeld.2.1)))))))), ((cell_far (p := ⟨gb294, _, none⟩) (by first | exact Kd.own_blk (Kd.R_ne HO_10.out BK294.out (by decide)) | (rw [add_block]; exact Kd.own_blk (Kd.R_ne HO_10.out BK294.out (by decide))) | (show (Addr.add _ _).block ≠ _; rw [add_block]; exact Kd.own_blk (Kd.R_ne HO_10.out BK294.out (by decide))) | (dsimp only; exact Kd.own_blk (Kd.R_ne HO_10.out BK294.out (by decide)))) _).trans (((cell_far (p := ⟨gb294, _, none⟩) (by first | exact Kd.own_blk (Kd.R_ne HO_10.out BK294.out (by decide)) | (rw [add_block]; exact Kd.own_blk (Kd.R_ne HO_10.out BK294.out (by decide))) | (show (Addr.add _ _).block ≠ _; rw [add_block]; exact Kd.own_blk (Kd.R_ne HO_10.out BK294.out (by decide))) | (dsimp only; exact Kd.own_blk (Kd.R_ne HO_10.out BK294.out (by decide)))) _).trans (((cell_far (p := ⟨gb294, _, none⟩) (by first | exact Kd.own_blk (Kd.R_ne HO_10.out BK294.out (by decide)) | (rw [add_block]; exact Kd.own_blk (Kd.R_ne HO_10.out BK294.out (by decide))) | (show (Addr.add _ _).block ≠ _; rw [add_block]; exact Kd.own_blk (Kd.R_ne HO_10.out BK294.out (by decide))) | (dsimp only; exact Kd.own_blk (Kd.R_ne HO_10.out BK294.out (by decide)))) _).trans (((cell_far (p := ⟨gb294, _, none⟩) (by first | exact Kd.own_blk (Kd.R_ne HO_10.out BK294.out (by decide)) | (rw [add_block]; exact Kd.own_blk (Kd.R_ne HO_10.out BK294.out (by decide))) | (show (Addr.add _ _).block ≠ _; rw [add_block]; exact Kd.own_blk (Kd.R_ne HO_10.out BK294.out (by decide))) | (dsimp only; exact Kd.own_blk (Kd.R_ne HO_10.out BK294.out (by decide)))) _).trans (hHeld.2.2.1)))))))), ((cell_far (p := ⟨gb294, _, none⟩) (by first | exact Kd.own_blk (Kd.R_ne HO_10.out BK294.out (by decide)) | (rw [add_block]; exact Kd.own_blk (Kd.R_ne HO_10.out BK294.out (by decide))) | (show (Addr.add _ _).block ≠ _; rw [add_block]; exact Kd.own_blk (Kd.R_ne HO_10.out BK294.out (by decide))) | (dsimp only; exact Kd.own_blk (Kd.R_ne HO_10.out BK294.out (by decide)))) _).trans (((cell_far (p := ⟨gb294, _, none⟩) (by first | exact Kd.own_blk (Kd.R_ne HO_10.out BK294.out (by decide)) | (rw [add_block]; exact Kd.own_blk (Kd.R_ne HO_10.out BK294.out (by decide))) | (show (Addr.add _ _).block ≠ _; rw [add_block]; exact Kd.own_blk (Kd.R_ne HO_10.out BK294.out (by decide))) | (dsimp only; exact Kd.own_blk (Kd.R_ne HO_10.out BK294.out (by decide)))) _).trans (((cell_far (p := ⟨gb294, _, none⟩) (by first | exact Kd.own_blk (Kd.R_ne HO_10.out BK294.out (by decide)) | (rw [add_block]; exact Kd.own_blk (Kd.R_ne HO_10.out BK294.out (by decide))) | (show (Addr.add _ _).block ≠ _; rw [add_block]; exact Kd.own_blk (Kd.R_ne HO_10.out BK294.out (by decide))) | (dsimp only; exact Kd.own_blk (Kd.R_ne HO_10.out BK294.out (by decide)))) _).trans (((cell_far (p := ⟨gb294, _, none⟩) (by first | exact Kd.own_blk (Kd.R_ne HO_10.out BK294.out (by decide)) | (rw [add_block]; exact Kd.own_blk (Kd.R_ne HO_10.out BK294.out (by decide))) | (show (Addr.add _ _).block ≠ _; rw [add_block]; exact Kd.own_blk (Kd.R_ne HO_10.out BK294.out (by decide))) | (dsimp only; exact Kd.own_blk (Kd.R_ne HO_10.out BK294.out (by decide)))) _).trans (hHeld.2.2.2.1)))))))), ((cell_far (p := ⟨gb294, _, none⟩) (by first | exact Kd.own_blk (Kd.R_ne HO_10.out BK294.out (by decide)) | (rw [add_block]; exact Kd.own_blk (Kd.R_ne HO_10.out BK294.out (by decide))) | (show (Addr.add _ _).block ≠ _; rw [add_block]; exact Kd.own_blk (Kd.R_ne HO_10.out BK294.out (by decide))) | (dsimp only; exact Kd.own_blk (Kd.R_ne HO_10.out BK294.out (by decide)))) _).trans (((cell_far (p := ⟨gb294, _, none⟩) (by first | exact Kd.own_blk (Kd.R_ne HO_10.out BK294.out (by decide)) | (rw [add_block]; exact Kd.own_blk (Kd.R_ne HO_10.out BK294.out (by decide))) | (show (Addr.add _ _).block ≠ _; rw [add_block]; exact Kd.own_blk (Kd.R_ne HO_10.out BK294.out (by decide))) | (dsimp only; exact Kd.own_blk (Kd.R_ne HO_10.out BK294.out (by decide)))) _).trans (((cell_far (p := ⟨gb294, _, none⟩) (by first | exact Kd.own_blk (Kd.R_ne HO_10.out BK294.out (by decide)) | (rw [add_block]; exact Kd.own_blk (Kd.R_ne HO_10.out BK294.out (by decide))) | (show (Addr.add _ _).block ≠ _; rw [add_block]; exact Kd.own_blk (Kd.R_ne HO_10.out BK294.out (by decide))) | (dsimp only; exact Kd.own_blk (Kd.R_ne HO_10.out BK294.out (by decide)))) _).trans (((cell_far (p := ⟨gb294, _, none⟩) (by first | exact Kd.own_blk (Kd.R_ne HO_10.out BK294.out (by decide)) | (rw [add_block]; exact Kd.own_blk (Kd.R_ne HO_10.out BK294.out (by decide))) | (show (Addr.add _ _).block ≠ _; rw [add_block]; exact Kd.own_blk (Kd.R_ne HO_10.out BK294.out (by decide))) | (dsimp only; exact Kd.own_blk (Kd.R_ne HO_10.out BK294.out (by decide)))) _).trans (hHeld.2.2.2.2))))))))⟩ (fun hHeld => ?_)
                  clear hK K
                  refine pure_ (i := 11) (N := some 22) (v := ?_) (a' := ?_) #[true, true, true, true, true, true, true, true, true, true, true, true] rfl rfl (any_of HT_.out (by kernel_rfl)) (fun _ _ _ h => h) (Or.inl ⟨by rfl, ?_⟩) ?_ ?_
                  rotate_left
                  ·intro w'
                   go_simp
                   with_reducible rfl
                  rotate_left
                  ·simp only [Act.put, List.setIfInBounds_toArray, List.set_cons_zero, List.set_cons_succ, i64_w, i32_w]
                   rfl
                  refine done_ (done_of HT_.out (by kernel_rfl)) ?_
                  have n0_ : Aside0 (Kd.V (Kd.int .u64) 23 ((((w73.setCell ⟨gb294, 0, none⟩ (.int .i64 t289)).setCell ⟨gb294, 1, none⟩ (.int .i64 t290)).setCell ⟨gb294, 2, none⟩ (.int .u64 t291)).setCell ⟨gb294, 3, none⟩ (.int .u64 t292)) w.heap.size (fun k_ => some k_ ≠ (.slice (some ad288) x10_3.length co70 : Value).ownBlock ∧ k_ ≠ gb262 ∧ k_ ≠ gb272 ∧ k_ ≠ gb294) u9 x9_3) := ⟨by (with_reducible repeat (first | apply Kd.V_alloc | apply Kd.V_drewN | apply Kd.V_drew)); exact Kd.V_mono (Kd.V_far (p := ⟨gb294, 3, none⟩) (Kd.V_far (p := ⟨gb294, 2, none⟩) (Kd.V_far (p := ⟨gb294, 1, none⟩) (Kd.V_far (p := ⟨gb294, 0, none⟩) (Kd.V_mono HO_9.out (fun k_ hk => (⟨hk, hk.2.2.2⟩ : _ ∧ k_ ≠ gb294))) (fun _ hk => hk.2) (.int .i64 t289)) (fun _ hk => hk.2) (.int .i64 t290)) (fun _ hk => hk.2) (.int .u64 t291)) (fun _ hk => hk.2) (.int .u64 t292)) (fun _ hk => ⟨hk.1.1, ⟨hk.1.2.1, ⟨hk.1.2.2.1, hk.1.2.2.2⟩⟩⟩)⟩
                  have n1_ : Aside0 (Kd.R k54 54 ((((w73.setCell ⟨gb294, 0, none⟩ (.int .i64 t289)).setCell ⟨gb294, 1, none⟩ (.int .i64 t290)).setCell ⟨gb294, 2, none⟩ (.int .u64 t291)).setCell ⟨gb294, 3, none⟩ (.int .u64 t292)) w.heap.size (fun _ => True) (.slice (some ad288) x10_3.length co70) x10_3) := ⟨by (with_reducible repeat (first | apply Kd.R_alloc | apply Kd.R_drewN | apply Kd.R_drew)); exact Kd.R_mono (Kd.R_far (p := ⟨gb294, 3, none⟩) (Kd.R_far (p := ⟨gb294, 2, none⟩) (Kd.R_far (p := ⟨gb294, 1, none⟩) (Kd.R_far (p := ⟨gb294, 0, none⟩) (Kd.R_types HO_10.out BK294.out (by decide)) (fun _ hk => hk.2) (.int .i64 t289)) (fun _ hk => hk.2) (.int .i64 t290)) (fun _ hk => hk.2) (.int .u64 t291)) (fun _ hk => hk.2) (.int .u64 t292)) (fun _ hk => trivial)⟩
                  have n2_ : Aside0 (((((w73.setCell ⟨gb294, 0, none⟩ (.int .i64 t289)).setCell ⟨gb294, 1, none⟩ (.int .i64 t290)).setCell ⟨gb294, 2, none⟩ (.int .u64 t291)).setCell ⟨gb294, 3, none⟩ (.int .u64 t292)).heap[gb262]? = some (.cells #[.int .i64 1, .int .i64 (wrap64 (1 + (Int.tmod (wrap64 (a0)) 4)))] 38 (0, 0))) := ⟨by refine bku ?_; refine blk_far ?_ NB262_294.out _; refine bku ?_; refine blk_far ?_ NB262_294.out _; refine bku ?_; refine blk_far ?_ NB262_294.out _; refine bku ?_; refine blk_far ?_ NB262_294.out _; refine bku ?_; exact BK262.out⟩
                  have n3_ : Aside0 (((((w73.setCell ⟨gb294, 0, none⟩ (.int .i64 t289)).setCell ⟨gb294, 1, none⟩ (.int .i64 t290)).setCell ⟨gb294, 2, none⟩ (.int .u64 t291)).setCell ⟨gb294, 3, none⟩ (.int .u64 t292)).heap[gb272]? = some (.cells #[.int .i64 x273000_3, .int .u64 x273001_3, .int .u64 x273002_3] 56 (0, 0))) := ⟨by refine bku ?_; refine blk_far ?_ NB272_294.out _; refine bku ?_; refine blk_far ?_ NB272_294.out _; refine bku ?_; refine blk_far ?_ NB272_294.out _; refine bku ?_; refine blk_far ?_ NB272_294.out _; refine bku ?_; exact BK272.out⟩
                  have n4_ : Aside0 (((((w73.setCell ⟨gb294, 0, none⟩ (.int .i64 t289)).setCell ⟨gb294, 1, none⟩ (.int .i64 t290)).setCell ⟨gb294, 2, none⟩ (.int .u64 t291)).setCell ⟨gb294, 3, none⟩ (.int .u64 t292)).heap[gb294]? = some (.cells #[.int .i64 t289, .int .i64 t290, .int .u64 t291, .int .u64 t292] 25 (0, 0))) := ⟨by refine bku ?_; refine blk_put (cs := #[.int .i64 t289, .int .i64 t290, .int .u64 t291, .int .u64 0]) ?_ 3 _ rfl; refine bku ?_; refine blk_put (cs := #[.int .i64 t289, .int .i64 t290, .int .u64 0, .int .u64 0]) ?_ 2 _ rfl; refine bku ?_; refine blk_put (cs := #[.int .i64 t289, .int .i64 0, .int .u64 0, .int .u64 0]) ?_ 1 _ rfl; refine bku ?_; refine blk_put (cs := #[.int .i64 0, .int .i64 0, .int .u64 0, .int .u64 0]) ?_ 0 _ rfl; refine bku ?_; exact BK294.out⟩
                  have n5_ : Aside0 (Below w.heap.size w ((((w73.setCell ⟨gb294, 0, none⟩ (.int .i64 t289)).setCell ⟨gb294, 1, none⟩ (.int .i64 t290)).setCell ⟨gb294, 2, none⟩ (.int .u64 t291)).setCell ⟨gb294, 3, none⟩ (.int .u64 t292))) := ⟨by repeat (first | (with_reducible first | exact HB.out | apply below_alloc | apply pw_below_drewN | apply below_drew1 | refine below_set ?_ GE262.out | refine below_set ?_ GE272.out | refine below_set ?_ GE294.out) | exact HB.out)⟩
                  (try clear HO_9)
                  (try clear HO_10)
                  (try clear BK262)
                  (try clear BK272)
                  (try clear BK294)
                  (try clear HB)
                  generalize ((((w73.setCell ⟨gb294, 0, none⟩ (.int .i64 t289)).setCell ⟨gb294, 1, none⟩ (.int .i64 t290)).setCell ⟨gb294, 2, none⟩ (.int .u64 t291)).setCell ⟨gb294, 3, none⟩ (.int .u64 t292)) = w78 at n0_ n1_ n2_ n3_ n4_ n5_ ⊢
                  have HO_9 := n0_
                  have HO_10 := n1_
                  have BK262 := n2_
                  have BK272 := n3_
                  have BK294 := n4_
                  have HB := n5_
                  clear n0_ n1_ n2_ n3_ n4_ n5_
                  have hnb79 := NB294_262.out
                  have hnc79 := NB262_294.out
                  have hnb80 := NB294_272.out
                  have hnc80 := NB272_294.out
                  have hcz81_0 : w78.cell? ⟨gb294, 0, none⟩ = some (.int .i64 t289) := (blk_cell BK294.out 0).trans rfl
                  have hcz81_1 : w78.cell? ⟨gb294, 1, none⟩ = some (.int .i64 t290) := (blk_cell BK294.out 1).trans rfl
                  have hcz81_2 : w78.cell? ⟨gb294, 2, none⟩ = some (.int .u64 t291) := (blk_cell BK294.out 2).trans rfl
                  have hcz81_3 : w78.cell? ⟨gb294, 3, none⟩ = some (.int .u64 t292) := (blk_cell BK294.out 3).trans rfl
                  have hfz81_0 := blk_frozen BK294.out 0
                  have hfz81_1 := blk_frozen BK294.out 1
                  have hfz81_2 := blk_frozen BK294.out 2
                  have hfz81_3 := blk_frozen BK294.out 3
                  obtain ⟨Ao82, co82, eo82⟩ := Kd.V_slice HO_9.out
                  subst eo82
                  try go_wp2_with (first | ((with_reducible refine gate_callee (f := 15) rfl ?_); refine goesL_ (some 128) rfl rfl Try.func15 (by kernel_rfl) rfl #[.slice Ao82 x9_3.length co82, .agg #[.int .i64 t289, .int .i64 t290, .int .u64 t291, .int .u64 t292]] rfl (by (try simp only [List.map_toArray, List.map_cons, List.map_nil]); first | done | rfl | (simp only [List.length_drop, List.length_take]; rfl)) ?_; (with_reducible refine (mem_Do.calls (fun k_ => (some k_ ≠ (.slice (some ad288) x10_3.length co70 : Value).ownBlock ∧ (k_ ≠ gb262 ∧ (k_ ≠ gb272 ∧ k_ ≠ gb294)))) _ _ x9_3 t289 t290 t291 t292 t295 t298 t299 _ ?side1 A66.out).mono ?_); (case side1 => exact HO_9.out); rintro e w83 ⟨v296, rfl, ho0, hb⟩; refine ⟨_, rfl, ?_⟩; have n0_ := aA (Kd.V_below (vlu HO_9.out) hb); have n1_ := aA (Kd.R_below (rlu HO_10.out) hb); have n2_ := aA (Kd.V_lower (Kd.V_mono (ok' := fun k_ => some k_ ≠ (.slice (some ad288) x10_3.length co70 : Value).ownBlock ∧ k_ ≠ gb262 ∧ k_ ≠ gb272 ∧ k_ ≠ gb294) ho0 (fun k_ hk_ => ⟨Or.elim hk_ (fun hs_ => hs_.1) (fun hn_ => (Kd.fresh' (Kd.R_lt (rlu HO_10.out)) k_ hn_)), Or.elim hk_ (fun hs_ => hs_.2.1) (fun hn_ => (Kd.freshB (g := gb262) (o := .cells #[.int .i64 1, .int .i64 (wrap64 (1 + (Int.tmod (wrap64 (a0)) 4)))] 38 (0, 0)) (bku BK262.out) k_ hn_)), Or.elim hk_ (fun hs_ => hs_.2.2.1) (fun hn_ => (Kd.freshB (g := gb272) (o := .cells #[.int .i64 x273000_3, .int .u64 x273001_3, .int .u64 x273002_3] 56 (0, 0)) (bku BK272.out) k_ hn_)), Or.elim hk_ (fun hs_ => hs_.2.2.2) (fun hn_ => (Kd.freshB (g := gb294) (o := .cells #[.int .i64 t289, .int .i64 t290, .int .u64 t291, .int .u64 t292] 25 (0, 0)) (bku BK294.out) k_ hn_))⟩)) (below_size (bls HB.out))); have n3_ := aA (blk_below (g := gb262) (o := .cells #[.int .i64 1, .int .i64 (wrap64 (1 + (Int.tmod (wrap64 (a0)) 4)))] 38 (0, 0)) (bku BK262.out) hb); have n4_ := aA (blk_below (g := gb272) (o := .cells #[.int .i64 x273000_3, .int .u64 x273001_3, .int .u64 x273002_3] 56 (0, 0)) (bku BK272.out) hb); have n5_ := aA (blk_below (g := gb294) (o := .cells #[.int .i64 t289, .int .i64 t290, .int .u64 t291, .int .u64 t292] 25 (0, 0)) (bku BK294.out) hb); have n6_ := aA (below_step (bls HB.out) hb); clear HO_9 HO_10 BK262 BK272 BK294 HB; have HO_9 := n0_; have HO_10 := n1_; have HO297 := n2_; have BK262 := n3_; have BK272 := n4_; have BK294 := n5_; have HB := n6_; clear n0_ n1_ n2_ n3_ n4_ n5_ n6_; (try clear hb); (try clear hb2); (try clear hk); (try clear hi); (try clear ho0); have p300 : 0 ≤ (x15_25 : Int) := of_decide_eq_true (by first | (with_reducible assumption) | assumption); have q300 : x15_25 < (x10_3.length : Int) := of_decide_eq_true (by first | (with_reducible assumption) | assumption); obtain ⟨ad300, e300, hx300_0, hx300_1, hx300_2⟩ := at_T54 (Kd.R_reads' HO_10.out).2.2 x15_25 p300 q300; obtain rfl : ad288 = ad300 := (by injection e300); replace p300 := eq_true p300; replace q300 := eq_true q300) | ((with_reducible refine gate_callee (f := 51) rfl ?_); refine goesL_ (some 141) rfl rfl Try.func51 (by kernel_rfl) rfl #[.agg #[.int .i64 ((rd_T54 x10_3 x15_25).f0), .int .u64 ((rd_T54 x10_3 x15_25).f1), .int .u64 ((rd_T54 x10_3 x15_25).f2)], .int .u64 t298, .bool t299] rfl (by (try simp only [List.map_toArray, List.map_cons, List.map_nil]); first | done | rfl | (simp only [List.length_drop, List.length_take]; rfl)) ?_; (with_reducible refine (queue_Got.calls kj25 ((rd_T54 x10_3 x15_25).f0) ((rd_T54 x10_3 x15_25).f1) ((rd_T54 x10_3 x15_25).f2) t298 t299 t301 t302 t303 _ A67.out).mono ?_); rintro e w84 ⟨rfl, hb⟩; refine ⟨_, rfl, ?_⟩; have n0_ := aA (Kd.V_below (vlu HO_9.out) hb); have n1_ := aA (Kd.R_below (rlu HO_10.out) hb); have n2_ := aA (Kd.V_below (vlu HO297.out) hb); have n3_ := aA (blk_below (g := gb262) (o := .cells #[.int .i64 1, .int .i64 (wrap64 (1 + (Int.tmod (wrap64 (a0)) 4)))] 38 (0, 0)) (bku BK262.out) hb); have n4_ := aA (blk_below (g := gb272) (o := .cells #[.int .i64 x273000_3, .int .u64 x273001_3, .int .u64 x273002_3] 56 (0, 0)) (bku BK272.out) hb); have n5_ := aA (blk_below (g := gb294) (o := .cells #[.int .i64 t289, .int .i64 t290, .int .u64 t291, .int .u64 t292] 25 (0, 0)) (bku BK294.out) hb); have n6_ := aA (below_step (bls HB.out) hb); clear HO_9 HO_10 HO297 BK262 BK272 BK294 HB; have HO_9 := n0_; have HO_10 := n1_; have HO297 := n2_; have BK262 := n3_; have BK272 := n4_; have BK294 := n5_; have HB := n6_; clear n0_ n1_ n2_ n3_ n4_ n5_ n6_; (try clear hb); (try clear hb2); (try clear hk); (try clear hi); have p68 : 0 ≤ (x15_25 : Int) := of_decide_eq_true (by first | (with_reducible assumption) | assumption); have q68 : (x15_25 : Int) < ((x10_3.length : Int) : Int) := of_decide_eq_true (by first | (with_reducible assumption) | assumption); obtain ⟨go68, co68, eo68, gb68, gl68, cl68, HG68⟩ := Kd.R_form HO_10.out (by omega); (first | cases eo68 | (injection eo68 with ea_ en_ ec_; (first | subst ea_ | (injection ea_ with ea_; subst ea_)); subst ec_; clear en_)); have GB68 := aA gb68; have GG68 := aA HG68; clear gb68 gl68 HG68; (first | simp only [add_plain] at hx288_0 | skip); (first | simp only [add_plain] at hx288_1 | skip); (first | simp only [add_plain] at hx288_2 | skip); (first | simp only [add_plain] at hx300_0 | skip); (first | simp only [add_plain] at hx300_1 | skip); (first | simp only [add_plain] at hx300_2 | skip); obtain ⟨ce68, hcl68, hM68, hcc68, hfr68⟩ := Kd.R_elem HO_10.out z54 (x15_25 : Int) p68 q68; obtain rfl := k54_openM hM68; have hx68_0 : w84.cell? ⟨go68, (x15_25 : Int).toNat * 3, none⟩ = some (.int .i64 ((rd_T54 x10_3 x15_25).f0)) := hcc68 0 _ rfl; have hx68_1 : w84.cell? ⟨go68, (x15_25 : Int).toNat * 3 + 1, none⟩ = some (.int .u64 ((rd_T54 x10_3 x15_25).f1)) := hcc68 1 _ rfl; have hx68_2 : w84.cell? ⟨go68, (x15_25 : Int).toNat * 3 + 2, none⟩ = some (.int .u64 ((rd_T54 x10_3 x15_25).f2)) := hcc68 2 _ rfl; have hf68_0 : w84.frozen? ⟨go68, (x15_25 : Int).toNat * 3, none⟩ = false := hfr68 0; have hf68_1 : w84.frozen? ⟨go68, (x15_25 : Int).toNat * 3 + 1, none⟩ = false := hfr68 1; have hf68_2 : w84.frozen? ⟨go68, (x15_25 : Int).toNat * 3 + 2, none⟩ = false := hfr68 2; clear hcl68 hcc68 hfr68 hM68; replace p68 := eq_true p68; replace q68 := eq_true q68; have HX85 := aA (show Kd.R k54 54 w84 w.heap.size (fun _ => True) (.slice (some ⟨go68, 0, none⟩) x10_3.length co70) x10_3 from (rlu HO_10.out)); obtain ⟨ce85, hcl85, hM85, hcc85, hfr85⟩ := Kd.R_elem HX85.out z54 (x15_25 : Int) (of_decide_eq_true (by first | (with_reducible assumption) | assumption)) (by have h_ : (x15_25 : Int) < ((x10_3.length : Int) : Int) := of_decide_eq_true (by first | (with_reducible assumption) | assumption); first | exact h_ | (have e_ := (Kd.R_reads' HO_10.out).1; omega) | simpa using h_); obtain rfl := k54_openM hM85; have HP85 := Kd.R_seg HX85.out (x15_25 : Int) (of_decide_eq_true (by first | (with_reducible assumption) | assumption)) (by have h_ : (x15_25 : Int) < ((x10_3.length : Int) : Int) := of_decide_eq_true (by first | (with_reducible assumption) | assumption); first | exact h_ | (have e_ := (Kd.R_reads' HO_10.out).1; omega) | simpa using h_) (seg := [.int .i64 t301, .int .u64 t302, .int .u64 t303]) (j := 0) hcl85 hcc85 (show 3 ≤ 3 from by decide) (x' := (⟨t301, t302, t303⟩ : S54)) (k54_mkM _ _ _ (⟨t301, t302, t303⟩ : S54) ) (fun _ hk => hk); have hx85_0 := hcc85 0 _ rfl; (try simp only [show (k54).sz = 3 from rfl, Nat.mul_one, Nat.add_zero] at hx85_0); have hf85_0 := hfr85 0; (try simp only [show (k54).sz = 3 from rfl, Nat.mul_one, Nat.add_zero] at hf85_0); have hx85_1 := hcc85 1 _ rfl; (try simp only [show (k54).sz = 3 from rfl, Nat.mul_one, Nat.add_zero] at hx85_1); have hf85_1 := hfr85 1; (try simp only [show (k54).sz = 3 from rfl, Nat.mul_one, Nat.add_zero] at hf85_1); have hx85_2 := hcc85 2 _ rfl; (try simp only [show (k54).sz = 3 from rfl, Nat.mul_one, Nat.add_zero] at hx85_2); have hf85_2 := hfr85 2; (try simp only [show (k54).sz = 3 from rfl, Nat.mul_one, Nat.add_zero] at hf85_2); clear hcl85 hcc85 hfr85 hM85) | ((with_reducible refine gate_store (t := 54) (p := 142) rfl ?_); refine store_event (t := 54) (p := 142) (v := ?vo_w86) (w1 := (((w84.setCell ⟨go68, (x15_25 : Int).toNat * 3, none⟩ (.int .i64 t301)).setCell ⟨go68, (x15_25 : Int).toNat * 3 + 1, none⟩ (.int .u64 t302)).setCell ⟨go68, (x15_25 : Int).toNat * 3 + 2, none⟩ (.int .u64 t303))) ?hg ?ho ?hn ?hr ?_; (case ho => rfl); (case hg => rfl); (case hn => rfl); (case hr => first | (go_simp; done) | (go_simp; rfl)); intro w86 hw; have hg : w84.grownBy w86 (some go68) := (by rw [hw]; exact HP85.2); have hp_ : Kd.R k54 54 w86 w.heap.size (fun _ => True) (.slice (some ⟨go68, 0, none⟩) x10_3.length co70) y304 := (by rw [hw, Ny304.out]; exact HP85.1); clear HP85; have n0_ := aA (Kd.V_afterv (v := (.slice (some ⟨go68, 0, none⟩) x10_3.length co70)) (v1 := (.slice (some ⟨go68, 0, none⟩) x10_3.length co70)) (ok := (fun k_ => k_ ≠ gb262 ∧ k_ ≠ gb272 ∧ k_ ≠ gb294)) (vlu (Kd.V_mono HO_9.out (fun _ hk => ⟨⟨hk.2.1, ⟨hk.2.2.1, hk.2.2.2⟩⟩, hk.1⟩))) hg (.inl rfl)); have n1_ := aA (hp_); have n2_ := aA (blk_grown (g := gb262) (o := .cells #[.int .i64 1, .int .i64 (wrap64 (1 + (Int.tmod (wrap64 (a0)) 4)))] 38 (0, 0)) (bku BK262.out) hg (Kd.R_ne HO_10.out BK262.out (by decide))); have n3_ := aA (blk_grown (g := gb272) (o := .cells #[.int .i64 x273000_3, .int .u64 x273001_3, .int .u64 x273002_3] 56 (0, 0)) (bku BK272.out) hg (Kd.R_ne HO_10.out BK272.out (by decide))); have n4_ := aA (blk_grown (g := gb294) (o := .cells #[.int .i64 t289, .int .i64 t290, .int .u64 t291, .int .u64 t292] 25 (0, 0)) (bku BK294.out) hg (Kd.R_ne HO_10.out BK294.out (by decide))); have n5_ := aA (Kd.V_afterv (v := (.slice (some ⟨go68, 0, none⟩) x10_3.length co70)) (v1 := (.slice (some ⟨go68, 0, none⟩) x10_3.length co70)) (ok := (fun k_ => k_ ≠ gb262 ∧ k_ ≠ gb272 ∧ k_ ≠ gb294)) (vlu (Kd.V_mono HO297.out (fun _ hk => ⟨⟨hk.2.1, ⟨hk.2.2.1, hk.2.2.2⟩⟩, hk.1⟩))) hg (.inl rfl)); have n6_ := aA ((by rw [hw]; exact below_set (below_set (below_set (HB.out) GB68.out) GB68.out) GB68.out : Below w.heap.size w w86)); clear HO_9 HO_10 BK262 BK272 BK294 HO297 HB; have HO_9 := n0_; have HO_10 := n1_; have BK262 := n2_; have BK272 := n3_; have BK294 := n4_; have HO297 := n5_; have HB := n6_; clear n0_ n1_ n2_ n3_ n4_ n5_ n6_ hg hw hp_))
                  go_roundg kj25
                  case measure => have := HJ3.out; have := HK2.out; have := HK3.out; have := HJ25.out; omega
                  case rel => exact ⟨(t295), (y304), (x13_3), (wrap64 (x14_3 + 1)), (x273000_3), (x273001_3), (x273002_3), (by first | rfl | (simp; done) | (simp [*]; done)), (by first | rfl | (simp; done) | (simp [*]; done)), H', ⟨by have := HJ3.out; have := HK2.out; have := HK3.out; have := HJ25.out; omega⟩, ⟨by (with_reducible repeat (first | apply Kd.V_alloc | apply Kd.V_drewN | apply Kd.V_drew)); exact Kd.V_mono HO297.out (fun _ hk => ⟨hk.2, ⟨hk.1.1, hk.1.2.1⟩⟩)⟩, ⟨by (with_reducible repeat (first | apply Kd.R_alloc | apply Kd.R_drewN | apply Kd.R_drew)); exact HO_10.out⟩, ⟨by refine bku ?_; exact BK262.out⟩, ⟨by refine bku ?_; exact BK272.out⟩, ⟨by repeat (first | (with_reducible first | exact HB.out | apply below_alloc | apply pw_below_drewN | apply below_drew1 | refine below_set ?_ GE262.out | refine below_set ?_ GE272.out | refine below_set ?_ GE294.out) | exact HB.out)⟩⟩
                 ·replace c65 := Bool.eq_false_iff.mpr c65
                  subst c65
                  have H1 : (treillagelaw16_QueueAll.l1 kj25 l2 (wrap64 (1 + (Int.tmod (wrap64 (a1)) 12))) x9_3 x10_3 x13_3 (wrap64 (x14_3 + 1)) 1 (wrap64 (1 + (Int.tmod (wrap64 (a0)) 4))) x273000_3 x273001_3 x273002_3) = some r := by rw [if_neg (show ¬ (false = true) by decide)] at H; exact H
                  clear H
                  have H := H1
                  clear H1
                  have H' := aA H
                  clear H
                  try go_wp2
                  have n0_ := aA (Kd.V_drew HO_9.out)
                  have n1_ := aA (Kd.R_drew HO_10.out)
                  have n2_ := aA (blk_drew BK262.out)
                  have n3_ := aA (blk_drew BK272.out)
                  have n4_ := aA (below_drew1 HB.out)
                  clear HO_9
                  clear HO_10
                  clear BK262
                  clear BK272
                  clear HB
                  have HO_9 := n0_
                  have HO_10 := n1_
                  have BK262 := n2_
                  have BK272 := n3_
                  have HB := n4_
                  clear n0_ n1_ n2_ n3_ n4_
                  obtain ⟨Ao88, co88, eo88⟩ := Kd.R_slice HO_10.out
                  (first | subst eo88 | (injection eo88 with f1_ f2_ f3_; have f4_ := f1_.symm; have f5_ := f3_.symm; clear f1_ f2_ f3_; subst f4_; subst f5_))
                  have p288 : 0 ≤ (x15_25 : Int) := of_decide_eq_true (by first | (with_reducible assumption) | assumption)
                  have q288 : x15_25 < (x10_3.length : Int) := of_decide_eq_true (by first | (with_reducible assumption) | assumption)
                  obtain ⟨ad288, e288, hx288_0, hx288_1, hx288_2⟩ := at_T54 (Kd.R_reads' HO_10.out).2.2 x15_25 p288 q288
                  cases e288
                  replace p288 := eq_true p288
                  replace q288 := eq_true q288
                  refine start_ (n := 12) (S := fun w' => w'.cell? ⟨gb262, 0, none⟩ = some (.int .i64 1) ∧ w'.cell? ⟨gb262, 1, none⟩ = some (.int .i64 (wrap64 (1 + (Int.tmod (wrap64 (a0)) 4)))) ∧ w'.cell? (ad288.add ((x15_25).toNat * 3)) = some (.int .i64 ((rd_T54 x10_3 x15_25).f0)) ∧ w'.cell? ⟨(ad288.add ((x15_25).toNat * 3)).block, (ad288.add ((x15_25).toNat * 3)).off + 1, none⟩ = some (.int .u64 ((rd_T54 x10_3 x15_25).f1)) ∧ w'.cell? ⟨(ad288.add ((x15_25).toNat * 3)).block, (ad288.add ((x15_25).toNat * 3)).off + 2, none⟩ = some (.int .u64 ((rd_T54 x10_3 x15_25).f2))) (ds := []) #[false, false, false, false, false, false, false, false, false, false, false, false] (by kernel_rfl) rfl rfl ⟨(blk_cell BK262.out 0).trans rfl, (blk_cell BK262.out 1).trans rfl, hx288_0, hx288_1, hx288_2⟩ (fun hHeld => ?_); refine with_tabW treillagelaw16_QueueAll.tab26 treillagelaw16_QueueAll.bits26 (fun HT_ HW_ => ?_)
                  generalize wc.drew = w87 at HO_9 HO_10 BK262 BK272 HB hx288_0 hx288_1 hx288_2 hHeld ⊢
                  refine pure_ (i := 1) (N := some 117) (v := ?_) (a' := ?_) #[false, true, false, false, false, false, false, false, false, false, false, false] rfl rfl (any_of HT_.out (by kernel_rfl)) (fun _ _ _ h => h) (Or.inl ⟨by rfl, ?_⟩) ?_ ?_
                  rotate_left
                  ·intro w'
                   go_simp
                   with_reducible rfl
                  rotate_left
                  ·simp only [Act.put, List.setIfInBounds_toArray, List.set_cons_zero, List.set_cons_succ, i64_w, i32_w]
                   rfl
                  refine pure_ (i := 2) (N := some 118) (v := ?_) (a' := ?_) #[false, true, true, false, false, false, false, false, false, false, false, false] rfl rfl (any_of HT_.out (by kernel_rfl)) (fun _ _ _ h => h) (Or.inl ⟨by rfl, ?_⟩) ?_ ?_
                  rotate_left
                  ·intro w'
                   go_simp
                   with_reducible rfl
                  rotate_left
                  ·simp only [Act.put, List.setIfInBounds_toArray, List.set_cons_zero, List.set_cons_succ, i64_w, i32_w]
                   rfl
                  refine pure_ (i := 3) (N := some 119) (v := ?_) (a' := ?_) #[false, true, true, true, false, false, false, false, false, false, false, false] rfl rfl (any_of HT_.out (by kernel_rfl)) (fun _ _ _ h => h) (Or.inl ⟨by rfl, ?_⟩) ?_ ?_
                  rotate_left
                  ·intro w'
                   go_simp
                   with_reducible rfl
                  rotate_left
                  ·simp only [Act.put, List.setIfInBounds_toArray, List.set_cons_zero, List.set_cons_succ, i64_w, i32_w]
                   rfl
                  refine take_ (i := 0) (N := some 116) (v := ?_) (a' := ?_) #[true, true, true, true, false, false, false, false, false, false, false, false] rfl rfl (take_ofW HT_.out HW_.out (by kernel_rfl)) (fun _ _ _ h => h) (Or.inl ⟨by rfl, ?_⟩) hHeld ?_ ?_
                  rotate_left
                  ·rintro w' ⟨s0, s1, s2, s3, s4⟩
                   go_simp
                   with_reducible rfl
                  rotate_left
                  ·simp only [Act.put, List.setIfInBounds_toArray, List.set_cons_zero, List.set_cons_succ, i64_w, i32_w]
                   rfl
                  refine take_ (i := 4) (N := some 120) (v := ?_) (a' := ?_) #[true, true, true, true, true, false, false, false, false, false, false, false] rfl rfl (take_ofW HT_.out HW_.out (by kernel_rfl)) (fun _ _ _ h => h) (Or.inl ⟨by rfl, ?_⟩) hHeld ?_ ?_
                  rotate_left
                  ·rintro w' ⟨s0, s1, s2, s3, s4⟩
                   go_simp
                   with_reducible rfl
                  rotate_left
                  ·simp only [Act.put, List.setIfInBounds_toArray, List.set_cons_zero, List.set_cons_succ, i64_w, i32_w]
                   rfl
                  refine join_ (σ := Nat) 2 #[true, true, true, true, true, true, true, true, true, true, false, false] (fun s_ => [(121, .tuple #[.agg #[.int .i64 t289, .int .i64 t290, .int .u64 t291, .int .u64 t292], .bool false]), (21, .pointer (some ⟨s_, 0, none⟩)), (115, .tuple #[.agg #[.int .i64 t289, .int .i64 t290, .int .u64 t291, .int .u64 t292], .bool false]), (122, .agg #[.int .i64 t289, .int .i64 t290, .int .u64 t291, .int .u64 t292]), (123, .bool false)]) (fun s_ w' => (w'.cell? ⟨gb262, 0, none⟩ = some (.int .i64 1) ∧ w'.cell? ⟨gb262, 1, none⟩ = some (.int .i64 (wrap64 (1 + (Int.tmod (wrap64 (a0)) 4)))) ∧ w'.cell? (ad288.add ((x15_25).toNat * 3)) = some (.int .i64 ((rd_T54 x10_3 x15_25).f0)) ∧ w'.cell? ⟨(ad288.add ((x15_25).toNat * 3)).block, (ad288.add ((x15_25).toNat * 3)).off + 1, none⟩ = some (.int .u64 ((rd_T54 x10_3 x15_25).f1)) ∧ w'.cell? ⟨(ad288.add ((x15_25).toNat * 3)).block, (ad288.add ((x15_25).toNat * 3)).off + 2, none⟩ = some (.int .u64 ((rd_T54 x10_3 x15_25).f2))) ∧ (Kd.R k54 54 w' w.heap.size (fun _ => True) (.slice (some ad288) x10_3.length co88) x10_3) ∧ (Kd.V (Kd.int .u64) 23 w' w.heap.size (fun k_ => some k_ ≠ (.slice (some ad288) x10_3.length co88 : Value).ownBlock ∧ k_ ≠ gb262 ∧ k_ ≠ gb272 ∧ k_ ≠ s_) u9 x9_3) ∧ (w'.heap[gb262]? = some (.cells #[.int .i64 1, .int .i64 (wrap64 (1 + (Int.tmod (wrap64 (a0)) 4)))] 38 (0, 0))) ∧ (w'.heap[gb272]? = some (.cells #[.int .i64 x273000_3, .int .u64 x273001_3, .int .u64 x273002_3] 56 (0, 0))) ∧ (w'.heap[s_]? = some (.cells #[.int .i64 0, .int .i64 0, .int .u64 0, .int .u64 0] 25 (0, 0))) ∧ (w.heap.size ≤ s_) ∧ (w.heap.size ≤ s_) ∧ (gb262 ≠ s_) ∧ (s_ ≠ gb262) ∧ (gb272 ≠ s_) ∧ (s_ ≠ gb272) ∧ (Below w.heap.size w w')) ?_ ?_
                  rotate_left
                  ·intro hCont
                   refine two_ (i := 5) (j := 9) (Ni := some 121) (Nj := some 21) #[true, true, true, true, true, true, false, false, false, false, false, false] #[true, true, true, true, true, false, false, false, false, true, false, false] rfl rfl rfl rfl (two_of HT_.out (by kernel_rfl)) (by decide) (by decide) (fun K hK => ?_) (fun K hK => ?_)
                   ·skip
                    refine goes_ Try.func47 (by kernel_rfl) rfl #[.agg #[.int .i64 1, .int .i64 (wrap64 (1 + (Int.tmod (wrap64 (a0)) 4)))], .agg #[.int .i64 ((rd_T54 x10_3 x15_25).f0), .int .u64 ((rd_T54 x10_3 x15_25).f1), .int .u64 ((rd_T54 x10_3 x15_25).f2)]] (by rfl) rfl rfl (by (try simp only [List.map_toArray, List.map_cons, List.map_nil]); first | done | rfl | (simp only [List.length_drop, List.length_take]; rfl)) ?_
                    with_reducible refine (queue_Want.calls 1 (wrap64 (1 + (Int.tmod (wrap64 (a0)) 4))) ((rd_T54 x10_3 x15_25).f0) ((rd_T54 x10_3 x15_25).f1) ((rd_T54 x10_3 x15_25).f2) t289 t290 t291 t292 false _ A64.out).mono ?_
                    rintro e w89 ⟨rfl, hb⟩
                    have HS2_ := (hb.cell (World.block_lt_of_cell? _ _ (hHeld.2.2.1))).trans (hHeld.2.2.1)
                    have HS3_ := (hb.cell (World.block_lt_of_cell? _ _ (hHeld.2.2.2.1))).trans (hHeld.2.2.2.1)
                    have HS4_ := (hb.cell (World.block_lt_of_cell? _ _ (hHeld.2.2.2.2))).trans (hHeld.2.2.2.2)
                    refine ⟨_, rfl, ?_⟩
                    have n0_ := aA (Kd.V_below (vlu HO_9.out) hb)
                    have n1_ := aA (Kd.R_below (rlu HO_10.out) hb)
                    have n2_ := aA (blk_below (g := gb262) (o := .cells #[.int .i64 1, .int .i64 (wrap64 (1 + (Int.tmod (wrap64 (a0)) 4)))] 38 (0, 0)) (bku BK262.out) hb)
                    have n3_ := aA (blk_below (g := gb272) (o := .cells #[.int .i64 x273000_3, .int .u64 x273001_3, .int .u64 x273002_3] 56 (0, 0)) (bku BK272.out) hb)
                    have n4_ := aA (below_step (bls HB.out) hb)
                    clear HO_9
                    clear HO_10
                    clear BK262
                    clear BK272
                    clear HB
                    have HO_9 := n0_
                    have HO_10 := n1_
                    have BK262 := n2_
                    have BK272 := n3_
                    have HB := n4_
                    clear n0_ n1_ n2_ n3_ n4_
                    (try clear hb)
                    (try clear hb2)
                    (try clear hk)
                    (try clear hi)
                    refine hK.out _ _ ⟨(blk_cell BK262.out 0).trans rfl, (blk_cell BK262.out 1).trans rfl, HS2_, HS3_, HS4_⟩ (fun hHeld => ?_)
                    clear hK K
                    refine norm_ (a' := ?_) ?_ ?_
                    rotate_left
                    ·show Act.put _ (some 121) _ = _
                     simp only [Act.put, List.setIfInBounds_toArray, List.set_cons_zero, List.set_cons_succ, i64_w, i32_w]
                     rfl
                    refine pure_ (i := 6) (N := some 115) (v := ?_) (a' := ?_) #[true, true, true, true, true, true, true, false, false, false, false, false] rfl rfl (any_of HT_.out (by kernel_rfl)) (fun _ _ _ h => h) (Or.inl ⟨by rfl, ?_⟩) ?_ ?_
                    rotate_left
                    ·intro w'
                     go_simp
                     with_reducible rfl
                    rotate_left
                    ·simp only [Act.put, List.setIfInBounds_toArray, List.set_cons_zero, List.set_cons_succ, i64_w, i32_w]
                     rfl
                    refine pure_ (i := 7) (N := some 122) (v := ?_) (a' := ?_) #[true, true, true, true, true, true, true, true, false, false, false, false] rfl rfl (any_of HT_.out (by kernel_rfl)) (fun _ _ _ h => h) (Or.inl ⟨by rfl, ?_⟩) ?_ ?_
                    rotate_left
                    ·intro w'
                     go_simp
                     with_reducible rfl
                    rotate_left
                    ·simp only [Act.put, List.setIfInBounds_toArray, List.set_cons_zero, List.set_cons_succ, i64_w, i32_w]
                     rfl
                    refine pure_ (i := 8) (N := some 123) (v := ?_) (a' := ?_) #[true, true, true, true, true, true, true, true, true, false, false, false] rfl rfl (any_of HT_.out (by kernel_rfl)) (fun _ _ _ h => h) (Or.inl ⟨by rfl, ?_⟩) ?_ ?_
                    rotate_left
                    ·intro w'
                     go_simp
                     with_reducible rfl
                    rotate_left
                    ·simp only [Act.put, List.setIfInBounds_toArray, List.set_cons_zero, List.set_cons_succ, i64_w, i32_w]
                     rfl
                    refine one_ (i := 9) (N := some 21) #[true, true, true, true, true, true, true, true, true, true, false, false] rfl rfl (one_of HT_.out (by kernel_rfl)) (by decide) (fun K hK => ?_)
                    refine box_step ?hg (N := 21) ?hd (cs := #[.int .i64 0, .int .i64 0, .int .u64 0, .int .u64 0]) (t := 25) ?hr ?_; (case hd => rfl); (case hg => rfl); (case hr => first | (go_simp; done) | (go_simp; rfl))
                    intro gb294 hg w90 hbox hb
                    have HS2_ := (hb.cell (World.block_lt_of_cell? _ _ (hHeld.2.2.1))).trans (hHeld.2.2.1)
                    have HS3_ := (hb.cell (World.block_lt_of_cell? _ _ (hHeld.2.2.2.1))).trans (hHeld.2.2.2.1)
                    have HS4_ := (hb.cell (World.block_lt_of_cell? _ _ (hHeld.2.2.2.2))).trans (hHeld.2.2.2.2)
                    have n0_ := aA (Kd.V_below (Kd.V_elderB (vlu HO_9.out) gb294 (Nat.le_of_eq hg.symm)) hb)
                    have n1_ := aA (Kd.R_below (rlu HO_10.out) hb)
                    have n2_ := aA (blk_below (g := gb262) (o := .cells #[.int .i64 1, .int .i64 (wrap64 (1 + (Int.tmod (wrap64 (a0)) 4)))] 38 (0, 0)) (bku BK262.out) hb)
                    have n3_ := aA (blk_below (g := gb272) (o := .cells #[.int .i64 x273000_3, .int .u64 x273001_3, .int .u64 x273002_3] 56 (0, 0)) (bku BK272.out) hb)
                    have n4_ := aA (below_step (bls HB.out) hb)
                    have n5_ := aA (hbox)
                    have n6_ := aA ((by rw [hg]; exact (below_size (bls HB.out)) : w.heap.size ≤ gb294))
                    have n7_ := aA ((by rw [hg]; exact (below_size (bls HB.out)) : w.heap.size ≤ gb294))
                    have n8_ := aA ((by rw [hg]; exact Nat.ne_of_lt (blk_lt (g := gb262) (o := .cells #[.int .i64 1, .int .i64 (wrap64 (1 + (Int.tmod (wrap64 (a0)) 4)))] 38 (0, 0)) (bku BK262.out)) : gb262 ≠ gb294))
                    have n9_ := aA ((by rw [hg]; exact Nat.ne_of_gt (blk_lt (g := gb262) (o := .cells #[.int .i64 1, .int .i64 (wrap64 (1 + (Int.tmod (wrap64 (a0)) 4)))] 38 (0, 0)) (bku BK262.out)) : gb294 ≠ gb262))
                    have n10_ := aA ((by rw [hg]; exact Nat.ne_of_lt (blk_lt (g := gb272) (o := .cells #[.int .i64 x273000_3, .int .u64 x273001_3, .int .u64 x273002_3] 56 (0, 0)) (bku BK272.out)) : gb272 ≠ gb294))
                    have n11_ := aA ((by rw [hg]; exact Nat.ne_of_gt (blk_lt (g := gb272) (o := .cells #[.int .i64 x273000_3, .int .u64 x273001_3, .int .u64 x273002_3] 56 (0, 0)) (bku BK272.out)) : gb294 ≠ gb272))
                    clear HO_9
                    clear HO_10
                    clear BK262
                    clear BK272
                    clear HB
                    have HO_9 := n0_
                    have HO_10 := n1_
                    have BK262 := n2_
                    have BK272 := n3_
                    have HB := n4_
                    have BK294 := n5_
                    have GW294 := n6_
                    have GE294 := n7_
                    have NB262_294 := n8_
                    have NB294_262 := n9_
                    have NB272_294 := n10_
                    have NB294_272 := n11_
                    clear n0_ n1_ n2_ n3_ n4_ n5_ n6_ n7_ n8_ n9_ n10_ n11_
                    clear hb hbox hg
                    refine hK.out _ _ ⟨(blk_cell BK262.out 0).trans rfl, (blk_cell BK262.out 1).trans rfl, HS2_, HS3_, HS4_⟩ (fun hHeld => ?_)
                    clear hK K
                    refine norm_ (a' := ?_) ?_ ?_
                    rotate_left
                    ·show Act.put _ (some 21) _ = _
                     simp only [Act.put, List.setIfInBounds_toArray, List.set_cons_zero, List.set_cons_succ, i64_w, i32_w]
                     rfl
                    exact norm_ (by simp only [putAll, Act.put, List.setIfInBounds_toArray, List.set_cons_zero, List.set_cons_succ]) (hCont (gb294) _ ⟨hHeld, (rlu HO_10.out), (vlu (Kd.V_mono HO_9.out (fun _ hk => ⟨hk.1.1, ⟨hk.1.2.1, ⟨hk.1.2.2, hk.2⟩⟩⟩))), (bku BK262.out), (bku BK272.out), (bku BK294.out), GW294.out, GE294.out, NB262_294.out, NB294_262.out, NB272_294.out, NB294_272.out, (bls HB.out)⟩)
                   ·skip
                    refine box_step ?hg (N := 21) ?hd (cs := #[.int .i64 0, .int .i64 0, .int .u64 0, .int .u64 0]) (t := 25) ?hr ?_; (case hd => rfl); (case hg => rfl); (case hr => first | (go_simp; done) | (go_simp; rfl))
                    intro gb294 hg w89 hbox hb
                    have HS2_ := (hb.cell (World.block_lt_of_cell? _ _ (hHeld.2.2.1))).trans (hHeld.2.2.1)
                    have HS3_ := (hb.cell (World.block_lt_of_cell? _ _ (hHeld.2.2.2.1))).trans (hHeld.2.2.2.1)
                    have HS4_ := (hb.cell (World.block_lt_of_cell? _ _ (hHeld.2.2.2.2))).trans (hHeld.2.2.2.2)
                    have n0_ := aA (Kd.V_below (Kd.V_elderB (vlu HO_9.out) gb294 (Nat.le_of_eq hg.symm)) hb)
                    have n1_ := aA (Kd.R_below (rlu HO_10.out) hb)
                    have n2_ := aA (blk_below (g := gb262) (o := .cells #[.int .i64 1, .int .i64 (wrap64 (1 + (Int.tmod (wrap64 (a0)) 4)))] 38 (0, 0)) (bku BK262.out) hb)
                    have n3_ := aA (blk_below (g := gb272) (o := .cells #[.int .i64 x273000_3, .int .u64 x273001_3, .int .u64 x273002_3] 56 (0, 0)) (bku BK272.out) hb)
                    have n4_ := aA (below_step (bls HB.out) hb)
                    have n5_ := aA (hbox)
                    have n6_ := aA ((by rw [hg]; exact (below_size (bls HB.out)) : w.heap.size ≤ gb294))
                    have n7_ := aA ((by rw [hg]; exact (below_size (bls HB.out)) : w.heap.size ≤ gb294))
                    have n8_ := aA ((by rw [hg]; exact Nat.ne_of_lt (blk_lt (g := gb262) (o := .cells #[.int .i64 1, .int .i64 (wrap64 (1 + (Int.tmod (wrap64 (a0)) 4)))] 38 (0, 0)) (bku BK262.out)) : gb262 ≠ gb294))
                    have n9_ := aA ((by rw [hg]; exact Nat.ne_of_gt (blk_lt (g := gb262) (o := .cells #[.int .i64 1, .int .i64 (wrap64 (1 + (Int.tmod (wrap64 (a0)) 4)))] 38 (0, 0)) (bku BK262.out)) : gb294 ≠ gb262))
                    have n10_ := aA ((by rw [hg]; exact Nat.ne_of_lt (blk_lt (g := gb272) (o := .cells #[.int .i64 x273000_3, .int .u64 x273001_3, .int .u64 x273002_3] 56 (0, 0)) (bku BK272.out)) : gb272 ≠ gb294))
                    have n11_ := aA ((by rw [hg]; exact Nat.ne_of_gt (blk_lt (g := gb272) (o := .cells #[.int .i64 x273000_3, .int .u64 x273001_3, .int .u64 x273002_3] 56 (0, 0)) (bku BK272.out)) : gb294 ≠ gb272))
                    clear HO_9
                    clear HO_10
                    clear BK262
                    clear BK272
                    clear HB
                    have HO_9 := n0_
                    have HO_10 := n1_
                    have BK262 := n2_
                    have BK272 := n3_
                    have HB := n4_
                    have BK294 := n5_
                    have GW294 := n6_
                    have GE294 := n7_
                    have NB262_294 := n8_
                    have NB294_262 := n9_
                    have NB272_294 := n10_
                    have NB294_272 := n11_
                    clear n0_ n1_ n2_ n3_ n4_ n5_ n6_ n7_ n8_ n9_ n10_ n11_
                    clear hb hbox hg
                    refine hK.out _ _ ⟨(blk_cell BK262.out 0).trans rfl, (blk_cell BK262.out 1).trans rfl, HS2_, HS3_, HS4_⟩ (fun hHeld => ?_)
                    clear hK K
                    refine norm_ (a' := ?_) ?_ ?_
                    rotate_left
                    ·show Act.put _ (some 21) _ = _
                     simp only [Act.put, List.setIfInBounds_toArray, List.set_cons_zero, List.set_cons_succ, i64_w, i32_w]
                     rfl
                    refine one_ (i := 5) (N := some 121) #[true, true, true, true, true, true, false, false, false, true, false, false] rfl rfl (one_of HT_.out (by kernel_rfl)) (by decide) (fun K hK => ?_)
                    refine goes_ Try.func47 (by kernel_rfl) rfl #[.agg #[.int .i64 1, .int .i64 (wrap64 (1 + (Int.tmod (wrap64 (a0)) 4)))], .agg #[.int .i64 ((rd_T54 x10_3 x15_25).f0), .int .u64 ((rd_T54 x10_3 x15_25).f1), .int .u64 ((rd_T54 x10_3 x15_25).f2)]] (by rfl) rfl rfl (by (try simp only [List.map_toArray, List.map_cons, List.map_nil]); first | done | rfl | (simp only [List.length_drop, List.length_take]; rfl)) ?_
                    with_reducible refine (queue_Want.calls 1 (wrap64 (1 + (Int.tmod (wrap64 (a0)) 4))) ((rd_T54 x10_3 x15_25).f0) ((rd_T54 x10_3 x15_25).f1) ((rd_T54 x10_3 x15_25).f2) t289 t290 t291 t292 false _ A64.out).mono ?_
                    rintro e w90 ⟨rfl, hb⟩
                    have HS2_ := (hb.cell (World.block_lt_of_cell? _ _ (hHeld.2.2.1))).trans (hHeld.2.2.1)
                    have HS3_ := (hb.cell (World.block_lt_of_cell? _ _ (hHeld.2.2.2.1))).trans (hHeld.2.2.2.1)
                    have HS4_ := (hb.cell (World.block_lt_of_cell? _ _ (hHeld.2.2.2.2))).trans (hHeld.2.2.2.2)
                    refine ⟨_, rfl, ?_⟩
                    have n0_ := aA (Kd.V_below (vlu HO_9.out) hb)
                    have n1_ := aA (Kd.R_below (rlu HO_10.out) hb)
                    have n2_ := aA (blk_below (g := gb262) (o := .cells #[.int .i64 1, .int .i64 (wrap64 (1 + (Int.tmod (wrap64 (a0)) 4)))] 38 (0, 0)) (bku BK262.out) hb)
                    have n3_ := aA (blk_below (g := gb272) (o := .cells #[.int .i64 x273000_3, .int .u64 x273001_3, .int .u64 x273002_3] 56 (0, 0)) (bku BK272.out) hb)
                    have n4_ := aA (blk_below (g := gb294) (o := .cells #[.int .i64 0, .int .i64 0, .int .u64 0, .int .u64 0] 25 (0, 0)) (bku BK294.out) hb)
                    have n5_ := aA (below_step (bls HB.out) hb)
                    clear HO_9
                    clear HO_10
                    clear BK262
                    clear BK272
                    clear BK294
                    clear HB
                    have HO_9 := n0_
                    have HO_10 := n1_
                    have BK262 := n2_
                    have BK272 := n3_
                    have BK294 := n4_
                    have HB := n5_
                    clear n0_ n1_ n2_ n3_ n4_ n5_
                    (try clear hb)
                    (try clear hb2)
                    (try clear hk)
                    (try clear hi)
                    refine hK.out _ _ ⟨(blk_cell BK262.out 0).trans rfl, (blk_cell BK262.out 1).trans rfl, HS2_, HS3_, HS4_⟩ (fun hHeld => ?_)
                    clear hK K
                    refine norm_ (a' := ?_) ?_ ?_
                    rotate_left
                    ·show Act.put _ (some 121) _ = _
                     simp only [Act.put, List.setIfInBounds_toArray, List.set_cons_zero, List.set_cons_succ, i64_w, i32_w]
                     rfl
                    refine pure_ (i := 6) (N := some 115) (v := ?_) (a' := ?_) #[true, true, true, true, true, true, true, false, false, true, false, false] rfl rfl (any_of HT_.out (by kernel_rfl)) (fun _ _ _ h => h) (Or.inl ⟨by rfl, ?_⟩) ?_ ?_
                    rotate_left
                    ·intro w'
                     go_simp
                     with_reducible rfl
                    rotate_left
                    ·simp only [Act.put, List.setIfInBounds_toArray, List.set_cons_zero, List.set_cons_succ, i64_w, i32_w]
                     rfl
                    refine pure_ (i := 7) (N := some 122) (v := ?_) (a' := ?_) #[true, true, true, true, true, true, true, true, false, true, false, false] rfl rfl (any_of HT_.out (by kernel_rfl)) (fun _ _ _ h => h) (Or.inl ⟨by rfl, ?_⟩) ?_ ?_
                    rotate_left
                    ·intro w'
                     go_simp
                     with_reducible rfl
                    rotate_left
                    ·simp only [Act.put, List.setIfInBounds_toArray, List.set_cons_zero, List.set_cons_succ, i64_w, i32_w]
                     rfl
                    refine pure_ (i := 8) (N := some 123) (v := ?_) (a' := ?_) #[true, true, true, true, true, true, true, true, true, true, false, false] rfl rfl (any_of HT_.out (by kernel_rfl)) (fun _ _ _ h => h) (Or.inl ⟨by rfl, ?_⟩) ?_ ?_
                    rotate_left
                    ·intro w'
                     go_simp
                     with_reducible rfl
                    rotate_left
                    ·simp only [Act.put, List.setIfInBounds_toArray, List.set_cons_zero, List.set_cons_succ, i64_w, i32_w]
                     rfl
                    exact norm_ (by simp only [putAll, Act.put, List.setIfInBounds_toArray, List.set_cons_zero, List.set_cons_succ]) (hCont (gb294) _ ⟨hHeld, (rlu HO_10.out), (vlu (Kd.V_mono HO_9.out (fun _ hk => ⟨hk.1.1, ⟨hk.1.2.1, ⟨hk.1.2.2, hk.2⟩⟩⟩))), (bku BK262.out), (bku BK272.out), (bku BK294.out), GW294.out, GE294.out, NB262_294.out, NB294_262.out, NB272_294.out, NB294_272.out, (bls HB.out)⟩)
                  rintro gb294 w91 ⟨hS_, h0_, h1_, h2_, h3_, h4_, h5_, h6_, h7_, h8_, h9_, h10_, h11_⟩
                  have n0_ : Aside0 (Kd.R k54 54 w91 w.heap.size (fun _ => True) (.slice (some ad288) x10_3.length co88) x10_3) := ⟨h0_⟩
                  have n1_ : Aside0 (Kd.V (Kd.int .u64) 23 w91 w.heap.size (fun k_ => some k_ ≠ (.slice (some ad288) x10_3.length co88 : Value).ownBlock ∧ k_ ≠ gb262 ∧ k_ ≠ gb272 ∧ k_ ≠ gb294) u9 x9_3) := ⟨h1_⟩
                  have n2_ : Aside0 (w91.heap[gb262]? = some (.cells #[.int .i64 1, .int .i64 (wrap64 (1 + (Int.tmod (wrap64 (a0)) 4)))] 38 (0, 0))) := ⟨h2_⟩
                  have n3_ : Aside0 (w91.heap[gb272]? = some (.cells #[.int .i64 x273000_3, .int .u64 x273001_3, .int .u64 x273002_3] 56 (0, 0))) := ⟨h3_⟩
                  have n4_ : Aside0 (w91.heap[gb294]? = some (.cells #[.int .i64 0, .int .i64 0, .int .u64 0, .int .u64 0] 25 (0, 0))) := ⟨h4_⟩
                  have n5_ : Aside0 (w.heap.size ≤ gb294) := ⟨h5_⟩
                  have n6_ : Aside0 (w.heap.size ≤ gb294) := ⟨h6_⟩
                  have n7_ : Aside0 (gb262 ≠ gb294) := ⟨h7_⟩
                  have n8_ : Aside0 (gb294 ≠ gb262) := ⟨h8_⟩
                  have n9_ : Aside0 (gb272 ≠ gb294) := ⟨h9_⟩
                  have n10_ : Aside0 (gb294 ≠ gb272) := ⟨h10_⟩
                  have n11_ : Aside0 (Below w.heap.size w w91) := ⟨h11_⟩
                  clear HO_9
                  clear HO_10
                  clear BK262
                  clear BK272
                  clear HB
                  clear h0_ h1_ h2_ h3_ h4_ h5_ h6_ h7_ h8_ h9_ h10_ h11_
                  have HO_10 := n0_
                  have HO_9 := n1_
                  have BK262 := n2_
                  have BK272 := n3_
                  have BK294 := n4_
                  have GW294 := n5_
                  have GE294 := n6_
                  have NB262_294 := n7_
                  have NB294_262 := n8_
                  have NB272_294 := n9_
                  have NB294_272 := n10_
                  have HB := n11_
                  clear n0_ n1_ n2_ n3_ n4_ n5_ n6_ n7_ n8_ n9_ n10_ n11_
                  have hHeld : w91.cell? ⟨gb262, 0, none⟩ = some (.int .i64 1) ∧ w91.cell? ⟨gb262, 1, none⟩ = some (.int .i64 (wrap64 (1 + (Int.tmod (wrap64 (a0)) 4)))) ∧ w91.cell? (ad288.add ((x15_25).toNat * 3)) = some (.int .i64 ((rd_T54 x10_3 x15_25).f0)) ∧ w91.cell? ⟨(ad288.add ((x15_25).toNat * 3)).block, (ad288.add ((x15_25).toNat * 3)).off + 1, none⟩ = some (.int .u64 ((rd_T54 x10_3 x15_25).f1)) ∧ w91.cell? ⟨(ad288.add ((x15_25).toNat * 3)).block, (ad288.add ((x15_25).toNat * 3)).off + 2, none⟩ = some (.int .u64 ((rd_T54 x10_3 x15_25).f2)) := hS_
                  refine norm_ (a' := ?_) ?_ ?_
                  rotate_left
                  ·simp only [putAll, Act.put, List.setIfInBounds_toArray, List.set_cons_zero, List.set_cons_succ]
                   rfl
                  refine one_ (i := 10) (N := none) #[true, true, true, true, true, true, true, true, true, true, true, false] rfl rfl (one_of HT_.out (by kernel_rfl)) (by decide) (fun K hK => ?_)
                  have hs92 : w91.cell? ⟨gb294, 0, none⟩ = some (.int .i64 0) := (blk_cell BK294.out 0).trans rfl
                  have hfs92 := blk_frozen BK294.out 0
                  have hns92_0 := NB262_294.out
                  have hns92_1 := NB272_294.out
                  have hms92_0 := NB294_262.out
                  have hms92_1 := NB294_272.out
                  have hs93 : w91.cell? ⟨gb294, 1, none⟩ = some (.int .i64 0) := (blk_cell BK294.out 1).trans rfl
                  have hfs93 := blk_frozen BK294.out 1
                  have hns93_0 := NB262_294.out
                  have hns93_1 := NB272_294.out
                  have hms93_0 := NB294_262.out
                  have hms93_1 := NB294_272.out
                  have hs94 : w91.cell? ⟨gb294, 2, none⟩ = some (.int .u64 0) := (blk_cell BK294.out 2).trans rfl
                  have hfs94 := blk_frozen BK294.out 2
                  have hns94_0 := NB262_294.out
                  have hns94_1 := NB272_294.out
                  have hms94_0 := NB294_262.out
                  have hms94_1 := NB294_272.out
                  have hs95 : w91.cell? ⟨gb294, 3, none⟩ = some (.int .u64 0) := (blk_cell BK294.out 3).trans rfl
                  have hfs95 := blk_frozen BK294.out 3
                  have hns95_0 := NB262_294.out
                  have hns95_1 := NB272_294.out
                  have hms95_0 := NB294_262.out
                  have hms95_1 := NB294_272.out
                  refine skip_ (w1 := ?_) (by rfl) rfl ?_ ?_
                  rotate_left
                  ·go_simp
                   rfl
                  refine hK.out _ _ ⟨((cell_far (p := ⟨gb294, _, none⟩) NB262_294.out _).trans (((cell_far (p := ⟨gb294, _, none⟩) NB262_294.out _).trans (((cell_far (p := ⟨gb294, _, none⟩) NB262_294.out _).trans (((cell_far (p := ⟨gb294, _, none⟩) NB262_294.out _).trans (hHeld.1)))))))), ((cell_far (p := ⟨gb294, _, none⟩) NB262_294.out _).trans (((cell_far (p := ⟨gb294, _, none⟩) NB262_294.out _).trans (((cell_far (p := ⟨gb294, _, none⟩) NB262_294.out _).trans (((cell_far (p := ⟨gb294, _, none⟩) NB262_294.out _).trans (hHeld.2.1)))))))), ((cell_far (p := ⟨gb294, _, none⟩) (by first | exact Kd.own_blk (Kd.R_ne HO_10.out BK294.out (by decide)) | (rw [add_block]; exact Kd.own_blk (Kd.R_ne HO_10.out BK294.out (by decide))) | (show (Addr.add _ _).block ≠ _; rw [add_block]; exact Kd.own_blk (Kd.R_ne HO_10.out BK294.out (by decide))) | (dsimp only; exact Kd.own_blk (Kd.R_ne HO_10.out BK294.out (by decide)))) _).trans (((cell_far (p := ⟨gb294, _, none⟩) (by first | exact Kd.own_blk (Kd.R_ne HO_10.out BK294.out (by decide)) | (rw [add_block]; exact Kd.own_blk (Kd.R_ne HO_10.out BK294.out (by decide))) | (show (Addr.add _ _).block ≠ _; rw [add_block]; exact Kd.own_blk (Kd.R_ne HO_10.out BK294.out (by decide))) | (dsimp only; exact Kd.own_blk (Kd.R_ne HO_10.out BK294.out (by decide)))) _).trans (((cell_far (p := ⟨gb294, _, none⟩) (by first | exact Kd.own_blk (Kd.R_ne HO_10.out BK294.out (by decide)) | (rw [add_block]; exact Kd.own_blk (Kd.R_ne HO_10.out BK294.out (by decide))) | (show (Addr.add _ _).block ≠ _; rw [add_block]; exact Kd.own_blk (Kd.R_ne HO_10.out BK294.out (by decide))) | (dsimp only; exact Kd.own_blk (Kd.R_ne HO_10.out BK294.out (by decide)))) _).trans (((cell_far (p := ⟨gb294, _, none⟩) (by first | exact Kd.own_blk (Kd.R_ne HO_10.out BK294.out (by decide)) | (rw [add_block]; exact Kd.own_blk (Kd.R_ne HO_10.out BK294.out (by decide))) | (show (Addr.add _ _).block ≠ _; rw [add_block]; exact Kd.own_blk (Kd.R_ne HO_10.out BK294.out (by decide))) | (dsimp only; exact Kd.own_blk (Kd.R_ne HO_10.out BK294.out (by decide)))) _).trans (hHeld.2.2.1)))))))), ((cell_far (p := ⟨gb294, _, none⟩) (by first | exact Kd.own_blk (Kd.R_ne HO_10.out BK294.out (by decide)) | (rw [add_block]; exact Kd.own_blk (Kd.R_ne HO_10.out BK294.out (by decide))) | (show (Addr.add _ _).block ≠ _; rw [add_block]; exact Kd.own_blk (Kd.R_ne HO_10.out BK294.out (by decide))) | (dsimp only; exact Kd.own_blk (Kd.R_ne HO_10.out BK294.out (by decide)))) _).trans (((cell_far (p := ⟨gb294, _, none⟩) (by first | exact Kd.own_blk (Kd.R_ne HO_10.out BK294.out (by decide)) | (rw [add_block]; exact Kd.own_blk (Kd.R_ne HO_10.out BK294.out (by decide))) | (show (Addr.add _ _).block ≠ _; rw [add_block]; exact Kd.own_blk (Kd.R_ne HO_10.out BK294.out (by decide))) | (dsimp only; exact Kd.own_blk (Kd.R_ne HO_10.out BK294.out (by decide)))) _).trans (((cell_far (p := ⟨gb294, _, none⟩) (by first | exact Kd.own_blk (Kd.R_ne HO_10.out BK294.out (by decide)) | (rw [add_block]; exact Kd.own_blk (Kd.R_ne HO_10.out BK294.out (by decide))) | (show (Addr.add _ _).block ≠ _; rw [add_block]; exact Kd.own_blk (Kd.R_ne HO_10.out BK294.out (by decide))) | (dsimp only; exact Kd.own_blk (Kd.R_ne HO_10.out BK294.out (by decide)))) _).trans (((cell_far (p := ⟨gb294, _, none⟩) (by first | exact Kd.own_blk (Kd.R_ne HO_10.out BK294.out (by decide)) | (rw [add_block]; exact Kd.own_blk (Kd.R_ne HO_10.out BK294.out (by decide))) | (show (Addr.add _ _).block ≠ _; rw [add_block]; exact Kd.own_blk (Kd.R_ne HO_10.out BK294.out (by decide))) | (dsimp only; exact Kd.own_blk (Kd.R_ne HO_10.out BK294.out (by decide)))) _).trans (hHeld.2.2.2.1)))))))), ((cell_far (p := ⟨gb294, _, none⟩) (by first | exact Kd.own_blk (Kd.R_ne HO_10.out BK294.out (by decide)) | (rw [add_block]; exact Kd.own_blk (Kd.R_ne HO_10.out BK294.out (by decide))) | (show (Addr.add _ _).block ≠ _; rw [add_block]; exact Kd.own_blk (Kd.R_ne HO_10.out BK294.out (by decide))) | (dsimp only; exact Kd.own_blk (Kd.R_ne HO_10.out BK294.out (by decide)))) _).trans (((cell_far (p := ⟨gb294, _, none⟩) (by first | exact Kd.own_blk (Kd.R_ne HO_10.out BK294.out (by decide)) | (rw [add_block]; exact Kd.own_blk (Kd.R_ne HO_10.out BK294.out (by decide))) | (show (Addr.add _ _).block ≠ _; rw [add_block]; exact Kd.own_blk (Kd.R_ne HO_10.out BK294.out (by decide))) | (dsimp only; exact Kd.own_blk (Kd.R_ne HO_10.out BK294.out (by decide)))) _).trans (((cell_far (p := ⟨gb294, _, none⟩) (by first | exact Kd.own_blk (Kd.R_ne HO_10.out BK294.out (by decide)) | (rw [add_block]; exact Kd.own_blk (Kd.R_ne HO_10.out BK294.out (by decide))) | (show (Addr.add _ _).block ≠ _; rw [add_block]; exact Kd.own_blk (Kd.R_ne HO_10.out BK294.out (by decide))) | (dsimp only; exact Kd.own_blk (Kd.R_ne HO_10.out BK294.out (by decide)))) _).trans (((cell_far (p := ⟨gb294, _, none⟩) (by first | exact Kd.own_blk (Kd.R_ne HO_10.out BK294.out (by decide)) | (rw [add_block]; exact Kd.own_blk (Kd.R_ne HO_10.out BK294.out (by decide))) | (show (Addr.add _ _).block ≠ _; rw [add_block]; exact Kd.own_blk (Kd.R_ne HO_10.out BK294.out (by decide))) | (dsimp only; exact Kd.own_blk (Kd.R_ne HO_10.out BK294.out (by decide)))) _).trans (hHeld.2.2.2.2))))))))⟩ (fun hHeld => ?_)
                  clear hK K
                  refine pure_ (i := 11) (N := some 22) (v := ?_) (a' := ?_) #[true, true, true, true, true, true, true, true, true, true, true, true] rfl rfl (any_of HT_.out (by kernel_rfl)) (fun _ _ _ h => h) (Or.inl ⟨by rfl, ?_⟩) ?_ ?_
                  rotate_left
                  ·intro w'
                   go_simp
                   with_reducible rfl
                  rotate_left
                  ·simp only [Act.put, List.setIfInBounds_toArray, List.set_cons_zero, List.set_cons_succ, i64_w, i32_w]
                   rfl
                  refine done_ (done_of HT_.out (by kernel_rfl)) ?_
                  try go_wp2
                  go_roundg kj25
                  case measure => have := HJ3.out; have := HK2.out; have := HK3.out; have := HJ25.out; omega
                  case rel => exact ⟨(x9_3), (x10_3), (x13_3), (wrap64 (x14_3 + 1)), (x273000_3), (x273001_3), (x273002_3), (by first | rfl | (simp; done) | (simp [*]; done)), (by first | rfl | (simp; done) | (simp [*]; done)), H', ⟨by have := HJ3.out; have := HK2.out; have := HK3.out; have := HJ25.out; omega⟩, ⟨by (with_reducible repeat (first | apply Kd.V_alloc | apply Kd.V_drewN | apply Kd.V_drew)); exact Kd.V_mono (Kd.V_far (p := ⟨gb294, 3, none⟩) (Kd.V_far (p := ⟨gb294, 2, none⟩) (Kd.V_far (p := ⟨gb294, 1, none⟩) (Kd.V_far (p := ⟨gb294, 0, none⟩) (Kd.V_mono HO_9.out (fun k_ hk => (⟨hk, hk.2.2.2⟩ : _ ∧ k_ ≠ gb294))) (fun _ hk => hk.2) (.int .i64 t289)) (fun _ hk => hk.2) (.int .i64 t290)) (fun _ hk => hk.2) (.int .u64 t291)) (fun _ hk => hk.2) (.int .u64 t292)) (fun _ hk => ⟨hk.1.1, ⟨hk.1.2.1, hk.1.2.2.1⟩⟩)⟩, ⟨by (with_reducible repeat (first | apply Kd.R_alloc | apply Kd.R_drewN | apply Kd.R_drew)); exact Kd.R_mono (Kd.R_far (p := ⟨gb294, 3, none⟩) (Kd.R_far (p := ⟨gb294, 2, none⟩) (Kd.R_far (p := ⟨gb294, 1, none⟩) (Kd.R_far (p := ⟨gb294, 0, none⟩) (Kd.R_types HO_10.out BK294.out (by decide)) (fun _ hk => hk.2) (.int .i64 t289)) (fun _ hk => hk.2) (.int .i64 t290)) (fun _ hk => hk.2) (.int .u64 t291)) (fun _ hk => hk.2) (.int .u64 t292)) (fun _ hk => trivial)⟩, ⟨by refine bku ?_; refine blk_far ?_ NB262_294.out _; refine bku ?_; refine blk_far ?_ NB262_294.out _; refine bku ?_; refine blk_far ?_ NB262_294.out _; refine bku ?_; refine blk_far ?_ NB262_294.out _; refine bku ?_; exact BK262.out⟩, ⟨by refine bku ?_; refine blk_far ?_ NB272_294.out _; refine bku ?_; refine blk_far ?_ NB272_294.out _; refine bku ?_; refine blk_far ?_ NB272_294.out _; refine bku ?_; refine blk_far ?_ NB272_294.out _; refine bku ?_; exact BK272.out⟩, ⟨by repeat (first | (with_reducible first | exact HB.out | apply below_alloc | apply pw_below_drewN | apply below_drew1 | refine below_set ?_ GE262.out | refine below_set ?_ GE272.out | refine below_set ?_ GE294.out) | exact HB.out)⟩⟩
                ·rw [if_neg c63] at H
                 exact absurd H (by simp)
               ·rw [if_neg c62] at H
                exact absurd H (by simp)
          ·rw [if_neg c24] at H
           have c24b0 : decide (x14_3 < (wrap64 ((l2.length : Int) + (wrap64 (60 * (wrap64 (1 + (Int.tmod (wrap64 (a1)) 12)))))))) = false := decide_eq_false c24
           clear c24
           have H' := aA H
           clear H
           go_wp2
           go_loopg [26, 27] k3 (fun kq v26 v27 w' => ∃ (x26_4 : Int) (x27_4 : Int), v26 = .int .i64 x26_4 ∧ v27 = .int .i64 x27_4 ∧ Aside0 (treillagelaw16_QueueAll.l2 kq (wrap64 (1 + (Int.tmod (wrap64 (a1)) 12))) x9_3 x10_3 x13_3 x26_4 x27_4 1 (wrap64 (1 + (Int.tmod (wrap64 (a0)) 4))) x273000_3 x273001_3 x273002_3 = some r) ∧ Aside0 (kq ≤ k3) ∧ Aside0 (Kd.V (Kd.int .u64) 23 w' w.heap.size (fun k_ => some k_ ≠ (u10 : Value).ownBlock ∧ k_ ≠ gb262 ∧ k_ ≠ gb272) u9 x9_3) ∧ Aside0 (Kd.R k54 54 w' w.heap.size (fun _ => True) u10 x10_3) ∧ Aside0 (w'.heap[gb262]? = some (.cells #[.int .i64 1, .int .i64 (wrap64 (1 + (Int.tmod (wrap64 (a0)) 4)))] 38 (0, 0))) ∧ Aside0 (w'.heap[gb272]? = some (.cells #[.int .i64 x273000_3, .int .u64 x273001_3, .int .u64 x273002_3] 56 (0, 0))) ∧ Aside0 (Below w.heap.size w w'))
           case atStart => exact ⟨(0), (0), (by first | rfl | (simp; done) | (simp [*]; done)), (by first | rfl | (simp; done) | (simp [*]; done)), H', ⟨Nat.le_refl _⟩, ⟨by (with_reducible repeat (first | apply Kd.V_alloc | apply Kd.V_drewN | apply Kd.V_drew)); exact HO_9.out⟩, ⟨by (with_reducible repeat (first | apply Kd.R_alloc | apply Kd.R_drewN | apply Kd.R_drew)); exact HO_10.out⟩, ⟨by refine bku ?_; exact BK262.out⟩, ⟨by refine bku ?_; exact BK272.out⟩, ⟨by repeat (first | (with_reducible first | exact HB.out | apply below_alloc | apply pw_below_drewN | apply below_drew1 | refine below_set ?_ GE262.out | refine below_set ?_ GE272.out) | exact HB.out)⟩⟩
           case round =>
            clear H'
            try clear c1
            try clear c2
            try clear p2
            try clear q2
            try clear hx2
            try clear p3
            try clear q3
            try clear hx3
            try clear c4
            try clear c5
            try clear c6
            try clear p6
            try clear q6
            try clear hx6
            try clear hf6
            try clear c7
            try clear c8
            try clear hx8
            try clear hf8
            try clear c15
            try clear c24
            try clear c24b0
            try clear p28
            try clear q28
            try clear hx28
            try clear p30
            try clear q30
            try clear hx30
            try clear c47
            try clear c51
            try clear c62
            try clear c63
            try clear p64
            try clear c65
            try clear c68
            try clear p68
            try clear q68
            try clear hx68
            try clear hf68
            try clear c79
            try clear c80
            try clear c85
            try clear hx85
            try clear hf85
            try clear hcz81_0
            try clear hcz81_1
            try clear hcz81_2
            try clear hcz81_3
            try clear hfz81_0
            try clear hfz81_1
            try clear hfz81_2
            try clear hfz81_3
            try clear hx288_0
            try clear hx288_1
            try clear hx288_2
            try clear hx300_0
            try clear hx300_1
            try clear hx300_2
            try clear hx68_0
            try clear hx68_1
            try clear hx68_2
            try clear hx85_0
            try clear hx85_1
            try clear hx85_2
            try clear p288
            try clear p300
            try clear p68
            try clear q288
            try clear q300
            try clear q68
            obtain ⟨x26_4, x27_4, rfl, rfl, HA, HK4, HO_9, HO_10, BK262, BK272, HB⟩ := hrel
            cases gk with
            | zero => exact absurd HA.out (by simp [treillagelaw16_QueueAll.l2])
            | succ k4 =>
             have H := HA.out
             clear HA
             simp only [treillagelaw16_QueueAll.l2] at H
             by_cases c96 : x27_4 < (wrap64 (1 + (Int.tmod (wrap64 (a1)) 12)))
             ·rw [if_pos c96] at H
              have c96b0 : decide (x27_4 < (wrap64 (1 + (Int.tmod (wrap64 (a1)) 12)))) = true := decide_eq_true c96
              clear c96
              by_cases c97 : 0 ≤ x27_4
              ·rw [if_pos c97] at H
               have c97b0 : decide (0 ≤ x27_4) = true := decide_eq_true c97
               clear c97
               by_cases c98 : x27_4 < (x10_3.length : Int)
               ·rw [if_pos c98] at H
                have c98b0 : decide (x27_4 < (x10_3.length : Int)) = true := decide_eq_true c98
                clear c98
                by_cases c99 : ((rd_T54 x10_3 x27_4).f0) = 5
                ·rw [if_pos c99] at H
                 have c99b0 : (((rd_T54 x10_3 x27_4).f0) == 5) = true := beq_iff_eq.mpr c99
                 have c99b1 : (((rd_T54 x10_3 x27_4).f0) != 5) = false := bne_eq_false_iff_eq.mpr c99
                 clear c99
                 have H' := aA H
                 clear H
                 obtain ⟨Ao100, co100, eo100⟩ := Kd.R_slice HO_10.out
                 subst eo100
                 have p305 : 0 ≤ (x27_4 : Int) := of_decide_eq_true (by first | (with_reducible assumption) | assumption)
                 have q305 : x27_4 < (x10_3.length : Int) := of_decide_eq_true (by first | (with_reducible assumption) | assumption)
                 obtain ⟨ad305, e305, hx305_0, hx305_1, hx305_2⟩ := at_T54 (Kd.R_reads' HO_10.out).2.2 x27_4 p305 q305
                 cases e305
                 replace p305 := eq_true p305
                 replace q305 := eq_true q305
                 go_wp2
                 go_roundg k4
                 case measure => have := HJ3.out; have := HK2.out; have := HK3.out; have := HK4.out; omega
                 case rel => exact ⟨(wrap64 (x26_4 + 1)), (wrap64 (x27_4 + 1)), (by first | rfl | (simp; done) | (simp [*]; done)), (by first | rfl | (simp; done) | (simp [*]; done)), H', ⟨by have := HJ3.out; have := HK2.out; have := HK3.out; have := HK4.out; omega⟩, ⟨by (with_reducible repeat (first | apply Kd.V_alloc | apply Kd.V_drewN | apply Kd.V_drew)); exact HO_9.out⟩, ⟨by (with_reducible repeat (first | apply Kd.R_alloc | apply Kd.R_drewN | apply Kd.R_drew)); exact HO_10.out⟩, ⟨by refine bku ?_; exact BK262.out⟩, ⟨by refine bku ?_; exact BK272.out⟩, ⟨by repeat (first | (with_reducible first | exact HB.out | apply below_alloc | apply pw_below_drewN | apply below_drew1 | refine below_set ?_ GE262.out | refine below_set ?_ GE272.out) | exact HB.out)⟩⟩
                ·rw [if_neg c99] at H
                 have c99b0 : (((rd_T54 x10_3 x27_4).f0) == 5) = false := beq_eq_false_iff_ne.mpr c99
                 have c99b1 : (((rd_T54 x10_3 x27_4).f0) != 5) = true := bne_iff_ne.mpr c99
                 have H' := aA H
                 clear H
                 obtain ⟨Ao101, co101, eo101⟩ := Kd.R_slice HO_10.out
                 subst eo101
                 have p305 : 0 ≤ (x27_4 : Int) := of_decide_eq_true (by first | (with_reducible assumption) | assumption)
                 have q305 : x27_4 < (x10_3.length : Int) := of_decide_eq_true (by first | (with_reducible assumption) | assumption)
                 obtain ⟨ad305, e305, hx305_0, hx305_1, hx305_2⟩ := at_T54 (Kd.R_reads' HO_10.out).2.2 x27_4 p305 q305
                 cases e305
                 replace p305 := eq_true p305
                 replace q305 := eq_true q305
                 go_wp2
                 go_roundg k4
                 case measure => have := HJ3.out; have := HK2.out; have := HK3.out; have := HK4.out; omega
                 case rel => exact ⟨(x26_4), (wrap64 (x27_4 + 1)), (by first | rfl | (simp; done) | (simp [*]; done)), (by first | rfl | (simp; done) | (simp [*]; done)), H', ⟨by have := HJ3.out; have := HK2.out; have := HK3.out; have := HK4.out; omega⟩, ⟨by (with_reducible repeat (first | apply Kd.V_alloc | apply Kd.V_drewN | apply Kd.V_drew)); exact HO_9.out⟩, ⟨by (with_reducible repeat (first | apply Kd.R_alloc | apply Kd.R_drewN | apply Kd.R_drew)); exact HO_10.out⟩, ⟨by refine bku ?_; exact BK262.out⟩, ⟨by refine bku ?_; exact BK272.out⟩, ⟨by repeat (first | (with_reducible first | exact HB.out | apply below_alloc | apply pw_below_drewN | apply below_drew1 | refine below_set ?_ GE262.out | refine below_set ?_ GE272.out) | exact HB.out)⟩⟩
               ·rw [if_neg c98] at H
                exact absurd H (by simp)
              ·rw [if_neg c97] at H
               exact absurd H (by simp)
             ·rw [if_neg c96] at H
              have c96b0 : decide (x27_4 < (wrap64 (1 + (Int.tmod (wrap64 (a1)) 12)))) = false := decide_eq_false c96
              clear c96
              have H' := aA H
              clear H
              go_wp2
              go_loopg [9, 13, 28] k4 (fun kq v9 v13 v28 w' => ∃ (x9_5 : List Int) (x13_5 : Int) (x28_5 : Int) (x273000_5 : Int) (x273001_5 : Int) (x273002_5 : Int), v13 = .int .i64 x13_5 ∧ v28 = .int .i64 x28_5 ∧ Aside0 (treillagelaw16_QueueAll.l3 kq (wrap64 (1 + (Int.tmod (wrap64 (a1)) 12))) x9_5 x13_5 x26_4 x28_5 1 (wrap64 (1 + (Int.tmod (wrap64 (a0)) 4))) x273000_5 x273001_5 x273002_5 = some r) ∧ Aside0 (kq ≤ k4) ∧ Aside0 (Kd.V (Kd.int .u64) 23 w' w.heap.size (fun k_ => k_ ≠ gb262 ∧ k_ ≠ gb272) v9 x9_5) ∧ Aside0 (w'.heap[gb262]? = some (.cells #[.int .i64 1, .int .i64 (wrap64 (1 + (Int.tmod (wrap64 (a0)) 4)))] 38 (0, 0))) ∧ Aside0 (w'.heap[gb272]? = some (.cells #[.int .i64 x273000_5, .int .u64 x273001_5, .int .u64 x273002_5] 56 (0, 0))) ∧ Aside0 (Below w.heap.size w w'))
              case atStart => exact ⟨(x9_3), (x13_3), (0), (x273000_3), (x273001_3), (x273002_3), (by first | rfl | (simp; done) | (simp [*]; done)), (by first | rfl | (simp; done) | (simp [*]; done)), H', ⟨Nat.le_refl _⟩, ⟨by (with_reducible repeat (first | apply Kd.V_alloc | apply Kd.V_drewN | apply Kd.V_drew)); exact Kd.V_mono HO_9.out (fun _ hk => ⟨hk.2.1, hk.2.2⟩)⟩, ⟨by refine bku ?_; exact BK262.out⟩, ⟨by refine bku ?_; exact BK272.out⟩, ⟨by repeat (first | (with_reducible first | exact HB.out | apply below_alloc | apply pw_below_drewN | apply below_drew1 | refine below_set ?_ GE262.out | refine below_set ?_ GE272.out) | exact HB.out)⟩⟩
              case round =>
               clear H'
               try clear c1
               try clear c2
               try clear p2
               try clear q2
               try clear hx2
               try clear p3
               try clear q3
               try clear hx3
               try clear c4
               try clear c5
               try clear c6
               try clear p6
               try clear q6
               try clear hx6
               try clear hf6
               try clear c7
               try clear c8
               try clear hx8
               try clear hf8
               try clear c9
               try clear c15
               try clear c24
               try clear c24b0
               try clear p28
               try clear q28
               try clear hx28
               try clear p30
               try clear q30
               try clear hx30
               try clear c47
               try clear c51
               try clear c62
               try clear c63
               try clear p64
               try clear c65
               try clear c68
               try clear p68
               try clear q68
               try clear hx68
               try clear hf68
               try clear c79
               try clear c80
               try clear c85
               try clear hx85
               try clear hf85
               try clear c96
               try clear c96b0
               try clear c97
               try clear c97b0
               try clear c98
               try clear c98b0
               try clear c99
               try clear c99b0
               try clear c99b1
               try clear hcz81_0
               try clear hcz81_1
               try clear hcz81_2
               try clear hcz81_3
               try clear hfz81_0
               try clear hfz81_1
               try clear hfz81_2
               try clear hfz81_3
               try clear hx288_0
               try clear hx288_1
               try clear hx288_2
               try clear hx300_0
               try clear hx300_1
               try clear hx300_2
               try clear hx305_0
               try clear hx305_1
               try clear hx305_2
               try clear hx68_0
               try clear hx68_1
               try clear hx68_2
               try clear hx85_0
               try clear hx85_1
               try clear hx85_2
               try clear p2
               try clear p28
               try clear p288
               try clear p3
               try clear p30
               try clear p300
               try clear p305
               try clear p6
               try clear p64
               try clear p68
               try clear q2
               try clear q28
               try clear q288
               try clear q3
               try clear q30
               try clear q300
               try clear q305
               try clear q6
               try clear q68
               obtain ⟨x9_5, x13_5, x28_5, x273000_5, x273001_5, x273002_5, rfl, rfl, HA, HK5, HO_9, BK262, BK272, HB⟩ := hrel
               cases gk with
               | zero => exact absurd HA.out (by simp [treillagelaw16_QueueAll.l3])
               | succ k5 =>
                have H := HA.out
                clear HA
                simp only [treillagelaw16_QueueAll.l3] at H
                by_cases c102 : x28_5 < (wrap64 ((wrap64 (3 * (wrap64 (1 + (Int.tmod (wrap64 (a1)) 12))))) + 3))
                ·rw [if_pos c102] at H
                 have c102b0 : decide (x28_5 < (wrap64 ((wrap64 (3 * (wrap64 (1 + (Int.tmod (wrap64 (a1)) 12))))) + 3))) = true := decide_eq_true c102
                 clear c102
                 replace H := Option.bind_eq_some_iff.mp H
                 obtain ⟨⟨t306, t307, t308, t309⟩, A1030, H⟩ := H
                 replace H : ((mem_Do.f x9_5 t306 t307 t308 t309).bind fun bt310 => ((queue_Given.f k5 1 (wrap64 (1 + (Int.tmod (wrap64 (a0)) 4))) x273000_5 x273001_5 x273002_5 bt310.2.1).bind fun bt315 => (if bt315.2.2.2 = true then (treillagelaw16_QueueAll.l3 k5 (wrap64 (1 + (Int.tmod (wrap64 (a1)) 12))) bt310.1 (wrap64 (x13_5 + 1)) x26_4 (wrap64 (x28_5 + 1)) 1 (wrap64 (1 + (Int.tmod (wrap64 (a0)) 4))) bt315.1 bt315.2.1 bt315.2.2.1) else (treillagelaw16_QueueAll.l3 k5 (wrap64 (1 + (Int.tmod (wrap64 (a1)) 12))) bt310.1 x13_5 x26_4 (wrap64 (x28_5 + 1)) 1 (wrap64 (1 + (Int.tmod (wrap64 (a0)) 4))) bt315.1 bt315.2.1 bt315.2.2.1)))) = some r := H
                 have A103 := aA A1030
                 clear A1030
                 replace H := Option.bind_eq_some_iff.mp H
                 obtain ⟨⟨t310, t313, t314⟩, A1040, H⟩ := H
                 replace H : ((queue_Given.f k5 1 (wrap64 (1 + (Int.tmod (wrap64 (a0)) 4))) x273000_5 x273001_5 x273002_5 t313).bind fun bt315 => (if bt315.2.2.2 = true then (treillagelaw16_QueueAll.l3 k5 (wrap64 (1 + (Int.tmod (wrap64 (a1)) 12))) t310 (wrap64 (x13_5 + 1)) x26_4 (wrap64 (x28_5 + 1)) 1 (wrap64 (1 + (Int.tmod (wrap64 (a0)) 4))) bt315.1 bt315.2.1 bt315.2.2.1) else (treillagelaw16_QueueAll.l3 k5 (wrap64 (1 + (Int.tmod (wrap64 (a1)) 12))) t310 x13_5 x26_4 (wrap64 (x28_5 + 1)) 1 (wrap64 (1 + (Int.tmod (wrap64 (a0)) 4))) bt315.1 bt315.2.1 bt315.2.2.1))) = some r := H
                 have A104 := aA A1040
                 clear A1040
                 replace H := Option.bind_eq_some_iff.mp H
                 obtain ⟨⟨t315, t316, t317, t318⟩, A1050, H⟩ := H
                 replace H : (if t318 = true then (treillagelaw16_QueueAll.l3 k5 (wrap64 (1 + (Int.tmod (wrap64 (a1)) 12))) t310 (wrap64 (x13_5 + 1)) x26_4 (wrap64 (x28_5 + 1)) 1 (wrap64 (1 + (Int.tmod (wrap64 (a0)) 4))) t315 t316 t317) else (treillagelaw16_QueueAll.l3 k5 (wrap64 (1 + (Int.tmod (wrap64 (a1)) 12))) t310 x13_5 x26_4 (wrap64 (x28_5 + 1)) 1 (wrap64 (1 + (Int.tmod (wrap64 (a0)) 4))) t315 t316 t317)) = some r := H
                 have A105 := aA A1050
                 clear A1050
                 by_cases c106 : t318 = true
                 ·subst c106
                  have H1 : (treillagelaw16_QueueAll.l3 k5 (wrap64 (1 + (Int.tmod (wrap64 (a1)) 12))) t310 (wrap64 (x13_5 + 1)) x26_4 (wrap64 (x28_5 + 1)) 1 (wrap64 (1 + (Int.tmod (wrap64 (a0)) 4))) t315 t316 t317) = some r := by rw [if_pos rfl] at H; exact H
                  clear H
                  have H := H1
                  clear H1
                  have H' := aA H
                  clear H
                  have hnb107 := NB262_272.out
                  have hnc107 := NB272_262.out
                  have hcz108_0 : wr.cell? ⟨gb262, 0, none⟩ = some (.int .i64 1) := (blk_cell BK262.out 0).trans rfl
                  have hcz108_1 : wr.cell? ⟨gb262, 1, none⟩ = some (.int .i64 (wrap64 (1 + (Int.tmod (wrap64 (a0)) 4)))) := (blk_cell BK262.out 1).trans rfl
                  have hfz108_0 := blk_frozen BK262.out 0
                  have hfz108_1 := blk_frozen BK262.out 1
                  have hcz109_0 : wr.cell? ⟨gb272, 0, none⟩ = some (.int .i64 x273000_5) := (blk_cell BK272.out 0).trans rfl
                  have hcz109_1 : wr.cell? ⟨gb272, 1, none⟩ = some (.int .u64 x273001_5) := (blk_cell BK272.out 1).trans rfl
                  have hcz109_2 : wr.cell? ⟨gb272, 2, none⟩ = some (.int .u64 x273002_5) := (blk_cell BK272.out 2).trans rfl
                  have hfz109_0 := blk_frozen BK272.out 0
                  have hfz109_1 := blk_frozen BK272.out 1
                  have hfz109_2 := blk_frozen BK272.out 2
                  go_wp2_with (first | ((with_reducible refine gate_callee (f := 53) rfl ?_); refine goesL_ (some 167) rfl rfl Try.func53 (by kernel_rfl) rfl #[.agg #[.int .i64 1, .int .i64 (wrap64 (1 + (Int.tmod (wrap64 (a0)) 4)))], .agg #[.int .i64 x273000_5, .int .u64 x273001_5, .int .u64 x273002_5]] rfl (by (try simp only [List.map_toArray, List.map_cons, List.map_nil]); first | done | rfl | (simp only [List.length_drop, List.length_take]; rfl)) ?_; (with_reducible refine (queue_Next.calls 1 (wrap64 (1 + (Int.tmod (wrap64 (a0)) 4))) x273000_5 x273001_5 x273002_5 t306 t307 t308 t309 _ A103.out).mono ?_); rintro e w110 ⟨rfl, hb⟩; refine ⟨_, rfl, ?_⟩; have n0_ := aA (Kd.V_below (vlu HO_9.out) hb); have n1_ := aA (blk_below (g := gb262) (o := .cells #[.int .i64 1, .int .i64 (wrap64 (1 + (Int.tmod (wrap64 (a0)) 4)))] 38 (0, 0)) (bku BK262.out) hb); have n2_ := aA (blk_below (g := gb272) (o := .cells #[.int .i64 x273000_5, .int .u64 x273001_5, .int .u64 x273002_5] 56 (0, 0)) (bku BK272.out) hb); have n3_ := aA (below_step (bls HB.out) hb); clear HO_9 BK262 BK272 HB; have HO_9 := n0_; have BK262 := n1_; have BK272 := n2_; have HB := n3_; clear n0_ n1_ n2_ n3_; (try clear hb); (try clear hb2); (try clear hk); (try clear hi); obtain ⟨Ao111, co111, eo111⟩ := Kd.V_slice HO_9.out; subst eo111) | ((with_reducible refine gate_callee (f := 15) rfl ?_); refine goesL_ (some 168) rfl rfl Try.func15 (by kernel_rfl) rfl #[.slice Ao111 x9_5.length co111, .agg #[.int .i64 t306, .int .i64 t307, .int .u64 t308, .int .u64 t309]] rfl (by (try simp only [List.map_toArray, List.map_cons, List.map_nil]); first | done | rfl | (simp only [List.length_drop, List.length_take]; rfl)) ?_; (with_reducible refine (mem_Do.calls (fun k_ => (k_ ≠ gb262 ∧ k_ ≠ gb272)) _ _ x9_5 t306 t307 t308 t309 t310 t313 t314 _ ?side1 A104.out).mono ?_); (case side1 => exact HO_9.out); rintro e w112 ⟨v311, rfl, ho0, hb⟩; refine ⟨_, rfl, ?_⟩; have n0_ := aA (Kd.V_below (vlu HO_9.out) hb); have n1_ := aA (Kd.V_lower (Kd.V_mono (ok' := fun k_ => k_ ≠ gb262 ∧ k_ ≠ gb272) ho0 (fun k_ hk_ => ⟨Or.elim hk_ (fun hs_ => hs_.1) (fun hn_ => (Kd.freshB (g := gb262) (o := .cells #[.int .i64 1, .int .i64 (wrap64 (1 + (Int.tmod (wrap64 (a0)) 4)))] 38 (0, 0)) (bku BK262.out) k_ hn_)), Or.elim hk_ (fun hs_ => hs_.2) (fun hn_ => (Kd.freshB (g := gb272) (o := .cells #[.int .i64 x273000_5, .int .u64 x273001_5, .int .u64 x273002_5] 56 (0, 0)) (bku BK272.out) k_ hn_))⟩)) (below_size (bls HB.out))); have n2_ := aA (blk_below (g := gb262) (o := .cells #[.int .i64 1, .int .i64 (wrap64 (1 + (Int.tmod (wrap64 (a0)) 4)))] 38 (0, 0)) (bku BK262.out) hb); have n3_ := aA (blk_below (g := gb272) (o := .cells #[.int .i64 x273000_5, .int .u64 x273001_5, .int .u64 x273002_5] 56 (0, 0)) (bku BK272.out) hb); have n4_ := aA (below_step (bls HB.out) hb); clear HO_9 BK262 BK272 HB; have HO_9 := n0_; have HO312 := n1_; have BK262 := n2_; have BK272 := n3_; have HB := n4_; clear n0_ n1_ n2_ n3_ n4_; (try clear hb); (try clear hb2); (try clear hk); (try clear hi); (try clear ho0); have hcz113_0 : w112.cell? ⟨gb262, 0, none⟩ = some (.int .i64 1) := (blk_cell BK262.out 0).trans rfl; have hcz113_1 : w112.cell? ⟨gb262, 1, none⟩ = some (.int .i64 (wrap64 (1 + (Int.tmod (wrap64 (a0)) 4)))) := (blk_cell BK262.out 1).trans rfl; have hfz113_0 := blk_frozen BK262.out 0; have hfz113_1 := blk_frozen BK262.out 1; have hcz114_0 : w112.cell? ⟨gb272, 0, none⟩ = some (.int .i64 x273000_5) := (blk_cell BK272.out 0).trans rfl; have hcz114_1 : w112.cell? ⟨gb272, 1, none⟩ = some (.int .u64 x273001_5) := (blk_cell BK272.out 1).trans rfl; have hcz114_2 : w112.cell? ⟨gb272, 2, none⟩ = some (.int .u64 x273002_5) := (blk_cell BK272.out 2).trans rfl; have hfz114_0 := blk_frozen BK272.out 0; have hfz114_1 := blk_frozen BK272.out 1; have hfz114_2 := blk_frozen BK272.out 2) | ((with_reducible refine gate_callee (f := 49) rfl ?_); refine goesL_ (some 177) rfl rfl Try.func49 (by kernel_rfl) rfl #[.agg #[.int .i64 1, .int .i64 (wrap64 (1 + (Int.tmod (wrap64 (a0)) 4)))], .agg #[.int .i64 x273000_5, .int .u64 x273001_5, .int .u64 x273002_5], .int .u64 t313] rfl (by (try simp only [List.map_toArray, List.map_cons, List.map_nil]); first | done | rfl | (simp only [List.length_drop, List.length_take]; rfl)) ?_; (with_reducible refine (queue_Given.calls k5 1 (wrap64 (1 + (Int.tmod (wrap64 (a0)) 4))) x273000_5 x273001_5 x273002_5 t313 t315 t316 t317 true _ A105.out).mono ?_); rintro e w115 ⟨rfl, hb⟩; refine ⟨_, rfl, ?_⟩; have n0_ := aA (Kd.V_below (vlu HO_9.out) hb); have n1_ := aA (Kd.V_below (vlu HO312.out) hb); have n2_ := aA (blk_below (g := gb262) (o := .cells #[.int .i64 1, .int .i64 (wrap64 (1 + (Int.tmod (wrap64 (a0)) 4)))] 38 (0, 0)) (bku BK262.out) hb); have n3_ := aA (blk_below (g := gb272) (o := .cells #[.int .i64 x273000_5, .int .u64 x273001_5, .int .u64 x273002_5] 56 (0, 0)) (bku BK272.out) hb); have n4_ := aA (below_step (bls HB.out) hb); clear HO_9 HO312 BK262 BK272 HB; have HO_9 := n0_; have HO312 := n1_; have BK262 := n2_; have BK272 := n3_; have HB := n4_; clear n0_ n1_ n2_ n3_ n4_; (try clear hb); (try clear hb2); (try clear hk); (try clear hi)) | ((with_reducible refine gate_dst (N := 32) rfl ?_); refine box_event ?hg (N := 32) ?hd (cs := #[.int .i64 0, .int .u64 0, .int .u64 0]) (t := 56) ?hr ?_; (case hd => rfl); (case hg => rfl); (case hr => first | (go_simp; done) | (go_simp; rfl)); intro gb319 hg w116 hbox hb; have n0_ := aA (Kd.V_below (Kd.V_elderB (vlu HO_9.out) gb319 (Nat.le_of_eq hg.symm)) hb); have n1_ := aA (Kd.V_below (Kd.V_elderB (vlu HO312.out) gb319 (Nat.le_of_eq hg.symm)) hb); have n2_ := aA (blk_below (g := gb262) (o := .cells #[.int .i64 1, .int .i64 (wrap64 (1 + (Int.tmod (wrap64 (a0)) 4)))] 38 (0, 0)) (bku BK262.out) hb); have n3_ := aA (blk_below (g := gb272) (o := .cells #[.int .i64 x273000_5, .int .u64 x273001_5, .int .u64 x273002_5] 56 (0, 0)) (bku BK272.out) hb); have n4_ := aA (below_step (bls HB.out) hb); have n5_ := aA (hbox); have n6_ := aA ((by rw [hg]; exact (below_size (bls HB.out)) : w.heap.size ≤ gb319)); have n7_ := aA ((by rw [hg]; exact (below_size (bls HB.out)) : w.heap.size ≤ gb319)); have n8_ := aA ((by rw [hg]; exact Nat.ne_of_lt (blk_lt (g := gb262) (o := .cells #[.int .i64 1, .int .i64 (wrap64 (1 + (Int.tmod (wrap64 (a0)) 4)))] 38 (0, 0)) (bku BK262.out)) : gb262 ≠ gb319)); have n9_ := aA ((by rw [hg]; exact Nat.ne_of_gt (blk_lt (g := gb262) (o := .cells #[.int .i64 1, .int .i64 (wrap64 (1 + (Int.tmod (wrap64 (a0)) 4)))] 38 (0, 0)) (bku BK262.out)) : gb319 ≠ gb262)); have n10_ := aA ((by rw [hg]; exact Nat.ne_of_lt (blk_lt (g := gb272) (o := .cells #[.int .i64 x273000_5, .int .u64 x273001_5, .int .u64 x273002_5] 56 (0, 0)) (bku BK272.out)) : gb272 ≠ gb319)); have n11_ := aA ((by rw [hg]; exact Nat.ne_of_gt (blk_lt (g := gb272) (o := .cells #[.int .i64 x273000_5, .int .u64 x273001_5, .int .u64 x273002_5] 56 (0, 0)) (bku BK272.out)) : gb319 ≠ gb272)); clear HO_9 HO312 BK262 BK272 HB; have HO_9 := n0_; have HO312 := n1_; have BK262 := n2_; have BK272 := n3_; have HB := n4_; have BK319 := n5_; have GW319 := n6_; have GE319 := n7_; have NB262_319 := n8_; have NB319_262 := n9_; have NB272_319 := n10_; have NB319_272 := n11_; clear n0_ n1_ n2_ n3_ n4_ n5_ n6_ n7_ n8_ n9_ n10_ n11_ hb hbox hg; have hnb117 := NB319_262.out; have hnc117 := NB262_319.out; have hnb118 := NB319_272.out; have hnc118 := NB272_319.out; have hcz119_0 : w116.cell? ⟨gb319, 0, none⟩ = some (.int .i64 0) := (blk_cell BK319.out 0).trans rfl; have hcz119_1 : w116.cell? ⟨gb319, 1, none⟩ = some (.int .u64 0) := (blk_cell BK319.out 1).trans rfl; have hcz119_2 : w116.cell? ⟨gb319, 2, none⟩ = some (.int .u64 0) := (blk_cell BK319.out 2).trans rfl; have hfz119_0 := blk_frozen BK319.out 0; have hfz119_1 := blk_frozen BK319.out 1; have hfz119_2 := blk_frozen BK319.out 2; have hcz120_0 : w116.cell? ⟨gb272, 0, none⟩ = some (.int .i64 x273000_5) := (blk_cell BK272.out 0).trans rfl; have hcz120_1 : w116.cell? ⟨gb272, 1, none⟩ = some (.int .u64 x273001_5) := (blk_cell BK272.out 1).trans rfl; have hcz120_2 : w116.cell? ⟨gb272, 2, none⟩ = some (.int .u64 x273002_5) := (blk_cell BK272.out 2).trans rfl; have hfz120_0 := blk_frozen BK272.out 0; have hfz120_1 := blk_frozen BK272.out 1; have hfz120_2 := blk_frozen BK272.out 2))
                  go_roundg k5
                  case measure => have := HJ3.out; have := HK2.out; have := HK3.out; have := HK4.out; have := HK5.out; omega
                  case rel => exact ⟨(t310), (wrap64 (x13_5 + 1)), (wrap64 (x28_5 + 1)), (t315), (t316), (t317), (by first | rfl | (simp; done) | (simp [*]; done)), (by first | rfl | (simp; done) | (simp [*]; done)), H', ⟨by have := HJ3.out; have := HK2.out; have := HK3.out; have := HK4.out; have := HK5.out; omega⟩, ⟨by (with_reducible repeat (first | apply Kd.V_alloc | apply Kd.V_drewN | apply Kd.V_drew)); exact Kd.V_mono (Kd.V_far (p := ⟨gb272, 2, none⟩) (Kd.V_far (p := ⟨gb272, 1, none⟩) (Kd.V_far (p := ⟨gb272, 0, none⟩) (Kd.V_far (p := ⟨gb319, 2, none⟩) (Kd.V_far (p := ⟨gb319, 1, none⟩) (Kd.V_far (p := ⟨gb319, 0, none⟩) (Kd.V_mono (Kd.V_mono HO312.out (fun k_ hk => (⟨hk, hk.2⟩ : _ ∧ k_ ≠ gb319))) (fun k_ hk => (⟨hk, hk.1.1.2⟩ : _ ∧ k_ ≠ gb272))) (fun _ hk => hk.1.2) (.int .i64 t315)) (fun _ hk => hk.1.2) (.int .u64 t316)) (fun _ hk => hk.1.2) (.int .u64 t317)) (fun _ hk => hk.2) (.int .i64 t315)) (fun _ hk => hk.2) (.int .u64 t316)) (fun _ hk => hk.2) (.int .u64 t317)) (fun _ hk => ⟨hk.1.1.1.1, hk.1.1.1.2⟩)⟩, ⟨by refine bku ?_; refine blk_far ?_ NB262_272.out _; refine bku ?_; refine blk_far ?_ NB262_272.out _; refine bku ?_; refine blk_far ?_ NB262_272.out _; refine bku ?_; refine blk_far ?_ NB262_319.out _; refine bku ?_; refine blk_far ?_ NB262_319.out _; refine bku ?_; refine blk_far ?_ NB262_319.out _; refine bku ?_; exact BK262.out⟩, ⟨by refine bku ?_; refine blk_put (cs := #[.int .i64 t315, .int .u64 t316, .int .u64 x273002_5]) ?_ 2 _ rfl; refine bku ?_; refine blk_put (cs := #[.int .i64 t315, .int .u64 x273001_5, .int .u64 x273002_5]) ?_ 1 _ rfl; refine bku ?_; refine blk_put (cs := #[.int .i64 x273000_5, .int .u64 x273001_5, .int .u64 x273002_5]) ?_ 0 _ rfl; refine bku ?_; refine blk_far ?_ NB272_319.out _; refine bku ?_; refine blk_far ?_ NB272_319.out _; refine bku ?_; refine blk_far ?_ NB272_319.out _; refine bku ?_; exact BK272.out⟩, ⟨by repeat (first | (with_reducible first | exact HB.out | apply below_alloc | apply pw_below_drewN | apply below_drew1 | refine below_set ?_ GE262.out | refine below_set ?_ GE272.out | refine below_set ?_ GE319.out) | exact HB.out)⟩⟩
                 ·replace c106 := Bool.eq_false_iff.mpr c106
                  subst c106
                  have H1 : (treillagelaw16_QueueAll.l3 k5 (wrap64 (1 + (Int.tmod (wrap64 (a1)) 12))) t310 x13_5 x26_4 (wrap64 (x28_5 + 1)) 1 (wrap64 (1 + (Int.tmod (wrap64 (a0)) 4))) t315 t316 t317) = some r := by rw [if_neg (show ¬ (false = true) by decide)] at H; exact H
                  clear H
                  have H := H1
                  clear H1
                  have H' := aA H
                  clear H
                  have hnb121 := NB262_272.out
                  have hnc121 := NB272_262.out
                  have hcz122_0 : wr.cell? ⟨gb262, 0, none⟩ = some (.int .i64 1) := (blk_cell BK262.out 0).trans rfl
                  have hcz122_1 : wr.cell? ⟨gb262, 1, none⟩ = some (.int .i64 (wrap64 (1 + (Int.tmod (wrap64 (a0)) 4)))) := (blk_cell BK262.out 1).trans rfl
                  have hfz122_0 := blk_frozen BK262.out 0
                  have hfz122_1 := blk_frozen BK262.out 1
                  have hcz123_0 : wr.cell? ⟨gb272, 0, none⟩ = some (.int .i64 x273000_5) := (blk_cell BK272.out 0).trans rfl
                  have hcz123_1 : wr.cell? ⟨gb272, 1, none⟩ = some (.int .u64 x273001_5) := (blk_cell BK272.out 1).trans rfl
                  have hcz123_2 : wr.cell? ⟨gb272, 2, none⟩ = some (.int .u64 x273002_5) := (blk_cell BK272.out 2).trans rfl
                  have hfz123_0 := blk_frozen BK272.out 0
                  have hfz123_1 := blk_frozen BK272.out 1
                  have hfz123_2 := blk_frozen BK272.out 2
                  go_wp2_with (first | ((with_reducible refine gate_callee (f := 53) rfl ?_); refine goesL_ (some 167) rfl rfl Try.func53 (by kernel_rfl) rfl #[.agg #[.int .i64 1, .int .i64 (wrap64 (1 + (Int.tmod (wrap64 (a0)) 4)))], .agg #[.int .i64 x273000_5, .int .u64 x273001_5, .int .u64 x273002_5]] rfl (by (try simp only [List.map_toArray, List.map_cons, List.map_nil]); first | done | rfl | (simp only [List.length_drop, List.length_take]; rfl)) ?_; (with_reducible refine (queue_Next.calls 1 (wrap64 (1 + (Int.tmod (wrap64 (a0)) 4))) x273000_5 x273001_5 x273002_5 t306 t307 t308 t309 _ A103.out).mono ?_); rintro e w124 ⟨rfl, hb⟩; refine ⟨_, rfl, ?_⟩; have n0_ := aA (Kd.V_below (vlu HO_9.out) hb); have n1_ := aA (blk_below (g := gb262) (o := .cells #[.int .i64 1, .int .i64 (wrap64 (1 + (Int.tmod (wrap64 (a0)) 4)))] 38 (0, 0)) (bku BK262.out) hb); have n2_ := aA (blk_below (g := gb272) (o := .cells #[.int .i64 x273000_5, .int .u64 x273001_5, .int .u64 x273002_5] 56 (0, 0)) (bku BK272.out) hb); have n3_ := aA (below_step (bls HB.out) hb); clear HO_9 BK262 BK272 HB; have HO_9 := n0_; have BK262 := n1_; have BK272 := n2_; have HB := n3_; clear n0_ n1_ n2_ n3_; (try clear hb); (try clear hb2); (try clear hk); (try clear hi); obtain ⟨Ao125, co125, eo125⟩ := Kd.V_slice HO_9.out; subst eo125) | ((with_reducible refine gate_callee (f := 15) rfl ?_); refine goesL_ (some 168) rfl rfl Try.func15 (by kernel_rfl) rfl #[.slice Ao125 x9_5.length co125, .agg #[.int .i64 t306, .int .i64 t307, .int .u64 t308, .int .u64 t309]] rfl (by (try simp only [List.map_toArray, List.map_cons, List.map_nil]); first | done | rfl | (simp only [List.length_drop, List.length_take]; rfl)) ?_; (with_reducible refine (mem_Do.calls (fun k_ => (k_ ≠ gb262 ∧ k_ ≠ gb272)) _ _ x9_5 t306 t307 t308 t309 t310 t313 t314 _ ?side1 A104.out).mono ?_); (case side1 => exact HO_9.out); rintro e w126 ⟨v311, rfl, ho0, hb⟩; refine ⟨_, rfl, ?_⟩; have n0_ := aA (Kd.V_below (vlu HO_9.out) hb); have n1_ := aA (Kd.V_lower (Kd.V_mono (ok' := fun k_ => k_ ≠ gb262 ∧ k_ ≠ gb272) ho0 (fun k_ hk_ => ⟨Or.elim hk_ (fun hs_ => hs_.1) (fun hn_ => (Kd.freshB (g := gb262) (o := .cells #[.int .i64 1, .int .i64 (wrap64 (1 + (Int.tmod (wrap64 (a0)) 4)))] 38 (0, 0)) (bku BK262.out) k_ hn_)), Or.elim hk_ (fun hs_ => hs_.2) (fun hn_ => (Kd.freshB (g := gb272) (o := .cells #[.int .i64 x273000_5, .int .u64 x273001_5, .int .u64 x273002_5] 56 (0, 0)) (bku BK272.out) k_ hn_))⟩)) (below_size (bls HB.out))); have n2_ := aA (blk_below (g := gb262) (o := .cells #[.int .i64 1, .int .i64 (wrap64 (1 + (Int.tmod (wrap64 (a0)) 4)))] 38 (0, 0)) (bku BK262.out) hb); have n3_ := aA (blk_below (g := gb272) (o := .cells #[.int .i64 x273000_5, .int .u64 x273001_5, .int .u64 x273002_5] 56 (0, 0)) (bku BK272.out) hb); have n4_ := aA (below_step (bls HB.out) hb); clear HO_9 BK262 BK272 HB; have HO_9 := n0_; have HO312 := n1_; have BK262 := n2_; have BK272 := n3_; have HB := n4_; clear n0_ n1_ n2_ n3_ n4_; (try clear hb); (try clear hb2); (try clear hk); (try clear hi); (try clear ho0); have hcz127_0 : w126.cell? ⟨gb262, 0, none⟩ = some (.int .i64 1) := (blk_cell BK262.out 0).trans rfl; have hcz127_1 : w126.cell? ⟨gb262, 1, none⟩ = some (.int .i64 (wrap64 (1 + (Int.tmod (wrap64 (a0)) 4)))) := (blk_cell BK262.out 1).trans rfl; have hfz127_0 := blk_frozen BK262.out 0; have hfz127_1 := blk_frozen BK262.out 1; have hcz128_0 : w126.cell? ⟨gb272, 0, none⟩ = some (.int .i64 x273000_5) := (blk_cell BK272.out 0).trans rfl; have hcz128_1 : w126.cell? ⟨gb272, 1, none⟩ = some (.int .u64 x273001_5) := (blk_cell BK272.out 1).trans rfl; have hcz128_2 : w126.cell? ⟨gb272, 2, none⟩ = some (.int .u64 x273002_5) := (blk_cell BK272.out 2).trans rfl; have hfz128_0 := blk_frozen BK272.out 0; have hfz128_1 := blk_frozen BK272.out 1; have hfz128_2 := blk_frozen BK272.out 2) | ((with_reducible refine gate_callee (f := 49) rfl ?_); refine goesL_ (some 177) rfl rfl Try.func49 (by kernel_rfl) rfl #[.agg #[.int .i64 1, .int .i64 (wrap64 (1 + (Int.tmod (wrap64 (a0)) 4)))], .agg #[.int .i64 x273000_5, .int .u64 x273001_5, .int .u64 x273002_5], .int .u64 t313] rfl (by (try simp only [List.map_toArray, List.map_cons, List.map_nil]); first | done | rfl | (simp only [List.length_drop, List.length_take]; rfl)) ?_; (with_reducible refine (queue_Given.calls k5 1 (wrap64 (1 + (Int.tmod (wrap64 (a0)) 4))) x273000_5 x273001_5 x273002_5 t313 t315 t316 t317 false _ A105.out).mono ?_); rintro e w129 ⟨rfl, hb⟩; refine ⟨_, rfl, ?_⟩; have n0_ := aA (Kd.V_below (vlu HO_9.out) hb); have n1_ := aA (Kd.V_below (vlu HO312.out) hb); have n2_ := aA (blk_below (g := gb262) (o := .cells #[.int .i64 1, .int .i64 (wrap64 (1 + (Int.tmod (wrap64 (a0)) 4)))] 38 (0, 0)) (bku BK262.out) hb); have n3_ := aA (blk_below (g := gb272) (o := .cells #[.int .i64 x273000_5, .int .u64 x273001_5, .int .u64 x273002_5] 56 (0, 0)) (bku BK272.out) hb); have n4_ := aA (below_step (bls HB.out) hb); clear HO_9 HO312 BK262 BK272 HB; have HO_9 := n0_; have HO312 := n1_; have BK262 := n2_; have BK272 := n3_; have HB := n4_; clear n0_ n1_ n2_ n3_ n4_; (try clear hb); (try clear hb2); (try clear hk); (try clear hi)) | ((with_reducible refine gate_dst (N := 32) rfl ?_); refine box_event ?hg (N := 32) ?hd (cs := #[.int .i64 0, .int .u64 0, .int .u64 0]) (t := 56) ?hr ?_; (case hd => rfl); (case hg => rfl); (case hr => first | (go_simp; done) | (go_simp; rfl)); intro gb319 hg w130 hbox hb; have n0_ := aA (Kd.V_below (Kd.V_elderB (vlu HO_9.out) gb319 (Nat.le_of_eq hg.symm)) hb); have n1_ := aA (Kd.V_below (Kd.V_elderB (vlu HO312.out) gb319 (Nat.le_of_eq hg.symm)) hb); have n2_ := aA (blk_below (g := gb262) (o := .cells #[.int .i64 1, .int .i64 (wrap64 (1 + (Int.tmod (wrap64 (a0)) 4)))] 38 (0, 0)) (bku BK262.out) hb); have n3_ := aA (blk_below (g := gb272) (o := .cells #[.int .i64 x273000_5, .int .u64 x273001_5, .int .u64 x273002_5] 56 (0, 0)) (bku BK272.out) hb); have n4_ := aA (below_step (bls HB.out) hb); have n5_ := aA (hbox); have n6_ := aA ((by rw [hg]; exact (below_size (bls HB.out)) : w.heap.size ≤ gb319)); have n7_ := aA ((by rw [hg]; exact (below_size (bls HB.out)) : w.heap.size ≤ gb319)); have n8_ := aA ((by rw [hg]; exact Nat.ne_of_lt (blk_lt (g := gb262) (o := .cells #[.int .i64 1, .int .i64 (wrap64 (1 + (Int.tmod (wrap64 (a0)) 4)))] 38 (0, 0)) (bku BK262.out)) : gb262 ≠ gb319)); have n9_ := aA ((by rw [hg]; exact Nat.ne_of_gt (blk_lt (g := gb262) (o := .cells #[.int .i64 1, .int .i64 (wrap64 (1 + (Int.tmod (wrap64 (a0)) 4)))] 38 (0, 0)) (bku BK262.out)) : gb319 ≠ gb262)); have n10_ := aA ((by rw [hg]; exact Nat.ne_of_lt (blk_lt (g := gb272) (o := .cells #[.int .i64 x273000_5, .int .u64 x273001_5, .int .u64 x273002_5] 56 (0, 0)) (bku BK272.out)) : gb272 ≠ gb319)); have n11_ := aA ((by rw [hg]; exact Nat.ne_of_gt (blk_lt (g := gb272) (o := .cells #[.int .i64 x273000_5, .int .u64 x273001_5, .int .u64 x273002_5] 56 (0, 0)) (bku BK272.out)) : gb319 ≠ gb272)); clear HO_9 HO312 BK262 BK272 HB; have HO_9 := n0_; have HO312 := n1_; have BK262 := n2_; have BK272 := n3_; have HB := n4_; have BK319 := n5_; have GW319 := n6_; have GE319 := n7_; have NB262_319 := n8_; have NB319_262 := n9_; have NB272_319 := n10_; have NB319_272 := n11_; clear n0_ n1_ n2_ n3_ n4_ n5_ n6_ n7_ n8_ n9_ n10_ n11_ hb hbox hg; have hnb131 := NB319_262.out; have hnc131 := NB262_319.out; have hnb132 := NB319_272.out; have hnc132 := NB272_319.out; have hcz133_0 : w130.cell? ⟨gb319, 0, none⟩ = some (.int .i64 0) := (blk_cell BK319.out 0).trans rfl; have hcz133_1 : w130.cell? ⟨gb319, 1, none⟩ = some (.int .u64 0) := (blk_cell BK319.out 1).trans rfl; have hcz133_2 : w130.cell? ⟨gb319, 2, none⟩ = some (.int .u64 0) := (blk_cell BK319.out 2).trans rfl; have hfz133_0 := blk_frozen BK319.out 0; have hfz133_1 := blk_frozen BK319.out 1; have hfz133_2 := blk_frozen BK319.out 2; have hcz134_0 : w130.cell? ⟨gb272, 0, none⟩ = some (.int .i64 x273000_5) := (blk_cell BK272.out 0).trans rfl; have hcz134_1 : w130.cell? ⟨gb272, 1, none⟩ = some (.int .u64 x273001_5) := (blk_cell BK272.out 1).trans rfl; have hcz134_2 : w130.cell? ⟨gb272, 2, none⟩ = some (.int .u64 x273002_5) := (blk_cell BK272.out 2).trans rfl; have hfz134_0 := blk_frozen BK272.out 0; have hfz134_1 := blk_frozen BK272.out 1; have hfz134_2 := blk_frozen BK272.out 2))
                  go_roundg k5
                  case measure => have := HJ3.out; have := HK2.out; have := HK3.out; have := HK4.out; have := HK5.out; omega
                  case rel => exact ⟨(t310), (x13_5), (wrap64 (x28_5 + 1)), (t315), (t316), (t317), (by first | rfl | (simp; done) | (simp [*]; done)), (by first | rfl | (simp; done) | (simp [*]; done)), H', ⟨by have := HJ3.out; have := HK2.out; have := HK3.out; have := HK4.out; have := HK5.out; omega⟩, ⟨by (with_reducible repeat (first | apply Kd.V_alloc | apply Kd.V_drewN | apply Kd.V_drew)); exact Kd.V_mono (Kd.V_far (p := ⟨gb272, 2, none⟩) (Kd.V_far (p := ⟨gb272, 1, none⟩) (Kd.V_far (p := ⟨gb272, 0, none⟩) (Kd.V_far (p := ⟨gb319, 2, none⟩) (Kd.V_far (p := ⟨gb319, 1, none⟩) (Kd.V_far (p := ⟨gb319, 0, none⟩) (Kd.V_mono (Kd.V_mono HO312.out (fun k_ hk => (⟨hk, hk.2⟩ : _ ∧ k_ ≠ gb319))) (fun k_ hk => (⟨hk, hk.1.1.2⟩ : _ ∧ k_ ≠ gb272))) (fun _ hk => hk.1.2) (.int .i64 t315)) (fun _ hk => hk.1.2) (.int .u64 t316)) (fun _ hk => hk.1.2) (.int .u64 t317)) (fun _ hk => hk.2) (.int .i64 t315)) (fun _ hk => hk.2) (.int .u64 t316)) (fun _ hk => hk.2) (.int .u64 t317)) (fun _ hk => ⟨hk.1.1.1.1, hk.1.1.1.2⟩)⟩, ⟨by refine bku ?_; refine blk_far ?_ NB262_272.out _; refine bku ?_; refine blk_far ?_ NB262_272.out _; refine bku ?_; refine blk_far ?_ NB262_272.out _; refine bku ?_; refine blk_far ?_ NB262_319.out _; refine bku ?_; refine blk_far ?_ NB262_319.out _; refine bku ?_; refine blk_far ?_ NB262_319.out _; refine bku ?_; exact BK262.out⟩, ⟨by refine bku ?_; refine blk_put (cs := #[.int .i64 t315, .int .u64 t316, .int .u64 x273002_5]) ?_ 2 _ rfl; refine bku ?_; refine blk_put (cs := #[.int .i64 t315, .int .u64 x273001_5, .int .u64 x273002_5]) ?_ 1 _ rfl; refine bku ?_; refine blk_put (cs := #[.int .i64 x273000_5, .int .u64 x273001_5, .int .u64 x273002_5]) ?_ 0 _ rfl; refine bku ?_; refine blk_far ?_ NB272_319.out _; refine bku ?_; refine blk_far ?_ NB272_319.out _; refine bku ?_; refine blk_far ?_ NB272_319.out _; refine bku ?_; exact BK272.out⟩, ⟨by repeat (first | (with_reducible first | exact HB.out | apply below_alloc | apply pw_below_drewN | apply below_drew1 | refine below_set ?_ GE262.out | refine below_set ?_ GE272.out | refine below_set ?_ GE319.out) | exact HB.out)⟩⟩
                ·rw [if_neg c102] at H
                 have c102b0 : decide (x28_5 < (wrap64 ((wrap64 (3 * (wrap64 (1 + (Int.tmod (wrap64 (a1)) 12))))) + 3))) = false := decide_eq_false c102
                 clear c102
                 obtain rfl := Option.some.inj H
                 go_wp2
                 go_ret
                 exact ⟨by first | rfl | (simp [errW_none, errW_some] <;> rfl) | (simp [*, errW_none, errW_some] <;> rfl), by repeat (first | (with_reducible first | exact HB.out | apply below_alloc | apply pw_below_drewN | apply below_drew1 | refine below_set ?_ GE262.out | refine below_set ?_ GE272.out) | exact HB.out)⟩
    ·rw [if_neg c12] at H
     exact absurd H (by simp)

/-- THE ONE PURE STATEMENT of treillagelaw16_QueueAll: yours. -/
theorem treillagelaw16_QueueAll.calls (k : Nat) (a0 : Int) (a1 : Int) (A2 : Option Addr) (c2 : Nat) (l2 : List Int) (r : Bool) (w : World) (hr2 : Kd.C (Kd.int .u8) w A2 l2.length l2) (hc2 : l2.length ≤ c2) (h : treillagelaw16_QueueAll.f k a0 a1 l2 = some true) :
  Calls Try.prog 11 #[.int .u8 a0, .int .u8 a1, .slice A2 l2.length c2] w fun e w' => e = .returned (.bool true) ∧ Below w.heap.size w w' := treillagelaw16_QueueAll.calls1 k a0 a1 A2 c2 l2 true w hr2 hc2 h rfl
def treillagelaw16_QueueAll.Pure : Prop := ∀ (a0 : Int) (a1 : Int) (l2 : List Int), (Lit.int .u8 a0).wf = true → (Lit.int .u8 a1).wf = true → l2.length ≤ maxLen → l2.length * 1 ≤ 140737488351232 → (∀ x ∈ l2, (Lit.int .u8 x).wf = true) → ∃ k, treillagelaw16_QueueAll.f k a0 a1 l2 = some true
theorem treillagelaw16_QueueAll.walk (P : treillagelaw16_QueueAll.Pure) (a0 : Int) (a1 : Int) (a2 : Option Addr) (len2 cap2 : Nat) (z2 : List Int) (w : World) (w0 : (Lit.int .u8 a0).wf = true) (w1 : (Lit.int .u8 a1).wf = true) (w2 : (a2 = none ∧ len2 = 0 ∧ cap2 = 0 ∧ z2 = []) ∨ ∃ x, a2 = some x ∧ len2 ≤ cap2 ∧ cap2 ≤ maxLen ∧ z2.length = cap2 ∧ (∀ i, i < z2.length → w.cell? (x.add i) = some (.int .u8 (z2.getD i 0))) ∧ ∀ n ∈ z2, (Lit.int .u8 n).wf = true) (y2 : len2 * 1 ≤ 140737488351232) :
  Calls Try.prog 11 #[.int .u8 a0, .int .u8 a1, .slice a2 len2 cap2] w fun e w' => e = .returned (.bool true) ∧ Below w.heap.size w w' := by
 obtain ⟨l2, rfl, hr2, hm2, hw2, hc2⟩ := ReadsInt.ofRowC w2
 obtain ⟨k, h⟩ := P a0 a1 l2 w0 w1 hm2 y2 hw2
 refine (treillagelaw16_QueueAll.calls k a0 a1 _ _ l2 true w (Kd.C_of_reads (d := (0 : Int)) (h1 := fun _ => rfl) hr2) hc2 h).mono ?_
 rintro e w' ⟨rfl, hd⟩
 exact ⟨rfl, hd⟩

end Go.Proofs.Ytcjkjlopbjijaaa.PQ
