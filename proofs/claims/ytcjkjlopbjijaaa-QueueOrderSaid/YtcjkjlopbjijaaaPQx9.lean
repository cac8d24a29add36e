-- Written by wip/hprint/hprint.py (a program of this session, over the print): not typed by hand
import Derived.Test.YtcjkjlopbjijaaaPQx0
import Derived.Test.YtcjkjlopbjijaaaPQx4
import Derived.Test.YtcjkjlopbjijaaaPQx5
import Derived.Test.YtcjkjlopbjijaaaPQx6
import Derived.Test.YtcjkjlopbjijaaaPQx7
namespace Go.Proofs.Ytcjkjlopbjijaaa.PQ
open Go.RowKit Go.Proofs.YtcjkjlopbjijaaaW.PrintWords Go.Proofs.YtcjkjlopbjijaaaW.PrintLast Go.Proofs.YtcjkjlopbjijaaaW.PrintMore
attribute [local go_sem] max2_int min2_int max_two min_two max_three min_three max_four min_four   -- for this text's walks alone
open Go.Proofs.YtcjkjlopbjijaaaH
set_option linter.unusedVariables false
set_option linter.unusedSimpArgs false

/-! ### treillagelaw16_QueueOrder: function 10 -/
mutual
def treillagelaw16_QueueOrder.j0 : Nat → Int → Int → List Int → Bool → Option (Bool)
 | 0, _, _, _, _ => none
 | k + 1, x0, x1, x2, x36 => if x36 = true then ((treillagelaw16_shown.f k).bind fun t203 => (some t203)) else (treillagelaw16_QueueOrder.l0 k x1 x2 1 0 1 (wrap64 (1 + (Int.tmod (wrap64 (x0)) 4))))
def treillagelaw16_QueueOrder.l0 : Nat → Int → List Int → Int → Int → Int → Int → Option (Bool)
 | 0, _, _, _, _, _, _ => none
 | k + 1, x1, x2, x8, x9, x205000, x205001 => if x9 < x205001 then (treillagelaw16_QueueOrder.l0 k x1 x2 (wrap64 (x8 * 2)) (wrap64 (x9 + 1)) x205000 x205001) else ((mem_New.f k x205000 x205001).bind fun t205 => (if 0 ≤ 11728124029610 then (treillagelaw16_QueueOrder.l1 k x2 x8 (wrap64 (1 + (Int.tmod (wrap64 (x1)) 12))) t205 (List.replicate 0 z54) 0 x205000 x205001) else (none)))
def treillagelaw16_QueueOrder.l1 : Nat → List Int → Int → Int → List Int → List (S54) → Int → Int → Int → Option (Bool)
 | 0, _, _, _, _, _, _, _, _ => none
 | k + 1, x2, x8, x10, x11, x12, x13, x205000, x205001 => if x13 < x10 then (if x12.length < 5864062014805 then (treillagelaw16_QueueOrder.l1 k x2 x8 x10 x11 (x12 ++ [(⟨0, 0, IntKind.u64.wrap (wrap64 (100 + x13))⟩ : S54)]) (wrap64 (x13 + 1)) x205000 x205001) else (none)) else (treillagelaw16_QueueOrder.l2 k x2 x8 x10 x11 x12 (([] : List Int)) 0 0 x205000 x205001 0 0 0)
def treillagelaw16_QueueOrder.l2 : Nat → List Int → Int → Int → List Int → List (S54) → List Int → Int → Int → Int → Int → Int → Int → Int → Option (Bool)
 | 0, _, _, _, _, _, _, _, _, _, _, _, _, _ => none
 | k + 1, x2, x8, x10, x11, x12, x15, x16, x17, x205000, x205001, x215000, x215001, x215002 => if x17 < (x2.length : Int) then (if 0 ≤ x17 then (if (wrap64 (x10 + 1)) = 0 then (none) else (if (Int.tmod (wrap64 (rd x2 x17)) (wrap64 (x10 + 1))) = x10 then ((queue_Next.f x205000 x205001 x215000 x215001 x215002).bind fun bt219 => ((mem_Do.f x11 bt219.1 bt219.2.1 bt219.2.2.1 bt219.2.2.2).bind fun bt223 => ((queue_Given.f k x205000 x205001 x215000 x215001 x215002 bt223.2.1).bind fun bt228 => (if bt228.2.2.2 = true then (if x16 ≥ (x15.length : Int) then (some false) else (if 0 ≤ x16 then (if x16 < (x15.length : Int) then (if (rd x15 x16) = bt228.2.2.1 then (if bt228.2.2.1 < 100 then (some false) else (if (IntKind.u64.wrap (bt228.2.2.1 - 100)) ≥ (IntKind.u64.wrap (x10)) then (some false) else (if 0 ≤ (IntKind.u64.wrap (bt228.2.2.1 - 100)) then (if (IntKind.u64.wrap (bt228.2.2.1 - 100)) < (x12.length : Int) then (if ((rd_T54 x12 (IntKind.u64.wrap (bt228.2.2.1 - 100))).f0) = 5 then (treillagelaw16_QueueOrder.l2 k x2 x8 x10 bt223.1 x12 x15 (wrap64 (x16 + 1)) (wrap64 (x17 + 1)) x205000 x205001 bt228.1 bt228.2.1 bt228.2.2.1) else (some false)) else (none)) else (none)))) else (some false)) else (none)) else (none))) else (treillagelaw16_QueueOrder.l2 k x2 x8 x10 bt223.1 x12 x15 x16 (wrap64 (x17 + 1)) x205000 x205001 bt228.1 bt228.2.1 bt228.2.2.1))))) else (if 0 ≤ (Int.tmod (wrap64 (rd x2 x17)) (wrap64 (x10 + 1))) then (if (Int.tmod (wrap64 (rd x2 x17)) (wrap64 (x10 + 1))) < (x12.length : Int) then ((queue_Want.f x205000 x205001 ((rd_T54 x12 (Int.tmod (wrap64 (rd x2 x17)) (wrap64 (x10 + 1)))).f0) ((rd_T54 x12 (Int.tmod (wrap64 (rd x2 x17)) (wrap64 (x10 + 1)))).f1) ((rd_T54 x12 (Int.tmod (wrap64 (rd x2 x17)) (wrap64 (x10 + 1)))).f2)).bind fun bt236 => (if bt236.2.2.2.2 = true then ((mem_Do.f x11 bt236.1 bt236.2.1 bt236.2.2.1 bt236.2.2.2.1).bind fun bt242 => ((queue_Got.f k ((rd_T54 x12 (Int.tmod (wrap64 (rd x2 x17)) (wrap64 (x10 + 1)))).f0) ((rd_T54 x12 (Int.tmod (wrap64 (rd x2 x17)) (wrap64 (x10 + 1)))).f1) ((rd_T54 x12 (Int.tmod (wrap64 (rd x2 x17)) (wrap64 (x10 + 1)))).f2) bt242.2.1 bt242.2.2).bind fun bt249 => ((some (x12.set ((Int.tmod (wrap64 (rd x2 x17)) (wrap64 (x10 + 1))) : Int).toNat (⟨bt249.1, bt249.2.1, bt249.2.2⟩ : S54) : List (S54))).bind fun y252 => (if ((rd_T54 x12 (Int.tmod (wrap64 (rd x2 x17)) (wrap64 (x10 + 1)))).f0) = 2 then (treillagelaw16_QueueOrder.j4 k x2 x8 x10 bt242.1 y252 x15 x16 x17 (Int.tmod (wrap64 (rd x2 x17)) (wrap64 (x10 + 1))) ((rd_T54 x12 (Int.tmod (wrap64 (rd x2 x17)) (wrap64 (x10 + 1)))).f0) (((rd_T54 y252 (Int.tmod (wrap64 (rd x2 x17)) (wrap64 (x10 + 1)))).f0) == 3) x205000 x205001 x215000 x215001 x215002) else (treillagelaw16_QueueOrder.j4 k x2 x8 x10 bt242.1 y252 x15 x16 x17 (Int.tmod (wrap64 (rd x2 x17)) (wrap64 (x10 + 1))) ((rd_T54 x12 (Int.tmod (wrap64 (rd x2 x17)) (wrap64 (x10 + 1)))).f0) false x205000 x205001 x215000 x215001 x215002))))) else (treillagelaw16_QueueOrder.l2 k x2 x8 x10 x11 x12 x15 x16 (wrap64 (x17 + 1)) x205000 x205001 x215000 x215001 x215002))) else (none)) else (none)))) else (none)) else (some true)
def treillagelaw16_QueueOrder.j4 : Nat → List Int → Int → Int → List Int → List (S54) → List Int → Int → Int → Int → Int → Bool → Int → Int → Int → Int → Int → Option (Bool)
 | 0, _, _, _, _, _, _, _, _, _, _, _, _, _, _, _, _ => none
 | k + 1, x2, x8, x10, x11, x12, x15, x16, x17, x18, x29, x189, x205000, x205001, x215000, x215001, x215002 => if x189 = true then (if 0 ≤ x18 then (if x18 < (x12.length : Int) then (if x15.length < 17592186044416 then ((some (x15 ++ [(rd_T54 x12 x18).f2] : List Int)).bind fun y255 => (if (wrap64 ((y255.length : Int) - x16)) > x8 then (some false) else (if x29 = 6 then (treillagelaw16_QueueOrder.l2 k x2 x8 x10 x11 x12 y255 x16 (wrap64 (x17 + 1)) x205000 x205001 x215000 x215001 x215002) else (if ((rd_T54 x12 x18).f0) = 6 then (if (wrap64 ((y255.length : Int) - x16)) < x8 then (some false) else (treillagelaw16_QueueOrder.l2 k x2 x8 x10 x11 x12 y255 x16 (wrap64 (x17 + 1)) x205000 x205001 x215000 x215001 x215002)) else (treillagelaw16_QueueOrder.l2 k x2 x8 x10 x11 x12 y255 x16 (wrap64 (x17 + 1)) x205000 x205001 x215000 x215001 x215002))))) else (none)) else (none)) else (none)) else (if (wrap64 ((x15.length : Int) - x16)) > x8 then (some false) else (if x29 = 6 then (treillagelaw16_QueueOrder.l2 k x2 x8 x10 x11 x12 x15 x16 (wrap64 (x17 + 1)) x205000 x205001 x215000 x215001 x215002) else (if 0 ≤ x18 then (if x18 < (x12.length : Int) then (if ((rd_T54 x12 x18).f0) = 6 then (if (wrap64 ((x15.length : Int) - x16)) < x8 then (some false) else (treillagelaw16_QueueOrder.l2 k x2 x8 x10 x11 x12 x15 x16 (wrap64 (x17 + 1)) x205000 x205001 x215000 x215001 x215002)) else (treillagelaw16_QueueOrder.l2 k x2 x8 x10 x11 x12 x15 x16 (wrap64 (x17 + 1)) x205000 x205001 x215000 x215001 x215002)) else (none)) else (none))))
end
def treillagelaw16_QueueOrder.f (k : Nat) (a0 : Int) (a1 : Int) (l2 : List Int) : Option (Bool) := if (l2.length : Int) > 400 then (treillagelaw16_QueueOrder.j0 k a0 a1 l2 true) else ((treillagelaw16_shown.f k).bind fun t202 => (treillagelaw16_QueueOrder.j0 k a0 a1 l2 (!t202)))
theorem treillagelaw16_QueueOrder.mono_l : ∀ k, (∀ y0 y1 y2 y3, LeO (treillagelaw16_QueueOrder.j0 k y0 y1 y2 y3) (treillagelaw16_QueueOrder.j0 (k + 1) y0 y1 y2 y3)) ∧ (∀ y0 y1 y2 y3 y4 y5, LeO (treillagelaw16_QueueOrder.l0 k y0 y1 y2 y3 y4 y5) (treillagelaw16_QueueOrder.l0 (k + 1) y0 y1 y2 y3 y4 y5)) ∧ (∀ y0 y1 y2 y3 y4 y5 y6 y7, LeO (treillagelaw16_QueueOrder.l1 k y0 y1 y2 y3 y4 y5 y6 y7) (treillagelaw16_QueueOrder.l1 (k + 1) y0 y1 y2 y3 y4 y5 y6 y7)) ∧ (∀ y0 y1 y2 y3 y4 y5 y6 y7 y8 y9 y10 y11 y12, LeO (treillagelaw16_QueueOrder.l2 k y0 y1 y2 y3 y4 y5 y6 y7 y8 y9 y10 y11 y12) (treillagelaw16_QueueOrder.l2 (k + 1) y0 y1 y2 y3 y4 y5 y6 y7 y8 y9 y10 y11 y12)) ∧ (∀ y0 y1 y2 y3 y4 y5 y6 y7 y8 y9 y10 y11 y12 y13 y14 y15, LeO (treillagelaw16_QueueOrder.j4 k y0 y1 y2 y3 y4 y5 y6 y7 y8 y9 y10 y11 y12 y13 y14 y15) (treillagelaw16_QueueOrder.j4 (k + 1) y0 y1 y2 y3 y4 y5 y6 y7 y8 y9 y10 y11 y12 y13 y14 y15))
 | 0 => ⟨fun _ _ _ _ r h => by simp [treillagelaw16_QueueOrder.j0] at h, fun _ _ _ _ _ _ r h => by simp [treillagelaw16_QueueOrder.l0] at h, fun _ _ _ _ _ _ _ _ r h => by simp [treillagelaw16_QueueOrder.l1] at h, fun _ _ _ _ _ _ _ _ _ _ _ _ _ r h => by simp [treillagelaw16_QueueOrder.l2] at h, fun _ _ _ _ _ _ _ _ _ _ _ _ _ _ _ _ r h => by simp [treillagelaw16_QueueOrder.j4] at h⟩
 | k + 1 => by
  obtain ⟨ih0, ih1, ih2, ih3, ih4⟩ := treillagelaw16_QueueOrder.mono_l k
  refine ⟨?_, ?_, ?_, ?_, ?_⟩
  ·intro y0 y1 y2 y3
   unfold treillagelaw16_QueueOrder.j0
   repeat' first
   | (with_reducible exact ih0 _ _ _ _)
   | (with_reducible exact ih1 _ _ _ _ _ _)
   | (with_reducible exact ih2 _ _ _ _ _ _ _ _)
   | (with_reducible exact ih3 _ _ _ _ _ _ _ _ _ _ _ _ _)
   | (with_reducible exact ih4 _ _ _ _ _ _ _ _ _ _ _ _ _ _ _ _)
   | (with_reducible exact mem_New.mono _ _ _)
   | (with_reducible exact queue_Given.mono _ _ _ _ _ _ _)
   | (with_reducible exact queue_Got.mono _ _ _ _ _ _)
   | (with_reducible exact treillagelaw16_shown.mono _)
   | (with_reducible exact LeO.refl _)
   | (with_reducible exact LeO.none _)
   | (with_reducible refine LeO.ite ?_ ?_)
   | (with_reducible refine LeO.bind ?_ (fun _ => ?_))
   | exact ih0 _ _ _ _
   | exact ih1 _ _ _ _ _ _
   | exact ih2 _ _ _ _ _ _ _ _
   | exact ih3 _ _ _ _ _ _ _ _ _ _ _ _ _
   | exact ih4 _ _ _ _ _ _ _ _ _ _ _ _ _ _ _ _
   | exact mem_New.mono _ _ _
   | exact queue_Given.mono _ _ _ _ _ _ _
   | exact queue_Got.mono _ _ _ _ _ _
   | exact treillagelaw16_shown.mono _
   | exact LeO.none _
   | refine LeO.ite ?_ ?_
   | refine LeO.bind ?_ (fun _ => ?_)
  ·intro y0 y1 y2 y3 y4 y5
   unfold treillagelaw16_QueueOrder.l0
   repeat' first
   | (with_reducible exact ih0 _ _ _ _)
   | (with_reducible exact ih1 _ _ _ _ _ _)
   | (with_reducible exact ih2 _ _ _ _ _ _ _ _)
   | (with_reducible exact ih3 _ _ _ _ _ _ _ _ _ _ _ _ _)
   | (with_reducible exact ih4 _ _ _ _ _ _ _ _ _ _ _ _ _ _ _ _)
   | (with_reducible exact mem_New.mono _ _ _)
   | (with_reducible exact queue_Given.mono _ _ _ _ _ _ _)
   | (with_reducible exact queue_Got.mono _ _ _ _ _ _)
   | (with_reducible exact treillagelaw16_shown.mono _)
   | (with_reducible exact LeO.refl _)
   | (with_reducible exact LeO.none _)
   | (with_reducible refine LeO.ite ?_ ?_)
   | (with_reducible refine LeO.bind ?_ (fun _ => ?_))
   | exact ih0 _ _ _ _
   | exact ih1 _ _ _ _ _ _
   | exact ih2 _ _ _ _ _ _ _ _
   | exact ih3 _ _ _ _ _ _ _ _ _ _ _ _ _
   | exact ih4 _ _ _ _ _ _ _ _ _ _ _ _ _ _ _ _
   | exact mem_New.mono _ _ _
   | exact queue_Given.mono _ _ _ _ _ _ _
   | exact queue_Got.mono _ _ _ _ _ _
   | exact treillagelaw16_shown.mono _
   | exact LeO.none _
   | refine LeO.ite ?_ ?_
   | refine LeO.bind ?_ (fun _ => ?_)
  ·intro y0 y1 y2 y3 y4 y5 y6 y7
   unfold treillagelaw16_QueueOrder.l1
   repeat' first
   | (with_reducible exact ih0 _ _ _ _)
   | (with_reducible exact ih1 _ _ _ _ _ _)
   | (with_reducible exact ih2 _ _ _ _ _ _ _ _)
   | (with_reducible exact ih3 _ _ _ _ _ _ _ _ _ _ _ _ _)
   | (with_reducible exact ih4 _ _ _ _ _ _ _ _ _ _ _ _ _ _ _ _)
   | (with_reducible exact mem_New.mono _ _ _)
   | (with_reducible exact queue_Given.mono _ _ _ _ _ _ _)
   | (with_reducible exact queue_Got.mono _ _ _ _ _ _)
   | (with_reducible exact treillagelaw16_shown.mono _)
   | (with_reducible exact LeO.refl _)
   | (with_reducible exact LeO.none _)
   | (with_reducible refine LeO.ite ?_ ?_)
   | (with_reducible refine LeO.bind ?_ (fun _ => ?_))
   | exact ih0 _ _ _ _
   | exact ih1 _ _ _ _ _ _
   | exact ih2 _ _ _ _ _ _ _ _
   | exact ih3 _ _ _ _ _ _ _ _ _ _ _ _ _
   | exact ih4 _ _ _ _ _ _ _ _ _ _ _ _ _ _ _ _
   | exact mem_New.mono _ _ _
   | exact queue_Given.mono _ _ _ _ _ _ _
   | exact queue_Got.mono _ _ _ _ _ _
   | exact treillagelaw16_shown.mono _
   | exact LeO.none _
   | refine LeO.ite ?_ ?_
   | refine LeO.bind ?_ (fun _ => ?_)
  ·intro y0 y1 y2 y3 y4 y5 y6 y7 y8 y9 y10 y11 y12
   unfold treillagelaw16_QueueOrder.l2
   repeat' first
   | (with_reducible exact ih0 _ _ _ _)
   | (with_reducible exact ih1 _ _ _ _ _ _)
   | (with_reducible exact ih2 _ _ _ _ _ _ _ _)
   | (with_reducible exact ih3 _ _ _ _ _ _ _ _ _ _ _ _ _)
   | (with_reducible exact ih4 _ _ _ _ _ _ _ _ _ _ _ _ _ _ _ _)
   | (with_reducible exact mem_New.mono _ _ _)
   | (with_reducible exact queue_Given.mono _ _ _ _ _ _ _)
   | (with_reducible exact queue_Got.mono _ _ _ _ _ _)
   | (with_reducible exact treillagelaw16_shown.mono _)
   | (with_reducible exact LeO.refl _)
   | (with_reducible exact LeO.none _)
   | (with_reducible refine LeO.ite ?_ ?_)
   | (with_reducible refine LeO.bind ?_ (fun _ => ?_))
   | exact ih0 _ _ _ _
   | exact ih1 _ _ _ _ _ _
   | exact ih2 _ _ _ _ _ _ _ _
   | exact ih3 _ _ _ _ _ _ _ _ _ _ _ _ _
   | exact ih4 _ _ _ _ _ _ _ _ _ _ _ _ _ _ _ _
   | exact mem_New.mono _ _ _
   | exact queue_Given.mono _ _ _ _ _ _ _
   | exact queue_Got.mono _ _ _ _ _ _
   | exact treillagelaw16_shown.mono _
   | exact LeO.none _
   | refine LeO.ite ?_ ?_
   | refine LeO.bind ?_ (fun _ => ?_)
  ·intro y0 y1 y2 y3 y4 y5 y6 y7 y8 y9 y10 y11 y12 y13 y14 y15
   unfold treillagelaw16_QueueOrder.j4
   repeat' first
   | (with_reducible exact ih0 _ _ _ _)
   | (with_reducible exact ih1 _ _ _ _ _ _)
   | (with_reducible exact ih2 _ _ _ _ _ _ _ _)
   | (with_reducible exact ih3 _ _ _ _ _ _ _ _ _ _ _ _ _)
   | (with_reducible exact ih4 _ _ _ _ _ _ _ _ _ _ _ _ _ _ _ _)
   | (with_reducible exact mem_New.mono _ _ _)
   | (with_reducible exact queue_Given.mono _ _ _ _ _ _ _)
   | (with_reducible exact queue_Got.mono _ _ _ _ _ _)
   | (with_reducible exact treillagelaw16_shown.mono _)
   | (with_reducible exact LeO.refl _)
   | (with_reducible exact LeO.none _)
   | (with_reducible refine LeO.ite ?_ ?_)
   | (with_reducible refine LeO.bind ?_ (fun _ => ?_))
   | exact ih0 _ _ _ _
   | exact ih1 _ _ _ _ _ _
   | exact ih2 _ _ _ _ _ _ _ _
   | exact ih3 _ _ _ _ _ _ _ _ _ _ _ _ _
   | exact ih4 _ _ _ _ _ _ _ _ _ _ _ _ _ _ _ _
   | exact mem_New.mono _ _ _
   | exact queue_Given.mono _ _ _ _ _ _ _
   | exact queue_Got.mono _ _ _ _ _ _
   | exact treillagelaw16_shown.mono _
   | exact LeO.none _
   | refine LeO.ite ?_ ?_
   | refine LeO.bind ?_ (fun _ => ?_)
theorem treillagelaw16_QueueOrder.mono : ∀ a0 a1 a2 k, LeO (treillagelaw16_QueueOrder.f k a0 a1 a2) (treillagelaw16_QueueOrder.f (k + 1) a0 a1 a2) := by
 intro a0 a1 a2 k
 obtain ⟨ih0, ih1, ih2, ih3, ih4⟩ := treillagelaw16_QueueOrder.mono_l k
 unfold treillagelaw16_QueueOrder.f
 repeat' first
   | (with_reducible exact ih0 _ _ _ _)
   | (with_reducible exact ih1 _ _ _ _ _ _)
   | (with_reducible exact ih2 _ _ _ _ _ _ _ _)
   | (with_reducible exact ih3 _ _ _ _ _ _ _ _ _ _ _ _ _)
   | (with_reducible exact ih4 _ _ _ _ _ _ _ _ _ _ _ _ _ _ _ _)
   | (with_reducible exact mem_New.mono _ _ _)
   | (with_reducible exact queue_Given.mono _ _ _ _ _ _ _)
   | (with_reducible exact queue_Got.mono _ _ _ _ _ _)
   | (with_reducible exact treillagelaw16_shown.mono _)
   | (with_reducible exact LeO.refl _)
   | (with_reducible exact LeO.none _)
   | (with_reducible refine LeO.ite ?_ ?_)
   | (with_reducible refine LeO.bind ?_ (fun _ => ?_))
   | exact ih0 _ _ _ _
   | exact ih1 _ _ _ _ _ _
   | exact ih2 _ _ _ _ _ _ _ _
   | exact ih3 _ _ _ _ _ _ _ _ _ _ _ _ _
   | exact ih4 _ _ _ _ _ _ _ _ _ _ _ _ _ _ _ _
   | exact mem_New.mono _ _ _
   | exact queue_Given.mono _ _ _ _ _ _ _
   | exact queue_Got.mono _ _ _ _ _ _
   | exact treillagelaw16_shown.mono _
   | exact LeO.none _
   | refine LeO.ite ?_ ?_
   | refine LeO.bind ?_ (fun _ => ?_)
def treillagelaw16_QueueOrder.T29 : Bool × List (List Nat × List Nat) := (true, [([], []), ([], []), ([1], [1]), ([0, 2], [0, 2]), ([3], [3]), ([4], [4]), ([4], [4]), ([5, 6, 4], [4, 5, 6]), ([7, 4], [4, 7]), ([4], [4]), ([9, 4], [4, 9]), ([8, 10, 4], [4, 8, 10]), ([4, 11], [4, 11]), ([12, 4], [12]), ([13], [13]), ([14, 13], [13, 14]), ([15, 13], [13, 15]), ([13, 16], [13, 16]), ([17, 13], [17]), ([18], [18]), ([19, 18], [18, 19]), ([20, 18], [18, 20]), ([18], [18]), ([22, 18], [18, 22]), ([21, 23, 18], [18, 21, 23]), ([18, 24], [18, 24]), ([25, 18], [25]), ([26], [26]), ([26], [26]), ([28, 26], [26, 28]), ([29, 26], [26, 29]), ([27, 30, 26], [26, 27, 30]), ([31, 26], [26, 31]), ([32, 26], [26, 32]), ([33, 26], [26, 33]), ([26, 34], [26, 34])])
def treillagelaw16_QueueOrder.B29 : List Nat := [0, 0, 2, 7, 15, 31, 31, 127, 255, 31, 543, 2047, 4095, 8191, 16383, 32767, 65535, 131071, 262143, 524287, 1048575, 2097151, 524287, 4718591, 16777215, 33554431, 67108863, 134217727, 134217727, 402653183, 939524095, 2147483647, 4294967295, 8589934591, 17179869183, 34359738367]
theorem treillagelaw16_QueueOrder.tab29 : rtab .any (opsOf Try.f10 29) = treillagelaw16_QueueOrder.T29 := by kernel_rfl
theorem treillagelaw16_QueueOrder.bits29 : waitsOk treillagelaw16_QueueOrder.T29.2 treillagelaw16_QueueOrder.B29 = true := by kernel_rfl
def treillagelaw16_QueueOrder.T32 : Bool × List (List Nat × List Nat) := (true, [([], []), ([], []), ([], []), ([1, 2], [1, 2]), ([3], [3]), ([0, 4], [0, 4]), ([5], [5]), ([6], [6]), ([6], [6]), ([], []), ([9, 7, 5, 0, 1, 2, 3, 4, 5, 6, 7, 9], [7, 9]), ([8, 10, 0, 1, 2, 3, 4, 5, 6, 7, 8, 9, 10], [8])])
def treillagelaw16_QueueOrder.B32 : List Nat := [0, 0, 0, 6, 14, 31, 63, 127, 127, 0, 767, 2047]
theorem treillagelaw16_QueueOrder.tab32 : rtab .any (opsOf Try.f10 32) = treillagelaw16_QueueOrder.T32 := by kernel_rfl
theorem treillagelaw16_QueueOrder.bits32 : waitsOk treillagelaw16_QueueOrder.T32.2 treillagelaw16_QueueOrder.B32 = true := by kernel_rfl
set_option maxHeartbeats 8000000 in
set_option maxRecDepth 100000 in
theorem treillagelaw16_QueueOrder.calls1 (k : Nat) (a0 : Int) (a1 : Int) (A2 : Option Addr) (c2 : Nat) (l2 : List Int) (r : Bool) (w : World) (hr2 : Kd.C (Kd.int .u8) w A2 l2.length l2) (hc2 : l2.length ≤ c2) (h : treillagelaw16_QueueOrder.f k a0 a1 l2 = some r) (hr_ : r = true) :
  Calls Try.prog 10 #[.int .u8 a0, .int .u8 a1, .slice A2 l2.length c2] w fun e w' => e = .returned (.bool r) ∧ Below w.heap.size w w' := by
 have hu38 := Try.underlying38
 have hu54 := Try.underlying54
 have hu56 := Try.underlying56
 have hu25 := Try.underlying25
 have HR2 := aA hr2
 have HC2 := aA hc2
 clear hr2 hc2
 have HB := aA (Below.refl w.heap.size w)
 have H : (if (l2.length : Int) > 400 then (treillagelaw16_QueueOrder.j0 k a0 a1 l2 true) else ((treillagelaw16_shown.f k).bind fun t202 => (treillagelaw16_QueueOrder.j0 k a0 a1 l2 (!t202)))) = some r := h
 clear h
 have HC4 := aA H
 clear H
 go_enter Try.func10, Try.ntmps10
 go_upto_region 1 with (fail)
 go_cut [36] (fun v36 wc => ∃ (kq : Nat) (x36_3 : Bool), v36 = .bool x36_3 ∧ Aside0 (treillagelaw16_QueueOrder.j0 kq a0 a1 l2 x36_3 = some r) ∧ Aside0 (kq ≤ k) ∧ Aside0 (Below w.heap.size w wc))
 case first =>
  have H := HC4.out
  clear HC4
  by_cases c5 : (l2.length : Int) > 400
  ·rw [if_pos c5] at H
   have c5b0 : decide (400 < (l2.length : Int)) = true := decide_eq_true c5
   have c5b1 : decide (400 < l2.length) = true := decide_eq_true (by omega)
   clear c5
   (first | rw [c5b0] | (simp only [i64_w, i32_w]; rw [c5b0]) | skip)
   as_aux_lemma =>
    have H' := aA H
    clear H
    go_wp2
    go_meet
    case rel => exact ⟨_, (true), (by first | rfl | (simp; done) | (simp [*]; done)), H', ⟨by first | omega | exact Nat.le_refl _⟩, ⟨by repeat (first | (with_reducible first | exact HB.out | apply below_alloc | apply pw_below_drewN | apply below_drew1) | exact HB.out)⟩⟩
  ·rw [if_neg c5] at H
   have c5b0 : decide (400 < (l2.length : Int)) = false := decide_eq_false c5
   have c5b1 : decide (400 < l2.length) = false := decide_eq_false (by omega)
   clear c5
   (first | rw [c5b0] | (simp only [i64_w, i32_w]; rw [c5b0]) | skip)
   replace H := Option.bind_eq_some_iff.mp H
   obtain ⟨t202, A60, H⟩ := H
   replace H : (treillagelaw16_QueueOrder.j0 k a0 a1 l2 (!t202)) = some r := H
   have A6 := aA A60
   clear A60
   as_aux_lemma =>
    have H' := aA H
    clear H
    go_wp2_with (first | (go_at_call 46; (with_reducible refine (treillagelaw16_shown.calls k  t202 _ A6.out).mono ?_); rintro e w7 ⟨rfl, hb⟩; have n0_ := aA (below_step (blw HB.out) hb); clear HB; have HB := n0_; clear n0_; (try clear hb); (try clear hb2); (try clear hk); (try clear hi)))
    go_meet
    case rel => exact ⟨_, (!t202), (by first | rfl | (simp; done) | (simp [*]; done)), H', ⟨by first | omega | exact Nat.le_refl _⟩, ⟨by repeat (first | (with_reducible first | exact HB.out | apply below_alloc | apply pw_below_drewN | apply below_drew1) | exact HB.out)⟩⟩
 case rest =>
  clear HC4
  try clear c1
  try clear c2
  try clear p2
  try clear c5
  try clear c5b0
  try clear c5b1
  obtain ⟨kq, x36_3, rfl, HA, HJ3, HB⟩ := hcut
  cases kq with
  | zero => exact absurd HA.out (by simp [treillagelaw16_QueueOrder.j0])
  | succ kj3 =>
   have H := HA.out
   clear HA
   simp only [treillagelaw16_QueueOrder.j0] at H
   by_cases c8 : x36_3 = true
   ·subst c8
    have H1 : ((treillagelaw16_shown.f kj3).bind fun t203 => (some t203)) = some r := by rw [if_pos rfl] at H; exact H
    clear H
    have H := H1
    clear H1
    replace H := Option.bind_eq_some_iff.mp H
    obtain ⟨t203, A90, H⟩ := H
    replace H : (some t203) = some r := H
    have A9 := aA A90
    clear A90
    as_aux_lemma =>
     obtain rfl := Option.some.inj H
     go_wp2_with (first | ((with_reducible refine gate_callee (f := 46) rfl ?_); refine goesL_ (some 37) rfl rfl Try.func46 (by kernel_rfl) rfl #[] rfl (by (try simp only [List.map_toArray, List.map_cons, List.map_nil]); first | done | rfl | (simp only [List.length_drop, List.length_take]; rfl)) ?_; (with_reducible refine (treillagelaw16_shown.calls kj3  t203 _ A9.out).mono ?_); rintro e w10 ⟨rfl, hb⟩; refine ⟨_, rfl, ?_⟩; have n0_ := aA (below_step (blw HB.out) hb); clear HB; have HB := n0_; clear n0_; (try clear hb); (try clear hb2); (try clear hk); (try clear hi)))
     go_ret
     exact ⟨by first | rfl | (simp [errW_none, errW_some] <;> rfl) | (simp [*, errW_none, errW_some] <;> rfl), by repeat (first | (with_reducible first | exact HB.out | apply below_alloc | apply pw_below_drewN | apply below_drew1) | exact HB.out)⟩
   ·replace c8 := Bool.eq_false_iff.mpr c8
    subst c8
    have H1 : (treillagelaw16_QueueOrder.l0 kj3 a1 l2 1 0 1 (wrap64 (1 + (Int.tmod (wrap64 (a0)) 4)))) = some r := by rw [if_neg (show ¬ (false = true) by decide)] at H; exact H
    clear H
    have H := H1
    clear H1
    have H' := aA H
    clear H
    go_wp2_with (first | ((with_reducible refine gate_dst (N := 7) rfl ?_); (try (refine gate_guard (by rfl) ?_; dsimp only)); refine box_event ?hg (N := 7) ?hd (cs := #[.int .i64 0, .int .i64 0]) (t := 38) ?hr ?_; (case hd => rfl); (case hg => rfl); (case hr => first | (go_simp; done) | (go_simp; rfl)); intro gb204 hg w11 hbox hb; have n0_ := aA (below_step (blw HB.out) hb); have n1_ := aA (hbox); have n2_ := aA ((by rw [hg]; exact (below_size (blw HB.out)) : w.heap.size ≤ gb204)); have n3_ := aA ((by rw [hg]; exact (below_size (blw HB.out)) : w.heap.size ≤ gb204)); clear HB; have HB := n0_; have BK204 := n1_; have GW204 := n2_; have GE204 := n3_; clear n0_ n1_ n2_ n3_ hb hbox hg; have hcz12_0 : w11.cell? ⟨gb204, 0, none⟩ = some (.int .i64 0) := (blk_cell BK204.out 0).trans rfl; have hcz12_1 : w11.cell? ⟨gb204, 1, none⟩ = some (.int .i64 0) := (blk_cell BK204.out 1).trans rfl; have hfz12_0 := blk_frozen BK204.out 0; have hfz12_1 := blk_frozen BK204.out 1))
    go_loopg [8, 9] kj3 (fun kq v8 v9 w' => ∃ (x8_2 : Int) (x9_2 : Int), v8 = .int .i64 x8_2 ∧ v9 = .int .i64 x9_2 ∧ Aside0 (treillagelaw16_QueueOrder.l0 kq a1 l2 x8_2 x9_2 1 (wrap64 (1 + (Int.tmod (wrap64 (a0)) 4))) = some r) ∧ Aside0 (kq ≤ kj3) ∧ Aside0 (w'.heap[gb204]? = some (.cells #[.int .i64 1, .int .i64 (wrap64 (1 + (Int.tmod (wrap64 (a0)) 4)))] 38 (0, 0))) ∧ Aside0 (Below w.heap.size w w'))
    case atStart => exact ⟨(1), (0), (by first | rfl | (simp; done) | (simp [*]; done)), (by first | rfl | (simp; done) | (simp [*]; done)), H', ⟨Nat.le_refl _⟩, ⟨by (with_reducible repeat (first | refine blk_drewN ?_ _ | refine blk_drew ?_ | refine blk_alloc ?_ _)); refine blk_put (cs := #[.int .i64 1, .int .i64 0]) ?_ 1 _ rfl; (with_reducible repeat (first | refine blk_drewN ?_ _ | refine blk_drew ?_ | refine blk_alloc ?_ _)); refine blk_put (cs := #[.int .i64 0, .int .i64 0]) ?_ 0 _ rfl; (with_reducible repeat (first | refine blk_drewN ?_ _ | refine blk_drew ?_ | refine blk_alloc ?_ _)); exact BK204.out⟩, ⟨by repeat (first | (with_reducible first | exact HB.out | apply below_alloc | apply pw_below_drewN | apply below_drew1 | refine below_set ?_ GE204.out) | exact HB.out)⟩⟩
    case round =>
     clear H'
     try clear c1
     try clear c2
     try clear p2
     try clear c4
     try clear c5
     try clear c5b0
     try clear c5b1
     try clear p6
     try clear c8
     try clear c10
     try clear hcz12_0
     try clear hcz12_1
     try clear hfz12_0
     try clear hfz12_1
     try clear p2
     obtain ⟨x8_2, x9_2, rfl, rfl, HA, HK2, BK204, HB⟩ := hrel
     cases gk with
     | zero => exact absurd HA.out (by simp [treillagelaw16_QueueOrder.l0])
     | succ k2 =>
      have H := HA.out
      clear HA
      simp only [treillagelaw16_QueueOrder.l0] at H
      by_cases c13 : x9_2 < (wrap64 (1 + (Int.tmod (wrap64 (a0)) 4)))
      ·rw [if_pos c13] at H
       have c13b0 : decide (x9_2 < (wrap64 (1 + (Int.tmod (wrap64 (a0)) 4)))) = true := decide_eq_true c13
       clear c13
       as_aux_lemma =>
        have H' := aA H
        clear H
        have hcz14_0 : wr.cell? ⟨gb204, 0, none⟩ = some (.int .i64 1) := (blk_cell BK204.out 0).trans rfl
        have hcz14_1 : wr.cell? ⟨gb204, 1, none⟩ = some (.int .i64 (wrap64 (1 + (Int.tmod (wrap64 (a0)) 4)))) := (blk_cell BK204.out 1).trans rfl
        have hfz14_0 := blk_frozen BK204.out 0
        have hfz14_1 := blk_frozen BK204.out 1
        go_wp2
        go_roundg k2
        case measure => have := HJ3.out; have := HK2.out; omega
        case rel => exact ⟨(wrap64 (x8_2 * 2)), (wrap64 (x9_2 + 1)), (by first | rfl | (simp; done) | (simp [*]; done)), (by first | rfl | (simp; done) | (simp [*]; done)), H', ⟨by have := HJ3.out; have := HK2.out; omega⟩, ⟨by (with_reducible repeat (first | refine blk_drewN ?_ _ | refine blk_drew ?_ | refine blk_alloc ?_ _)); exact BK204.out⟩, ⟨by repeat (first | (with_reducible first | exact HB.out | apply below_alloc | apply pw_below_drewN | apply below_drew1 | refine below_set ?_ GE204.out) | exact HB.out)⟩⟩
      ·rw [if_neg c13] at H
       have c13b0 : decide (x9_2 < (wrap64 (1 + (Int.tmod (wrap64 (a0)) 4)))) = false := decide_eq_false c13
       clear c13
       replace H := Option.bind_eq_some_iff.mp H
       obtain ⟨t205, A150, H⟩ := H
       replace H : (if 0 ≤ 11728124029610 then (treillagelaw16_QueueOrder.l1 k2 l2 x8_2 (wrap64 (1 + (Int.tmod (wrap64 (a1)) 12))) t205 (List.replicate 0 z54) 0 1 (wrap64 (1 + (Int.tmod (wrap64 (a0)) 4)))) else (none)) = some r := H
       have A15 := aA A150
       clear A150
       by_cases c16 : 0 ≤ 11728124029610
       ·rw [if_pos c16] at H
        have c16b0 := eq_true c16
        have c16b1 : decide (0 ≤ 11728124029610) = true := decide_eq_true c16
        clear c16
        obtain ⟨y208, hy208⟩ : ∃ y_ : List (S54), y_ = (List.replicate 0 z54) := ⟨_, rfl⟩
        replace H : (treillagelaw16_QueueOrder.l1 k2 l2 x8_2 (wrap64 (1 + (Int.tmod (wrap64 (a1)) 12))) t205 y208 0 1 (wrap64 (1 + (Int.tmod (wrap64 (a0)) 4)))) = some r := by first | (rw [hy208]; with_reducible exact H) | (have H2_ := (Option.bind_some _ _).symm.trans H; rw [hy208]; with_reducible exact H2_) | (have H2_ := (Option.bind_some _ _).symm.trans H; with_reducible exact H2_) | with_reducible exact H | (rw [hy208]; exact H) | exact H
        have Ny208 := aA hy208
        clear hy208
        have H' := aA H
        clear H
        have hcz17_0 : wr.cell? ⟨gb204, 0, none⟩ = some (.int .i64 1) := (blk_cell BK204.out 0).trans rfl
        have hcz17_1 : wr.cell? ⟨gb204, 1, none⟩ = some (.int .i64 (wrap64 (1 + (Int.tmod (wrap64 (a0)) 4)))) := (blk_cell BK204.out 1).trans rfl
        have hfz17_0 := blk_frozen BK204.out 0
        have hfz17_1 := blk_frozen BK204.out 1
        go_wp2_with (first | ((with_reducible refine gate_callee (f := 36) rfl ?_); refine goesL_ (some 56) rfl rfl Try.func36 (by kernel_rfl) rfl #[.agg #[.int .i64 1, .int .i64 (wrap64 (1 + (Int.tmod (wrap64 (a0)) 4)))]] rfl (by (try simp only [List.map_toArray, List.map_cons, List.map_nil]); first | done | rfl | (simp only [List.length_drop, List.length_take]; rfl)) ?_; (with_reducible refine (mem_New.calls k2 1 (wrap64 (1 + (Int.tmod (wrap64 (a0)) 4))) t205 _ A15.out).mono ?_); rintro e w18 ⟨v206, rfl, ho0, hb⟩; refine ⟨_, rfl, ?_⟩; have n0_ := aA (Kd.R_lower ho0 (below_size (bls HB.out))); have n1_ := aA (blk_below (g := gb204) (o := .cells #[.int .i64 1, .int .i64 (wrap64 (1 + (Int.tmod (wrap64 (a0)) 4)))] 38 (0, 0)) (bku BK204.out) hb); have n2_ := aA (below_step (bls HB.out) hb); clear BK204 HB; have HO207 := n0_; have BK204 := n1_; have HB := n2_; clear n0_ n1_ n2_; (try clear hb); (try clear hb2); (try clear hk); (try clear hi); (try clear ho0)) | ((with_reducible refine gate_dst (N := 57) rfl ?_); (try (refine gate_guard (by rfl) ?_; dsimp only)); refine Kd.R_make k54 _ 54 rfl (N := 57) rfl 73 _ _ rfl 0 rfl rfl Try.underlying73 (.agg #[(.int .i64 0), (.int .u64 0), (.int .u64 0)]) 24 info54 rfl (by decide) (by omega) z54 (ok := fun _ => True) (okp := fun _ => True) (k54_mkM _ _ _ z54 ) (fun _ hk => hk) trivial (by omega) (by omega) (Below.refl _ _) (Nat.le_refl _) ?_; intro v209 w19 ho20 hb hg_ hnew_; clear hg_ hnew_; (first | rw [← Ny208.out] at ho20 | (simp only [Int.reduceToNat] at ho20; rw [← Ny208.out] at ho20)); have n0_ := aA (Kd.R_below (rlu HO207.out) hb); have n1_ := aA (Kd.R_lower ho20 (below_size (bls HB.out))); have n2_ := aA (blk_below (g := gb204) (o := .cells #[.int .i64 1, .int .i64 (wrap64 (1 + (Int.tmod (wrap64 (a0)) 4)))] 38 (0, 0)) (bku BK204.out) hb); have n3_ := aA (below_step (bls HB.out) hb); clear HO207 BK204 HB; have HO207 := n0_; have HO210 := n1_; have BK204 := n2_; have HB := n3_; clear n0_ n1_ n2_ n3_ hb ho20))
        go_loopg [12, 13] k2 (fun kq v12 v13 w' => ∃ (x12_3 : List (S54)) (x13_3 : Int), v13 = .int .i64 x13_3 ∧ Aside0 (treillagelaw16_QueueOrder.l1 kq l2 x8_2 (wrap64 (1 + (Int.tmod (wrap64 (a1)) 12))) t205 x12_3 x13_3 1 (wrap64 (1 + (Int.tmod (wrap64 (a0)) 4))) = some r) ∧ Aside0 (kq ≤ k2) ∧ Aside0 (Kd.V (Kd.int .u64) 23 w' w.heap.size (fun k_ => some k_ ≠ (v12 : Value).ownBlock ∧ k_ ≠ gb204) v206 t205) ∧ Aside0 (Kd.R k54 54 w' w.heap.size (fun _ => True) v12 x12_3) ∧ Aside0 (w'.heap[gb204]? = some (.cells #[.int .i64 1, .int .i64 (wrap64 (1 + (Int.tmod (wrap64 (a0)) 4)))] 38 (0, 0))) ∧ Aside0 (Below w.heap.size w w'))
        case atStart => exact ⟨(y208), (0), (by first | rfl | (simp; done) | (simp [*]; done)), H', ⟨Nat.le_refl _⟩, ⟨Kd.R_V (rlu (Kd.R_mono (Kd.R_types (Kd.R_apart' HO207.out (Kd.R_typed HO210.out) (by decide)) BK204.out (by decide)) (fun _ hk => ⟨hk.1.2, hk.2⟩)))⟩, ⟨by (with_reducible repeat (first | apply Kd.R_alloc | apply Kd.R_drewN | apply Kd.R_drew)); exact HO210.out⟩, ⟨by (with_reducible repeat (first | refine blk_drewN ?_ _ | refine blk_drew ?_ | refine blk_alloc ?_ _)); exact BK204.out⟩, ⟨by repeat (first | (with_reducible first | exact HB.out | apply below_alloc | apply pw_below_drewN | apply below_drew1 | refine below_set ?_ GE204.out) | exact HB.out)⟩⟩
        case round =>
         clear H'
         try clear c1
         try clear c2
         try clear p2
         try clear c3
         try clear c4
         try clear c5
         try clear c5b0
         try clear c5b1
         try clear p6
         try clear c8
         try clear c10
         try clear c13
         try clear c13b0
         try clear c16
         try clear c16b0
         try clear c16b1
         try clear hcz12_0
         try clear hcz12_1
         try clear hcz14_0
         try clear hcz14_1
         try clear hcz17_0
         try clear hcz17_1
         try clear hfz12_0
         try clear hfz12_1
         try clear hfz14_0
         try clear hfz14_1
         try clear hfz17_0
         try clear hfz17_1
         try clear p2
         try clear p6
         obtain ⟨x12_3, x13_3, rfl, HA, HK3, HO_11, HO_12, BK204, HB⟩ := hrel
         cases gk with
         | zero => exact absurd HA.out (by simp [treillagelaw16_QueueOrder.l1])
         | succ k3 =>
          have H := HA.out
          clear HA
          simp only [treillagelaw16_QueueOrder.l1] at H
          by_cases c21 : x13_3 < (wrap64 (1 + (Int.tmod (wrap64 (a1)) 12)))
          ·rw [if_pos c21] at H
           have c21b0 : decide (x13_3 < (wrap64 (1 + (Int.tmod (wrap64 (a1)) 12)))) = true := decide_eq_true c21
           clear c21
           by_cases c22 : x12_3.length < 5864062014805
           ·rw [if_pos c22] at H
            have LMc22 := aA c22
            clear c22
            obtain ⟨y211, hy211⟩ : ∃ y_ : List (S54), y_ = (x12_3 ++ [(⟨0, 0, IntKind.u64.wrap (wrap64 (100 + x13_3))⟩ : S54)]) := ⟨_, rfl⟩
            replace H : (treillagelaw16_QueueOrder.l1 k3 l2 x8_2 (wrap64 (1 + (Int.tmod (wrap64 (a1)) 12))) t205 y211 (wrap64 (x13_3 + 1)) 1 (wrap64 (1 + (Int.tmod (wrap64 (a0)) 4)))) = some r := by first | (rw [hy211]; with_reducible exact H) | (have H2_ := (Option.bind_some _ _).symm.trans H; rw [hy211]; with_reducible exact H2_) | (have H2_ := (Option.bind_some _ _).symm.trans H; with_reducible exact H2_) | with_reducible exact H | (rw [hy211]; exact H) | exact H
            have Ny211 := aA hy211
            clear hy211
            as_aux_lemma =>
             have H' := aA H
             clear H
             go_wp2_with (first | ((with_reducible refine gate_builtin (b := .append) (xs := #[.tmp 63, .tmp 68]) rfl ?_); (try (refine gate_guard (by rfl) ?_; dsimp only)); at_builtin; refine Kd.R_append k54 (w0 := w) w.heap.size rfl (.tmp 63) (.tmp 68) 73 54 (.agg #[(.int .i64 0), (.int .u64 0), (.int .u64 0)]) 24 rfl Try.underlying73 info54 rfl (by decide) (by omega) u12 x12_3 (⟨0, 0, IntKind.u64.wrap (wrap64 (100 + x13_3))⟩ : S54) [.int .i64 0, .int .u64 0, .int .u64 (IntKind.u64.wrap (wrap64 (100 + x13_3)))] (fun _ => True) (fun _ => False) rfl rfl ?aP (fun _ hk => hk.elim) ?aF ?aO ?aB ?aS ?aL ?_; (case aP => exact k54_mkM _ _ _ (⟨0, 0, IntKind.u64.wrap (wrap64 (100 + x13_3))⟩ : S54)); (case aB => exact (bls HB.out)); (case aF => exact (fun _ _ => trivial)); (case aO => exact (rlu HO_12.out)); (case aS => exact (below_size (bls HB.out))); (case aL => have := LMc22.out; omega); intro v212 w23 ho hb hg hat; rw [← Ny211.out] at ho; have n0_ := aA (Kd.V_afterv (ok := (fun k_ => k_ ≠ gb204)) (vlu (Kd.V_mono HO_11.out (fun _ hk => ⟨hk.2, hk.1⟩))) hg hat); have n1_ := aA (blk_grown (g := gb204) (o := .cells #[.int .i64 1, .int .i64 (wrap64 (1 + (Int.tmod (wrap64 (a0)) 4)))] 38 (0, 0)) (bku BK204.out) hg (Kd.R_ne HO_12.out BK204.out (by decide))); have n2_ := aA (hb); have n3_ := aA (ho); clear HO_11 BK204 HB HO_12; have HO_11 := n0_; have BK204 := n1_; have HB := n2_; have HO213 := n3_; clear n0_ n1_ n2_ n3_ ho hb hg hat))
             go_roundg k3
             case measure => have := HJ3.out; have := HK2.out; have := HK3.out; omega
             case rel => exact ⟨(y211), (wrap64 (x13_3 + 1)), (by first | rfl | (simp; done) | (simp [*]; done)), H', ⟨by have := HJ3.out; have := HK2.out; have := HK3.out; omega⟩, ⟨by (with_reducible repeat (first | apply Kd.V_alloc | apply Kd.V_drewN | apply Kd.V_drew)); exact Kd.V_mono HO_11.out (fun _ hk => ⟨hk.2, hk.1⟩)⟩, ⟨by (with_reducible repeat (first | apply Kd.R_alloc | apply Kd.R_drewN | apply Kd.R_drew)); exact HO213.out⟩, ⟨by (with_reducible repeat (first | refine blk_drewN ?_ _ | refine blk_drew ?_ | refine blk_alloc ?_ _)); exact BK204.out⟩, ⟨by repeat (first | (with_reducible first | exact HB.out | apply below_alloc | apply pw_below_drewN | apply below_drew1 | refine below_set ?_ GE204.out) | exact HB.out)⟩⟩
           ·rw [if_neg c22] at H
            exact absurd H (by simp)
          ·rw [if_neg c21] at H
           have c21b0 : decide (x13_3 < (wrap64 (1 + (Int.tmod (wrap64 (a1)) 12)))) = false := decide_eq_false c21
           clear c21
           obtain ⟨y215, hy215⟩ : ∃ y_ : List Int, y_ = (([] : List Int)) := ⟨_, rfl⟩
           replace H : (treillagelaw16_QueueOrder.l2 k3 l2 x8_2 (wrap64 (1 + (Int.tmod (wrap64 (a1)) 12))) t205 x12_3 y215 0 0 1 (wrap64 (1 + (Int.tmod (wrap64 (a0)) 4))) 0 0 0) = some r := by first | (rw [hy215]; with_reducible exact H) | (have H2_ := (Option.bind_some _ _).symm.trans H; rw [hy215]; with_reducible exact H2_) | (have H2_ := (Option.bind_some _ _).symm.trans H; with_reducible exact H2_) | with_reducible exact H | (rw [hy215]; exact H) | exact H
           have Ny215 := aA hy215
           clear hy215
           have H' := aA H
           clear H
           go_wp2_with (first | ((with_reducible refine gate_dst (N := 14) rfl ?_); (try (refine gate_guard (by rfl) ?_; dsimp only)); refine box_event ?hg (N := 14) ?hd (cs := #[.int .i64 0, .int .u64 0, .int .u64 0]) (t := 56) ?hr ?_; (case hd => rfl); (case hg => rfl); (case hr => first | (go_simp; done) | (go_simp; rfl)); intro gb214 hg w24 hbox hb; have n0_ := aA (Kd.V_below (Kd.V_elderB (vlu HO_11.out) gb214 (Nat.le_of_eq hg.symm)) hb); have n1_ := aA (Kd.R_below (rlu HO_12.out) hb); have n2_ := aA (blk_below (g := gb204) (o := .cells #[.int .i64 1, .int .i64 (wrap64 (1 + (Int.tmod (wrap64 (a0)) 4)))] 38 (0, 0)) (bku BK204.out) hb); have n3_ := aA (below_step (bls HB.out) hb); have n4_ := aA (hbox); have n5_ := aA ((by rw [hg]; exact (below_size (bls HB.out)) : w.heap.size ≤ gb214)); have n6_ := aA ((by rw [hg]; exact (below_size (bls HB.out)) : w.heap.size ≤ gb214)); have n7_ := aA ((by rw [hg]; exact Nat.ne_of_lt (blk_lt (g := gb204) (o := .cells #[.int .i64 1, .int .i64 (wrap64 (1 + (Int.tmod (wrap64 (a0)) 4)))] 38 (0, 0)) (bku BK204.out)) : gb204 ≠ gb214)); have n8_ := aA ((by rw [hg]; exact Nat.ne_of_gt (blk_lt (g := gb204) (o := .cells #[.int .i64 1, .int .i64 (wrap64 (1 + (Int.tmod (wrap64 (a0)) 4)))] 38 (0, 0)) (bku BK204.out)) : gb214 ≠ gb204)); clear HO_11 HO_12 BK204 HB; have HO_11 := n0_; have HO_12 := n1_; have BK204 := n2_; have HB := n3_; have BK214 := n4_; have GW214 := n5_; have GE214 := n6_; have NB204_214 := n7_; have NB214_204 := n8_; clear n0_ n1_ n2_ n3_ n4_ n5_ n6_ n7_ n8_ hb hbox hg; have hnb25 := NB214_204.out; have hnc25 := NB204_214.out; have hcz26_0 : w24.cell? ⟨gb214, 0, none⟩ = some (.int .i64 0) := (blk_cell BK214.out 0).trans rfl; have hcz26_1 : w24.cell? ⟨gb214, 1, none⟩ = some (.int .u64 0) := (blk_cell BK214.out 1).trans rfl; have hcz26_2 : w24.cell? ⟨gb214, 2, none⟩ = some (.int .u64 0) := (blk_cell BK214.out 2).trans rfl; have hfz26_0 := blk_frozen BK214.out 0; have hfz26_1 := blk_frozen BK214.out 1; have hfz26_2 := blk_frozen BK214.out 2) | ((with_reducible refine gate_dst (N := 71) rfl ?_); (try (refine gate_guard (by rfl) ?_; dsimp only)); refine Kd.R_lit (Kd.int .u64) _ 23 ?hg (N := 71) ?hd (xs := ([] : List Int)) (inner := []) (ok := fun _ => True) (okp := fun _ => True) ?hr ?hp (fun _ hk => hk) trivial (Below.refl _ _) (Nat.le_refl _) (by simp) ?_; (case hd => rfl); (case hg => rfl); (case hr => first | (go_simp; done) | (go_simp; rfl)); (case hp => exact (Reps.none _ _)); intro v216 w27 ho28 hb hg_ hnew_; clear hg_ hnew_; (first | rw [← Ny215.out] at ho28 | (simp only [Int.reduceToNat] at ho28; rw [← Ny215.out] at ho28)); have n0_ := aA (Kd.V_elder' (vlu ((Kd.V_mono (Kd.V_far (p := ⟨gb214, 2, none⟩) (Kd.V_far (p := ⟨gb214, 1, none⟩) (Kd.V_far (p := ⟨gb214, 0, none⟩) (Kd.V_mono HO_11.out (fun k_ hk => (⟨hk, hk.2⟩ : _ ∧ k_ ≠ gb214))) (fun _ hk => hk.2) (.int .i64 0)) (fun _ hk => hk.2) (.int .u64 0)) (fun _ hk => hk.2) (.int .u64 0)) (fun _ h_ => h_.1)))) (Kd.R_base ho28) hb); have n1_ := aA (Kd.R_below (rlu ((Kd.R_mono (Kd.R_far (p := ⟨gb214, 2, none⟩) (Kd.R_far (p := ⟨gb214, 1, none⟩) (Kd.R_far (p := ⟨gb214, 0, none⟩) (Kd.R_types HO_12.out BK214.out (by decide)) (fun _ hk => hk.2) (.int .i64 0)) (fun _ hk => hk.2) (.int .u64 0)) (fun _ hk => hk.2) (.int .u64 0)) (fun _ h_ => h_.1)))) hb); have n2_ := aA (Kd.R_lower ho28 (below_size (bls HB.out))); have n3_ := aA (blk_below (g := gb204) (o := .cells #[.int .i64 1, .int .i64 (wrap64 (1 + (Int.tmod (wrap64 (a0)) 4)))] 38 (0, 0)) (by (with_reducible repeat (first | refine blk_drewN ?_ _ | refine blk_drew ?_ | refine blk_alloc ?_ _)); refine blk_far ?_ NB204_214.out _; (with_reducible repeat (first | refine blk_drewN ?_ _ | refine blk_drew ?_ | refine blk_alloc ?_ _)); refine blk_far ?_ NB204_214.out _; (with_reducible repeat (first | refine blk_drewN ?_ _ | refine blk_drew ?_ | refine blk_alloc ?_ _)); refine blk_far ?_ NB204_214.out _; (with_reducible repeat (first | refine blk_drewN ?_ _ | refine blk_drew ?_ | refine blk_alloc ?_ _)); exact BK204.out) hb); have n4_ := aA (blk_below (g := gb214) (o := .cells #[.int .i64 0, .int .u64 0, .int .u64 0] 56 (0, 0)) (by (with_reducible repeat (first | refine blk_drewN ?_ _ | refine blk_drew ?_ | refine blk_alloc ?_ _)); refine blk_put (cs := #[.int .i64 0, .int .u64 0, .int .u64 0]) ?_ 2 _ rfl; (with_reducible repeat (first | refine blk_drewN ?_ _ | refine blk_drew ?_ | refine blk_alloc ?_ _)); refine blk_put (cs := #[.int .i64 0, .int .u64 0, .int .u64 0]) ?_ 1 _ rfl; (with_reducible repeat (first | refine blk_drewN ?_ _ | refine blk_drew ?_ | refine blk_alloc ?_ _)); refine blk_put (cs := #[.int .i64 0, .int .u64 0, .int .u64 0]) ?_ 0 _ rfl; (with_reducible repeat (first | refine blk_drewN ?_ _ | refine blk_drew ?_ | refine blk_alloc ?_ _)); exact BK214.out) hb); have n5_ := aA (below_step (bls HB.out) hb); clear HO_11 HO_12 BK204 BK214 HB; have HO_11 := n0_; have HO_12 := n1_; have HO217 := n2_; have BK204 := n3_; have BK214 := n4_; have HB := n5_; clear n0_ n1_ n2_ n3_ n4_ n5_ hb ho28))
           go_loopg [11, 15, 16, 17] k3 (fun kq v11 v15 v16 v17 w' => ∃ (x11_4 : List Int) (x12_4 : List (S54)) (x15_4 : List Int) (x16_4 : Int) (x17_4 : Int) (x215000_4 : Int) (x215001_4 : Int) (x215002_4 : Int), v16 = .int .i64 x16_4 ∧ v17 = .int .i64 x17_4 ∧ Aside0 (treillagelaw16_QueueOrder.l2 kq l2 x8_2 (wrap64 (1 + (Int.tmod (wrap64 (a1)) 12))) x11_4 x12_4 x15_4 x16_4 x17_4 1 (wrap64 (1 + (Int.tmod (wrap64 (a0)) 4))) x215000_4 x215001_4 x215002_4 = some r) ∧ Aside0 (kq ≤ k3) ∧ Aside0 (Kd.V (Kd.int .u64) 23 w' w.heap.size (fun k_ => some k_ ≠ (u12 : Value).ownBlock ∧ some k_ ≠ (v15 : Value).ownBlock ∧ k_ ≠ gb204 ∧ k_ ≠ gb214) v11 x11_4) ∧ Aside0 (Kd.R k54 54 w' w.heap.size (fun _ => True) u12 x12_4) ∧ Aside0 (Kd.R (Kd.int .u64) 23 w' w.heap.size (fun _ => True) v15 x15_4) ∧ Aside0 (w'.heap[gb204]? = some (.cells #[.int .i64 1, .int .i64 (wrap64 (1 + (Int.tmod (wrap64 (a0)) 4)))] 38 (0, 0))) ∧ Aside0 (w'.heap[gb214]? = some (.cells #[.int .i64 x215000_4, .int .u64 x215001_4, .int .u64 x215002_4] 56 (0, 0))) ∧ Aside0 (Below w.heap.size w w'))
           case atStart => exact ⟨(t205), (x12_3), (y215), (0), (0), (0), (0), (0), (by first | rfl | (simp; done) | (simp [*]; done)), (by first | rfl | (simp; done) | (simp [*]; done)), H', ⟨Nat.le_refl _⟩, ⟨by (with_reducible repeat (first | apply Kd.V_alloc | apply Kd.V_drewN | apply Kd.V_drew)); exact Kd.V_mono HO_11.out (fun _ hk => ⟨hk.1.1.1, ⟨hk.2, ⟨hk.1.1.2, hk.1.2⟩⟩⟩)⟩, ⟨by (with_reducible repeat (first | apply Kd.R_alloc | apply Kd.R_drewN | apply Kd.R_drew)); exact HO_12.out⟩, ⟨by (with_reducible repeat (first | apply Kd.R_alloc | apply Kd.R_drewN | apply Kd.R_drew)); exact HO217.out⟩, ⟨by (with_reducible repeat (first | refine blk_drewN ?_ _ | refine blk_drew ?_ | refine blk_alloc ?_ _)); exact BK204.out⟩, ⟨by (with_reducible repeat (first | refine blk_drewN ?_ _ | refine blk_drew ?_ | refine blk_alloc ?_ _)); exact BK214.out⟩, ⟨by repeat (first | (with_reducible first | exact HB.out | apply below_alloc | apply pw_below_drewN | apply below_drew1 | refine below_set ?_ GE204.out | refine below_set ?_ GE214.out) | exact HB.out)⟩⟩
           case round =>
            clear H'
            try clear c1
            try clear c2
            try clear p2
            try clear c3
            try clear c4
            try clear c5
            try clear c5b0
            try clear c5b1
            try clear p6
            try clear c8
            try clear c10
            try clear c13
            try clear c13b0
            try clear c16
            try clear c16b0
            try clear c16b1
            try clear c21
            try clear c21b0
            try clear c22
            try clear c25
            try clear hcz12_0
            try clear hcz12_1
            try clear hcz14_0
            try clear hcz14_1
            try clear hcz17_0
            try clear hcz17_1
            try clear hcz26_0
            try clear hcz26_1
            try clear hcz26_2
            try clear hfz12_0
            try clear hfz12_1
            try clear hfz14_0
            try clear hfz14_1
            try clear hfz17_0
            try clear hfz17_1
            try clear hfz26_0
            try clear hfz26_1
            try clear hfz26_2
            try clear p2
            try clear p6
            obtain ⟨x11_4, x12_4, x15_4, x16_4, x17_4, x215000_4, x215001_4, x215002_4, rfl, rfl, HA, HK4, HO_11, HO_12, HO_15, BK204, BK214, HB⟩ := hrel
            cases gk with
            | zero => exact absurd HA.out (by simp [treillagelaw16_QueueOrder.l2])
            | succ k4 =>
             have H := HA.out
             clear HA
             simp only [treillagelaw16_QueueOrder.l2] at H
             by_cases c29 : x17_4 < (l2.length : Int)
             ·rw [if_pos c29] at H
              have c29b0 : decide (x17_4 < (l2.length : Int)) = true := decide_eq_true c29
              clear c29
              by_cases c30 : 0 ≤ x17_4
              ·rw [if_pos c30] at H
               have c30b0 : decide (0 ≤ x17_4) = true := decide_eq_true c30
               clear c30
               by_cases c31 : (wrap64 ((wrap64 (1 + (Int.tmod (wrap64 (a1)) 12))) + 1)) = 0
               ·rw [if_pos c31] at H
                exact absurd H (by simp)
               ·rw [if_neg c31] at H
                have c31b0 : ((wrap64 ((wrap64 (1 + (Int.tmod (wrap64 (a1)) 12))) + 1)) == 0) = false := beq_eq_false_iff_ne.mpr c31
                have c31b1 : ((wrap64 ((wrap64 (1 + (Int.tmod (wrap64 (a1)) 12))) + 1)) != 0) = true := bne_iff_ne.mpr c31
                by_cases c32 : (Int.tmod (wrap64 (rd l2 x17_4)) (wrap64 ((wrap64 (1 + (Int.tmod (wrap64 (a1)) 12))) + 1))) = (wrap64 (1 + (Int.tmod (wrap64 (a1)) 12)))
                ·rw [if_pos c32] at H
                 have c32b0 : ((Int.tmod (wrap64 (rd l2 x17_4)) (wrap64 ((wrap64 (1 + (Int.tmod (wrap64 (a1)) 12))) + 1))) == (wrap64 (1 + (Int.tmod (wrap64 (a1)) 12)))) = true := beq_iff_eq.mpr c32
                 have c32b1 : ((Int.tmod (wrap64 (rd l2 x17_4)) (wrap64 ((wrap64 (1 + (Int.tmod (wrap64 (a1)) 12))) + 1))) != (wrap64 (1 + (Int.tmod (wrap64 (a1)) 12)))) = false := bne_eq_false_iff_eq.mpr c32
                 clear c32
                 replace H := Option.bind_eq_some_iff.mp H
                 obtain ⟨⟨t219, t220, t221, t222⟩, A330, H⟩ := H
                 replace H : ((mem_Do.f x11_4 t219 t220 t221 t222).bind fun bt223 => ((queue_Given.f k4 1 (wrap64 (1 + (Int.tmod (wrap64 (a0)) 4))) x215000_4 x215001_4 x215002_4 bt223.2.1).bind fun bt228 => (if bt228.2.2.2 = true then (if x16_4 ≥ (x15_4.length : Int) then (some false) else (if 0 ≤ x16_4 then (if x16_4 < (x15_4.length : Int) then (if (rd x15_4 x16_4) = bt228.2.2.1 then (if bt228.2.2.1 < 100 then (some false) else (if (IntKind.u64.wrap (bt228.2.2.1 - 100)) ≥ (IntKind.u64.wrap ((wrap64 (1 + (Int.tmod (wrap64 (a1)) 12))))) then (some false) else (if 0 ≤ (IntKind.u64.wrap (bt228.2.2.1 - 100)) then (if (IntKind.u64.wrap (bt228.2.2.1 - 100)) < (x12_4.length : Int) then (if ((rd_T54 x12_4 (IntKind.u64.wrap (bt228.2.2.1 - 100))).f0) = 5 then (treillagelaw16_QueueOrder.l2 k4 l2 x8_2 (wrap64 (1 + (Int.tmod (wrap64 (a1)) 12))) bt223.1 x12_4 x15_4 (wrap64 (x16_4 + 1)) (wrap64 (x17_4 + 1)) 1 (wrap64 (1 + (Int.tmod (wrap64 (a0)) 4))) bt228.1 bt228.2.1 bt228.2.2.1) else (some false)) else (none)) else (none)))) else (some false)) else (none)) else (none))) else (treillagelaw16_QueueOrder.l2 k4 l2 x8_2 (wrap64 (1 + (Int.tmod (wrap64 (a1)) 12))) bt223.1 x12_4 x15_4 x16_4 (wrap64 (x17_4 + 1)) 1 (wrap64 (1 + (Int.tmod (wrap64 (a0)) 4))) bt228.1 bt228.2.1 bt228.2.2.1)))) = some r := H
                 have A33 := aA A330
                 clear A330
                 replace H := Option.bind_eq_some_iff.mp H
                 obtain ⟨⟨t223, t226, t227⟩, A340, H⟩ := H
                 replace H : ((queue_Given.f k4 1 (wrap64 (1 + (Int.tmod (wrap64 (a0)) 4))) x215000_4 x215001_4 x215002_4 t226).bind fun bt228 => (if bt228.2.2.2 = true then (if x16_4 ≥ (x15_4.length : Int) then (some false) else (if 0 ≤ x16_4 then (if x16_4 < (x15_4.length : Int) then (if (rd x15_4 x16_4) = bt228.2.2.1 then (if bt228.2.2.1 < 100 then (some false) else (if (IntKind.u64.wrap (bt228.2.2.1 - 100)) ≥ (IntKind.u64.wrap ((wrap64 (1 + (Int.tmod (wrap64 (a1)) 12))))) then (some false) else (if 0 ≤ (IntKind.u64.wrap (bt228.2.2.1 - 100)) then (if (IntKind.u64.wrap (bt228.2.2.1 - 100)) < (x12_4.length : Int) then (if ((rd_T54 x12_4 (IntKind.u64.wrap (bt228.2.2.1 - 100))).f0) = 5 then (treillagelaw16_QueueOrder.l2 k4 l2 x8_2 (wrap64 (1 + (Int.tmod (wrap64 (a1)) 12))) t223 x12_4 x15_4 (wrap64 (x16_4 + 1)) (wrap64 (x17_4 + 1)) 1 (wrap64 (1 + (Int.tmod (wrap64 (a0)) 4))) bt228.1 bt228.2.1 bt228.2.2.1) else (some false)) else (none)) else (none)))) else (some false)) else (none)) else (none))) else (treillagelaw16_QueueOrder.l2 k4 l2 x8_2 (wrap64 (1 + (Int.tmod (wrap64 (a1)) 12))) t223 x12_4 x15_4 x16_4 (wrap64 (x17_4 + 1)) 1 (wrap64 (1 + (Int.tmod (wrap64 (a0)) 4))) bt228.1 bt228.2.1 bt228.2.2.1))) = some r := H
                 have A34 := aA A340
                 clear A340
                 replace H := Option.bind_eq_some_iff.mp H
                 obtain ⟨⟨t228, t229, t230, t231⟩, A350, H⟩ := H
                 replace H : (if t231 = true then (if x16_4 ≥ (x15_4.length : Int) then (some false) else (if 0 ≤ x16_4 then (if x16_4 < (x15_4.length : Int) then (if (rd x15_4 x16_4) = t230 then (if t230 < 100 then (some false) else (if (IntKind.u64.wrap (t230 - 100)) ≥ (IntKind.u64.wrap ((wrap64 (1 + (Int.tmod (wrap64 (a1)) 12))))) then (some false) else (if 0 ≤ (IntKind.u64.wrap (t230 - 100)) then (if (IntKind.u64.wrap (t230 - 100)) < (x12_4.length : Int) then (if ((rd_T54 x12_4 (IntKind.u64.wrap (t230 - 100))).f0) = 5 then (treillagelaw16_QueueOrder.l2 k4 l2 x8_2 (wrap64 (1 + (Int.tmod (wrap64 (a1)) 12))) t223 x12_4 x15_4 (wrap64 (x16_4 + 1)) (wrap64 (x17_4 + 1)) 1 (wrap64 (1 + (Int.tmod (wrap64 (a0)) 4))) t228 t229 t230) else (some false)) else (none)) else (none)))) else (some false)) else (none)) else (none))) else (treillagelaw16_QueueOrder.l2 k4 l2 x8_2 (wrap64 (1 + (Int.tmod (wrap64 (a1)) 12))) t223 x12_4 x15_4 x16_4 (wrap64 (x17_4 + 1)) 1 (wrap64 (1 + (Int.tmod (wrap64 (a0)) 4))) t228 t229 t230)) = some r := H
                 have A35 := aA A350
                 clear A350
                 by_cases c36 : t231 = true
                 ·subst c36
                  have H1 : (if x16_4 ≥ (x15_4.length : Int) then (some false) else (if 0 ≤ x16_4 then (if x16_4 < (x15_4.length : Int) then (if (rd x15_4 x16_4) = t230 then (if t230 < 100 then (some false) else (if (IntKind.u64.wrap (t230 - 100)) ≥ (IntKind.u64.wrap ((wrap64 (1 + (Int.tmod (wrap64 (a1)) 12))))) then (some false) else (if 0 ≤ (IntKind.u64.wrap (t230 - 100)) then (if (IntKind.u64.wrap (t230 - 100)) < (x12_4.length : Int) then (if ((rd_T54 x12_4 (IntKind.u64.wrap (t230 - 100))).f0) = 5 then (treillagelaw16_QueueOrder.l2 k4 l2 x8_2 (wrap64 (1 + (Int.tmod (wrap64 (a1)) 12))) t223 x12_4 x15_4 (wrap64 (x16_4 + 1)) (wrap64 (x17_4 + 1)) 1 (wrap64 (1 + (Int.tmod (wrap64 (a0)) 4))) t228 t229 t230) else (some false)) else (none)) else (none)))) else (some false)) else (none)) else (none))) = some r := by rw [if_pos rfl] at H; exact H
                  clear H
                  have H := H1
                  clear H1
                  by_cases c37 : x16_4 ≥ (x15_4.length : Int)
                  ·rw [if_pos c37] at H
                   have c37b0 : decide ((x15_4.length : Int) ≤ x16_4) = true := decide_eq_true c37
                   clear c37
                   as_aux_lemma =>
                    exact absurd ((Option.some.inj H).trans hr_) (by decide)
                  ·rw [if_neg c37] at H
                   have c37b0 : decide ((x15_4.length : Int) ≤ x16_4) = false := decide_eq_false c37
                   clear c37
                   by_cases c38 : 0 ≤ x16_4
                   ·rw [if_pos c38] at H
                    have c38b0 : decide (0 ≤ x16_4) = true := decide_eq_true c38
                    clear c38
                    by_cases c39 : x16_4 < (x15_4.length : Int)
                    ·rw [if_pos c39] at H
                     have c39b0 : decide (x16_4 < (x15_4.length : Int)) = true := decide_eq_true c39
                     clear c39
                     by_cases c40 : (rd x15_4 x16_4) = t230
                     ·rw [if_pos c40] at H
                      have c40b0 : ((rd x15_4 x16_4) == t230) = true := beq_iff_eq.mpr c40
                      have c40b1 : ((rd x15_4 x16_4) != t230) = false := bne_eq_false_iff_eq.mpr c40
                      clear c40
                      by_cases c41 : t230 < 100
                      ·rw [if_pos c41] at H
                       have c41b0 : decide (t230 < 100) = true := decide_eq_true c41
                       clear c41
                       as_aux_lemma =>
                        exact absurd ((Option.some.inj H).trans hr_) (by decide)
                      ·rw [if_neg c41] at H
                       have c41b0 : decide (t230 < 100) = false := decide_eq_false c41
                       clear c41
                       by_cases c42 : (IntKind.u64.wrap (t230 - 100)) ≥ (IntKind.u64.wrap ((wrap64 (1 + (Int.tmod (wrap64 (a1)) 12)))))
                       ·rw [if_pos c42] at H
                        have c42b0 : decide ((IntKind.u64.wrap ((wrap64 (1 + (Int.tmod (wrap64 (a1)) 12))))) ≤ (IntKind.u64.wrap (t230 - 100))) = true := decide_eq_true c42
                        clear c42
                        as_aux_lemma =>
                         exact absurd ((Option.some.inj H).trans hr_) (by decide)
                       ·rw [if_neg c42] at H
                        have c42b0 : decide ((IntKind.u64.wrap ((wrap64 (1 + (Int.tmod (wrap64 (a1)) 12))))) ≤ (IntKind.u64.wrap (t230 - 100))) = false := decide_eq_false c42
                        clear c42
                        obtain ⟨ji43, hji43⟩ : ∃ j_ : Int, (IntKind.u64.wrap (t230 - 100)) = j_ := ⟨_, rfl⟩
                        replace H : (if 0 ≤ (ji43) then (if (ji43) < (x12_4.length : Int) then (if ((rd_T54 x12_4 (ji43)).f0) = 5 then (treillagelaw16_QueueOrder.l2 k4 l2 x8_2 (wrap64 (1 + (Int.tmod (wrap64 (a1)) 12))) t223 x12_4 x15_4 (wrap64 (x16_4 + 1)) (wrap64 (x17_4 + 1)) 1 (wrap64 (1 + (Int.tmod (wrap64 (a0)) 4))) t228 t229 t230) else (some false)) else (none)) else (none)) = some r := by first | (rw [hji43] at H; exact H) | (simp only [hji43] at H ⊢; exact H)
                        (try rw [hji43] at c42b0)
                        (try rw [hji43] at A33)
                        (try rw [hji43] at A34)
                        (try rw [hji43] at A35)
                        by_cases c44 : 0 ≤ (ji43)
                        ·rw [if_pos c44] at H
                         have c44b0 : decide (0 ≤ (ji43)) = true := decide_eq_true c44
                         clear c44
                         by_cases c45 : (ji43) < (x12_4.length : Int)
                         ·rw [if_pos c45] at H
                          have c45b0 : decide ((ji43) < (x12_4.length : Int)) = true := decide_eq_true c45
                          clear c45
                          by_cases c46 : ((rd_T54 x12_4 (ji43)).f0) = 5
                          ·rw [if_pos c46] at H
                           have c46b0 : (((rd_T54 x12_4 (ji43)).f0) == 5) = true := beq_iff_eq.mpr c46
                           have c46b1 : (((rd_T54 x12_4 (ji43)).f0) != 5) = false := bne_eq_false_iff_eq.mpr c46
                           clear c46
                           as_aux_lemma =>
                            have H' := aA H
                            clear H
                            have p218 : 0 ≤ (x17_4 : Int) := of_decide_eq_true (by first | (with_reducible assumption) | assumption)
                            have q218 : x17_4 < (l2.length : Int) := of_decide_eq_true (by first | (with_reducible assumption) | assumption)
                            obtain ⟨ad218, e218, hx218_0⟩ := Kd.at_int HR2.out x17_4 p218 q218
                            cases e218
                            replace hx218_0 := (HB.out.cell (World.block_lt_of_cell? w _ hx218_0)).trans hx218_0
                            replace p218 := eq_true p218
                            replace q218 := eq_true q218
                            have hnb47 := NB204_214.out
                            have hnc47 := NB214_204.out
                            have hcz48_0 : wr.cell? ⟨gb204, 0, none⟩ = some (.int .i64 1) := (blk_cell BK204.out 0).trans rfl
                            have hcz48_1 : wr.cell? ⟨gb204, 1, none⟩ = some (.int .i64 (wrap64 (1 + (Int.tmod (wrap64 (a0)) 4)))) := (blk_cell BK204.out 1).trans rfl
                            have hfz48_0 := blk_frozen BK204.out 0
                            have hfz48_1 := blk_frozen BK204.out 1
                            have hcz49_0 : wr.cell? ⟨gb214, 0, none⟩ = some (.int .i64 x215000_4) := (blk_cell BK214.out 0).trans rfl
                            have hcz49_1 : wr.cell? ⟨gb214, 1, none⟩ = some (.int .u64 x215001_4) := (blk_cell BK214.out 1).trans rfl
                            have hcz49_2 : wr.cell? ⟨gb214, 2, none⟩ = some (.int .u64 x215002_4) := (blk_cell BK214.out 2).trans rfl
                            have hfz49_0 := blk_frozen BK214.out 0
                            have hfz49_1 := blk_frozen BK214.out 1
                            have hfz49_2 := blk_frozen BK214.out 2
                            try go_wp2_with (first | ((with_reducible refine gate_callee (f := 53) rfl ?_); refine goesL_ (some 93) rfl rfl Try.func53 (by kernel_rfl) rfl #[.agg #[.int .i64 1, .int .i64 (wrap64 (1 + (Int.tmod (wrap64 (a0)) 4)))], .agg #[.int .i64 x215000_4, .int .u64 x215001_4, .int .u64 x215002_4]] rfl (by (try simp only [List.map_toArray, List.map_cons, List.map_nil]); first | done | rfl | (simp only [List.length_drop, List.length_take]; rfl)) ?_; (with_reducible refine (queue_Next.calls 1 (wrap64 (1 + (Int.tmod (wrap64 (a0)) 4))) x215000_4 x215001_4 x215002_4 t219 t220 t221 t222 _ A33.out).mono ?_); rintro e w50 ⟨rfl, hb⟩; refine ⟨_, rfl, ?_⟩; have n0_ := aA (Kd.V_below (vlu HO_11.out) hb); have n1_ := aA (Kd.R_below (rlu HO_12.out) hb); have n2_ := aA (Kd.R_below (rlu HO_15.out) hb); have n3_ := aA (blk_below (g := gb204) (o := .cells #[.int .i64 1, .int .i64 (wrap64 (1 + (Int.tmod (wrap64 (a0)) 4)))] 38 (0, 0)) (bku BK204.out) hb); have n4_ := aA (blk_below (g := gb214) (o := .cells #[.int .i64 x215000_4, .int .u64 x215001_4, .int .u64 x215002_4] 56 (0, 0)) (bku BK214.out) hb); have n5_ := aA (below_step (bls HB.out) hb); clear HO_11 HO_12 HO_15 BK204 BK214 HB; have HO_11 := n0_; have HO_12 := n1_; have HO_15 := n2_; have BK204 := n3_; have BK214 := n4_; have HB := n5_; clear n0_ n1_ n2_ n3_ n4_ n5_; (try clear hb); (try clear hb2); (try clear hk); (try clear hi); obtain ⟨Ao51, co51, eo51⟩ := Kd.V_slice HO_11.out; subst eo51) | ((with_reducible refine gate_callee (f := 15) rfl ?_); refine goesL_ (some 94) rfl rfl Try.func15 (by kernel_rfl) rfl #[.slice Ao51 x11_4.length co51, .agg #[.int .i64 t219, .int .i64 t220, .int .u64 t221, .int .u64 t222]] rfl (by (try simp only [List.map_toArray, List.map_cons, List.map_nil]); first | done | rfl | (simp only [List.length_drop, List.length_take]; rfl)) ?_; (with_reducible refine (mem_Do.calls (fun k_ => (some k_ ≠ (u12 : Value).ownBlock ∧ (some k_ ≠ (u15 : Value).ownBlock ∧ (k_ ≠ gb204 ∧ k_ ≠ gb214)))) _ _ x11_4 t219 t220 t221 t222 t223 t226 t227 _ ?side1 A34.out).mono ?_); (case side1 => exact HO_11.out); rintro e w52 ⟨v224, rfl, ho0, hb⟩; refine ⟨_, rfl, ?_⟩; have n0_ := aA (Kd.V_below (vlu HO_11.out) hb); have n1_ := aA (Kd.R_below (rlu HO_12.out) hb); have n2_ := aA (Kd.R_below (rlu HO_15.out) hb); have n3_ := aA (Kd.V_lower (Kd.V_mono (ok' := fun k_ => some k_ ≠ (u12 : Value).ownBlock ∧ some k_ ≠ (u15 : Value).ownBlock ∧ k_ ≠ gb204 ∧ k_ ≠ gb214) ho0 (fun k_ hk_ => ⟨Or.elim hk_ (fun hs_ => hs_.1) (fun hn_ => (Kd.fresh' (Kd.R_lt (rlu HO_12.out)) k_ hn_)), Or.elim hk_ (fun hs_ => hs_.2.1) (fun hn_ => (Kd.fresh' (Kd.R_lt (rlu HO_15.out)) k_ hn_)), Or.elim hk_ (fun hs_ => hs_.2.2.1) (fun hn_ => (Kd.freshB (g := gb204) (o := .cells #[.int .i64 1, .int .i64 (wrap64 (1 + (Int.tmod (wrap64 (a0)) 4)))] 38 (0, 0)) (bku BK204.out) k_ hn_)), Or.elim hk_ (fun hs_ => hs_.2.2.2) (fun hn_ => (Kd.freshB (g := gb214) (o := .cells #[.int .i64 x215000_4, .int .u64 x215001_4, .int .u64 x215002_4] 56 (0, 0)) (bku BK214.out) k_ hn_))⟩)) (below_size (bls HB.out))); have n4_ := aA (blk_below (g := gb204) (o := .cells #[.int .i64 1, .int .i64 (wrap64 (1 + (Int.tmod (wrap64 (a0)) 4)))] 38 (0, 0)) (bku BK204.out) hb); have n5_ := aA (blk_below (g := gb214) (o := .cells #[.int .i64 x215000_4, .int .u64 x215001_4, .int .u64 x215002_4] 56 (0, 0)) (bku BK214.out) hb); have n6_ := aA (below_step (bls HB.out) hb); clear HO_11 HO_12 HO_15 BK204 BK214 HB; have HO_11 := n0_; have HO_12 := n1_; have HO_15 := n2_; have HO225 := n3_; have BK204 := n4_; have BK214 := n5_; have HB := n6_; clear n0_ n1_ n2_ n3_ n4_ n5_ n6_; (try clear hb); (try clear hb2); (try clear hk); (try clear hi); (try clear ho0); have hcz53_0 : w52.cell? ⟨gb204, 0, none⟩ = some (.int .i64 1) := (blk_cell BK204.out 0).trans rfl; have hcz53_1 : w52.cell? ⟨gb204, 1, none⟩ = some (.int .i64 (wrap64 (1 + (Int.tmod (wrap64 (a0)) 4)))) := (blk_cell BK204.out 1).trans rfl; have hfz53_0 := blk_frozen BK204.out 0; have hfz53_1 := blk_frozen BK204.out 1; have hcz54_0 : w52.cell? ⟨gb214, 0, none⟩ = some (.int .i64 x215000_4) := (blk_cell BK214.out 0).trans rfl; have hcz54_1 : w52.cell? ⟨gb214, 1, none⟩ = some (.int .u64 x215001_4) := (blk_cell BK214.out 1).trans rfl; have hcz54_2 : w52.cell? ⟨gb214, 2, none⟩ = some (.int .u64 x215002_4) := (blk_cell BK214.out 2).trans rfl; have hfz54_0 := blk_frozen BK214.out 0; have hfz54_1 := blk_frozen BK214.out 1; have hfz54_2 := blk_frozen BK214.out 2) | ((with_reducible refine gate_callee (f := 49) rfl ?_); refine goesL_ (some 103) rfl rfl Try.func49 (by kernel_rfl) rfl #[.agg #[.int .i64 1, .int .i64 (wrap64 (1 + (Int.tmod (wrap64 (a0)) 4)))], .agg #[.int .i64 x215000_4, .int .u64 x215001_4, .int .u64 x215002_4], .int .u64 t226] rfl (by (try simp only [List.map_toArray, List.map_cons, List.map_nil]); first | done | rfl | (simp only [List.length_drop, List.length_take]; rfl)) ?_; (with_reducible refine (queue_Given.calls k4 1 (wrap64 (1 + (Int.tmod (wrap64 (a0)) 4))) x215000_4 x215001_4 x215002_4 t226 t228 t229 t230 true _ A35.out).mono ?_); rintro e w55 ⟨rfl, hb⟩; refine ⟨_, rfl, ?_⟩; have n0_ := aA (Kd.V_below (vlu HO_11.out) hb); have n1_ := aA (Kd.R_below (rlu HO_12.out) hb); have n2_ := aA (Kd.R_below (rlu HO_15.out) hb); have n3_ := aA (Kd.V_below (vlu HO225.out) hb); have n4_ := aA (blk_below (g := gb204) (o := .cells #[.int .i64 1, .int .i64 (wrap64 (1 + (Int.tmod (wrap64 (a0)) 4)))] 38 (0, 0)) (bku BK204.out) hb); have n5_ := aA (blk_below (g := gb214) (o := .cells #[.int .i64 x215000_4, .int .u64 x215001_4, .int .u64 x215002_4] 56 (0, 0)) (bku BK214.out) hb); have n6_ := aA (below_step (bls HB.out) hb); clear HO_11 HO_12 HO_15 HO225 BK204 BK214 HB; have HO_11 := n0_; have HO_12 := n1_; have HO_15 := n2_; have HO225 := n3_; have BK204 := n4_; have BK214 := n5_; have HB := n6_; clear n0_ n1_ n2_ n3_ n4_ n5_ n6_; (try clear hb); (try clear hb2); (try clear hk); (try clear hi)) | ((with_reducible refine gate_dst (N := 22) rfl ?_); (try (refine gate_guard (by rfl) ?_; dsimp only)); refine box_event ?hg (N := 22) ?hd (cs := #[.int .i64 0, .int .u64 0, .int .u64 0]) (t := 56) ?hr ?_; (case hd => rfl); (case hg => rfl); (case hr => first | (go_simp; done) | (go_simp; rfl)); intro gb232 hg w56 hbox hb; have n0_ := aA (Kd.V_below (Kd.V_elderB (vlu HO_11.out) gb232 (Nat.le_of_eq hg.symm)) hb); have n1_ := aA (Kd.R_below (rlu HO_12.out) hb); have n2_ := aA (Kd.R_below (rlu HO_15.out) hb); have n3_ := aA (Kd.V_below (Kd.V_elderB (vlu HO225.out) gb232 (Nat.le_of_eq hg.symm)) hb); have n4_ := aA (blk_below (g := gb204) (o := .cells #[.int .i64 1, .int .i64 (wrap64 (1 + (Int.tmod (wrap64 (a0)) 4)))] 38 (0, 0)) (bku BK204.out) hb); have n5_ := aA (blk_below (g := gb214) (o := .cells #[.int .i64 x215000_4, .int .u64 x215001_4, .int .u64 x215002_4] 56 (0, 0)) (bku BK214.out) hb); have n6_ := aA (below_step (bls HB.out) hb); have n7_ := aA (hbox); have n8_ := aA ((by rw [hg]; exact (below_size (bls HB.out)) : w.heap.size ≤ gb232)); have n9_ := aA ((by rw [hg]; exact (below_size (bls HB.out)) : w.heap.size ≤ gb232)); have n10_ := aA ((by rw [hg]; exact Nat.ne_of_lt (blk_lt (g := gb204) (o := .cells #[.int .i64 1, .int .i64 (wrap64 (1 + (Int.tmod (wrap64 (a0)) 4)))] 38 (0, 0)) (bku BK204.out)) : gb204 ≠ gb232)); have n11_ := aA ((by rw [hg]; exact Nat.ne_of_gt (blk_lt (g := gb204) (o := .cells #[.int .i64 1, .int .i64 (wrap64 (1 + (Int.tmod (wrap64 (a0)) 4)))] 38 (0, 0)) (bku BK204.out)) : gb232 ≠ gb204)); have n12_ := aA ((by rw [hg]; exact Nat.ne_of_lt (blk_lt (g := gb214) (o := .cells #[.int .i64 x215000_4, .int .u64 x215001_4, .int .u64 x215002_4] 56 (0, 0)) (bku BK214.out)) : gb214 ≠ gb232)); have n13_ := aA ((by rw [hg]; exact Nat.ne_of_gt (blk_lt (g := gb214) (o := .cells #[.int .i64 x215000_4, .int .u64 x215001_4, .int .u64 x215002_4] 56 (0, 0)) (bku BK214.out)) : gb232 ≠ gb214)); clear HO_11 HO_12 HO_15 HO225 BK204 BK214 HB; have HO_11 := n0_; have HO_12 := n1_; have HO_15 := n2_; have HO225 := n3_; have BK204 := n4_; have BK214 := n5_; have HB := n6_; have BK232 := n7_; have GW232 := n8_; have GE232 := n9_; have NB204_232 := n10_; have NB232_204 := n11_; have NB214_232 := n12_; have NB232_214 := n13_; clear n0_ n1_ n2_ n3_ n4_ n5_ n6_ n7_ n8_ n9_ n10_ n11_ n12_ n13_ hb hbox hg; have hnb57 := NB232_204.out; have hnc57 := NB204_232.out; have hnb58 := NB232_214.out; have hnc58 := NB214_232.out; have hcz59_0 : w56.cell? ⟨gb232, 0, none⟩ = some (.int .i64 0) := (blk_cell BK232.out 0).trans rfl; have hcz59_1 : w56.cell? ⟨gb232, 1, none⟩ = some (.int .u64 0) := (blk_cell BK232.out 1).trans rfl; have hcz59_2 : w56.cell? ⟨gb232, 2, none⟩ = some (.int .u64 0) := (blk_cell BK232.out 2).trans rfl; have hfz59_0 := blk_frozen BK232.out 0; have hfz59_1 := blk_frozen BK232.out 1; have hfz59_2 := blk_frozen BK232.out 2; have hcz60_0 : w56.cell? ⟨gb214, 0, none⟩ = some (.int .i64 x215000_4) := (blk_cell BK214.out 0).trans rfl; have hcz60_1 : w56.cell? ⟨gb214, 1, none⟩ = some (.int .u64 x215001_4) := (blk_cell BK214.out 1).trans rfl; have hcz60_2 : w56.cell? ⟨gb214, 2, none⟩ = some (.int .u64 x215002_4) := (blk_cell BK214.out 2).trans rfl; have hfz60_0 := blk_frozen BK214.out 0; have hfz60_1 := blk_frozen BK214.out 1; have hfz60_2 := blk_frozen BK214.out 2))
                            have n0_ : Aside0 (Kd.V (Kd.int .u64) 23 ((((((w56.setCell ⟨gb232, 0, none⟩ (.int .i64 t228)).setCell ⟨gb232, 1, none⟩ (.int .u64 t229)).setCell ⟨gb232, 2, none⟩ (.int .u64 t230)).setCell ⟨gb214, 0, none⟩ (.int .i64 t228)).setCell ⟨gb214, 1, none⟩ (.int .u64 t229)).setCell ⟨gb214, 2, none⟩ (.int .u64 t230)) w.heap.size (fun k_ => some k_ ≠ (u12 : Value).ownBlock ∧ some k_ ≠ (u15 : Value).ownBlock ∧ k_ ≠ gb204 ∧ k_ ≠ gb214 ∧ k_ ≠ gb232) (.slice Ao51 x11_4.length co51) x11_4) := ⟨by (with_reducible repeat (first | apply Kd.V_alloc | apply Kd.V_drewN | apply Kd.V_drew)); exact Kd.V_mono (Kd.V_far (p := ⟨gb214, 2, none⟩) (Kd.V_far (p := ⟨gb214, 1, none⟩) (Kd.V_far (p := ⟨gb214, 0, none⟩) (Kd.V_far (p := ⟨gb232, 2, none⟩) (Kd.V_far (p := ⟨gb232, 1, none⟩) (Kd.V_far (p := ⟨gb232, 0, none⟩) (Kd.V_mono (Kd.V_mono HO_11.out (fun k_ hk => (⟨hk, hk.2⟩ : _ ∧ k_ ≠ gb232))) (fun k_ hk => (⟨hk, hk.1.1.2.2.2⟩ : _ ∧ k_ ≠ gb214))) (fun _ hk => hk.1.2) (.int .i64 t228)) (fun _ hk => hk.1.2) (.int .u64 t229)) (fun _ hk => hk.1.2) (.int .u64 t230)) (fun _ hk => hk.2) (.int .i64 t228)) (fun _ hk => hk.2) (.int .u64 t229)) (fun _ hk => hk.2) (.int .u64 t230)) (fun _ hk => ⟨hk.1.1.1.1, ⟨hk.1.1.1.2.1, ⟨hk.1.1.1.2.2.1, ⟨hk.1.1.1.2.2.2, hk.1.1.2⟩⟩⟩⟩)⟩
                            have n1_ : Aside0 (Kd.R k54 54 ((((((w56.setCell ⟨gb232, 0, none⟩ (.int .i64 t228)).setCell ⟨gb232, 1, none⟩ (.int .u64 t229)).setCell ⟨gb232, 2, none⟩ (.int .u64 t230)).setCell ⟨gb214, 0, none⟩ (.int .i64 t228)).setCell ⟨gb214, 1, none⟩ (.int .u64 t229)).setCell ⟨gb214, 2, none⟩ (.int .u64 t230)) w.heap.size (fun _ => True) u12 x12_4) := ⟨by (with_reducible repeat (first | apply Kd.R_alloc | apply Kd.R_drewN | apply Kd.R_drew)); exact Kd.R_mono (Kd.R_far (p := ⟨gb214, 2, none⟩) (Kd.R_far (p := ⟨gb214, 1, none⟩) (Kd.R_far (p := ⟨gb214, 0, none⟩) (Kd.R_far (p := ⟨gb232, 2, none⟩) (Kd.R_far (p := ⟨gb232, 1, none⟩) (Kd.R_far (p := ⟨gb232, 0, none⟩) (Kd.R_types (Kd.R_types HO_12.out BK232.out (by decide)) BK214.out (by decide)) (fun _ hk => hk.1.2) (.int .i64 t228)) (fun _ hk => hk.1.2) (.int .u64 t229)) (fun _ hk => hk.1.2) (.int .u64 t230)) (fun _ hk => hk.2) (.int .i64 t228)) (fun _ hk => hk.2) (.int .u64 t229)) (fun _ hk => hk.2) (.int .u64 t230)) (fun _ hk => trivial)⟩
                            have n2_ : Aside0 (Kd.R (Kd.int .u64) 23 ((((((w56.setCell ⟨gb232, 0, none⟩ (.int .i64 t228)).setCell ⟨gb232, 1, none⟩ (.int .u64 t229)).setCell ⟨gb232, 2, none⟩ (.int .u64 t230)).setCell ⟨gb214, 0, none⟩ (.int .i64 t228)).setCell ⟨gb214, 1, none⟩ (.int .u64 t229)).setCell ⟨gb214, 2, none⟩ (.int .u64 t230)) w.heap.size (fun _ => True) u15 x15_4) := ⟨by (with_reducible repeat (first | apply Kd.R_alloc | apply Kd.R_drewN | apply Kd.R_drew)); exact Kd.R_mono (Kd.R_far (p := ⟨gb214, 2, none⟩) (Kd.R_far (p := ⟨gb214, 1, none⟩) (Kd.R_far (p := ⟨gb214, 0, none⟩) (Kd.R_far (p := ⟨gb232, 2, none⟩) (Kd.R_far (p := ⟨gb232, 1, none⟩) (Kd.R_far (p := ⟨gb232, 0, none⟩) (Kd.R_types (Kd.R_types HO_15.out BK232.out (by decide)) BK214.out (by decide)) (fun _ hk => hk.1.2) (.int .i64 t228)) (fun _ hk => hk.1.2) (.int .u64 t229)) (fun _ hk => hk.1.2) (.int .u64 t230)) (fun _ hk => hk.2) (.int .i64 t228)) (fun _ hk => hk.2) (.int .u64 t229)) (fun _ hk => hk.2) (.int .u64 t230)) (fun _ hk => trivial)⟩
                            have n3_ : Aside0 (Kd.V (Kd.int .u64) 23 ((((((w56.setCell ⟨gb232, 0, none⟩ (.int .i64 t228)).setCell ⟨gb232, 1, none⟩ (.int .u64 t229)).setCell ⟨gb232, 2, none⟩ (.int .u64 t230)).setCell ⟨gb214, 0, none⟩ (.int .i64 t228)).setCell ⟨gb214, 1, none⟩ (.int .u64 t229)).setCell ⟨gb214, 2, none⟩ (.int .u64 t230)) w.heap.size (fun k_ => some k_ ≠ (u12 : Value).ownBlock ∧ some k_ ≠ (u15 : Value).ownBlock ∧ k_ ≠ gb204 ∧ k_ ≠ gb214 ∧ k_ ≠ gb232) v224 t223) := ⟨by (with_reducible repeat (first | apply Kd.V_alloc | apply Kd.V_drewN | apply Kd.V_drew)); exact Kd.V_mono (Kd.V_far (p := ⟨gb214, 2, none⟩) (Kd.V_far (p := ⟨gb214, 1, none⟩) (Kd.V_far (p := ⟨gb214, 0, none⟩) (Kd.V_far (p := ⟨gb232, 2, none⟩) (Kd.V_far (p := ⟨gb232, 1, none⟩) (Kd.V_far (p := ⟨gb232, 0, none⟩) (Kd.V_mono (Kd.V_mono HO225.out (fun k_ hk => (⟨hk, hk.2⟩ : _ ∧ k_ ≠ gb232))) (fun k_ hk => (⟨hk, hk.1.1.2.2.2⟩ : _ ∧ k_ ≠ gb214))) (fun _ hk => hk.1.2) (.int .i64 t228)) (fun _ hk => hk.1.2) (.int .u64 t229)) (fun _ hk => hk.1.2) (.int .u64 t230)) (fun _ hk => hk.2) (.int .i64 t228)) (fun _ hk => hk.2) (.int .u64 t229)) (fun _ hk => hk.2) (.int .u64 t230)) (fun _ hk => ⟨hk.1.1.1.1, ⟨hk.1.1.1.2.1, ⟨hk.1.1.1.2.2.1, ⟨hk.1.1.1.2.2.2, hk.1.1.2⟩⟩⟩⟩)⟩
                            have n4_ : Aside0 (((((((w56.setCell ⟨gb232, 0, none⟩ (.int .i64 t228)).setCell ⟨gb232, 1, none⟩ (.int .u64 t229)).setCell ⟨gb232, 2, none⟩ (.int .u64 t230)).setCell ⟨gb214, 0, none⟩ (.int .i64 t228)).setCell ⟨gb214, 1, none⟩ (.int .u64 t229)).setCell ⟨gb214, 2, none⟩ (.int .u64 t230)).heap[gb204]? = some (.cells #[.int .i64 1, .int .i64 (wrap64 (1 + (Int.tmod (wrap64 (a0)) 4)))] 38 (0, 0))) := ⟨by (with_reducible repeat (first | refine blk_drewN ?_ _ | refine blk_drew ?_ | refine blk_alloc ?_ _)); refine blk_far ?_ NB204_214.out _; (with_reducible repeat (first | refine blk_drewN ?_ _ | refine blk_drew ?_ | refine blk_alloc ?_ _)); refine blk_far ?_ NB204_214.out _; (with_reducible repeat (first | refine blk_drewN ?_ _ | refine blk_drew ?_ | refine blk_alloc ?_ _)); refine blk_far ?_ NB204_214.out _; (with_reducible repeat (first | refine blk_drewN ?_ _ | refine blk_drew ?_ | refine blk_alloc ?_ _)); refine blk_far ?_ NB204_232.out _; (with_reducible repeat (first | refine blk_drewN ?_ _ | refine blk_drew ?_ | refine blk_alloc ?_ _)); refine blk_far ?_ NB204_232.out _; (with_reducible repeat (first | refine blk_drewN ?_ _ | refine blk_drew ?_ | refine blk_alloc ?_ _)); refine blk_far ?_ NB204_232.out _; (with_reducible repeat (first | refine blk_drewN ?_ _ | refine blk_drew ?_ | refine blk_alloc ?_ _)); exact BK204.out⟩
                            have n5_ : Aside0 (((((((w56.setCell ⟨gb232, 0, none⟩ (.int .i64 t228)).setCell ⟨gb232, 1, none⟩ (.int .u64 t229)).setCell ⟨gb232, 2, none⟩ (.int .u64 t230)).setCell ⟨gb214, 0, none⟩ (.int .i64 t228)).setCell ⟨gb214, 1, none⟩ (.int .u64 t229)).setCell ⟨gb214, 2, none⟩ (.int .u64 t230)).heap[gb214]? = some (.cells #[.int .i64 t228, .int .u64 t229, .int .u64 t230] 56 (0, 0))) := ⟨by (with_reducible repeat (first | refine blk_drewN ?_ _ | refine blk_drew ?_ | refine blk_alloc ?_ _)); refine blk_put (cs := #[.int .i64 t228, .int .u64 t229, .int .u64 x215002_4]) ?_ 2 _ rfl; (with_reducible repeat (first | refine blk_drewN ?_ _ | refine blk_drew ?_ | refine blk_alloc ?_ _)); refine blk_put (cs := #[.int .i64 t228, .int .u64 x215001_4, .int .u64 x215002_4]) ?_ 1 _ rfl; (with_reducible repeat (first | refine blk_drewN ?_ _ | refine blk_drew ?_ | refine blk_alloc ?_ _)); refine blk_put (cs := #[.int .i64 x215000_4, .int .u64 x215001_4, .int .u64 x215002_4]) ?_ 0 _ rfl; (with_reducible repeat (first | refine blk_drewN ?_ _ | refine blk_drew ?_ | refine blk_alloc ?_ _)); refine blk_far ?_ NB214_232.out _; (with_reducible repeat (first | refine blk_drewN ?_ _ | refine blk_drew ?_ | refine blk_alloc ?_ _)); refine blk_far ?_ NB214_232.out _; (with_reducible repeat (first | refine blk_drewN ?_ _ | refine blk_drew ?_ | refine blk_alloc ?_ _)); refine blk_far ?_ NB214_232.out _; (with_reducible repeat (first | refine blk_drewN ?_ _ | refine blk_drew ?_ | refine blk_alloc ?_ _)); exact BK214.out⟩
                            have n6_ : Aside0 (((((((w56.setCell ⟨gb232, 0, none⟩ (.int .i64 t228)).setCell ⟨gb232, 1, none⟩ (.int .u64 t229)).setCell ⟨gb232, 2, none⟩ (.int .u64 t230)).setCell ⟨gb214, 0, none⟩ (.int .i64 t228)).setCell ⟨gb214, 1, none⟩ (.int .u64 t229)).setCell ⟨gb214, 2, none⟩ (.int .u64 t230)).heap[gb232]? = some (.cells #[.int .i64 t228, .int .u64 t229, .int .u64 t230] 56 (0, 0))) := ⟨by (with_reducible repeat (first | refine blk_drewN ?_ _ | refine blk_drew ?_ | refine blk_alloc ?_ _)); refine blk_far ?_ NB232_214.out _; (with_reducible repeat (first | refine blk_drewN ?_ _ | refine blk_drew ?_ | refine blk_alloc ?_ _)); refine blk_far ?_ NB232_214.out _; (with_reducible repeat (first | refine blk_drewN ?_ _ | refine blk_drew ?_ | refine blk_alloc ?_ _)); refine blk_far ?_ NB232_214.out _; (with_reducible repeat (first | refine blk_drewN ?_ _ | refine blk_drew ?_ | refine blk_alloc ?_ _)); refine blk_put (cs := #[.int .i64 t228, .int .u64 t229, .int .u64 0]) ?_ 2 _ rfl; (with_reducible repeat (first | refine blk_drewN ?_ _ | refine blk_drew ?_ | refine blk_alloc ?_ _)); refine blk_put (cs := #[.int .i64 t228, .int .u64 0, .int .u64 0]) ?_ 1 _ rfl; (with_reducible repeat (first | refine blk_drewN ?_ _ | refine blk_drew ?_ | refine blk_alloc ?_ _)); refine blk_put (cs := #[.int .i64 0, .int .u64 0, .int .u64 0]) ?_ 0 _ rfl; (with_reducible repeat (first | refine blk_drewN ?_ _ | refine blk_drew ?_ | refine blk_alloc ?_ _)); exact BK232.out⟩
                            have n7_ : Aside0 (Below w.heap.size w ((((((w56.setCell ⟨gb232, 0, none⟩ (.int .i64 t228)).setCell ⟨gb232, 1, none⟩ (.int .u64 t229)).setCell ⟨gb232, 2, none⟩ (.int .u64 t230)).setCell ⟨gb214, 0, none⟩ (.int .i64 t228)).setCell ⟨gb214, 1, none⟩ (.int .u64 t229)).setCell ⟨gb214, 2, none⟩ (.int .u64 t230))) := ⟨by repeat (first | (with_reducible first | exact HB.out | apply below_alloc | apply pw_below_drewN | apply below_drew1 | refine below_set ?_ GE204.out | refine below_set ?_ GE214.out | refine below_set ?_ GE232.out) | exact HB.out)⟩
                            (try clear HO_11)
                            (try clear HO_12)
                            (try clear HO_15)
                            (try clear HO225)
                            (try clear BK204)
                            (try clear BK214)
                            (try clear BK232)
                            (try clear HB)
                            generalize ((((((w56.setCell ⟨gb232, 0, none⟩ (.int .i64 t228)).setCell ⟨gb232, 1, none⟩ (.int .u64 t229)).setCell ⟨gb232, 2, none⟩ (.int .u64 t230)).setCell ⟨gb214, 0, none⟩ (.int .i64 t228)).setCell ⟨gb214, 1, none⟩ (.int .u64 t229)).setCell ⟨gb214, 2, none⟩ (.int .u64 t230)) = w61 at n0_ n1_ n2_ n3_ n4_ n5_ n6_ n7_ ⊢
                            have HO_11 := n0_
                            have HO_12 := n1_
                            have HO_15 := n2_
                            have HO225 := n3_
                            have BK204 := n4_
                            have BK214 := n5_
                            have BK232 := n6_
                            have HB := n7_
                            clear n0_ n1_ n2_ n3_ n4_ n5_ n6_ n7_
                            have n0_ := aA (Kd.V_drew HO_11.out)
                            have n1_ := aA (Kd.R_drew HO_12.out)
                            have n2_ := aA (Kd.R_drew HO_15.out)
                            have n3_ := aA (Kd.V_drew HO225.out)
                            have n4_ := aA (blk_drew BK204.out)
                            have n5_ := aA (blk_drew BK214.out)
                            have n6_ := aA (blk_drew BK232.out)
                            have n7_ := aA (below_drew1 HB.out)
                            clear HO_11
                            clear HO_12
                            clear HO_15
                            clear HO225
                            clear BK204
                            clear BK214
                            clear BK232
                            clear HB
                            have HO_11 := n0_
                            have HO_12 := n1_
                            have HO_15 := n2_
                            have HO225 := n3_
                            have BK204 := n4_
                            have BK214 := n5_
                            have BK232 := n6_
                            have HB := n7_
                            clear n0_ n1_ n2_ n3_ n4_ n5_ n6_ n7_
                            obtain ⟨Ao63, co63, eo63⟩ := Kd.R_slice HO_15.out
                            (first | subst eo63 | (injection eo63 with f1_ f2_ f3_; have f4_ := f1_.symm; have f5_ := f3_.symm; clear f1_ f2_ f3_; subst f4_; subst f5_))
                            have p233 : 0 ≤ (x16_4 : Int) := of_decide_eq_true (by first | (with_reducible assumption) | assumption)
                            have q233 : x16_4 < (x15_4.length : Int) := of_decide_eq_true (by first | (with_reducible assumption) | assumption)
                            obtain ⟨ad233, e233, hx233_0⟩ := Kd.at_int (Kd.R_reads' HO_15.out).2.2 x16_4 p233 q233
                            cases e233
                            replace p233 := eq_true p233
                            replace q233 := eq_true q233
                            obtain ⟨Ao64, co64, eo64⟩ := Kd.R_slice HO_12.out
                            (first | subst eo64 | (injection eo64 with f1_ f2_ f3_; have f4_ := f1_.symm; have f5_ := f3_.symm; clear f1_ f2_ f3_; subst f4_; subst f5_))
                            have p234 : 0 ≤ ((ji43) : Int) := of_decide_eq_true (by first | (with_reducible assumption) | assumption)
                            have q234 : (ji43) < (x12_4.length : Int) := of_decide_eq_true (by first | (with_reducible assumption) | assumption)
                            obtain ⟨ad234, e234, hx234_0, hx234_1, hx234_2⟩ := at_T54 (Kd.R_reads' HO_12.out).2.2 (ji43) p234 q234
                            cases e234
                            replace p234 := eq_true p234
                            replace q234 := eq_true q234
                            refine start_ (n := 36) (S := fun w' => w'.cell? ⟨gb214, 0, none⟩ = some (.int .i64 t228) ∧ w'.cell? ⟨gb214, 1, none⟩ = some (.int .u64 t229) ∧ w'.cell? ⟨gb214, 2, none⟩ = some (.int .u64 t230) ∧ w'.cell? (ad233.add (x16_4).toNat) = some (.int .u64 (rd x15_4 x16_4)) ∧ w'.cell? (ad234.add (((ji43)).toNat * 3)) = some (.int .i64 ((rd_T54 x12_4 (ji43)).f0)) ∧ w'.cell? ⟨(ad234.add (((ji43)).toNat * 3)).block, (ad234.add (((ji43)).toNat * 3)).off + 1, none⟩ = some (.int .u64 ((rd_T54 x12_4 (ji43)).f1)) ∧ w'.cell? ⟨(ad234.add (((ji43)).toNat * 3)).block, (ad234.add (((ji43)).toNat * 3)).off + 2, none⟩ = some (.int .u64 ((rd_T54 x12_4 (ji43)).f2))) (ds := []) #[false, false, false, false, false, false, false, false, false, false, false, false, false, false, false, false, false, false, false, false, false, false, false, false, false, false, false, false, false, false, false, false, false, false, false, false] (by kernel_rfl) rfl rfl ⟨(blk_cell BK214.out 0).trans rfl, (blk_cell BK214.out 1).trans rfl, (blk_cell BK214.out 2).trans rfl, hx233_0, hx234_0, hx234_1, hx234_2⟩ (fun hHeld => ?_); refine with_tabW treillagelaw16_QueueOrder.tab29 treillagelaw16_QueueOrder.bits29 (fun HT_ HW_ => ?_)
                            generalize w61.drew = w62 at HO_11 HO_12 HO_15 HO225 BK204 BK214 BK232 HB hx233_0 hx234_0 hx234_1 hx234_2 hHeld ⊢
                            refine pure_ (i := 0) (N := some 108) (v := ?_) (a' := ?_) #[true, false, false, false, false, false, false, false, false, false, false, false, false, false, false, false, false, false, false, false, false, false, false, false, false, false, false, false, false, false, false, false, false, false, false, false] rfl rfl (any_of HT_.out (by kernel_rfl)) (fun _ _ _ h => h) (Or.inl ⟨by rfl, ?_⟩) ?_ ?_
                            rotate_left
                            ·intro w'
                             go_simp
                             with_reducible rfl
                            rotate_left
                            ·simp only [Act.put, List.setIfInBounds_toArray, List.set_cons_zero, List.set_cons_succ, i64_w, i32_w]
                             rfl
                            refine pure_ (i := 1) (N := some 109) (v := ?_) (a' := ?_) #[true, true, false, false, false, false, false, false, false, false, false, false, false, false, false, false, false, false, false, false, false, false, false, false, false, false, false, false, false, false, false, false, false, false, false, false] rfl rfl (any_of HT_.out (by kernel_rfl)) (fun _ _ _ h => h) (Or.inl ⟨by rfl, ?_⟩) ?_ ?_
                            rotate_left
                            ·intro w'
                             go_simp
                             with_reducible rfl
                            rotate_left
                            ·simp only [Act.put, List.setIfInBounds_toArray, List.set_cons_zero, List.set_cons_succ, i64_w, i32_w]
                             rfl
                            refine pure_ (i := 2) (N := some 110) (v := ?_) (a' := ?_) #[true, true, true, false, false, false, false, false, false, false, false, false, false, false, false, false, false, false, false, false, false, false, false, false, false, false, false, false, false, false, false, false, false, false, false, false] rfl rfl (any_of HT_.out (by kernel_rfl)) (fun _ _ _ h => h) (Or.inl ⟨by rfl, ?_⟩) ?_ ?_
                            rotate_left
                            ·intro w'
                             go_simp
                             with_reducible rfl
                            rotate_left
                            ·simp only [Act.put, List.setIfInBounds_toArray, List.set_cons_zero, List.set_cons_succ, i64_w, i32_w]
                             rfl
                            refine pure_ (i := 3) (N := some 111) (v := ?_) (a' := ?_) #[true, true, true, true, false, false, false, false, false, false, false, false, false, false, false, false, false, false, false, false, false, false, false, false, false, false, false, false, false, false, false, false, false, false, false, false] rfl rfl (any_of HT_.out (by kernel_rfl)) (fun _ _ _ h => h) (Or.inl ⟨by rfl, ?_⟩) ?_ ?_
                            rotate_left
                            ·intro w'
                             go_simp
                             with_reducible rfl
                            rotate_left
                            ·simp only [Act.put, List.setIfInBounds_toArray, List.set_cons_zero, List.set_cons_succ, i64_w, i32_w]
                             rfl
                            refine pure_ (i := 4) (N := some 112) (v := ?_) (a' := ?_) #[true, true, true, true, true, false, false, false, false, false, false, false, false, false, false, false, false, false, false, false, false, false, false, false, false, false, false, false, false, false, false, false, false, false, false, false] rfl rfl (any_of HT_.out (by kernel_rfl)) (fun _ _ _ h => h) (Or.inl ⟨by rfl, ?_⟩) ?_ ?_
                            rotate_left
                            ·intro w'
                             go_simp
                             with_reducible rfl
                            rotate_left
                            ·simp only [Act.put, List.setIfInBounds_toArray, List.set_cons_zero, List.set_cons_succ, i64_w, i32_w]
                             rfl
                            refine pure_ (i := 5) (N := some 113) (v := ?_) (a' := ?_) #[true, true, true, true, true, true, false, false, false, false, false, false, false, false, false, false, false, false, false, false, false, false, false, false, false, false, false, false, false, false, false, false, false, false, false, false] rfl rfl (any_of HT_.out (by kernel_rfl)) (fun _ _ _ h => h) (Or.inl ⟨by rfl, ?_⟩) ?_ ?_
                            rotate_left
                            ·intro w'
                             go_simp
                             with_reducible rfl
                            rotate_left
                            ·simp only [Act.put, List.setIfInBounds_toArray, List.set_cons_zero, List.set_cons_succ, i64_w, i32_w]
                             rfl
                            refine pure_ (i := 6) (N := some 114) (v := ?_) (a' := ?_) #[true, true, true, true, true, true, true, false, false, false, false, false, false, false, false, false, false, false, false, false, false, false, false, false, false, false, false, false, false, false, false, false, false, false, false, false] rfl rfl (any_of HT_.out (by kernel_rfl)) (fun _ _ _ h => h) (Or.inl ⟨by rfl, ?_⟩) ?_ ?_
                            rotate_left
                            ·intro w'
                             go_simp
                             with_reducible rfl
                            rotate_left
                            ·simp only [Act.put, List.setIfInBounds_toArray, List.set_cons_zero, List.set_cons_succ, i64_w, i32_w]
                             rfl
                            refine pure_ (i := 7) (N := some 115) (v := ?_) (a' := ?_) #[true, true, true, true, true, true, true, true, false, false, false, false, false, false, false, false, false, false, false, false, false, false, false, false, false, false, false, false, false, false, false, false, false, false, false, false] rfl rfl (any_of HT_.out (by kernel_rfl)) (fun _ _ _ h => h) (Or.inl ⟨by rfl, ?_⟩) ?_ ?_
                            rotate_left
                            ·intro w'
                             go_simp
                             with_reducible rfl
                            rotate_left
                            ·simp only [Act.put, List.setIfInBounds_toArray, List.set_cons_zero, List.set_cons_succ, i64_w, i32_w]
                             rfl
                            refine pure_ (i := 9) (N := some 117) (v := ?_) (a' := ?_) #[true, true, true, true, true, true, true, true, false, true, false, false, false, false, false, false, false, false, false, false, false, false, false, false, false, false, false, false, false, false, false, false, false, false, false, false] rfl rfl (any_of HT_.out (by kernel_rfl)) (fun _ _ _ h => h) (Or.inl ⟨by rfl, ?_⟩) ?_ ?_
                            rotate_left
                            ·intro w'
                             go_simp
                             with_reducible rfl
                            rotate_left
                            ·simp only [Act.put, List.setIfInBounds_toArray, List.set_cons_zero, List.set_cons_succ, i64_w, i32_w]
                             rfl
                            refine take_ (i := 8) (N := some 116) (v := ?_) (a' := ?_) #[true, true, true, true, true, true, true, true, true, true, false, false, false, false, false, false, false, false, false, false, false, false, false, false, false, false, false, false, false, false, false, false, false, false, false, false] rfl rfl (take_ofW HT_.out HW_.out (by kernel_rfl)) (fun _ _ _ h => h) (Or.inl ⟨by rfl, ?_⟩) hHeld ?_ ?_
                            rotate_left
                            ·rintro w' ⟨s0, s1, s2, s3, s4, s5, s6⟩
                             go_simp
                             with_reducible rfl
                            rotate_left
                            ·simp only [Act.put, List.setIfInBounds_toArray, List.set_cons_zero, List.set_cons_succ, i64_w, i32_w]
                             rfl
                            refine take_ (i := 10) (N := some 118) (v := ?_) (a' := ?_) #[true, true, true, true, true, true, true, true, true, true, true, false, false, false, false, false, false, false, false, false, false, false, false, false, false, false, false, false, false, false, false, false, false, false, false, false] rfl rfl (take_ofW HT_.out HW_.out (by kernel_rfl)) (fun _ _ _ h => h) (Or.inl ⟨by rfl, ?_⟩) hHeld ?_ ?_
                            rotate_left
                            ·rintro w' ⟨s0, s1, s2, s3, s4, s5, s6⟩
                             go_simp
                             with_reducible rfl
                            rotate_left
                            ·simp only [Act.put, List.setIfInBounds_toArray, List.set_cons_zero, List.set_cons_succ, i64_w, i32_w]
                             rfl
                            refine pure_ (i := 11) (N := some 119) (v := ?_) (a' := ?_) #[true, true, true, true, true, true, true, true, true, true, true, true, false, false, false, false, false, false, false, false, false, false, false, false, false, false, false, false, false, false, false, false, false, false, false, false] rfl rfl (any_of HT_.out (by kernel_rfl)) (fun _ _ _ h => h) (Or.inl ⟨by rfl, ?_⟩) ?_ ?_
                            rotate_left
                            ·intro w'
                             go_simp
                             with_reducible rfl
                            rotate_left
                            ·simp only [Act.put, List.setIfInBounds_toArray, List.set_cons_zero, List.set_cons_succ, i64_w, i32_w]
                             rfl
                            refine pure_ (i := 12) (N := some 120) (v := ?_) (a' := ?_) #[true, true, true, true, true, true, true, true, true, true, true, true, true, false, false, false, false, false, false, false, false, false, false, false, false, false, false, false, false, false, false, false, false, false, false, false] rfl rfl (any_of HT_.out (by kernel_rfl)) (fun _ _ _ h => h) (Or.inl ⟨by rfl, ?_⟩) ?_ ?_
                            rotate_left
                            ·intro w'
                             go_simp
                             with_reducible rfl
                            rotate_left
                            ·simp only [Act.put, List.setIfInBounds_toArray, List.set_cons_zero, List.set_cons_succ, i64_w, i32_w]
                             rfl
                            refine pure_ (i := 13) (N := some 121) (v := ?_) (a' := ?_) #[true, true, true, true, true, true, true, true, true, true, true, true, true, true, false, false, false, false, false, false, false, false, false, false, false, false, false, false, false, false, false, false, false, false, false, false] rfl rfl (any_of HT_.out (by kernel_rfl)) (fun _ _ _ h => h) (Or.inl ⟨by rfl, ?_⟩) ?_ ?_
                            rotate_left
                            ·intro w'
                             go_simp
                             with_reducible rfl
                            rotate_left
                            ·simp only [Act.put, List.setIfInBounds_toArray, List.set_cons_zero, List.set_cons_succ, i64_w, i32_w]
                             rfl
                            refine pure_ (i := 14) (N := some 122) (v := ?_) (a' := ?_) #[true, true, true, true, true, true, true, true, true, true, true, true, true, true, true, false, false, false, false, false, false, false, false, false, false, false, false, false, false, false, false, false, false, false, false, false] rfl rfl (any_of HT_.out (by kernel_rfl)) (fun _ _ _ h => h) (Or.inl ⟨by rfl, ?_⟩) ?_ ?_
                            rotate_left
                            ·intro w'
                             go_simp
                             with_reducible rfl
                            rotate_left
                            ·simp only [Act.put, List.setIfInBounds_toArray, List.set_cons_zero, List.set_cons_succ, i64_w, i32_w]
                             rfl
                            refine take_ (i := 15) (N := some 123) (v := ?_) (a' := ?_) #[true, true, true, true, true, true, true, true, true, true, true, true, true, true, true, true, false, false, false, false, false, false, false, false, false, false, false, false, false, false, false, false, false, false, false, false] rfl rfl (take_ofW HT_.out HW_.out (by kernel_rfl)) (fun _ _ _ h => h) (Or.inl ⟨by rfl, ?_⟩) hHeld ?_ ?_
                            rotate_left
                            ·rintro w' ⟨s0, s1, s2, s3, s4, s5, s6⟩
                             go_simp
                             with_reducible rfl
                            rotate_left
                            ·simp only [Act.put, List.setIfInBounds_toArray, List.set_cons_zero, List.set_cons_succ, i64_w, i32_w]
                             rfl
                            refine pure_ (i := 16) (N := some 124) (v := ?_) (a' := ?_) #[true, true, true, true, true, true, true, true, true, true, true, true, true, true, true, true, true, false, false, false, false, false, false, false, false, false, false, false, false, false, false, false, false, false, false, false] rfl rfl (any_of HT_.out (by kernel_rfl)) (fun _ _ _ h => h) (Or.inl ⟨by rfl, ?_⟩) ?_ ?_
                            rotate_left
                            ·intro w'
                             go_simp
                             with_reducible rfl
                            rotate_left
                            ·simp only [Act.put, List.setIfInBounds_toArray, List.set_cons_zero, List.set_cons_succ, i64_w, i32_w]
                             rfl
                            refine pure_ (i := 17) (N := some 125) (v := ?_) (a' := ?_) #[true, true, true, true, true, true, true, true, true, true, true, true, true, true, true, true, true, true, false, false, false, false, false, false, false, false, false, false, false, false, false, false, false, false, false, false] rfl rfl (any_of HT_.out (by kernel_rfl)) (fun _ _ _ h => h) (Or.inl ⟨by rfl, ?_⟩) ?_ ?_
                            rotate_left
                            ·intro w'
                             go_simp
                             with_reducible rfl
                            rotate_left
                            ·simp only [Act.put, List.setIfInBounds_toArray, List.set_cons_zero, List.set_cons_succ, i64_w, i32_w]
                             rfl
                            refine pure_ (i := 18) (N := some 126) (v := ?_) (a' := ?_) #[true, true, true, true, true, true, true, true, true, true, true, true, true, true, true, true, true, true, true, false, false, false, false, false, false, false, false, false, false, false, false, false, false, false, false, false] rfl rfl (any_of HT_.out (by kernel_rfl)) (fun _ _ _ h => h) (Or.inl ⟨by rfl, ?_⟩) ?_ ?_
                            rotate_left
                            ·intro w'
                             go_simp
                             with_reducible rfl
                            rotate_left
                            ·simp only [Act.put, List.setIfInBounds_toArray, List.set_cons_zero, List.set_cons_succ, i64_w, i32_w]
                             rfl
                            refine pure_ (i := 19) (N := some 127) (v := ?_) (a' := ?_) #[true, true, true, true, true, true, true, true, true, true, true, true, true, true, true, true, true, true, true, true, false, false, false, false, false, false, false, false, false, false, false, false, false, false, false, false] rfl rfl (any_of HT_.out (by kernel_rfl)) (fun _ _ _ h => h) (Or.inl ⟨by rfl, ?_⟩) ?_ ?_
                            rotate_left
                            ·intro w'
                             go_simp
                             with_reducible rfl
                            rotate_left
                            ·simp only [Act.put, List.setIfInBounds_toArray, List.set_cons_zero, List.set_cons_succ, i64_w, i32_w]
                             rfl
                            refine pure_ (i := 22) (N := some 130) (v := ?_) (a' := ?_) #[true, true, true, true, true, true, true, true, true, true, true, true, true, true, true, true, true, true, true, true, false, false, true, false, false, false, false, false, false, false, false, false, false, false, false, false] rfl rfl (any_of HT_.out (by kernel_rfl)) (fun _ _ _ h => h) (Or.inl ⟨by rfl, ?_⟩) ?_ ?_
                            rotate_left
                            ·intro w'
                             go_simp
                             with_reducible rfl
                            rotate_left
                            ·simp only [Act.put, List.setIfInBounds_toArray, List.set_cons_zero, List.set_cons_succ, i64_w, i32_w]
                             rfl
                            refine pure_ (i := 23) (N := some 131) (v := ?_) (a' := ?_) #[true, true, true, true, true, true, true, true, true, true, true, true, true, true, true, true, true, true, true, true, false, false, true, true, false, false, false, false, false, false, false, false, false, false, false, false] rfl rfl (any_of HT_.out (by kernel_rfl)) (fun _ _ _ h => h) (Or.inl ⟨by rfl, ?_⟩) ?_ ?_
                            rotate_left
                            ·intro w'
                             go_simp
                             with_reducible rfl
                            rotate_left
                            ·simp only [Act.put, List.setIfInBounds_toArray, List.set_cons_zero, List.set_cons_succ, i64_w, i32_w]
                             rfl
                            refine take_ (i := 20) (N := some 128) (v := ?_) (a' := ?_) #[true, true, true, true, true, true, true, true, true, true, true, true, true, true, true, true, true, true, true, true, true, false, true, true, false, false, false, false, false, false, false, false, false, false, false, false] rfl rfl (take_ofW HT_.out HW_.out (by kernel_rfl)) (fun _ _ _ h => h) (Or.inl ⟨by rfl, ?_⟩) hHeld ?_ ?_
                            rotate_left
                            ·rintro w' ⟨s0, s1, s2, s3, s4, s5, s6⟩
                             go_simp
                             with_reducible rfl
                            rotate_left
                            ·simp only [Act.put, List.setIfInBounds_toArray, List.set_cons_zero, List.set_cons_succ, i64_w, i32_w]
                             rfl
                            refine pure_ (i := 21) (N := some 129) (v := ?_) (a' := ?_) #[true, true, true, true, true, true, true, true, true, true, true, true, true, true, true, true, true, true, true, true, true, true, true, true, false, false, false, false, false, false, false, false, false, false, false, false] rfl rfl (any_of HT_.out (by kernel_rfl)) (fun _ _ _ h => h) (Or.inl ⟨by rfl, ?_⟩) ?_ ?_
                            rotate_left
                            ·intro w'
                             go_simp
                             with_reducible rfl
                            rotate_left
                            ·simp only [Act.put, List.setIfInBounds_toArray, List.set_cons_zero, List.set_cons_succ, i64_w, i32_w]
                             rfl
                            refine pure_ (i := 24) (N := some 132) (v := ?_) (a' := ?_) #[true, true, true, true, true, true, true, true, true, true, true, true, true, true, true, true, true, true, true, true, true, true, true, true, true, false, false, false, false, false, false, false, false, false, false, false] rfl rfl (any_of HT_.out (by kernel_rfl)) (fun _ _ _ h => h) (Or.inl ⟨by rfl, ?_⟩) ?_ ?_
                            rotate_left
                            ·intro w'
                             go_simp
                             with_reducible rfl
                            rotate_left
                            ·simp only [Act.put, List.setIfInBounds_toArray, List.set_cons_zero, List.set_cons_succ, i64_w, i32_w]
                             rfl
                            refine pure_ (i := 25) (N := some 133) (v := ?_) (a' := ?_) #[true, true, true, true, true, true, true, true, true, true, true, true, true, true, true, true, true, true, true, true, true, true, true, true, true, true, false, false, false, false, false, false, false, false, false, false] rfl rfl (any_of HT_.out (by kernel_rfl)) (fun _ _ _ h => h) (Or.inl ⟨by rfl, ?_⟩) ?_ ?_
                            rotate_left
                            ·intro w'
                             go_simp
                             with_reducible rfl
                            rotate_left
                            ·simp only [Act.put, List.setIfInBounds_toArray, List.set_cons_zero, List.set_cons_succ, i64_w, i32_w]
                             rfl
                            refine pure_ (i := 26) (N := some 134) (v := ?_) (a' := ?_) #[true, true, true, true, true, true, true, true, true, true, true, true, true, true, true, true, true, true, true, true, true, true, true, true, true, true, true, false, false, false, false, false, false, false, false, false] rfl rfl (any_of HT_.out (by kernel_rfl)) (fun _ _ _ h => h) (Or.inl ⟨by rfl, ?_⟩) ?_ ?_
                            rotate_left
                            ·intro w'
                             go_simp
                             with_reducible rfl
                            rotate_left
                            ·simp only [Act.put, List.setIfInBounds_toArray, List.set_cons_zero, List.set_cons_succ, i64_w, i32_w]
                             rfl
                            refine pure_ (i := 27) (N := some 135) (v := ?_) (a' := ?_) #[true, true, true, true, true, true, true, true, true, true, true, true, true, true, true, true, true, true, true, true, true, true, true, true, true, true, true, true, false, false, false, false, false, false, false, false] rfl rfl (any_of HT_.out (by kernel_rfl)) (fun _ _ _ h => h) (Or.inl ⟨by rfl, ?_⟩) ?_ ?_
                            rotate_left
                            ·intro w'
                             go_simp
                             with_reducible rfl
                            rotate_left
                            ·simp only [Act.put, List.setIfInBounds_toArray, List.set_cons_zero, List.set_cons_succ, i64_w, i32_w]
                             rfl
                            refine pure_ (i := 28) (N := some 136) (v := ?_) (a' := ?_) #[true, true, true, true, true, true, true, true, true, true, true, true, true, true, true, true, true, true, true, true, true, true, true, true, true, true, true, true, true, false, false, false, false, false, false, false] rfl rfl (any_of HT_.out (by kernel_rfl)) (fun _ _ _ h => h) (Or.inl ⟨by rfl, ?_⟩) ?_ ?_
                            rotate_left
                            ·intro w'
                             go_simp
                             with_reducible rfl
                            rotate_left
                            ·simp only [Act.put, List.setIfInBounds_toArray, List.set_cons_zero, List.set_cons_succ, i64_w, i32_w]
                             rfl
                            refine take_ (i := 29) (N := some 137) (v := ?_) (a' := ?_) #[true, true, true, true, true, true, true, true, true, true, true, true, true, true, true, true, true, true, true, true, true, true, true, true, true, true, true, true, true, true, false, false, false, false, false, false] rfl rfl (take_ofW HT_.out HW_.out (by kernel_rfl)) (fun _ _ _ h => h) (Or.inl ⟨by rfl, ?_⟩) hHeld ?_ ?_
                            rotate_left
                            ·rintro w' ⟨s0, s1, s2, s3, s4, s5, s6⟩
                             go_simp
                             with_reducible rfl
                            rotate_left
                            ·simp only [Act.put, List.setIfInBounds_toArray, List.set_cons_zero, List.set_cons_succ, i64_w, i32_w]
                             rfl
                            refine pure_ (i := 30) (N := some 138) (v := ?_) (a' := ?_) #[true, true, true, true, true, true, true, true, true, true, true, true, true, true, true, true, true, true, true, true, true, true, true, true, true, true, true, true, true, true, true, false, false, false, false, false] rfl rfl (any_of HT_.out (by kernel_rfl)) (fun _ _ _ h => h) (Or.inl ⟨by rfl, ?_⟩) ?_ ?_
                            rotate_left
                            ·intro w'
                             go_simp
                             with_reducible rfl
                            rotate_left
                            ·simp only [Act.put, List.setIfInBounds_toArray, List.set_cons_zero, List.set_cons_succ, i64_w, i32_w]
                             rfl
                            refine pure_ (i := 31) (N := some 139) (v := ?_) (a' := ?_) #[true, true, true, true, true, true, true, true, true, true, true, true, true, true, true, true, true, true, true, true, true, true, true, true, true, true, true, true, true, true, true, true, false, false, false, false] rfl rfl (any_of HT_.out (by kernel_rfl)) (fun _ _ _ h => h) (Or.inl ⟨by rfl, ?_⟩) ?_ ?_
                            rotate_left
                            ·intro w'
                             go_simp
                             with_reducible rfl
                            rotate_left
                            ·simp only [Act.put, List.setIfInBounds_toArray, List.set_cons_zero, List.set_cons_succ, i64_w, i32_w]
                             rfl
                            refine pure_ (i := 32) (N := some 140) (v := ?_) (a' := ?_) #[true, true, true, true, true, true, true, true, true, true, true, true, true, true, true, true, true, true, true, true, true, true, true, true, true, true, true, true, true, true, true, true, true, false, false, false] rfl rfl (any_of HT_.out (by kernel_rfl)) (fun _ _ _ h => h) (Or.inl ⟨by rfl, ?_⟩) ?_ ?_
                            rotate_left
                            ·intro w'
                             go_simp
                             with_reducible rfl
                            rotate_left
                            ·simp only [Act.put, List.setIfInBounds_toArray, List.set_cons_zero, List.set_cons_succ, i64_w, i32_w]
                             rfl
                            refine take_ (i := 33) (N := some 141) (v := ?_) (a' := ?_) #[true, true, true, true, true, true, true, true, true, true, true, true, true, true, true, true, true, true, true, true, true, true, true, true, true, true, true, true, true, true, true, true, true, true, false, false] rfl rfl (take_ofW HT_.out HW_.out (by kernel_rfl)) (fun _ _ _ h => h) (Or.inl ⟨by rfl, ?_⟩) hHeld ?_ ?_
                            rotate_left
                            ·rintro w' ⟨s0, s1, s2, s3, s4, s5, s6⟩
                             go_simp
                             with_reducible rfl
                            rotate_left
                            ·simp only [Act.put, List.setIfInBounds_toArray, List.set_cons_zero, List.set_cons_succ, i64_w, i32_w]
                             rfl
                            refine pure_ (i := 34) (N := some 142) (v := ?_) (a' := ?_) #[true, true, true, true, true, true, true, true, true, true, true, true, true, true, true, true, true, true, true, true, true, true, true, true, true, true, true, true, true, true, true, true, true, true, true, false] rfl rfl (any_of HT_.out (by kernel_rfl)) (fun _ _ _ h => h) (Or.inl ⟨by rfl, ?_⟩) ?_ ?_
                            rotate_left
                            ·intro w'
                             go_simp
                             with_reducible rfl
                            rotate_left
                            ·simp only [Act.put, List.setIfInBounds_toArray, List.set_cons_zero, List.set_cons_succ, i64_w, i32_w]
                             rfl
                            refine pure_ (i := 35) (N := some 143) (v := ?_) (a' := ?_) #[true, true, true, true, true, true, true, true, true, true, true, true, true, true, true, true, true, true, true, true, true, true, true, true, true, true, true, true, true, true, true, true, true, true, true, true] rfl rfl (any_of HT_.out (by kernel_rfl)) (fun _ _ _ h => h) (Or.inl ⟨by rfl, ?_⟩) ?_ ?_
                            rotate_left
                            ·intro w'
                             go_simp
                             with_reducible rfl
                            rotate_left
                            ·simp only [Act.put, List.setIfInBounds_toArray, List.set_cons_zero, List.set_cons_succ, i64_w, i32_w]
                             rfl
                            refine done_ (done_of HT_.out (by kernel_rfl)) ?_
                            try go_wp2
                            go_roundg k4
                            case measure => have := HJ3.out; have := HK2.out; have := HK3.out; have := HK4.out; omega
                            case rel => exact ⟨(t223), (x12_4), (x15_4), (wrap64 (x16_4 + 1)), (wrap64 (x17_4 + 1)), (t228), (t229), (t230), (by first | rfl | (simp; done) | (simp [*]; done)), (by first | rfl | (simp; done) | (simp [*]; done)), H', ⟨by have := HJ3.out; have := HK2.out; have := HK3.out; have := HK4.out; omega⟩, ⟨by (with_reducible repeat (first | apply Kd.V_alloc | apply Kd.V_drewN | apply Kd.V_drew)); exact Kd.V_mono HO225.out (fun _ hk => ⟨hk.1, ⟨hk.2.1, ⟨hk.2.2.1, hk.2.2.2.1⟩⟩⟩)⟩, ⟨by (with_reducible repeat (first | apply Kd.R_alloc | apply Kd.R_drewN | apply Kd.R_drew)); exact HO_12.out⟩, ⟨by (with_reducible repeat (first | apply Kd.R_alloc | apply Kd.R_drewN | apply Kd.R_drew)); exact HO_15.out⟩, ⟨by (with_reducible repeat (first | refine blk_drewN ?_ _ | refine blk_drew ?_ | refine blk_alloc ?_ _)); exact BK204.out⟩, ⟨by (with_reducible repeat (first | refine blk_drewN ?_ _ | refine blk_drew ?_ | refine blk_alloc ?_ _)); exact BK214.out⟩, ⟨by repeat (first | (with_reducible first | exact HB.out | apply below_alloc | apply pw_below_drewN | apply below_drew1 | refine below_set ?_ GE204.out | refine below_set ?_ GE214.out | refine below_set ?_ GE232.out) | exact HB.out)⟩⟩
                          ·rw [if_neg c46] at H
                           have c46b0 : (((rd_T54 x12_4 (ji43)).f0) == 5) = false := beq_eq_false_iff_ne.mpr c46
                           have c46b1 : (((rd_T54 x12_4 (ji43)).f0) != 5) = true := bne_iff_ne.mpr c46
                           as_aux_lemma =>
                            exact absurd ((Option.some.inj H).trans hr_) (by decide)
                         ·rw [if_neg c45] at H
                          exact absurd H (by simp)
                        ·rw [if_neg c44] at H
                         exact absurd H (by simp)
                     ·rw [if_neg c40] at H
                      have c40b0 : ((rd x15_4 x16_4) == t230) = false := beq_eq_false_iff_ne.mpr c40
                      have c40b1 : ((rd x15_4 x16_4) != t230) = true := bne_iff_ne.mpr c40
                      as_aux_lemma =>
                       exact absurd ((Option.some.inj H).trans hr_) (by decide)
                    ·rw [if_neg c39] at H
                     exact absurd H (by simp)
                   ·rw [if_neg c38] at H
                    exact absurd H (by simp)
                 ·replace c36 := Bool.eq_false_iff.mpr c36
                  subst c36
                  have H1 : (treillagelaw16_QueueOrder.l2 k4 l2 x8_2 (wrap64 (1 + (Int.tmod (wrap64 (a1)) 12))) t223 x12_4 x15_4 x16_4 (wrap64 (x17_4 + 1)) 1 (wrap64 (1 + (Int.tmod (wrap64 (a0)) 4))) t228 t229 t230) = some r := by rw [if_neg (show ¬ (false = true) by decide)] at H; exact H
                  clear H
                  have H := H1
                  clear H1
                  as_aux_lemma =>
                   have H' := aA H
                   clear H
                   have p218 : 0 ≤ (x17_4 : Int) := of_decide_eq_true (by first | (with_reducible assumption) | assumption)
                   have q218 : x17_4 < (l2.length : Int) := of_decide_eq_true (by first | (with_reducible assumption) | assumption)
                   obtain ⟨ad218, e218, hx218_0⟩ := Kd.at_int HR2.out x17_4 p218 q218
                   cases e218
                   replace hx218_0 := (HB.out.cell (World.block_lt_of_cell? w _ hx218_0)).trans hx218_0
                   replace p218 := eq_true p218
                   replace q218 := eq_true q218
                   have hnb65 := NB204_214.out
                   have hnc65 := NB214_204.out
                   have hcz66_0 : wr.cell? ⟨gb204, 0, none⟩ = some (.int .i64 1) := (blk_cell BK204.out 0).trans rfl
                   have hcz66_1 : wr.cell? ⟨gb204, 1, none⟩ = some (.int .i64 (wrap64 (1 + (Int.tmod (wrap64 (a0)) 4)))) := (blk_cell BK204.out 1).trans rfl
                   have hfz66_0 := blk_frozen BK204.out 0
                   have hfz66_1 := blk_frozen BK204.out 1
                   have hcz67_0 : wr.cell? ⟨gb214, 0, none⟩ = some (.int .i64 x215000_4) := (blk_cell BK214.out 0).trans rfl
                   have hcz67_1 : wr.cell? ⟨gb214, 1, none⟩ = some (.int .u64 x215001_4) := (blk_cell BK214.out 1).trans rfl
                   have hcz67_2 : wr.cell? ⟨gb214, 2, none⟩ = some (.int .u64 x215002_4) := (blk_cell BK214.out 2).trans rfl
                   have hfz67_0 := blk_frozen BK214.out 0
                   have hfz67_1 := blk_frozen BK214.out 1
                   have hfz67_2 := blk_frozen BK214.out 2
                   go_wp2_with (first | ((with_reducible refine gate_callee (f := 53) rfl ?_); refine goesL_ (some 93) rfl rfl Try.func53 (by kernel_rfl) rfl #[.agg #[.int .i64 1, .int .i64 (wrap64 (1 + (Int.tmod (wrap64 (a0)) 4)))], .agg #[.int .i64 x215000_4, .int .u64 x215001_4, .int .u64 x215002_4]] rfl (by (try simp only [List.map_toArray, List.map_cons, List.map_nil]); first | done | rfl | (simp only [List.length_drop, List.length_take]; rfl)) ?_; (with_reducible refine (queue_Next.calls 1 (wrap64 (1 + (Int.tmod (wrap64 (a0)) 4))) x215000_4 x215001_4 x215002_4 t219 t220 t221 t222 _ A33.out).mono ?_); rintro e w68 ⟨rfl, hb⟩; refine ⟨_, rfl, ?_⟩; have n0_ := aA (Kd.V_below (vlu HO_11.out) hb); have n1_ := aA (Kd.R_below (rlu HO_12.out) hb); have n2_ := aA (Kd.R_below (rlu HO_15.out) hb); have n3_ := aA (blk_below (g := gb204) (o := .cells #[.int .i64 1, .int .i64 (wrap64 (1 + (Int.tmod (wrap64 (a0)) 4)))] 38 (0, 0)) (bku BK204.out) hb); have n4_ := aA (blk_below (g := gb214) (o := .cells #[.int .i64 x215000_4, .int .u64 x215001_4, .int .u64 x215002_4] 56 (0, 0)) (bku BK214.out) hb); have n5_ := aA (below_step (bls HB.out) hb); clear HO_11 HO_12 HO_15 BK204 BK214 HB; have HO_11 := n0_; have HO_12 := n1_; have HO_15 := n2_; have BK204 := n3_; have BK214 := n4_; have HB := n5_; clear n0_ n1_ n2_ n3_ n4_ n5_; (try clear hb); (try clear hb2); (try clear hk); (try clear hi); obtain ⟨Ao69, co69, eo69⟩ := Kd.V_slice HO_11.out; subst eo69) | ((with_reducible refine gate_callee (f := 15) rfl ?_); refine goesL_ (some 94) rfl rfl Try.func15 (by kernel_rfl) rfl #[.slice Ao69 x11_4.length co69, .agg #[.int .i64 t219, .int .i64 t220, .int .u64 t221, .int .u64 t222]] rfl (by (try simp only [List.map_toArray, List.map_cons, List.map_nil]); first | done | rfl | (simp only [List.length_drop, List.length_take]; rfl)) ?_; (with_reducible refine (mem_Do.calls (fun k_ => (some k_ ≠ (u12 : Value).ownBlock ∧ (some k_ ≠ (u15 : Value).ownBlock ∧ (k_ ≠ gb204 ∧ k_ ≠ gb214)))) _ _ x11_4 t219 t220 t221 t222 t223 t226 t227 _ ?side1 A34.out).mono ?_); (case side1 => exact HO_11.out); rintro e w70 ⟨v224, rfl, ho0, hb⟩; refine ⟨_, rfl, ?_⟩; have n0_ := aA (Kd.V_below (vlu HO_11.out) hb); have n1_ := aA (Kd.R_below (rlu HO_12.out) hb); have n2_ := aA (Kd.R_below (rlu HO_15.out) hb); have n3_ := aA (Kd.V_lower (Kd.V_mono (ok' := fun k_ => some k_ ≠ (u12 : Value).ownBlock ∧ some k_ ≠ (u15 : Value).ownBlock ∧ k_ ≠ gb204 ∧ k_ ≠ gb214) ho0 (fun k_ hk_ => ⟨Or.elim hk_ (fun hs_ => hs_.1) (fun hn_ => (Kd.fresh' (Kd.R_lt (rlu HO_12.out)) k_ hn_)), Or.elim hk_ (fun hs_ => hs_.2.1) (fun hn_ => (Kd.fresh' (Kd.R_lt (rlu HO_15.out)) k_ hn_)), Or.elim hk_ (fun hs_ => hs_.2.2.1) (fun hn_ => (Kd.freshB (g := gb204) (o := .cells #[.int .i64 1, .int .i64 (wrap64 (1 + (Int.tmod (wrap64 (a0)) 4)))] 38 (0, 0)) (bku BK204.out) k_ hn_)), Or.elim hk_ (fun hs_ => hs_.2.2.2) (fun hn_ => (Kd.freshB (g := gb214) (o := .cells #[.int .i64 x215000_4, .int .u64 x215001_4, .int .u64 x215002_4] 56 (0, 0)) (bku BK214.out) k_ hn_))⟩)) (below_size (bls HB.out))); have n4_ := aA (blk_below (g := gb204) (o := .cells #[.int .i64 1, .int .i64 (wrap64 (1 + (Int.tmod (wrap64 (a0)) 4)))] 38 (0, 0)) (bku BK204.out) hb); have n5_ := aA (blk_below (g := gb214) (o := .cells #[.int .i64 x215000_4, .int .u64 x215001_4, .int .u64 x215002_4] 56 (0, 0)) (bku BK214.out) hb); have n6_ := aA (below_step (bls HB.out) hb); clear HO_11 HO_12 HO_15 BK204 BK214 HB; have HO_11 := n0_; have HO_12 := n1_; have HO_15 := n2_; have HO225 := n3_; have BK204 := n4_; have BK214 := n5_; have HB := n6_; clear n0_ n1_ n2_ n3_ n4_ n5_ n6_; (try clear hb); (try clear hb2); (try clear hk); (try clear hi); (try clear ho0); have hcz71_0 : w70.cell? ⟨gb204, 0, none⟩ = some (.int .i64 1) := (blk_cell BK204.out 0).trans rfl; have hcz71_1 : w70.cell? ⟨gb204, 1, none⟩ = some (.int .i64 (wrap64 (1 + (Int.tmod (wrap64 (a0)) 4)))) := (blk_cell BK204.out 1).trans rfl; have hfz71_0 := blk_frozen BK204.out 0; have hfz71_1 := blk_frozen BK204.out 1; have hcz72_0 : w70.cell? ⟨gb214, 0, none⟩ = some (.int .i64 x215000_4) := (blk_cell BK214.out 0).trans rfl; have hcz72_1 : w70.cell? ⟨gb214, 1, none⟩ = some (.int .u64 x215001_4) := (blk_cell BK214.out 1).trans rfl; have hcz72_2 : w70.cell? ⟨gb214, 2, none⟩ = some (.int .u64 x215002_4) := (blk_cell BK214.out 2).trans rfl; have hfz72_0 := blk_frozen BK214.out 0; have hfz72_1 := blk_frozen BK214.out 1; have hfz72_2 := blk_frozen BK214.out 2) | ((with_reducible refine gate_callee (f := 49) rfl ?_); refine goesL_ (some 103) rfl rfl Try.func49 (by kernel_rfl) rfl #[.agg #[.int .i64 1, .int .i64 (wrap64 (1 + (Int.tmod (wrap64 (a0)) 4)))], .agg #[.int .i64 x215000_4, .int .u64 x215001_4, .int .u64 x215002_4], .int .u64 t226] rfl (by (try simp only [List.map_toArray, List.map_cons, List.map_nil]); first | done | rfl | (simp only [List.length_drop, List.length_take]; rfl)) ?_; (with_reducible refine (queue_Given.calls k4 1 (wrap64 (1 + (Int.tmod (wrap64 (a0)) 4))) x215000_4 x215001_4 x215002_4 t226 t228 t229 t230 false _ A35.out).mono ?_); rintro e w73 ⟨rfl, hb⟩; refine ⟨_, rfl, ?_⟩; have n0_ := aA (Kd.V_below (vlu HO_11.out) hb); have n1_ := aA (Kd.R_below (rlu HO_12.out) hb); have n2_ := aA (Kd.R_below (rlu HO_15.out) hb); have n3_ := aA (Kd.V_below (vlu HO225.out) hb); have n4_ := aA (blk_below (g := gb204) (o := .cells #[.int .i64 1, .int .i64 (wrap64 (1 + (Int.tmod (wrap64 (a0)) 4)))] 38 (0, 0)) (bku BK204.out) hb); have n5_ := aA (blk_below (g := gb214) (o := .cells #[.int .i64 x215000_4, .int .u64 x215001_4, .int .u64 x215002_4] 56 (0, 0)) (bku BK214.out) hb); have n6_ := aA (below_step (bls HB.out) hb); clear HO_11 HO_12 HO_15 HO225 BK204 BK214 HB; have HO_11 := n0_; have HO_12 := n1_; have HO_15 := n2_; have HO225 := n3_; have BK204 := n4_; have BK214 := n5_; have HB := n6_; clear n0_ n1_ n2_ n3_ n4_ n5_ n6_; (try clear hb); (try clear hb2); (try clear hk); (try clear hi)) | ((with_reducible refine gate_dst (N := 22) rfl ?_); (try (refine gate_guard (by rfl) ?_; dsimp only)); refine box_event ?hg (N := 22) ?hd (cs := #[.int .i64 0, .int .u64 0, .int .u64 0]) (t := 56) ?hr ?_; (case hd => rfl); (case hg => rfl); (case hr => first | (go_simp; done) | (go_simp; rfl)); intro gb232 hg w74 hbox hb; have n0_ := aA (Kd.V_below (Kd.V_elderB (vlu HO_11.out) gb232 (Nat.le_of_eq hg.symm)) hb); have n1_ := aA (Kd.R_below (rlu HO_12.out) hb); have n2_ := aA (Kd.R_below (rlu HO_15.out) hb); have n3_ := aA (Kd.V_below (Kd.V_elderB (vlu HO225.out) gb232 (Nat.le_of_eq hg.symm)) hb); have n4_ := aA (blk_below (g := gb204) (o := .cells #[.int .i64 1, .int .i64 (wrap64 (1 + (Int.tmod (wrap64 (a0)) 4)))] 38 (0, 0)) (bku BK204.out) hb); have n5_ := aA (blk_below (g := gb214) (o := .cells #[.int .i64 x215000_4, .int .u64 x215001_4, .int .u64 x215002_4] 56 (0, 0)) (bku BK214.out) hb); have n6_ := aA (below_step (bls HB.out) hb); have n7_ := aA (hbox); have n8_ := aA ((by rw [hg]; exact (below_size (bls HB.out)) : w.heap.size ≤ gb232)); have n9_ := aA ((by rw [hg]; exact (below_size (bls HB.out)) : w.heap.size ≤ gb232)); have n10_ := aA ((by rw [hg]; exact Nat.ne_of_lt (blk_lt (g := gb204) (o := .cells #[.int .i64 1, .int .i64 (wrap64 (1 + (Int.tmod (wrap64 (a0)) 4)))] 38 (0, 0)) (bku BK204.out)) : gb204 ≠ gb232)); have n11_ := aA ((by rw [hg]; exact Nat.ne_of_gt (blk_lt (g := gb204) (o := .cells #[.int .i64 1, .int .i64 (wrap64 (1 + (Int.tmod (wrap64 (a0)) 4)))] 38 (0, 0)) (bku BK204.out)) : gb232 ≠ gb204)); have n12_ := aA ((by rw [hg]; exact Nat.ne_of_lt (blk_lt (g := gb214) (o := .cells #[.int .i64 x215000_4, .int .u64 x215001_4, .int .u64 x215002_4] 56 (0, 0)) (bku BK214.out)) : gb214 ≠ gb232)); have n13_ := aA ((by rw [hg]; exact Nat.ne_of_gt (blk_lt (g := gb214) (o := .cells #[.int .i64 x215000_4, .int .u64 x215001_4, .int .u64 x215002_4] 56 (0, 0)) (bku BK214.out)) : gb232 ≠ gb214)); clear HO_11 HO_12 HO_15 HO225 BK204 BK214 HB; have HO_11 := n0_; have HO_12 := n1_; have HO_15 := n2_; have HO225 := n3_; have BK204 := n4_; have BK214 := n5_; have HB := n6_; have BK232 := n7_; have GW232 := n8_; have GE232 := n9_; have NB204_232 := n10_; have NB232_204 := n11_; have NB214_232 := n12_; have NB232_214 := n13_; clear n0_ n1_ n2_ n3_ n4_ n5_ n6_ n7_ n8_ n9_ n10_ n11_ n12_ n13_ hb hbox hg; have hnb75 := NB232_204.out; have hnc75 := NB204_232.out; have hnb76 := NB232_214.out; have hnc76 := NB214_232.out; have hcz77_0 : w74.cell? ⟨gb232, 0, none⟩ = some (.int .i64 0) := (blk_cell BK232.out 0).trans rfl; have hcz77_1 : w74.cell? ⟨gb232, 1, none⟩ = some (.int .u64 0) := (blk_cell BK232.out 1).trans rfl; have hcz77_2 : w74.cell? ⟨gb232, 2, none⟩ = some (.int .u64 0) := (blk_cell BK232.out 2).trans rfl; have hfz77_0 := blk_frozen BK232.out 0; have hfz77_1 := blk_frozen BK232.out 1; have hfz77_2 := blk_frozen BK232.out 2; have hcz78_0 : w74.cell? ⟨gb214, 0, none⟩ = some (.int .i64 x215000_4) := (blk_cell BK214.out 0).trans rfl; have hcz78_1 : w74.cell? ⟨gb214, 1, none⟩ = some (.int .u64 x215001_4) := (blk_cell BK214.out 1).trans rfl; have hcz78_2 : w74.cell? ⟨gb214, 2, none⟩ = some (.int .u64 x215002_4) := (blk_cell BK214.out 2).trans rfl; have hfz78_0 := blk_frozen BK214.out 0; have hfz78_1 := blk_frozen BK214.out 1; have hfz78_2 := blk_frozen BK214.out 2))
                   go_roundg k4
                   case measure => have := HJ3.out; have := HK2.out; have := HK3.out; have := HK4.out; omega
                   case rel => exact ⟨(t223), (x12_4), (x15_4), (x16_4), (wrap64 (x17_4 + 1)), (t228), (t229), (t230), (by first | rfl | (simp; done) | (simp [*]; done)), (by first | rfl | (simp; done) | (simp [*]; done)), H', ⟨by have := HJ3.out; have := HK2.out; have := HK3.out; have := HK4.out; omega⟩, ⟨by (with_reducible repeat (first | apply Kd.V_alloc | apply Kd.V_drewN | apply Kd.V_drew)); exact Kd.V_mono (Kd.V_far (p := ⟨gb214, 2, none⟩) (Kd.V_far (p := ⟨gb214, 1, none⟩) (Kd.V_far (p := ⟨gb214, 0, none⟩) (Kd.V_far (p := ⟨gb232, 2, none⟩) (Kd.V_far (p := ⟨gb232, 1, none⟩) (Kd.V_far (p := ⟨gb232, 0, none⟩) (Kd.V_mono (Kd.V_mono HO225.out (fun k_ hk => (⟨hk, hk.2⟩ : _ ∧ k_ ≠ gb232))) (fun k_ hk => (⟨hk, hk.1.1.2.2.2⟩ : _ ∧ k_ ≠ gb214))) (fun _ hk => hk.1.2) (.int .i64 t228)) (fun _ hk => hk.1.2) (.int .u64 t229)) (fun _ hk => hk.1.2) (.int .u64 t230)) (fun _ hk => hk.2) (.int .i64 t228)) (fun _ hk => hk.2) (.int .u64 t229)) (fun _ hk => hk.2) (.int .u64 t230)) (fun _ hk => ⟨hk.1.1.1.1, ⟨hk.1.1.1.2.1, ⟨hk.1.1.1.2.2.1, hk.1.1.1.2.2.2⟩⟩⟩)⟩, ⟨by (with_reducible repeat (first | apply Kd.R_alloc | apply Kd.R_drewN | apply Kd.R_drew)); exact Kd.R_mono (Kd.R_far (p := ⟨gb214, 2, none⟩) (Kd.R_far (p := ⟨gb214, 1, none⟩) (Kd.R_far (p := ⟨gb214, 0, none⟩) (Kd.R_far (p := ⟨gb232, 2, none⟩) (Kd.R_far (p := ⟨gb232, 1, none⟩) (Kd.R_far (p := ⟨gb232, 0, none⟩) (Kd.R_types (Kd.R_types HO_12.out BK232.out (by decide)) BK214.out (by decide)) (fun _ hk => hk.1.2) (.int .i64 t228)) (fun _ hk => hk.1.2) (.int .u64 t229)) (fun _ hk => hk.1.2) (.int .u64 t230)) (fun _ hk => hk.2) (.int .i64 t228)) (fun _ hk => hk.2) (.int .u64 t229)) (fun _ hk => hk.2) (.int .u64 t230)) (fun _ hk => trivial)⟩, ⟨by (with_reducible repeat (first | apply Kd.R_alloc | apply Kd.R_drewN | apply Kd.R_drew)); exact Kd.R_mono (Kd.R_far (p := ⟨gb214, 2, none⟩) (Kd.R_far (p := ⟨gb214, 1, none⟩) (Kd.R_far (p := ⟨gb214, 0, none⟩) (Kd.R_far (p := ⟨gb232, 2, none⟩) (Kd.R_far (p := ⟨gb232, 1, none⟩) (Kd.R_far (p := ⟨gb232, 0, none⟩) (Kd.R_types (Kd.R_types HO_15.out BK232.out (by decide)) BK214.out (by decide)) (fun _ hk => hk.1.2) (.int .i64 t228)) (fun _ hk => hk.1.2) (.int .u64 t229)) (fun _ hk => hk.1.2) (.int .u64 t230)) (fun _ hk => hk.2) (.int .i64 t228)) (fun _ hk => hk.2) (.int .u64 t229)) (fun _ hk => hk.2) (.int .u64 t230)) (fun _ hk => trivial)⟩, ⟨by (with_reducible repeat (first | refine blk_drewN ?_ _ | refine blk_drew ?_ | refine blk_alloc ?_ _)); refine blk_far ?_ NB204_214.out _; (with_reducible repeat (first | refine blk_drewN ?_ _ | refine blk_drew ?_ | refine blk_alloc ?_ _)); refine blk_far ?_ NB204_214.out _; (with_reducible repeat (first | refine blk_drewN ?_ _ | refine blk_drew ?_ | refine blk_alloc ?_ _)); refine blk_far ?_ NB204_214.out _; (with_reducible repeat (first | refine blk_drewN ?_ _ | refine blk_drew ?_ | refine blk_alloc ?_ _)); refine blk_far ?_ NB204_232.out _; (with_reducible repeat (first | refine blk_drewN ?_ _ | refine blk_drew ?_ | refine blk_alloc ?_ _)); refine blk_far ?_ NB204_232.out _; (with_reducible repeat (first | refine blk_drewN ?_ _ | refine blk_drew ?_ | refine blk_alloc ?_ _)); refine blk_far ?_ NB204_232.out _; (with_reducible repeat (first | refine blk_drewN ?_ _ | refine blk_drew ?_ | refine blk_alloc ?_ _)); exact BK204.out⟩, ⟨by (with_reducible repeat (first | refine blk_drewN ?_ _ | refine blk_drew ?_ | refine blk_alloc ?_ _)); refine blk_put (cs := #[.int .i64 t228, .int .u64 t229, .int .u64 x215002_4]) ?_ 2 _ rfl; (with_reducible repeat (first | refine blk_drewN ?_ _ | refine blk_drew ?_ | refine blk_alloc ?_ _)); refine blk_put (cs := #[.int .i64 t228, .int .u64 x215001_4, .int .u64 x215002_4]) ?_ 1 _ rfl; (with_reducible repeat (first | refine blk_drewN ?_ _ | refine blk_drew ?_ | refine blk_alloc ?_ _)); refine blk_put (cs := #[.int .i64 x215000_4, .int .u64 x215001_4, .int .u64 x215002_4]) ?_ 0 _ rfl; (with_reducible repeat (first | refine blk_drewN ?_ _ | refine blk_drew ?_ | refine blk_alloc ?_ _)); refine blk_far ?_ NB214_232.out _; (with_reducible repeat (first | refine blk_drewN ?_ _ | refine blk_drew ?_ | refine blk_alloc ?_ _)); refine blk_far ?_ NB214_232.out _; (with_reducible repeat (first | refine blk_drewN ?_ _ | refine blk_drew ?_ | refine blk_alloc ?_ _)); refine blk_far ?_ NB214_232.out _; (with_reducible repeat (first | refine blk_drewN ?_ _ | refine blk_drew ?_ | refine blk_alloc ?_ _)); exact BK214.out⟩, ⟨by repeat (first | (with_reducible first | exact HB.out | apply below_alloc | apply pw_below_drewN | apply below_drew1 | refine below_set ?_ GE204.out | refine below_set ?_ GE214.out | refine below_set ?_ GE232.out) | exact HB.out)⟩⟩
                ·rw [if_neg c32] at H
                 have c32b0 : ((Int.tmod (wrap64 (rd l2 x17_4)) (wrap64 ((wrap64 (1 + (Int.tmod (wrap64 (a1)) 12))) + 1))) == (wrap64 (1 + (Int.tmod (wrap64 (a1)) 12)))) = false := beq_eq_false_iff_ne.mpr c32
                 have c32b1 : ((Int.tmod (wrap64 (rd l2 x17_4)) (wrap64 ((wrap64 (1 + (Int.tmod (wrap64 (a1)) 12))) + 1))) != (wrap64 (1 + (Int.tmod (wrap64 (a1)) 12)))) = true := bne_iff_ne.mpr c32
                 obtain ⟨ji79, hji79⟩ : ∃ j_ : Int, (Int.tmod (wrap64 (rd l2 x17_4)) (wrap64 ((wrap64 (1 + (Int.tmod (wrap64 (a1)) 12))) + 1))) = j_ := ⟨_, rfl⟩
                 replace H : (if 0 ≤ (ji79) then (if (ji79) < (x12_4.length : Int) then ((queue_Want.f 1 (wrap64 (1 + (Int.tmod (wrap64 (a0)) 4))) ((rd_T54 x12_4 (ji79)).f0) ((rd_T54 x12_4 (ji79)).f1) ((rd_T54 x12_4 (ji79)).f2)).bind fun bt236 => (if bt236.2.2.2.2 = true then ((mem_Do.f x11_4 bt236.1 bt236.2.1 bt236.2.2.1 bt236.2.2.2.1).bind fun bt242 => ((queue_Got.f k4 ((rd_T54 x12_4 (ji79)).f0) ((rd_T54 x12_4 (ji79)).f1) ((rd_T54 x12_4 (ji79)).f2) bt242.2.1 bt242.2.2).bind fun bt249 => ((some (x12_4.set ((ji79) : Int).toNat (⟨bt249.1, bt249.2.1, bt249.2.2⟩ : S54) : List (S54))).bind fun y252 => (if ((rd_T54 x12_4 (ji79)).f0) = 2 then (treillagelaw16_QueueOrder.j4 k4 l2 x8_2 (wrap64 (1 + (Int.tmod (wrap64 (a1)) 12))) bt242.1 y252 x15_4 x16_4 x17_4 ji79 ((rd_T54 x12_4 (ji79)).f0) (((rd_T54 y252 (ji79)).f0) == 3) 1 (wrap64 (1 + (Int.tmod (wrap64 (a0)) 4))) x215000_4 x215001_4 x215002_4) else (treillagelaw16_QueueOrder.j4 k4 l2 x8_2 (wrap64 (1 + (Int.tmod (wrap64 (a1)) 12))) bt242.1 y252 x15_4 x16_4 x17_4 ji79 ((rd_T54 x12_4 (ji79)).f0) false 1 (wrap64 (1 + (Int.tmod (wrap64 (a0)) 4))) x215000_4 x215001_4 x215002_4))))) else (treillagelaw16_QueueOrder.l2 k4 l2 x8_2 (wrap64 (1 + (Int.tmod (wrap64 (a1)) 12))) x11_4 x12_4 x15_4 x16_4 (wrap64 (x17_4 + 1)) 1 (wrap64 (1 + (Int.tmod (wrap64 (a0)) 4))) x215000_4 x215001_4 x215002_4))) else (none)) else (none)) = some r := by first | (rw [hji79] at H; exact H) | (simp only [hji79] at H ⊢; exact H)
                 (try rw [hji79] at c32b0)
                 (try rw [hji79] at c32b1)
                 by_cases c80 : 0 ≤ (ji79)
                 ·rw [if_pos c80] at H
                  have c80b0 : decide (0 ≤ (ji79)) = true := decide_eq_true c80
                  clear c80
                  by_cases c81 : (ji79) < (x12_4.length : Int)
                  ·rw [if_pos c81] at H
                   have c81b0 : decide ((ji79) < (x12_4.length : Int)) = true := decide_eq_true c81
                   clear c81
                   replace H := Option.bind_eq_some_iff.mp H
                   obtain ⟨⟨t236, t237, t238, t239, t240⟩, A820, H⟩ := H
                   replace H : (if t240 = true then ((mem_Do.f x11_4 t236 t237 t238 t239).bind fun bt242 => ((queue_Got.f k4 ((rd_T54 x12_4 (ji79)).f0) ((rd_T54 x12_4 (ji79)).f1) ((rd_T54 x12_4 (ji79)).f2) bt242.2.1 bt242.2.2).bind fun bt249 => ((some (x12_4.set ((ji79) : Int).toNat (⟨bt249.1, bt249.2.1, bt249.2.2⟩ : S54) : List (S54))).bind fun y252 => (if ((rd_T54 x12_4 (ji79)).f0) = 2 then (treillagelaw16_QueueOrder.j4 k4 l2 x8_2 (wrap64 (1 + (Int.tmod (wrap64 (a1)) 12))) bt242.1 y252 x15_4 x16_4 x17_4 ji79 ((rd_T54 x12_4 (ji79)).f0) (((rd_T54 y252 (ji79)).f0) == 3) 1 (wrap64 (1 + (Int.tmod (wrap64 (a0)) 4))) x215000_4 x215001_4 x215002_4) else (treillagelaw16_QueueOrder.j4 k4 l2 x8_2 (wrap64 (1 + (Int.tmod (wrap64 (a1)) 12))) bt242.1 y252 x15_4 x16_4 x17_4 ji79 ((rd_T54 x12_4 (ji79)).f0) false 1 (wrap64 (1 + (Int.tmod (wrap64 (a0)) 4))) x215000_4 x215001_4 x215002_4))))) else (treillagelaw16_QueueOrder.l2 k4 l2 x8_2 (wrap64 (1 + (Int.tmod (wrap64 (a1)) 12))) x11_4 x12_4 x15_4 x16_4 (wrap64 (x17_4 + 1)) 1 (wrap64 (1 + (Int.tmod (wrap64 (a0)) 4))) x215000_4 x215001_4 x215002_4)) = some r := H
                   have A82 := aA A820
                   clear A820
                   by_cases c83 : t240 = true
                   ·subst c83
                    have H1 : ((mem_Do.f x11_4 t236 t237 t238 t239).bind fun bt242 => ((queue_Got.f k4 ((rd_T54 x12_4 (ji79)).f0) ((rd_T54 x12_4 (ji79)).f1) ((rd_T54 x12_4 (ji79)).f2) bt242.2.1 bt242.2.2).bind fun bt249 => ((some (x12_4.set ((ji79) : Int).toNat (⟨bt249.1, bt249.2.1, bt249.2.2⟩ : S54) : List (S54))).bind fun y252 => (if ((rd_T54 x12_4 (ji79)).f0) = 2 then (treillagelaw16_QueueOrder.j4 k4 l2 x8_2 (wrap64 (1 + (Int.tmod (wrap64 (a1)) 12))) bt242.1 y252 x15_4 x16_4 x17_4 ji79 ((rd_T54 x12_4 (ji79)).f0) (((rd_T54 y252 (ji79)).f0) == 3) 1 (wrap64 (1 + (Int.tmod (wrap64 (a0)) 4))) x215000_4 x215001_4 x215002_4) else (treillagelaw16_QueueOrder.j4 k4 l2 x8_2 (wrap64 (1 + (Int.tmod (wrap64 (a1)) 12))) bt242.1 y252 x15_4 x16_4 x17_4 ji79 ((rd_T54 x12_4 (ji79)).f0) false 1 (wrap64 (1 + (Int.tmod (wrap64 (a0)) 4))) x215000_4 x215001_4 x215002_4))))) = some r := by rw [if_pos rfl] at H; exact H
                    clear H
                    have H := H1
                    clear H1
                    replace H := Option.bind_eq_some_iff.mp H
                    obtain ⟨⟨t242, t245, t246⟩, A840, H⟩ := H
                    replace H : ((queue_Got.f k4 ((rd_T54 x12_4 (ji79)).f0) ((rd_T54 x12_4 (ji79)).f1) ((rd_T54 x12_4 (ji79)).f2) t245 t246).bind fun bt249 => ((some (x12_4.set ((ji79) : Int).toNat (⟨bt249.1, bt249.2.1, bt249.2.2⟩ : S54) : List (S54))).bind fun y252 => (if ((rd_T54 x12_4 (ji79)).f0) = 2 then (treillagelaw16_QueueOrder.j4 k4 l2 x8_2 (wrap64 (1 + (Int.tmod (wrap64 (a1)) 12))) t242 y252 x15_4 x16_4 x17_4 ji79 ((rd_T54 x12_4 (ji79)).f0) (((rd_T54 y252 (ji79)).f0) == 3) 1 (wrap64 (1 + (Int.tmod (wrap64 (a0)) 4))) x215000_4 x215001_4 x215002_4) else (treillagelaw16_QueueOrder.j4 k4 l2 x8_2 (wrap64 (1 + (Int.tmod (wrap64 (a1)) 12))) t242 y252 x15_4 x16_4 x17_4 ji79 ((rd_T54 x12_4 (ji79)).f0) false 1 (wrap64 (1 + (Int.tmod (wrap64 (a0)) 4))) x215000_4 x215001_4 x215002_4)))) = some r := H
                    have A84 := aA A840
                    clear A840
                    replace H := Option.bind_eq_some_iff.mp H
                    obtain ⟨⟨t249, t250, t251⟩, A850, H⟩ := H
                    replace H : ((some (x12_4.set ((ji79) : Int).toNat (⟨t249, t250, t251⟩ : S54) : List (S54))).bind fun y252 => (if ((rd_T54 x12_4 (ji79)).f0) = 2 then (treillagelaw16_QueueOrder.j4 k4 l2 x8_2 (wrap64 (1 + (Int.tmod (wrap64 (a1)) 12))) t242 y252 x15_4 x16_4 x17_4 ji79 ((rd_T54 x12_4 (ji79)).f0) (((rd_T54 y252 (ji79)).f0) == 3) 1 (wrap64 (1 + (Int.tmod (wrap64 (a0)) 4))) x215000_4 x215001_4 x215002_4) else (treillagelaw16_QueueOrder.j4 k4 l2 x8_2 (wrap64 (1 + (Int.tmod (wrap64 (a1)) 12))) t242 y252 x15_4 x16_4 x17_4 ji79 ((rd_T54 x12_4 (ji79)).f0) false 1 (wrap64 (1 + (Int.tmod (wrap64 (a0)) 4))) x215000_4 x215001_4 x215002_4))) = some r := H
                    have A85 := aA A850
                    clear A850
                    obtain ⟨y252, hy252⟩ : ∃ y_ : List (S54), y_ = (x12_4.set ((ji79) : Int).toNat (⟨t249, t250, t251⟩ : S54)) := ⟨_, rfl⟩
                    replace H : (if ((rd_T54 x12_4 (ji79)).f0) = 2 then (treillagelaw16_QueueOrder.j4 k4 l2 x8_2 (wrap64 (1 + (Int.tmod (wrap64 (a1)) 12))) t242 y252 x15_4 x16_4 x17_4 ji79 ((rd_T54 x12_4 (ji79)).f0) (((rd_T54 y252 (ji79)).f0) == 3) 1 (wrap64 (1 + (Int.tmod (wrap64 (a0)) 4))) x215000_4 x215001_4 x215002_4) else (treillagelaw16_QueueOrder.j4 k4 l2 x8_2 (wrap64 (1 + (Int.tmod (wrap64 (a1)) 12))) t242 y252 x15_4 x16_4 x17_4 ji79 ((rd_T54 x12_4 (ji79)).f0) false 1 (wrap64 (1 + (Int.tmod (wrap64 (a0)) 4))) x215000_4 x215001_4 x215002_4)) = some r := by first | (rw [hy252]; with_reducible exact H) | (have H2_ := (Option.bind_some _ _).symm.trans H; rw [hy252]; with_reducible exact H2_) | (have H2_ := (Option.bind_some _ _).symm.trans H; with_reducible exact H2_) | with_reducible exact H | (rw [hy252]; exact H) | exact H
                    have Ny252 := aA hy252
                    clear hy252
                    have HC87 := aA H
                    clear H
                    have p218 : 0 ≤ (x17_4 : Int) := of_decide_eq_true (by first | (with_reducible assumption) | assumption)
                    have q218 : x17_4 < (l2.length : Int) := of_decide_eq_true (by first | (with_reducible assumption) | assumption)
                    obtain ⟨ad218, e218, hx218_0⟩ := Kd.at_int HR2.out x17_4 p218 q218
                    cases e218
                    replace hx218_0 := (HB.out.cell (World.block_lt_of_cell? w _ hx218_0)).trans hx218_0
                    replace p218 := eq_true p218
                    replace q218 := eq_true q218
                    try go_wp2
                    have n0_ := aA (Kd.V_drew HO_11.out)
                    have n1_ := aA (Kd.R_drew HO_12.out)
                    have n2_ := aA (Kd.R_drew HO_15.out)
                    have n3_ := aA (blk_drew BK204.out)
                    have n4_ := aA (blk_drew BK214.out)
                    have n5_ := aA (below_drew1 HB.out)
                    clear HO_11
                    clear HO_12
                    clear HO_15
                    clear BK204
                    clear BK214
                    clear HB
                    have HO_11 := n0_
                    have HO_12 := n1_
                    have HO_15 := n2_
                    have BK204 := n3_
                    have BK214 := n4_
                    have HB := n5_
                    clear n0_ n1_ n2_ n3_ n4_ n5_
                    obtain ⟨Ao89, co89, eo89⟩ := Kd.R_slice HO_12.out
                    (first | subst eo89 | (injection eo89 with f1_ f2_ f3_; have f4_ := f1_.symm; have f5_ := f3_.symm; clear f1_ f2_ f3_; subst f4_; subst f5_))
                    have p235 : 0 ≤ ((ji79) : Int) := of_decide_eq_true (by first | (with_reducible assumption) | assumption)
                    have q235 : (ji79) < (x12_4.length : Int) := of_decide_eq_true (by first | (with_reducible assumption) | assumption)
                    obtain ⟨ad235, e235, hx235_0, hx235_1, hx235_2⟩ := at_T54 (Kd.R_reads' HO_12.out).2.2 (ji79) p235 q235
                    cases e235
                    replace p235 := eq_true p235
                    replace q235 := eq_true q235
                    refine start_ (n := 12) (S := fun w' => w'.cell? ⟨gb204, 0, none⟩ = some (.int .i64 1) ∧ w'.cell? ⟨gb204, 1, none⟩ = some (.int .i64 (wrap64 (1 + (Int.tmod (wrap64 (a0)) 4)))) ∧ w'.cell? (ad235.add (((ji79)).toNat * 3)) = some (.int .i64 ((rd_T54 x12_4 (ji79)).f0)) ∧ w'.cell? ⟨(ad235.add (((ji79)).toNat * 3)).block, (ad235.add (((ji79)).toNat * 3)).off + 1, none⟩ = some (.int .u64 ((rd_T54 x12_4 (ji79)).f1)) ∧ w'.cell? ⟨(ad235.add (((ji79)).toNat * 3)).block, (ad235.add (((ji79)).toNat * 3)).off + 2, none⟩ = some (.int .u64 ((rd_T54 x12_4 (ji79)).f2))) (ds := []) #[false, false, false, false, false, false, false, false, false, false, false, false] (by kernel_rfl) rfl rfl ⟨(blk_cell BK204.out 0).trans rfl, (blk_cell BK204.out 1).trans rfl, hx235_0, hx235_1, hx235_2⟩ (fun hHeld => ?_); refine with_tabW treillagelaw16_QueueOrder.tab32 treillagelaw16_QueueOrder.bits32 (fun HT_ HW_ => ?_)
                    generalize wr.drew = w88 at HO_11 HO_12 HO_15 BK204 BK214 HB hx235_0 hx235_1 hx235_2 hHeld ⊢
                    refine pure_ (i := 1) (N := some 148) (v := ?_) (a' := ?_) #[false, true, false, false, false, false, false, false, false, false, false, false] rfl rfl (any_of HT_.out (by kernel_rfl)) (fun _ _ _ h => h) (Or.inl ⟨by rfl, ?_⟩) ?_ ?_
                    rotate_left
                    ·intro w'
                     go_simp
                     with_reducible rfl
                    rotate_left
                    ·simp only [Act.put, List.setIfInBounds_toArray, List.set_cons_zero, List.set_cons_succ, i64_w, i32_w]
                     rfl
                    refine pure_ (i := 2) (N := some 149) (v := ?_) (a' := ?_) #[false, true, true, false, false, false, false, false, false, false, false, false] rfl rfl (any_of HT_.out (by kernel_rfl)) (fun _ _ _ h => h) (Or.inl ⟨by rfl, ?_⟩) ?_ ?_
                    rotate_left
                    ·intro w'
                     go_simp
                     with_reducible rfl
                    rotate_left
                    ·simp only [Act.put, List.setIfInBounds_toArray, List.set_cons_zero, List.set_cons_succ, i64_w, i32_w]
                     rfl
                    refine pure_ (i := 3) (N := some 150) (v := ?_) (a' := ?_) #[false, true, true, true, false, false, false, false, false, false, false, false] rfl rfl (any_of HT_.out (by kernel_rfl)) (fun _ _ _ h => h) (Or.inl ⟨by rfl, ?_⟩) ?_ ?_
                    rotate_left
                    ·intro w'
                     go_simp
                     with_reducible rfl
                    rotate_left
                    ·simp only [Act.put, List.setIfInBounds_toArray, List.set_cons_zero, List.set_cons_succ, i64_w, i32_w]
                     rfl
                    refine take_ (i := 0) (N := some 147) (v := ?_) (a' := ?_) #[true, true, true, true, false, false, false, false, false, false, false, false] rfl rfl (take_ofW HT_.out HW_.out (by kernel_rfl)) (fun _ _ _ h => h) (Or.inl ⟨by rfl, ?_⟩) hHeld ?_ ?_
                    rotate_left
                    ·rintro w' ⟨s0, s1, s2, s3, s4⟩
                     go_simp
                     with_reducible rfl
                    rotate_left
                    ·simp only [Act.put, List.setIfInBounds_toArray, List.set_cons_zero, List.set_cons_succ, i64_w, i32_w]
                     rfl
                    refine take_ (i := 4) (N := some 151) (v := ?_) (a' := ?_) #[true, true, true, true, true, false, false, false, false, false, false, false] rfl rfl (take_ofW HT_.out HW_.out (by kernel_rfl)) (fun _ _ _ h => h) (Or.inl ⟨by rfl, ?_⟩) hHeld ?_ ?_
                    rotate_left
                    ·rintro w' ⟨s0, s1, s2, s3, s4⟩
                     go_simp
                     with_reducible rfl
                    rotate_left
                    ·simp only [Act.put, List.setIfInBounds_toArray, List.set_cons_zero, List.set_cons_succ, i64_w, i32_w]
                     rfl
                    refine join_ (σ := Nat) 2 #[true, true, true, true, true, true, true, true, true, true, false, false] (fun s_ => [(152, .tuple #[.agg #[.int .i64 t236, .int .i64 t237, .int .u64 t238, .int .u64 t239], .bool true]), (24, .pointer (some ⟨s_, 0, none⟩)), (146, .tuple #[.agg #[.int .i64 t236, .int .i64 t237, .int .u64 t238, .int .u64 t239], .bool true]), (153, .agg #[.int .i64 t236, .int .i64 t237, .int .u64 t238, .int .u64 t239]), (154, .bool true)]) (fun s_ w' => (w'.cell? ⟨gb204, 0, none⟩ = some (.int .i64 1) ∧ w'.cell? ⟨gb204, 1, none⟩ = some (.int .i64 (wrap64 (1 + (Int.tmod (wrap64 (a0)) 4)))) ∧ w'.cell? (ad235.add (((ji79)).toNat * 3)) = some (.int .i64 ((rd_T54 x12_4 (ji79)).f0)) ∧ w'.cell? ⟨(ad235.add (((ji79)).toNat * 3)).block, (ad235.add (((ji79)).toNat * 3)).off + 1, none⟩ = some (.int .u64 ((rd_T54 x12_4 (ji79)).f1)) ∧ w'.cell? ⟨(ad235.add (((ji79)).toNat * 3)).block, (ad235.add (((ji79)).toNat * 3)).off + 2, none⟩ = some (.int .u64 ((rd_T54 x12_4 (ji79)).f2))) ∧ (Kd.V (Kd.int .u64) 23 w' w.heap.size (fun k_ => some k_ ≠ (.slice (some ad235) x12_4.length co89 : Value).ownBlock ∧ some k_ ≠ (u15 : Value).ownBlock ∧ k_ ≠ gb204 ∧ k_ ≠ gb214 ∧ k_ ≠ s_) u11 x11_4) ∧ (Kd.R k54 54 w' w.heap.size (fun _ => True) (.slice (some ad235) x12_4.length co89) x12_4) ∧ (Kd.R (Kd.int .u64) 23 w' w.heap.size (fun _ => True) u15 x15_4) ∧ (w'.heap[gb204]? = some (.cells #[.int .i64 1, .int .i64 (wrap64 (1 + (Int.tmod (wrap64 (a0)) 4)))] 38 (0, 0))) ∧ (w'.heap[gb214]? = some (.cells #[.int .i64 x215000_4, .int .u64 x215001_4, .int .u64 x215002_4] 56 (0, 0))) ∧ (w'.heap[s_]? = some (.cells #[.int .i64 0, .int .i64 0, .int .u64 0, .int .u64 0] 25 (0, 0))) ∧ (w.heap.size ≤ s_) ∧ (w.heap.size ≤ s_) ∧ (gb204 ≠ s_) ∧ (s_ ≠ gb204) ∧ (gb214 ≠ s_) ∧ (s_ ≠ gb214) ∧ (Below w.heap.size w w')) ?_ ?_
                    rotate_left
                    ·intro hCont
                     refine two_ (i := 5) (j := 9) (Ni := some 152) (Nj := some 24) #[true, true, true, true, true, true, false, false, false, false, false, false] #[true, true, true, true, true, false, false, false, false, true, false, false] rfl rfl rfl rfl (two_of HT_.out (by kernel_rfl)) (by decide) (by decide) (fun K hK => ?_) (fun K hK => ?_)
                     ·skip
                      refine goes_ Try.func47 (by kernel_rfl) rfl #[.agg #[.int .i64 1, .int .i64 (wrap64 (1 + (Int.tmod (wrap64 (a0)) 4)))], .agg #[.int .i64 ((rd_T54 x12_4 (ji79)).f0), .int .u64 ((rd_T54 x12_4 (ji79)).f1), .int .u64 ((rd_T54 x12_4 (ji79)).f2)]] (by rfl) rfl rfl (by (try simp only [List.map_toArray, List.map_cons, List.map_nil]); first | done | (simp only [hji79]; rfl) | rfl | (simp only [List.length_drop, List.length_take]; rfl)) ?_
                      with_reducible refine (queue_Want.calls 1 (wrap64 (1 + (Int.tmod (wrap64 (a0)) 4))) ((rd_T54 x12_4 (ji79)).f0) ((rd_T54 x12_4 (ji79)).f1) ((rd_T54 x12_4 (ji79)).f2) t236 t237 t238 t239 true _ A82.out).mono ?_
                      rintro e w90 ⟨rfl, hb⟩
                      have HS2_ := (hb.cell (World.block_lt_of_cell? _ _ (hHeld.2.2.1))).trans (hHeld.2.2.1)
                      have HS3_ := (hb.cell (World.block_lt_of_cell? _ _ (hHeld.2.2.2.1))).trans (hHeld.2.2.2.1)
                      have HS4_ := (hb.cell (World.block_lt_of_cell? _ _ (hHeld.2.2.2.2))).trans (hHeld.2.2.2.2)
                      refine ⟨_, rfl, ?_⟩
                      have n0_ := aA (Kd.V_below (vlu HO_11.out) hb)
                      have n1_ := aA (Kd.R_below (rlu HO_12.out) hb)
                      have n2_ := aA (Kd.R_below (rlu HO_15.out) hb)
                      have n3_ := aA (blk_below (g := gb204) (o := .cells #[.int .i64 1, .int .i64 (wrap64 (1 + (Int.tmod (wrap64 (a0)) 4)))] 38 (0, 0)) (bku BK204.out) hb)
                      have n4_ := aA (blk_below (g := gb214) (o := .cells #[.int .i64 x215000_4, .int .u64 x215001_4, .int .u64 x215002_4] 56 (0, 0)) (bku BK214.out) hb)
                      have n5_ := aA (below_step (bls HB.out) hb)
                      clear HO_11
                      clear HO_12
                      clear HO_15
                      clear BK204
                      clear BK214
                      clear HB
                      have HO_11 := n0_
                      have HO_12 := n1_
                      have HO_15 := n2_
                      have BK204 := n3_
                      have BK214 := n4_
                      have HB := n5_
                      clear n0_ n1_ n2_ n3_ n4_ n5_
                      (try clear hb)
                      (try clear hb2)
                      (try clear hk)
                      (try clear hi)
                      refine hK.out _ _ ⟨(blk_cell BK204.out 0).trans rfl, (blk_cell BK204.out 1).trans rfl, HS2_, HS3_, HS4_⟩ (fun hHeld => ?_)
                      clear hK K
                      refine norm_ (a' := ?_) ?_ ?_
                      rotate_left
                      ·show Act.put _ (some 152) _ = _
                       simp only [Act.put, List.setIfInBounds_toArray, List.set_cons_zero, List.set_cons_succ, i64_w, i32_w]
                       rfl
                      refine pure_ (i := 6) (N := some 146) (v := ?_) (a' := ?_) #[true, true, true, true, true, true, true, false, false, false, false, false] rfl rfl (any_of HT_.out (by kernel_rfl)) (fun _ _ _ h => h) (Or.inl ⟨by rfl, ?_⟩) ?_ ?_
                      rotate_left
                      ·intro w'
                       go_simp
                       with_reducible rfl
                      rotate_left
                      ·simp only [Act.put, List.setIfInBounds_toArray, List.set_cons_zero, List.set_cons_succ, i64_w, i32_w]
                       rfl
                      refine pure_ (i := 7) (N := some 153) (v := ?_) (a' := ?_) #[true, true, true, true, true, true, true, true, false, false, false, false] rfl rfl (any_of HT_.out (by kernel_rfl)) (fun _ _ _ h => h) (Or.inl ⟨by rfl, ?_⟩) ?_ ?_
                      rotate_left
                      ·intro w'
                       go_simp
                       with_reducible rfl
                      rotate_left
                      ·simp only [Act.put, List.setIfInBounds_toArray, List.set_cons_zero, List.set_cons_succ, i64_w, i32_w]
                       rfl
                      refine pure_ (i := 8) (N := some 154) (v := ?_) (a' := ?_) #[true, true, true, true, true, true, true, true, true, false, false, false] rfl rfl (any_of HT_.out (by kernel_rfl)) (fun _ _ _ h => h) (Or.inl ⟨by rfl, ?_⟩) ?_ ?_
                      rotate_left
                      ·intro w'
                       go_simp
                       with_reducible rfl
                      rotate_left
                      ·simp only [Act.put, List.setIfInBounds_toArray, List.set_cons_zero, List.set_cons_succ, i64_w, i32_w]
                       rfl
                      refine one_ (i := 9) (N := some 24) #[true, true, true, true, true, true, true, true, true, true, false, false] rfl rfl (one_of HT_.out (by kernel_rfl)) (by decide) (fun K hK => ?_)
                      refine box_step ?hg (N := 24) ?hd (cs := #[.int .i64 0, .int .i64 0, .int .u64 0, .int .u64 0]) (t := 25) ?hr ?_; (case hd => rfl); (case hg => rfl); (case hr => first | (go_simp; done) | (go_simp; rfl))
                      intro gb241 hg w91 hbox hb
                      have HS2_ := (hb.cell (World.block_lt_of_cell? _ _ (hHeld.2.2.1))).trans (hHeld.2.2.1)
                      have HS3_ := (hb.cell (World.block_lt_of_cell? _ _ (hHeld.2.2.2.1))).trans (hHeld.2.2.2.1)
                      have HS4_ := (hb.cell (World.block_lt_of_cell? _ _ (hHeld.2.2.2.2))).trans (hHeld.2.2.2.2)
                      have n0_ := aA (Kd.V_below (Kd.V_elderB (vlu HO_11.out) gb241 (Nat.le_of_eq hg.symm)) hb)
                      have n1_ := aA (Kd.R_below (rlu HO_12.out) hb)
                      have n2_ := aA (Kd.R_below (rlu HO_15.out) hb)
                      have n3_ := aA (blk_below (g := gb204) (o := .cells #[.int .i64 1, .int .i64 (wrap64 (1 + (Int.tmod (wrap64 (a0)) 4)))] 38 (0, 0)) (bku BK204.out) hb)
                      have n4_ := aA (blk_below (g := gb214) (o := .cells #[.int .i64 x215000_4, .int .u64 x215001_4, .int .u64 x215002_4] 56 (0, 0)) (bku BK214.out) hb)
                      have n5_ := aA (below_step (bls HB.out) hb)
                      have n6_ := aA (hbox)
                      have n7_ := aA ((by rw [hg]; exact (below_size (bls HB.out)) : w.heap.size ≤ gb241))
                      have n8_ := aA ((by rw [hg]; exact (below_size (bls HB.out)) : w.heap.size ≤ gb241))
                      have n9_ := aA ((by rw [hg]; exact Nat.ne_of_lt (blk_lt (g := gb204) (o := .cells #[.int .i64 1, .int .i64 (wrap64 (1 + (Int.tmod (wrap64 (a0)) 4)))] 38 (0, 0)) (bku BK204.out)) : gb204 ≠ gb241))
                      have n10_ := aA ((by rw [hg]; exact Nat.ne_of_gt (blk_lt (g := gb204) (o := .cells #[.int .i64 1, .int .i64 (wrap64 (1 + (Int.tmod (wrap64 (a0)) 4)))] 38 (0, 0)) (bku BK204.out)) : gb241 ≠ gb204))
                      have n11_ := aA ((by rw [hg]; exact Nat.ne_of_lt (blk_lt (g := gb214) (o := .cells #[.int .i64 x215000_4, .int .u64 x215001_4, .int .u64 x215002_4] 56 (0, 0)) (bku BK214.out)) : gb214 ≠ gb241))
                      have n12_ := aA ((by rw [hg]; exact Nat.ne_of_gt (blk_lt (g := gb214) (o := .cells #[.int .i64 x215000_4, .int .u64 x215001_4, .int .u64 x215002_4] 56 (0, 0)) (bku BK214.out)) : gb241 ≠ gb214))
                      clear HO_11
                      clear HO_12
                      clear HO_15
                      clear BK204
                      clear BK214
                      clear HB
                      have HO_11 := n0_
                      have HO_12 := n1_
                      have HO_15 := n2_
                      have BK204 := n3_
                      have BK214 := n4_
                      have HB := n5_
                      have BK241 := n6_
                      have GW241 := n7_
                      have GE241 := n8_
                      have NB204_241 := n9_
                      have NB241_204 := n10_
                      have NB214_241 := n11_
                      have NB241_214 := n12_
                      clear n0_ n1_ n2_ n3_ n4_ n5_ n6_ n7_ n8_ n9_ n10_ n11_ n12_
                      clear hb hbox hg
                      refine hK.out _ _ ⟨(blk_cell BK204.out 0).trans rfl, (blk_cell BK204.out 1).trans rfl, HS2_, HS3_, HS4_⟩ (fun hHeld => ?_)
                      clear hK K
                      refine norm_ (a' := ?_) ?_ ?_
                      rotate_left
                      ·show Act.put _ (some 24) _ = _
                       simp only [Act.put, List.setIfInBounds_toArray, List.set_cons_zero, List.set_cons_succ, i64_w, i32_w]
                       rfl
                      exact norm_ (by simp only [putAll, Act.put, List.setIfInBounds_toArray, List.set_cons_zero, List.set_cons_succ]) (hCont (gb241) _ ⟨hHeld, (vlu (Kd.V_mono HO_11.out (fun _ hk => ⟨hk.1.1, ⟨hk.1.2.1, ⟨hk.1.2.2.1, ⟨hk.1.2.2.2, hk.2⟩⟩⟩⟩))), (rlu HO_12.out), (rlu HO_15.out), (bku BK204.out), (bku BK214.out), (bku BK241.out), GW241.out, GE241.out, NB204_241.out, NB241_204.out, NB214_241.out, NB241_214.out, (bls HB.out)⟩)
                     ·skip
                      refine box_step ?hg (N := 24) ?hd (cs := #[.int .i64 0, .int .i64 0, .int .u64 0, .int .u64 0]) (t := 25) ?hr ?_; (case hd => rfl); (case hg => rfl); (case hr => first | (go_simp; done) | (go_simp; rfl))
                      intro gb241 hg w90 hbox hb
                      have HS2_ := (hb.cell (World.block_lt_of_cell? _ _ (hHeld.2.2.1))).trans (hHeld.2.2.1)
                      have HS3_ := (hb.cell (World.block_lt_of_cell? _ _ (hHeld.2.2.2.1))).trans (hHeld.2.2.2.1)
                      have HS4_ := (hb.cell (World.block_lt_of_cell? _ _ (hHeld.2.2.2.2))).trans (hHeld.2.2.2.2)
                      have n0_ := aA (Kd.V_below (Kd.V_elderB (vlu HO_11.out) gb241 (Nat.le_of_eq hg.symm)) hb)
                      have n1_ := aA (Kd.R_below (rlu HO_12.out) hb)
                      have n2_ := aA (Kd.R_below (rlu HO_15.out) hb)
                      have n3_ := aA (blk_below (g := gb204) (o := .cells #[.int .i64 1, .int .i64 (wrap64 (1 + (Int.tmod (wrap64 (a0)) 4)))] 38 (0, 0)) (bku BK204.out) hb)
                      have n4_ := aA (blk_below (g := gb214) (o := .cells #[.int .i64 x215000_4, .int .u64 x215001_4, .int .u64 x215002_4] 56 (0, 0)) (bku BK214.out) hb)
                      have n5_ := aA (below_step (bls HB.out) hb)
                      have n6_ := aA (hbox)
                      have n7_ := aA ((by rw [hg]; exact (below_size (bls HB.out)) : w.heap.size ≤ gb241))
                      have n8_ := aA ((by rw [hg]; exact (below_size (bls HB.out)) : w.heap.size ≤ gb241))
                      have n9_ := aA ((by rw [hg]; exact Nat.ne_of_lt (blk_lt (g := gb204) (o := .cells #[.int .i64 1, .int .i64 (wrap64 (1 + (Int.tmod (wrap64 (a0)) 4)))] 38 (0, 0)) (bku BK204.out)) : gb204 ≠ gb241))
                      have n10_ := aA ((by rw [hg]; exact Nat.ne_of_gt (blk_lt (g := gb204) (o := .cells #[.int .i64 1, .int .i64 (wrap64 (1 + (Int.tmod (wrap64 (a0)) 4)))] 38 (0, 0)) (bku BK204.out)) : gb241 ≠ gb204))
                      have n11_ := aA ((by rw [hg]; exact Nat.ne_of_lt (blk_lt (g := gb214) (o := .cells #[.int .i64 x215000_4, .int .u64 x215001_4, .int .u64 x215002_4] 56 (0, 0)) (bku BK214.out)) : gb214 ≠ gb241))
                      have n12_ := aA ((by rw [hg]; exact Nat.ne_of_gt (blk_lt (g := gb214) (o := .cells #[.int .i64 x215000_4, .int .u64 x215001_4, .int .u64 x215002_4] 56 (0, 0)) (bku BK214.out)) : gb241 ≠ gb214))
                      clear HO_11
                      clear HO_12
                      clear HO_15
                      clear BK204
                      clear BK214
                      clear HB
                      have HO_11 := n0_
                      have HO_12 := n1_
                      have HO_15 := n2_
                      have BK204 := n3_
                      have BK214 := n4_
                      have HB := n5_
                      have BK241 := n6_
                      have GW241 := n7_
                      have GE241 := n8_
                      have NB204_241 := n9_
                      have NB241_204 := n10_
                      have NB214_241 := n11_
                      have NB241_214 := n12_
                      clear n0_ n1_ n2_ n3_ n4_ n5_ n6_ n7_ n8_ n9_ n10_ n11_ n12_
                      clear hb hbox hg
                      refine hK.out _ _ ⟨(blk_cell BK204.out 0).trans rfl, (blk_cell BK204.out 1).trans rfl, HS2_, HS3_, HS4_⟩ (fun hHeld => ?_)
                      clear hK K
                      refine norm_ (a' := ?_) ?_ ?_
                      rotate_left
                      ·show Act.put _ (some 24) _ = _
                       simp only [Act.put, List.setIfInBounds_toArray, List.set_cons_zero, List.set_cons_succ, i64_w, i32_w]
                       rfl
                      refine one_ (i := 5) (N := some 152) #[true, true, true, true, true, true, false, false, false, true, false, false] rfl rfl (one_of HT_.out (by kernel_rfl)) (by decide) (fun K hK => ?_)
                      refine goes_ Try.func47 (by kernel_rfl) rfl #[.agg #[.int .i64 1, .int .i64 (wrap64 (1 + (Int.tmod (wrap64 (a0)) 4)))], .agg #[.int .i64 ((rd_T54 x12_4 (ji79)).f0), .int .u64 ((rd_T54 x12_4 (ji79)).f1), .int .u64 ((rd_T54 x12_4 (ji79)).f2)]] (by rfl) rfl rfl (by (try simp only [List.map_toArray, List.map_cons, List.map_nil]); first | done | (simp only [hji79]; rfl) | rfl | (simp only [List.length_drop, List.length_take]; rfl)) ?_
                      with_reducible refine (queue_Want.calls 1 (wrap64 (1 + (Int.tmod (wrap64 (a0)) 4))) ((rd_T54 x12_4 (ji79)).f0) ((rd_T54 x12_4 (ji79)).f1) ((rd_T54 x12_4 (ji79)).f2) t236 t237 t238 t239 true _ A82.out).mono ?_
                      rintro e w91 ⟨rfl, hb⟩
                      have HS2_ := (hb.cell (World.block_lt_of_cell? _ _ (hHeld.2.2.1))).trans (hHeld.2.2.1)
                      have HS3_ := (hb.cell (World.block_lt_of_cell? _ _ (hHeld.2.2.2.1))).trans (hHeld.2.2.2.1)
                      have HS4_ := (hb.cell (World.block_lt_of_cell? _ _ (hHeld.2.2.2.2))).trans (hHeld.2.2.2.2)
                      refine ⟨_, rfl, ?_⟩
                      have n0_ := aA (Kd.V_below (vlu HO_11.out) hb)
                      have n1_ := aA (Kd.R_below (rlu HO_12.out) hb)
                      have n2_ := aA (Kd.R_below (rlu HO_15.out) hb)
                      have n3_ := aA (blk_below (g := gb204) (o := .cells #[.int .i64 1, .int .i64 (wrap64 (1 + (Int.tmod (wrap64 (a0)) 4)))] 38 (0, 0)) (bku BK204.out) hb)
                      have n4_ := aA (blk_below (g := gb214) (o := .cells #[.int .i64 x215000_4, .int .u64 x215001_4, .int .u64 x215002_4] 56 (0, 0)) (bku BK214.out) hb)
                      have n5_ := aA (blk_below (g := gb241) (o := .cells #[.int .i64 0, .int .i64 0, .int .u64 0, .int .u64 0] 25 (0, 0)) (bku BK241.out) hb)
                      have n6_ := aA (below_step (bls HB.out) hb)
                      clear HO_11
                      clear HO_12
                      clear HO_15
                      clear BK204
                      clear BK214
                      clear BK241
                      clear HB
                      have HO_11 := n0_
                      have HO_12 := n1_
                      have HO_15 := n2_
                      have BK204 := n3_
                      have BK214 := n4_
                      have BK241 := n5_
                      have HB := n6_
                      clear n0_ n1_ n2_ n3_ n4_ n5_ n6_
                      (try clear hb)
                      (try clear hb2)
                      (try clear hk)
                      (try clear hi)
                      refine hK.out _ _ ⟨(blk_cell BK204.out 0).trans rfl, (blk_cell BK204.out 1).trans rfl, HS2_, HS3_, HS4_⟩ (fun hHeld => ?_)
                      clear hK K
                      refine norm_ (a' := ?_) ?_ ?_
                      rotate_left
                      ·show Act.put _ (some 152) _ = _
                       simp only [Act.put, List.setIfInBounds_toArray, List.set_cons_zero, List.set_cons_succ, i64_w, i32_w]
                       rfl
                      refine pure_ (i := 6) (N := some 146) (v := ?_) (a' := ?_) #[true, true, true, true, true, true, true, false, false, true, false, false] rfl rfl (any_of HT_.out (by kernel_rfl)) (fun _ _ _ h => h) (Or.inl ⟨by rfl, ?_⟩) ?_ ?_
                      rotate_left
                      ·intro w'
                       go_simp
                       with_reducible rfl
                      rotate_left
                      ·simp only [Act.put, List.setIfInBounds_toArray, List.set_cons_zero, List.set_cons_succ, i64_w, i32_w]
                       rfl
                      refine pure_ (i := 7) (N := some 153) (v := ?_) (a' := ?_) #[true, true, true, true, true, true, true, true, false, true, false, false] rfl rfl (any_of HT_.out (by kernel_rfl)) (fun _ _ _ h => h) (Or.inl ⟨by rfl, ?_⟩) ?_ ?_
                      rotate_left
                      ·intro w'
                       go_simp
                       with_reducible rfl
                      rotate_left
                      ·simp only [Act.put, List.setIfInBounds_toArray, List.set_cons_zero, List.set_cons_succ, i64_w, i32_w]
                       rfl
                      refine pure_ (i := 8) (N := some 154) (v := ?_) (a' := ?_) #[true, true, true, true, true, true, true, true, true, true, false, false] rfl rfl (any_of HT_.out (by kernel_rfl)) (fun _ _ _ h => h) (Or.inl ⟨by rfl, ?_⟩) ?_ ?_
                      rotate_left
                      ·intro w'
                       go_simp
                       with_reducible rfl
                      rotate_left
                      ·simp only [Act.put, List.setIfInBounds_toArray, List.set_cons_zero, List.set_cons_succ, i64_w, i32_w]
                       rfl
                      exact norm_ (by simp only [putAll, Act.put, List.setIfInBounds_toArray, List.set_cons_zero, List.set_cons_succ]) (hCont (gb241) _ ⟨hHeld, (vlu (Kd.V_mono HO_11.out (fun _ hk => ⟨hk.1.1, ⟨hk.1.2.1, ⟨hk.1.2.2.1, ⟨hk.1.2.2.2, hk.2⟩⟩⟩⟩))), (rlu HO_12.out), (rlu HO_15.out), (bku BK204.out), (bku BK214.out), (bku BK241.out), GW241.out, GE241.out, NB204_241.out, NB241_204.out, NB214_241.out, NB241_214.out, (bls HB.out)⟩)
                    rintro gb241 w92 ⟨hS_, h0_, h1_, h2_, h3_, h4_, h5_, h6_, h7_, h8_, h9_, h10_, h11_, h12_⟩
                    have n0_ : Aside0 (Kd.V (Kd.int .u64) 23 w92 w.heap.size (fun k_ => some k_ ≠ (.slice (some ad235) x12_4.length co89 : Value).ownBlock ∧ some k_ ≠ (u15 : Value).ownBlock ∧ k_ ≠ gb204 ∧ k_ ≠ gb214 ∧ k_ ≠ gb241) u11 x11_4) := ⟨h0_⟩
                    have n1_ : Aside0 (Kd.R k54 54 w92 w.heap.size (fun _ => True) (.slice (some ad235) x12_4.length co89) x12_4) := ⟨h1_⟩
                    have n2_ : Aside0 (Kd.R (Kd.int .u64) 23 w92 w.heap.size (fun _ => True) u15 x15_4) := ⟨h2_⟩
                    have n3_ : Aside0 (w92.heap[gb204]? = some (.cells #[.int .i64 1, .int .i64 (wrap64 (1 + (Int.tmod (wrap64 (a0)) 4)))] 38 (0, 0))) := ⟨h3_⟩
                    have n4_ : Aside0 (w92.heap[gb214]? = some (.cells #[.int .i64 x215000_4, .int .u64 x215001_4, .int .u64 x215002_4] 56 (0, 0))) := ⟨h4_⟩
                    have n5_ : Aside0 (w92.heap[gb241]? = some (.cells #[.int .i64 0, .int .i64 0, .int .u64 0, .int .u64 0] 25 (0, 0))) := ⟨h5_⟩
                    have n6_ : Aside0 (w.heap.size ≤ gb241) := ⟨h6_⟩
                    have n7_ : Aside0 (w.heap.size ≤ gb241) := ⟨h7_⟩
                    have n8_ : Aside0 (gb204 ≠ gb241) := ⟨h8_⟩
                    have n9_ : Aside0 (gb241 ≠ gb204) := ⟨h9_⟩
                    have n10_ : Aside0 (gb214 ≠ gb241) := ⟨h10_⟩
                    have n11_ : Aside0 (gb241 ≠ gb214) := ⟨h11_⟩
                    have n12_ : Aside0 (Below w.heap.size w w92) := ⟨h12_⟩
                    clear HO_11
                    clear HO_12
                    clear HO_15
                    clear BK204
                    clear BK214
                    clear HB
                    clear h0_ h1_ h2_ h3_ h4_ h5_ h6_ h7_ h8_ h9_ h10_ h11_ h12_
                    have HO_11 := n0_
                    have HO_12 := n1_
                    have HO_15 := n2_
                    have BK204 := n3_
                    have BK214 := n4_
                    have BK241 := n5_
                    have GW241 := n6_
                    have GE241 := n7_
                    have NB204_241 := n8_
                    have NB241_204 := n9_
                    have NB214_241 := n10_
                    have NB241_214 := n11_
                    have HB := n12_
                    clear n0_ n1_ n2_ n3_ n4_ n5_ n6_ n7_ n8_ n9_ n10_ n11_ n12_
                    have hHeld : w92.cell? ⟨gb204, 0, none⟩ = some (.int .i64 1) ∧ w92.cell? ⟨gb204, 1, none⟩ = some (.int .i64 (wrap64 (1 + (Int.tmod (wrap64 (a0)) 4)))) ∧ w92.cell? (ad235.add (((ji79)).toNat * 3)) = some (.int .i64 ((rd_T54 x12_4 (ji79)).f0)) ∧ w92.cell? ⟨(ad235.add (((ji79)).toNat * 3)).block, (ad235.add (((ji79)).toNat * 3)).off + 1, none⟩ = some (.int .u64 ((rd_T54 x12_4 (ji79)).f1)) ∧ w92.cell? ⟨(ad235.add (((ji79)).toNat * 3)).block, (ad235.add (((ji79)).toNat * 3)).off + 2, none⟩ = some (.int .u64 ((rd_T54 x12_4 (ji79)).f2)) := hS_
                    refine norm_ (a' := ?_) ?_ ?_
                    rotate_left
                    ·simp only [putAll, Act.put, List.setIfInBounds_toArray, List.set_cons_zero, List.set_cons_succ]
                     rfl
                    refine one_ (i := 10) (N := none) #[true, true, true, true, true, true, true, true, true, true, true, false] rfl rfl (one_of HT_.out (by kernel_rfl)) (by decide) (fun K hK => ?_)
                    have hs93 : w92.cell? ⟨gb241, 0, none⟩ = some (.int .i64 0) := (blk_cell BK241.out 0).trans rfl
                    have hfs93 := blk_frozen BK241.out 0
                    have hns93_0 := NB204_241.out
                    have hns93_1 := NB214_241.out
                    have hms93_0 := NB241_204.out
                    have hms93_1 := NB241_214.out
                    have hs94 : w92.cell? ⟨gb241, 1, none⟩ = some (.int .i64 0) := (blk_cell BK241.out 1).trans rfl
                    have hfs94 := blk_frozen BK241.out 1
                    have hns94_0 := NB204_241.out
                    have hns94_1 := NB214_241.out
                    have hms94_0 := NB241_204.out
                    have hms94_1 := NB241_214.out
                    have hs95 : w92.cell? ⟨gb241, 2, none⟩ = some (.int .u64 0) := (blk_cell BK241.out 2).trans rfl
                    have hfs95 := blk_frozen BK241.out 2
                    have hns95_0 := NB204_241.out
                    have hns95_1 := NB214_241.out
                    have hms95_0 := NB241_204.out
                    have hms95_1 := NB241_214.out
                    have hs96 : w92.cell? ⟨gb241, 3, none⟩ = some (.int .u64 0) := (blk_cell BK241.out 3).trans rfl
                    have hfs96 := blk_frozen BK241.out 3
                    have hns96_0 := NB204_241.out
                    have hns96_1 := NB214_241.out
                    have hms96_0 := NB241_204.out
                    have hms96_1 := NB241_214.out
                    refine skip_ (w1 := ?_) (by rfl) rfl ?_ ?_
                    rotate_left
                    ·go_simp
                     rfl
                    refine hK.out _ _ ⟨((cell_far (p := ⟨gb241, _, none⟩) NB204_241.out _).trans (((cell_far (p := ⟨gb241, _, none⟩) NB204_241.out _).trans (((cell_far (p := ⟨gb241, _, none⟩) NB204_241.out _).trans (((cell_far (p := ⟨gb241, _, none⟩) NB204_241.out _).trans (hHeld.1)))))))), ((cell_far (p := ⟨gb241, _, none⟩) NB204_241.out _).trans (((cell_far (p := ⟨gb241, _, none⟩) NB204_241.out _).trans (((cell_far (p := ⟨gb241, _, none⟩) NB204_241.out _).trans (((cell_far (p := ⟨gb241, _, none⟩) NB204_241.out _).trans (hHeld.2.1)))))))), ((cell_far (p := ⟨gb241, _, none⟩) (by first | exact Kd.own_blk (Kd.R_ne HO_12.out BK241.out (by decide)) | (rw [add_block]; exact Kd.own_blk (Kd.R_ne HO_12.out BK241.out (by decide))) | (show (Addr.add _ _).block ≠ _; rw [add_block]; exact Kd.own_blk (Kd.R_ne HO_12.out BK241.out (by decide))) | (dsimp only; exact Kd.own_blk (Kd.R_ne HO_12.out BK241.out (by decide)))) _).trans (((cell_far (p := ⟨gb241, _, none⟩) (by first | exact Kd.own_blk (Kd.R_ne HO_12.out BK241.out (by decide)) | (rw [add_block]; exact Kd.own_blk (Kd.R_ne HO_12.out BK241.out (by decide))) | (show (Addr.add _ _).block ≠ _; rw [add_block]; exact Kd.own_blk (Kd.R_ne HO_12.out BK241.out (by decide))) | (dsimp only; exact Kd.own_blk (Kd.R_ne HO_12.out BK241.out (by decide)))) _).trans (((cell_far (p := ⟨gb241, _, none⟩) (by first | exact Kd.own_blk (Kd.R_ne HO_12.out BK241.out (by decide)) | (rw [add_block]; exact Kd.own_blk (Kd.R_ne HO_12.out BK241.out (by decide))) | (show (Addr.add _ _).block ≠ _; rw [add_block]; exact Kd.own_blk (Kd.R_ne HO_12.out BK241.out (by decide))) | (dsimp only; exact Kd.own_blk (Kd.R_ne HO_12.out BK241.out (by decide)))) _).trans (((cell_far (p := ⟨gb241, _, none⟩) (by first | exact Kd.own_blk (Kd.R_ne HO_12.out BK241.out (by decide)) | (rw [add_block]; exact Kd.own_blk (Kd.R_ne HO_12.out BK241.out (by decide))) | (show (Addr.add _ _).block ≠ _; rw [add_block]; exact Kd.own_blk (Kd.R_ne HO_12.out BK241.out (by decide))) | (dsimp only; exact Kd.own_blk (Kd.R_ne HO_12.out BK241.out (by decide)))) _).trans (hHeld.2.2.1)))))))), ((cell_far (p := ⟨gb241, _, none⟩) (by first | exact Kd.own_blk (Kd.R_ne HO_12.out BK241.out (by decide)) | (rw [add_block]; exact Kd.own_blk (Kd.R_ne HO_12.out BK241.out (by decide))) | (show (Addr.add _ _).block ≠ _; rw [add_block]; exact Kd.own_blk (Kd.R_ne HO_12.out BK241.out (by decide))) | (dsimp only; exact Kd.own_blk (Kd.R_ne HO_12.out BK241.out (by decide)))) _).trans (((cell_far (p := ⟨gb241, _, none⟩) (by first | exact Kd.own_blk (Kd.R_ne HO_12.out BK241.out (by decide)) | (rw [add_block]; exact Kd.own_blk (Kd.R_ne HO_12.out BK241.out (by decide))) | (show (Addr.add _ _).block ≠ _; rw [add_block]; exact Kd.own_blk (Kd.R_ne HO_12.out BK241.out (by decide))) | (dsimp only; exact Kd.own_blk (Kd.R_ne HO_12.out BK241.out (by decide)))) _).trans (((cell_far (p := ⟨gb241, _, none⟩) (by first | exact Kd.own_blk (Kd.R_ne HO_12.out BK241.out (by decide)) | (rw [add_block]; exact Kd.own_blk (Kd.R_ne HO_12.out BK241.out (by decide))) | (show (Addr.add _ _).block ≠ _; rw [add_block]; exact Kd.own_blk (Kd.R_ne HO_12.out BK241.out (by decide))) | (dsimp only; exact Kd.own_blk (Kd.R_ne HO_12.out BK241.out (by decide)))) _).trans (((cell_far (p := ⟨gb241, _, none⟩) (by first | exact Kd.own_blk (Kd.R_ne HO_12.out BK241.out (by decide)) | (rw [add_block]; exact Kd.own_blk (Kd.R_ne HO_12.out BK241.out (by decide))) | (show (Addr.add _ _).block ≠ _; rw [add_block]; exact Kd.own_blk (Kd.R_ne HO_12.out BK241.out (by decide))) | (dsimp only; exact Kd.own_blk (Kd.R_ne HO_12.out BK241.out (by decide)))) _).trans (hHeld.2.2.2.1)))))))), ((cell_far (p := ⟨gb241, _, none⟩) (by first | exact Kd.own_blk (Kd.R_ne HO_12.out BK241.out (by decide)) | (rw [add_block]; exact Kd.own_blk (Kd.R_ne HO_12.out BK241.out (by decide))) | (show (Addr.add _ _).block ≠ _; rw [add_block]; exact Kd.own_blk (Kd.R_ne HO_12.out BK241.out (by decide))) | (dsimp only; exact Kd.own_blk (Kd.R_ne HO_12.out BK241.out (by decide)))) _).trans (((cell_far (p := ⟨gb241, _, none⟩) (by first | exact Kd.own_blk (Kd.R_ne HO_12.out BK241.out (by decide)) | (rw [add_block]; exact Kd.own_blk (Kd.R_ne HO_12.out BK241.out (by decide))) | (show (Addr.add _ _).block ≠ _; rw [add_block]; exact Kd.own_blk (Kd.R_ne HO_12.out BK241.out (by decide))) | (dsimp only; exact Kd.own_blk (Kd.R_ne HO_12.out BK241.out (by decide)))) _).trans (((cell_far (p := ⟨gb241, _, none⟩) (by first | exact Kd.own_blk (Kd.R_ne HO_12.out BK241.out (by decide)) | (rw [add_block]; exact Kd.own_blk (Kd.R_ne HO_12.out BK241.out (by decide))) | (show (Addr.add _ _).block ≠ _; rw [add_block]; exact Kd.own_blk (Kd.R_ne HO_12.out BK241.out (by decide))) | (dsimp only; exact Kd.own_blk (Kd.R_ne HO_12.out BK241.out (by decide)))) _).trans (((cell_far (p := ⟨gb241, _, none⟩) (by first | exact Kd.own_blk (Kd.R_ne HO_12.out BK241.out (by decide)) | (rw [add_block]; exact Kd.own_blk (Kd.R_ne HO_12.out BK241.out (by decide))) | (show (Addr.add _ _).block ≠ _; rw [add_block]; exact Kd.own_blk (Kd.R_ne HO_12.out BK241.out (by decide))) | (dsimp only; exact Kd.own_blk (Kd.R_ne HO_12.out BK241.out (by decide)))) _).trans (hHeld.2.2.2.2))))))))⟩ (fun hHeld => ?_)
                    clear hK K
                    refine pure_ (i := 11) (N := some 25) (v := ?_) (a' := ?_) #[true, true, true, true, true, true, true, true, true, true, true, true] rfl rfl (any_of HT_.out (by kernel_rfl)) (fun _ _ _ h => h) (Or.inl ⟨by rfl, ?_⟩) ?_ ?_
                    rotate_left
                    ·intro w'
                     go_simp
                     with_reducible rfl
                    rotate_left
                    ·simp only [Act.put, List.setIfInBounds_toArray, List.set_cons_zero, List.set_cons_succ, i64_w, i32_w]
                     rfl
                    refine done_ (done_of HT_.out (by kernel_rfl)) ?_
                    have n0_ : Aside0 (Kd.V (Kd.int .u64) 23 ((((w92.setCell ⟨gb241, 0, none⟩ (.int .i64 t236)).setCell ⟨gb241, 1, none⟩ (.int .i64 t237)).setCell ⟨gb241, 2, none⟩ (.int .u64 t238)).setCell ⟨gb241, 3, none⟩ (.int .u64 t239)) w.heap.size (fun k_ => some k_ ≠ (.slice (some ad235) x12_4.length co89 : Value).ownBlock ∧ some k_ ≠ (u15 : Value).ownBlock ∧ k_ ≠ gb204 ∧ k_ ≠ gb214 ∧ k_ ≠ gb241) u11 x11_4) := ⟨by (with_reducible repeat (first | apply Kd.V_alloc | apply Kd.V_drewN | apply Kd.V_drew)); exact Kd.V_mono (Kd.V_far (p := ⟨gb241, 3, none⟩) (Kd.V_far (p := ⟨gb241, 2, none⟩) (Kd.V_far (p := ⟨gb241, 1, none⟩) (Kd.V_far (p := ⟨gb241, 0, none⟩) (Kd.V_mono HO_11.out (fun k_ hk => (⟨hk, hk.2.2.2.2⟩ : _ ∧ k_ ≠ gb241))) (fun _ hk => hk.2) (.int .i64 t236)) (fun _ hk => hk.2) (.int .i64 t237)) (fun _ hk => hk.2) (.int .u64 t238)) (fun _ hk => hk.2) (.int .u64 t239)) (fun _ hk => ⟨hk.1.1, ⟨hk.1.2.1, ⟨hk.1.2.2.1, ⟨hk.1.2.2.2.1, hk.1.2.2.2.2⟩⟩⟩⟩)⟩
                    have n1_ : Aside0 (Kd.R k54 54 ((((w92.setCell ⟨gb241, 0, none⟩ (.int .i64 t236)).setCell ⟨gb241, 1, none⟩ (.int .i64 t237)).setCell ⟨gb241, 2, none⟩ (.int .u64 t238)).setCell ⟨gb241, 3, none⟩ (.int .u64 t239)) w.heap.size (fun _ => True) (.slice (some ad235) x12_4.length co89) x12_4) := ⟨by (with_reducible repeat (first | apply Kd.R_alloc | apply Kd.R_drewN | apply Kd.R_drew)); exact Kd.R_mono (Kd.R_far (p := ⟨gb241, 3, none⟩) (Kd.R_far (p := ⟨gb241, 2, none⟩) (Kd.R_far (p := ⟨gb241, 1, none⟩) (Kd.R_far (p := ⟨gb241, 0, none⟩) (Kd.R_types HO_12.out BK241.out (by decide)) (fun _ hk => hk.2) (.int .i64 t236)) (fun _ hk => hk.2) (.int .i64 t237)) (fun _ hk => hk.2) (.int .u64 t238)) (fun _ hk => hk.2) (.int .u64 t239)) (fun _ hk => trivial)⟩
                    have n2_ : Aside0 (Kd.R (Kd.int .u64) 23 ((((w92.setCell ⟨gb241, 0, none⟩ (.int .i64 t236)).setCell ⟨gb241, 1, none⟩ (.int .i64 t237)).setCell ⟨gb241, 2, none⟩ (.int .u64 t238)).setCell ⟨gb241, 3, none⟩ (.int .u64 t239)) w.heap.size (fun _ => True) u15 x15_4) := ⟨by (with_reducible repeat (first | apply Kd.R_alloc | apply Kd.R_drewN | apply Kd.R_drew)); exact Kd.R_mono (Kd.R_far (p := ⟨gb241, 3, none⟩) (Kd.R_far (p := ⟨gb241, 2, none⟩) (Kd.R_far (p := ⟨gb241, 1, none⟩) (Kd.R_far (p := ⟨gb241, 0, none⟩) (Kd.R_types HO_15.out BK241.out (by decide)) (fun _ hk => hk.2) (.int .i64 t236)) (fun _ hk => hk.2) (.int .i64 t237)) (fun _ hk => hk.2) (.int .u64 t238)) (fun _ hk => hk.2) (.int .u64 t239)) (fun _ hk => trivial)⟩
                    have n3_ : Aside0 (((((w92.setCell ⟨gb241, 0, none⟩ (.int .i64 t236)).setCell ⟨gb241, 1, none⟩ (.int .i64 t237)).setCell ⟨gb241, 2, none⟩ (.int .u64 t238)).setCell ⟨gb241, 3, none⟩ (.int .u64 t239)).heap[gb204]? = some (.cells #[.int .i64 1, .int .i64 (wrap64 (1 + (Int.tmod (wrap64 (a0)) 4)))] 38 (0, 0))) := ⟨by (with_reducible repeat (first | refine blk_drewN ?_ _ | refine blk_drew ?_ | refine blk_alloc ?_ _)); refine blk_far ?_ NB204_241.out _; (with_reducible repeat (first | refine blk_drewN ?_ _ | refine blk_drew ?_ | refine blk_alloc ?_ _)); refine blk_far ?_ NB204_241.out _; (with_reducible repeat (first | refine blk_drewN ?_ _ | refine blk_drew ?_ | refine blk_alloc ?_ _)); refine blk_far ?_ NB204_241.out _; (with_reducible repeat (first | refine blk_drewN ?_ _ | refine blk_drew ?_ | refine blk_alloc ?_ _)); refine blk_far ?_ NB204_241.out _; (with_reducible repeat (first | refine blk_drewN ?_ _ | refine blk_drew ?_ | refine blk_alloc ?_ _)); exact BK204.out⟩
                    have n4_ : Aside0 (((((w92.setCell ⟨gb241, 0, none⟩ (.int .i64 t236)).setCell ⟨gb241, 1, none⟩ (.int .i64 t237)).setCell ⟨gb241, 2, none⟩ (.int .u64 t238)).setCell ⟨gb241, 3, none⟩ (.int .u64 t239)).heap[gb214]? = some (.cells #[.int .i64 x215000_4, .int .u64 x215001_4, .int .u64 x215002_4] 56 (0, 0))) := ⟨by (with_reducible repeat (first | refine blk_drewN ?_ _ | refine blk_drew ?_ | refine blk_alloc ?_ _)); refine blk_far ?_ NB214_241.out _; (with_reducible repeat (first | refine blk_drewN ?_ _ | refine blk_drew ?_ | refine blk_alloc ?_ _)); refine blk_far ?_ NB214_241.out _; (with_reducible repeat (first | refine blk_drewN ?_ _ | refine blk_drew ?_ | refine blk_alloc ?_ _)); refine blk_far ?_ NB214_241.out _; (with_reducible repeat (first | refine blk_drewN ?_ _ | refine blk_drew ?_ | refine blk_alloc ?_ _)); refine blk_far ?_ NB214_241.out _; (with_reducible repeat (first | refine blk_drewN ?_ _ | refine blk_drew ?_ | refine blk_alloc ?_ _)); exact BK214.out⟩
                    have n5_ : Aside0 (((((w92.setCell ⟨gb241, 0, none⟩ (.int .i64 t236)).setCell ⟨gb241, 1, none⟩ (.int .i64 t237)).setCell ⟨gb241, 2, none⟩ (.int .u64 t238)).setCell ⟨gb241, 3, none⟩ (.int .u64 t239)).heap[gb241]? = some (.cells #[.int .i64 t236, .int .i64 t237, .int .u64 t238, .int .u64 t239] 25 (0, 0))) := ⟨by (with_reducible repeat (first | refine blk_drewN ?_ _ | refine blk_drew ?_ | refine blk_alloc ?_ _)); refine blk_put (cs := #[.int .i64 t236, .int .i64 t237, .int .u64 t238, .int .u64 0]) ?_ 3 _ rfl; (with_reducible repeat (first | refine blk_drewN ?_ _ | refine blk_drew ?_ | refine blk_alloc ?_ _)); refine blk_put (cs := #[.int .i64 t236, .int .i64 t237, .int .u64 0, .int .u64 0]) ?_ 2 _ rfl; (with_reducible repeat (first | refine blk_drewN ?_ _ | refine blk_drew ?_ | refine blk_alloc ?_ _)); refine blk_put (cs := #[.int .i64 t236, .int .i64 0, .int .u64 0, .int .u64 0]) ?_ 1 _ rfl; (with_reducible repeat (first | refine blk_drewN ?_ _ | refine blk_drew ?_ | refine blk_alloc ?_ _)); refine blk_put (cs := #[.int .i64 0, .int .i64 0, .int .u64 0, .int .u64 0]) ?_ 0 _ rfl; (with_reducible repeat (first | refine blk_drewN ?_ _ | refine blk_drew ?_ | refine blk_alloc ?_ _)); exact BK241.out⟩
                    have n6_ : Aside0 (Below w.heap.size w ((((w92.setCell ⟨gb241, 0, none⟩ (.int .i64 t236)).setCell ⟨gb241, 1, none⟩ (.int .i64 t237)).setCell ⟨gb241, 2, none⟩ (.int .u64 t238)).setCell ⟨gb241, 3, none⟩ (.int .u64 t239))) := ⟨by repeat (first | (with_reducible first | exact HB.out | apply below_alloc | apply pw_below_drewN | apply below_drew1 | refine below_set ?_ GE204.out | refine below_set ?_ GE214.out | refine below_set ?_ GE241.out) | exact HB.out)⟩
                    (try clear HO_11)
                    (try clear HO_12)
                    (try clear HO_15)
                    (try clear BK204)
                    (try clear BK214)
                    (try clear BK241)
                    (try clear HB)
                    generalize ((((w92.setCell ⟨gb241, 0, none⟩ (.int .i64 t236)).setCell ⟨gb241, 1, none⟩ (.int .i64 t237)).setCell ⟨gb241, 2, none⟩ (.int .u64 t238)).setCell ⟨gb241, 3, none⟩ (.int .u64 t239)) = w97 at n0_ n1_ n2_ n3_ n4_ n5_ n6_ ⊢
                    have HO_11 := n0_
                    have HO_12 := n1_
                    have HO_15 := n2_
                    have BK204 := n3_
                    have BK214 := n4_
                    have BK241 := n5_
                    have HB := n6_
                    clear n0_ n1_ n2_ n3_ n4_ n5_ n6_
                    have hnb98 := NB241_204.out
                    have hnc98 := NB204_241.out
                    have hnb99 := NB241_214.out
                    have hnc99 := NB214_241.out
                    have hcz100_0 : w97.cell? ⟨gb241, 0, none⟩ = some (.int .i64 t236) := (blk_cell BK241.out 0).trans rfl
                    have hcz100_1 : w97.cell? ⟨gb241, 1, none⟩ = some (.int .i64 t237) := (blk_cell BK241.out 1).trans rfl
                    have hcz100_2 : w97.cell? ⟨gb241, 2, none⟩ = some (.int .u64 t238) := (blk_cell BK241.out 2).trans rfl
                    have hcz100_3 : w97.cell? ⟨gb241, 3, none⟩ = some (.int .u64 t239) := (blk_cell BK241.out 3).trans rfl
                    have hfz100_0 := blk_frozen BK241.out 0
                    have hfz100_1 := blk_frozen BK241.out 1
                    have hfz100_2 := blk_frozen BK241.out 2
                    have hfz100_3 := blk_frozen BK241.out 3
                    obtain ⟨Ao101, co101, eo101⟩ := Kd.V_slice HO_11.out
                    subst eo101
                    go_upto_region 38 with (first | ((with_reducible refine gate_callee (f := 15) rfl ?_); refine goesL_ (some 160) rfl rfl Try.func15 (by kernel_rfl) rfl #[.slice Ao101 x11_4.length co101, .agg #[.int .i64 t236, .int .i64 t237, .int .u64 t238, .int .u64 t239]] rfl (by (try simp only [List.map_toArray, List.map_cons, List.map_nil]); first | done | rfl | (simp only [List.length_drop, List.length_take]; rfl)) ?_; (with_reducible refine (mem_Do.calls (fun k_ => (some k_ ≠ (.slice (some ad235) x12_4.length co89 : Value).ownBlock ∧ (some k_ ≠ (u15 : Value).ownBlock ∧ (k_ ≠ gb204 ∧ (k_ ≠ gb214 ∧ k_ ≠ gb241))))) _ _ x11_4 t236 t237 t238 t239 t242 t245 t246 _ ?side1 A84.out).mono ?_); (case side1 => exact HO_11.out); rintro e w102 ⟨v243, rfl, ho0, hb⟩; refine ⟨_, rfl, ?_⟩; have n0_ := aA (Kd.V_below (vlu HO_11.out) hb); have n1_ := aA (Kd.R_below (rlu HO_12.out) hb); have n2_ := aA (Kd.R_below (rlu HO_15.out) hb); have n3_ := aA (Kd.V_lower (Kd.V_mono (ok' := fun k_ => some k_ ≠ (.slice (some ad235) x12_4.length co89 : Value).ownBlock ∧ some k_ ≠ (u15 : Value).ownBlock ∧ k_ ≠ gb204 ∧ k_ ≠ gb214 ∧ k_ ≠ gb241) ho0 (fun k_ hk_ => ⟨Or.elim hk_ (fun hs_ => hs_.1) (fun hn_ => (Kd.fresh' (Kd.R_lt (rlu HO_12.out)) k_ hn_)), Or.elim hk_ (fun hs_ => hs_.2.1) (fun hn_ => (Kd.fresh' (Kd.R_lt (rlu HO_15.out)) k_ hn_)), Or.elim hk_ (fun hs_ => hs_.2.2.1) (fun hn_ => (Kd.freshB (g := gb204) (o := .cells #[.int .i64 1, .int .i64 (wrap64 (1 + (Int.tmod (wrap64 (a0)) 4)))] 38 (0, 0)) (bku BK204.out) k_ hn_)), Or.elim hk_ (fun hs_ => hs_.2.2.2.1) (fun hn_ => (Kd.freshB (g := gb214) (o := .cells #[.int .i64 x215000_4, .int .u64 x215001_4, .int .u64 x215002_4] 56 (0, 0)) (bku BK214.out) k_ hn_)), Or.elim hk_ (fun hs_ => hs_.2.2.2.2) (fun hn_ => (Kd.freshB (g := gb241) (o := .cells #[.int .i64 t236, .int .i64 t237, .int .u64 t238, .int .u64 t239] 25 (0, 0)) (bku BK241.out) k_ hn_))⟩)) (below_size (bls HB.out))); have n4_ := aA (blk_below (g := gb204) (o := .cells #[.int .i64 1, .int .i64 (wrap64 (1 + (Int.tmod (wrap64 (a0)) 4)))] 38 (0, 0)) (bku BK204.out) hb); have n5_ := aA (blk_below (g := gb214) (o := .cells #[.int .i64 x215000_4, .int .u64 x215001_4, .int .u64 x215002_4] 56 (0, 0)) (bku BK214.out) hb); have n6_ := aA (blk_below (g := gb241) (o := .cells #[.int .i64 t236, .int .i64 t237, .int .u64 t238, .int .u64 t239] 25 (0, 0)) (bku BK241.out) hb); have n7_ := aA (below_step (bls HB.out) hb); clear HO_11 HO_12 HO_15 BK204 BK214 BK241 HB; have HO_11 := n0_; have HO_12 := n1_; have HO_15 := n2_; have HO244 := n3_; have BK204 := n4_; have BK214 := n5_; have BK241 := n6_; have HB := n7_; clear n0_ n1_ n2_ n3_ n4_ n5_ n6_ n7_; (try clear hb); (try clear hb2); (try clear hk); (try clear hi); (try clear ho0); have p247 : 0 ≤ ((ji79) : Int) := of_decide_eq_true (by first | (with_reducible assumption) | assumption); have q247 : (ji79) < (x12_4.length : Int) := of_decide_eq_true (by first | (with_reducible assumption) | assumption); obtain ⟨ad247, e247, hx247_0, hx247_1, hx247_2⟩ := at_T54 (Kd.R_reads' HO_12.out).2.2 (ji79) p247 q247; obtain rfl : ad235 = ad247 := (by injection e247); replace p247 := eq_true p247; replace q247 := eq_true q247; have p248 : 0 ≤ ((ji79) : Int) := of_decide_eq_true (by first | (with_reducible assumption) | assumption); have q248 : (ji79) < (x12_4.length : Int) := of_decide_eq_true (by first | (with_reducible assumption) | assumption); obtain ⟨ad248, e248, hx248_0, hx248_1, hx248_2⟩ := at_T54 (Kd.R_reads' HO_12.out).2.2 (ji79) p248 q248; obtain rfl : ad235 = ad248 := (by injection e248); replace p248 := eq_true p248; replace q248 := eq_true q248) | ((with_reducible refine gate_callee (f := 51) rfl ?_); refine goesL_ (some 178) rfl rfl Try.func51 (by kernel_rfl) rfl #[.agg #[.int .i64 ((rd_T54 x12_4 (ji79)).f0), .int .u64 ((rd_T54 x12_4 (ji79)).f1), .int .u64 ((rd_T54 x12_4 (ji79)).f2)], .int .u64 t245, .bool t246] rfl (by (try simp only [List.map_toArray, List.map_cons, List.map_nil]); first | done | (simp only [hji79]; rfl) | rfl | (simp only [List.length_drop, List.length_take]; rfl)) ?_; (with_reducible refine (queue_Got.calls k4 ((rd_T54 x12_4 (ji79)).f0) ((rd_T54 x12_4 (ji79)).f1) ((rd_T54 x12_4 (ji79)).f2) t245 t246 t249 t250 t251 _ A85.out).mono ?_); rintro e w103 ⟨rfl, hb⟩; refine ⟨_, rfl, ?_⟩; have n0_ := aA (Kd.V_below (vlu HO_11.out) hb); have n1_ := aA (Kd.R_below (rlu HO_12.out) hb); have n2_ := aA (Kd.R_below (rlu HO_15.out) hb); have n3_ := aA (Kd.V_below (vlu HO244.out) hb); have n4_ := aA (blk_below (g := gb204) (o := .cells #[.int .i64 1, .int .i64 (wrap64 (1 + (Int.tmod (wrap64 (a0)) 4)))] 38 (0, 0)) (bku BK204.out) hb); have n5_ := aA (blk_below (g := gb214) (o := .cells #[.int .i64 x215000_4, .int .u64 x215001_4, .int .u64 x215002_4] 56 (0, 0)) (bku BK214.out) hb); have n6_ := aA (blk_below (g := gb241) (o := .cells #[.int .i64 t236, .int .i64 t237, .int .u64 t238, .int .u64 t239] 25 (0, 0)) (bku BK241.out) hb); have n7_ := aA (below_step (bls HB.out) hb); clear HO_11 HO_12 HO_15 HO244 BK204 BK214 BK241 HB; have HO_11 := n0_; have HO_12 := n1_; have HO_15 := n2_; have HO244 := n3_; have BK204 := n4_; have BK214 := n5_; have BK241 := n6_; have HB := n7_; clear n0_ n1_ n2_ n3_ n4_ n5_ n6_ n7_; (try clear hb); (try clear hb2); (try clear hk); (try clear hi); have p86 : 0 ≤ ((ji79) : Int) := of_decide_eq_true (by first | (with_reducible assumption) | assumption); have q86 : ((ji79) : Int) < ((x12_4.length : Int) : Int) := of_decide_eq_true (by first | (with_reducible assumption) | assumption); obtain ⟨go86, co86, eo86, gb86, gl86, cl86, HG86⟩ := Kd.R_form HO_12.out (by omega); (first | cases eo86 | (injection eo86 with ea_ en_ ec_; (first | subst ea_ | (injection ea_ with ea_; subst ea_)); subst ec_; clear en_)); have GB86 := aA gb86; have GG86 := aA HG86; clear gb86 gl86 HG86; (first | simp only [add_plain] at hx235_0 | skip); (first | simp only [add_plain] at hx235_1 | skip); (first | simp only [add_plain] at hx235_2 | skip); (first | simp only [add_plain] at hx247_0 | skip); (first | simp only [add_plain] at hx247_1 | skip); (first | simp only [add_plain] at hx247_2 | skip); (first | simp only [add_plain] at hx248_0 | skip); (first | simp only [add_plain] at hx248_1 | skip); (first | simp only [add_plain] at hx248_2 | skip); obtain ⟨ce86, hcl86, hM86, hcc86, hfr86⟩ := Kd.R_elem HO_12.out z54 ((ji79) : Int) p86 q86; obtain rfl := k54_openM hM86; have hx86_0 : w103.cell? ⟨go86, ((ji79) : Int).toNat * 3, none⟩ = some (.int .i64 ((rd_T54 x12_4 (ji79)).f0)) := hcc86 0 _ rfl; have hx86_1 : w103.cell? ⟨go86, ((ji79) : Int).toNat * 3 + 1, none⟩ = some (.int .u64 ((rd_T54 x12_4 (ji79)).f1)) := hcc86 1 _ rfl; have hx86_2 : w103.cell? ⟨go86, ((ji79) : Int).toNat * 3 + 2, none⟩ = some (.int .u64 ((rd_T54 x12_4 (ji79)).f2)) := hcc86 2 _ rfl; have hf86_0 : w103.frozen? ⟨go86, ((ji79) : Int).toNat * 3, none⟩ = false := hfr86 0; have hf86_1 : w103.frozen? ⟨go86, ((ji79) : Int).toNat * 3 + 1, none⟩ = false := hfr86 1; have hf86_2 : w103.frozen? ⟨go86, ((ji79) : Int).toNat * 3 + 2, none⟩ = false := hfr86 2; clear hcl86 hcc86 hfr86 hM86; replace p86 := eq_true p86; replace q86 := eq_true q86; have HX104 := aA (show Kd.R k54 54 w103 w.heap.size (fun _ => True) (.slice (some ⟨go86, 0, none⟩) x12_4.length co89) x12_4 from (rlu HO_12.out)); obtain ⟨ce104, hcl104, hM104, hcc104, hfr104⟩ := Kd.R_elem HX104.out z54 ((ji79) : Int) (of_decide_eq_true (by first | (with_reducible assumption) | assumption)) (by have h_ : ((ji79) : Int) < ((x12_4.length : Int) : Int) := of_decide_eq_true (by first | (with_reducible assumption) | assumption); first | exact h_ | (have e_ := (Kd.R_reads' HO_12.out).1; omega) | simpa using h_); obtain rfl := k54_openM hM104; have HP104 := Kd.R_seg HX104.out ((ji79) : Int) (of_decide_eq_true (by first | (with_reducible assumption) | assumption)) (by have h_ : ((ji79) : Int) < ((x12_4.length : Int) : Int) := of_decide_eq_true (by first | (with_reducible assumption) | assumption); first | exact h_ | (have e_ := (Kd.R_reads' HO_12.out).1; omega) | simpa using h_) (seg := [.int .i64 t249, .int .u64 t250, .int .u64 t251]) (j := 0) hcl104 hcc104 (show 3 ≤ 3 from by decide) (x' := (⟨t249, t250, t251⟩ : S54)) (k54_mkM _ _ _ (⟨t249, t250, t251⟩ : S54) ) (fun _ hk => hk); have hx104_0 := hcc104 0 _ rfl; (try simp only [show (k54).sz = 3 from rfl, Nat.mul_one, Nat.add_zero] at hx104_0); have hf104_0 := hfr104 0; (try simp only [show (k54).sz = 3 from rfl, Nat.mul_one, Nat.add_zero] at hf104_0); have hx104_1 := hcc104 1 _ rfl; (try simp only [show (k54).sz = 3 from rfl, Nat.mul_one, Nat.add_zero] at hx104_1); have hf104_1 := hfr104 1; (try simp only [show (k54).sz = 3 from rfl, Nat.mul_one, Nat.add_zero] at hf104_1); have hx104_2 := hcc104 2 _ rfl; (try simp only [show (k54).sz = 3 from rfl, Nat.mul_one, Nat.add_zero] at hx104_2); have hf104_2 := hfr104 2; (try simp only [show (k54).sz = 3 from rfl, Nat.mul_one, Nat.add_zero] at hf104_2); clear hcl104 hcc104 hfr104 hM104) | ((with_reducible refine gate_store (t := 54) (p := 179) rfl ?_); refine store_event (t := 54) (p := 179) (v := ?vo_w105) (w1 := (((w103.setCell ⟨go86, ((ji79) : Int).toNat * 3, none⟩ (.int .i64 t249)).setCell ⟨go86, ((ji79) : Int).toNat * 3 + 1, none⟩ (.int .u64 t250)).setCell ⟨go86, ((ji79) : Int).toNat * 3 + 2, none⟩ (.int .u64 t251))) ?hg ?ho ?hn ?hr ?_; (case ho => rfl); (case hg => rfl); (case hn => rfl); (case hr => first | (go_simp; done) | (go_simp; rfl)); intro w105 hw; have hg : w103.grownBy w105 (some go86) := (by rw [hw]; exact HP104.2); have hp_ : Kd.R k54 54 w105 w.heap.size (fun _ => True) (.slice (some ⟨go86, 0, none⟩) x12_4.length co89) y252 := (by rw [hw, Ny252.out]; exact HP104.1); clear HP104; have n0_ := aA (Kd.V_afterv (v := (.slice (some ⟨go86, 0, none⟩) x12_4.length co89)) (v1 := (.slice (some ⟨go86, 0, none⟩) x12_4.length co89)) (ok := (fun k_ => some k_ ≠ (u15 : Value).ownBlock ∧ k_ ≠ gb204 ∧ k_ ≠ gb214 ∧ k_ ≠ gb241)) (vlu (Kd.V_mono HO_11.out (fun _ hk => ⟨⟨hk.2.1, ⟨hk.2.2.1, ⟨hk.2.2.2.1, hk.2.2.2.2⟩⟩⟩, hk.1⟩))) hg (.inl rfl)); have n1_ := aA (hp_); have n2_ := aA (Kd.R_over' (v := (.slice (some ⟨go86, 0, none⟩) x12_4.length co89)) (rlu HO_15.out) (Kd.R_typed HO_12.out) (by decide) hg); have n3_ := aA (blk_grown (g := gb204) (o := .cells #[.int .i64 1, .int .i64 (wrap64 (1 + (Int.tmod (wrap64 (a0)) 4)))] 38 (0, 0)) (bku BK204.out) hg (Kd.R_ne HO_12.out BK204.out (by decide))); have n4_ := aA (blk_grown (g := gb214) (o := .cells #[.int .i64 x215000_4, .int .u64 x215001_4, .int .u64 x215002_4] 56 (0, 0)) (bku BK214.out) hg (Kd.R_ne HO_12.out BK214.out (by decide))); have n5_ := aA (blk_grown (g := gb241) (o := .cells #[.int .i64 t236, .int .i64 t237, .int .u64 t238, .int .u64 t239] 25 (0, 0)) (bku BK241.out) hg (Kd.R_ne HO_12.out BK241.out (by decide))); have n6_ := aA (Kd.V_afterv (v := (.slice (some ⟨go86, 0, none⟩) x12_4.length co89)) (v1 := (.slice (some ⟨go86, 0, none⟩) x12_4.length co89)) (ok := (fun k_ => some k_ ≠ (u15 : Value).ownBlock ∧ k_ ≠ gb204 ∧ k_ ≠ gb214 ∧ k_ ≠ gb241)) (vlu (Kd.V_mono HO244.out (fun _ hk => ⟨⟨hk.2.1, ⟨hk.2.2.1, ⟨hk.2.2.2.1, hk.2.2.2.2⟩⟩⟩, hk.1⟩))) hg (.inl rfl)); have n7_ := aA ((by rw [hw]; exact below_set (below_set (below_set (HB.out) GB86.out) GB86.out) GB86.out : Below w.heap.size w w105)); clear HO_11 HO_12 HO_15 BK204 BK214 BK241 HO244 HB; have HO_11 := n0_; have HO_12 := n1_; have HO_15 := n2_; have BK204 := n3_; have BK214 := n4_; have BK241 := n5_; have HO244 := n6_; have HB := n7_; clear n0_ n1_ n2_ n3_ n4_ n5_ n6_ n7_ hg hw hp_))
                    (try simp only [Act.put, List.setIfInBounds_toArray, List.set_cons_zero, List.set_cons_succ])
                    go_cut [189] (fun v189 wc => ∃ (kq : Nat) (x189_86 : Bool), v189 = .bool x189_86 ∧ Aside0 (treillagelaw16_QueueOrder.j4 kq l2 x8_2 (wrap64 (1 + (Int.tmod (wrap64 (a1)) 12))) t242 y252 x15_4 x16_4 x17_4 ji79 ((rd_T54 x12_4 (ji79)).f0) x189_86 1 (wrap64 (1 + (Int.tmod (wrap64 (a0)) 4))) x215000_4 x215001_4 x215002_4 = some r) ∧ Aside0 (kq ≤ k4) ∧ Aside0 (Kd.V (Kd.int .u64) 23 wc w.heap.size (fun k_ => some k_ ≠ ((.slice (some ⟨go86, 0, none⟩) x12_4.length co89) : Value).ownBlock ∧ some k_ ≠ (u15 : Value).ownBlock ∧ k_ ≠ gb204 ∧ k_ ≠ gb214 ∧ k_ ≠ gb241) v243 t242) ∧ Aside0 (Kd.R k54 54 wc w.heap.size (fun _ => True) (.slice (some ⟨go86, 0, none⟩) x12_4.length co89) y252) ∧ Aside0 (Kd.R (Kd.int .u64) 23 wc w.heap.size (fun _ => True) u15 x15_4) ∧ Aside0 (wc.heap[gb204]? = some (.cells #[.int .i64 1, .int .i64 (wrap64 (1 + (Int.tmod (wrap64 (a0)) 4)))] 38 (0, 0))) ∧ Aside0 (wc.heap[gb214]? = some (.cells #[.int .i64 x215000_4, .int .u64 x215001_4, .int .u64 x215002_4] 56 (0, 0))) ∧ Aside0 (wc.heap[gb241]? = some (.cells #[.int .i64 t236, .int .i64 t237, .int .u64 t238, .int .u64 t239] 25 (0, 0))) ∧ Aside0 (Below w.heap.size w wc))
                    case first =>
                     have H := HC87.out
                     clear HC87
                     by_cases c106 : ((rd_T54 x12_4 (ji79)).f0) = 2
                     ·rw [if_pos c106] at H
                      have c106b0 : (((rd_T54 x12_4 (ji79)).f0) == 2) = true := beq_iff_eq.mpr c106
                      have c106b1 : (((rd_T54 x12_4 (ji79)).f0) != 2) = false := bne_eq_false_iff_eq.mpr c106
                      clear c106
                      (first | rw [c106b0] | (simp only [i64_w, i32_w]; rw [c106b0]) | skip)
                      as_aux_lemma =>
                       have H' := aA H
                       clear H
                       have p253 : 0 ≤ ((ji79) : Int) := of_decide_eq_true (by first | (with_reducible assumption) | assumption)
                       have q253 : (ji79) < (y252.length : Int) := (by have h_ : ((ji79) : Int) < ((x12_4.length : Int) : Int) := of_decide_eq_true (by first | (with_reducible assumption) | assumption); first | (have e_ := (Kd.R_reads' HO_12.out).1; omega) | simpa only [Ny252.out, List.length_set] using h_)
                       have ql253 : (((ji79) : Int) < ((x12_4.length : Int) : Int)) = True := eq_true (of_decide_eq_true (by first | (with_reducible assumption) | assumption))
                       obtain ⟨ad253, e253, hx253_0, hx253_1, hx253_2⟩ := at_T54 (Kd.R_reads' HO_12.out).2.2 (ji79) p253 q253
                       obtain rfl : (⟨go86, 0, none⟩ : Addr) = ad253 := (by injection e253)
                       (first | simp only [add_plain] at hx253_0 | simp only [add_at] at hx253_0 | simp only [Addr.add, Nat.zero_add] at hx253_0 | skip)
                       (first | simp only [add_plain] at hx253_1 | simp only [add_at] at hx253_1 | simp only [Addr.add, Nat.zero_add] at hx253_1 | skip)
                       (first | simp only [add_plain] at hx253_2 | simp only [add_at] at hx253_2 | simp only [Addr.add, Nat.zero_add] at hx253_2 | skip)
                       replace p253 := eq_true p253
                       replace q253 := eq_true q253
                       go_wp2
                       go_meet
                       case rel => exact ⟨_, ((((rd_T54 y252 (ji79)).f0) == 3)), (by first | rfl | (simp; done) | (simp only [← hji79] <;> (first | rfl | simp)) | (simp [*]; done)), H', ⟨by have := HJ3.out; have := HK2.out; have := HK3.out; have := HK4.out; first | omega | exact Nat.le_refl _⟩, ⟨by (with_reducible repeat (first | apply Kd.V_alloc | apply Kd.V_drewN | apply Kd.V_drew)); exact Kd.V_mono HO244.out (fun _ hk => ⟨hk.2, ⟨hk.1.1, ⟨hk.1.2.1, ⟨hk.1.2.2.1, hk.1.2.2.2⟩⟩⟩⟩)⟩, ⟨by (with_reducible repeat (first | apply Kd.R_alloc | apply Kd.R_drewN | apply Kd.R_drew)); exact HO_12.out⟩, ⟨by (with_reducible repeat (first | apply Kd.R_alloc | apply Kd.R_drewN | apply Kd.R_drew)); exact HO_15.out⟩, ⟨by (with_reducible repeat (first | refine blk_drewN ?_ _ | refine blk_drew ?_ | refine blk_alloc ?_ _)); exact BK204.out⟩, ⟨by (with_reducible repeat (first | refine blk_drewN ?_ _ | refine blk_drew ?_ | refine blk_alloc ?_ _)); exact BK214.out⟩, ⟨by (with_reducible repeat (first | refine blk_drewN ?_ _ | refine blk_drew ?_ | refine blk_alloc ?_ _)); exact BK241.out⟩, ⟨by repeat (first | (with_reducible first | exact HB.out | apply below_alloc | apply pw_below_drewN | apply below_drew1 | refine below_set ?_ GE204.out | refine below_set ?_ GE214.out | refine below_set ?_ GE241.out) | exact HB.out)⟩⟩
                     ·rw [if_neg c106] at H
                      have c106b0 : (((rd_T54 x12_4 (ji79)).f0) == 2) = false := beq_eq_false_iff_ne.mpr c106
                      have c106b1 : (((rd_T54 x12_4 (ji79)).f0) != 2) = true := bne_iff_ne.mpr c106
                      (first | rw [c106b0] | (simp only [i64_w, i32_w]; rw [c106b0]) | skip)
                      as_aux_lemma =>
                       have H' := aA H
                       clear H
                       go_wp2
                       go_meet
                       case rel => exact ⟨_, (false), (by first | rfl | (simp; done) | (simp [*]; done)), H', ⟨by have := HJ3.out; have := HK2.out; have := HK3.out; have := HK4.out; first | omega | exact Nat.le_refl _⟩, ⟨by (with_reducible repeat (first | apply Kd.V_alloc | apply Kd.V_drewN | apply Kd.V_drew)); exact Kd.V_mono HO244.out (fun _ hk => ⟨hk.2, ⟨hk.1.1, ⟨hk.1.2.1, ⟨hk.1.2.2.1, hk.1.2.2.2⟩⟩⟩⟩)⟩, ⟨by (with_reducible repeat (first | apply Kd.R_alloc | apply Kd.R_drewN | apply Kd.R_drew)); exact HO_12.out⟩, ⟨by (with_reducible repeat (first | apply Kd.R_alloc | apply Kd.R_drewN | apply Kd.R_drew)); exact HO_15.out⟩, ⟨by (with_reducible repeat (first | refine blk_drewN ?_ _ | refine blk_drew ?_ | refine blk_alloc ?_ _)); exact BK204.out⟩, ⟨by (with_reducible repeat (first | refine blk_drewN ?_ _ | refine blk_drew ?_ | refine blk_alloc ?_ _)); exact BK214.out⟩, ⟨by (with_reducible repeat (first | refine blk_drewN ?_ _ | refine blk_drew ?_ | refine blk_alloc ?_ _)); exact BK241.out⟩, ⟨by repeat (first | (with_reducible first | exact HB.out | apply below_alloc | apply pw_below_drewN | apply below_drew1 | refine below_set ?_ GE204.out | refine below_set ?_ GE214.out | refine below_set ?_ GE241.out) | exact HB.out)⟩⟩
                    case rest =>
                     clear HC87
                     try clear c1
                     try clear hx1
                     try clear p2
                     try clear q2
                     try clear hx2
                     try clear c3
                     try clear c4
                     try clear c5
                     try clear c6
                     try clear p6
                     try clear c7
                     try clear c8
                     try clear p8
                     try clear q8
                     try clear hx8
                     try clear hf8
                     try clear c9
                     try clear c10
                     try clear hx10
                     try clear hf10
                     try clear c15
                     try clear p21
                     try clear q21
                     try clear hx21
                     try clear p23
                     try clear q23
                     try clear hx23
                     try clear p24
                     try clear q24
                     try clear hx24
                     try clear p25
                     try clear q25
                     try clear hx25
                     try clear c32
                     try clear c32b0
                     try clear c32b1
                     try clear c36
                     try clear c38
                     try clear c39
                     try clear c40
                     try clear c40b0
                     try clear c40b1
                     try clear c44
                     try clear c45
                     try clear c46
                     try clear c46b0
                     try clear c46b1
                     try clear c47
                     try clear c49
                     try clear c51
                     try clear c53
                     try clear p64
                     try clear c65
                     try clear c75
                     try clear c76
                     try clear c80
                     try clear c80b0
                     try clear c81
                     try clear c81b0
                     try clear c83
                     try clear c86
                     try clear p86
                     try clear q86
                     try clear hx86
                     try clear hf86
                     try clear c98
                     try clear c99
                     try clear c104
                     try clear hx104
                     try clear hf104
                     try clear c106
                     try clear c106b0
                     try clear c106b1
                     try clear hcz100_0
                     try clear hcz100_1
                     try clear hcz100_2
                     try clear hcz100_3
                     try clear hcz66_0
                     try clear hcz66_1
                     try clear hcz67_0
                     try clear hcz67_1
                     try clear hcz67_2
                     try clear hcz71_0
                     try clear hcz71_1
                     try clear hcz72_0
                     try clear hcz72_1
                     try clear hcz72_2
                     try clear hcz77_0
                     try clear hcz77_1
                     try clear hcz77_2
                     try clear hcz78_0
                     try clear hcz78_1
                     try clear hcz78_2
                     try clear hfz100_0
                     try clear hfz100_1
                     try clear hfz100_2
                     try clear hfz100_3
                     try clear hfz66_0
                     try clear hfz66_1
                     try clear hfz67_0
                     try clear hfz67_1
                     try clear hfz67_2
                     try clear hfz71_0
                     try clear hfz71_1
                     try clear hfz72_0
                     try clear hfz72_1
                     try clear hfz72_2
                     try clear hfz77_0
                     try clear hfz77_1
                     try clear hfz77_2
                     try clear hfz78_0
                     try clear hfz78_1
                     try clear hfz78_2
                     try clear hx104_0
                     try clear hx104_1
                     try clear hx104_2
                     try clear hx218_0
                     try clear hx235_0
                     try clear hx235_1
                     try clear hx235_2
                     try clear hx247_0
                     try clear hx247_1
                     try clear hx247_2
                     try clear hx248_0
                     try clear hx248_1
                     try clear hx248_2
                     try clear hx253_0
                     try clear hx253_1
                     try clear hx253_2
                     try clear hx86_0
                     try clear hx86_1
                     try clear hx86_2
                     try clear p218
                     try clear p235
                     try clear p247
                     try clear p248
                     try clear p253
                     try clear p86
                     try clear q218
                     try clear q235
                     try clear q247
                     try clear q248
                     try clear q253
                     try clear q86
                     obtain ⟨kq, x189_86, rfl, HA, HJ86, HO_11, HO_12, HO_15, BK204, BK214, BK241, HB⟩ := hcut
                     have hl12_86 := (Kd.R_reads' HO_12.out).1
                     rw [hl12_86] at HO_12
                     (try simp only [hl12_86])
                     (try simp only [hl12_86] at BK204)
                     (try simp only [hl12_86] at BK214)
                     (try simp only [hl12_86] at BK241)
                     (try simp only [hl12_86] at HO_11)
                     (try simp only [hl12_86] at HO_15)
                     cases kq with
                     | zero => exact absurd HA.out (by simp [treillagelaw16_QueueOrder.j4])
                     | succ kj86 =>
                      have H := HA.out
                      clear HA
                      simp only [treillagelaw16_QueueOrder.j4] at H
                      by_cases c107 : x189_86 = true
                      ·subst c107
                       have H1 : (if 0 ≤ ji79 then (if ji79 < (y252.length : Int) then (if x15_4.length < 17592186044416 then ((some (x15_4 ++ [(rd_T54 y252 ji79).f2] : List Int)).bind fun y255 => (if (wrap64 ((y255.length : Int) - x16_4)) > x8_2 then (some false) else (if ((rd_T54 x12_4 (ji79)).f0) = 6 then (treillagelaw16_QueueOrder.l2 kj86 l2 x8_2 (wrap64 (1 + (Int.tmod (wrap64 (a1)) 12))) t242 y252 y255 x16_4 (wrap64 (x17_4 + 1)) 1 (wrap64 (1 + (Int.tmod (wrap64 (a0)) 4))) x215000_4 x215001_4 x215002_4) else (if ((rd_T54 y252 ji79).f0) = 6 then (if (wrap64 ((y255.length : Int) - x16_4)) < x8_2 then (some false) else (treillagelaw16_QueueOrder.l2 kj86 l2 x8_2 (wrap64 (1 + (Int.tmod (wrap64 (a1)) 12))) t242 y252 y255 x16_4 (wrap64 (x17_4 + 1)) 1 (wrap64 (1 + (Int.tmod (wrap64 (a0)) 4))) x215000_4 x215001_4 x215002_4)) else (treillagelaw16_QueueOrder.l2 kj86 l2 x8_2 (wrap64 (1 + (Int.tmod (wrap64 (a1)) 12))) t242 y252 y255 x16_4 (wrap64 (x17_4 + 1)) 1 (wrap64 (1 + (Int.tmod (wrap64 (a0)) 4))) x215000_4 x215001_4 x215002_4))))) else (none)) else (none)) else (none)) = some r := by rw [if_pos rfl] at H; exact H
                       clear H
                       have H := H1
                       clear H1
                       by_cases c108 : 0 ≤ ji79
                       ·rw [if_pos c108] at H
                        have c108b0 : decide (0 ≤ ji79) = true := decide_eq_true c108
                        clear c108
                        by_cases c109 : ji79 < (y252.length : Int)
                        ·rw [if_pos c109] at H
                         have c109b0 : decide (ji79 < (y252.length : Int)) = true := decide_eq_true c109
                         clear c109
                         by_cases c110 : x15_4.length < 17592186044416
                         ·rw [if_pos c110] at H
                          have LMc110 := aA c110
                          clear c110
                          obtain ⟨y255, hy255⟩ : ∃ y_ : List Int, y_ = (x15_4 ++ [(rd_T54 y252 ji79).f2]) := ⟨_, rfl⟩
                          replace H : (if (wrap64 ((y255.length : Int) - x16_4)) > x8_2 then (some false) else (if ((rd_T54 x12_4 (ji79)).f0) = 6 then (treillagelaw16_QueueOrder.l2 kj86 l2 x8_2 (wrap64 (1 + (Int.tmod (wrap64 (a1)) 12))) t242 y252 y255 x16_4 (wrap64 (x17_4 + 1)) 1 (wrap64 (1 + (Int.tmod (wrap64 (a0)) 4))) x215000_4 x215001_4 x215002_4) else (if ((rd_T54 y252 ji79).f0) = 6 then (if (wrap64 ((y255.length : Int) - x16_4)) < x8_2 then (some false) else (treillagelaw16_QueueOrder.l2 kj86 l2 x8_2 (wrap64 (1 + (Int.tmod (wrap64 (a1)) 12))) t242 y252 y255 x16_4 (wrap64 (x17_4 + 1)) 1 (wrap64 (1 + (Int.tmod (wrap64 (a0)) 4))) x215000_4 x215001_4 x215002_4)) else (treillagelaw16_QueueOrder.l2 kj86 l2 x8_2 (wrap64 (1 + (Int.tmod (wrap64 (a1)) 12))) t242 y252 y255 x16_4 (wrap64 (x17_4 + 1)) 1 (wrap64 (1 + (Int.tmod (wrap64 (a0)) 4))) x215000_4 x215001_4 x215002_4)))) = some r := by first | (rw [hy255]; with_reducible exact H) | (have H2_ := (Option.bind_some _ _).symm.trans H; rw [hy255]; with_reducible exact H2_) | (have H2_ := (Option.bind_some _ _).symm.trans H; with_reducible exact H2_) | with_reducible exact H | (rw [hy255]; exact H) | exact H
                          have Ny255 := aA hy255
                          clear hy255
                          by_cases c111 : (wrap64 ((y255.length : Int) - x16_4)) > x8_2
                          ·rw [if_pos c111] at H
                           have c111b0 : decide (x8_2 < (wrap64 ((y255.length : Int) - x16_4))) = true := decide_eq_true c111
                           clear c111
                           as_aux_lemma =>
                            exact absurd ((Option.some.inj H).trans hr_) (by decide)
                          ·rw [if_neg c111] at H
                           have c111b0 : decide (x8_2 < (wrap64 ((y255.length : Int) - x16_4))) = false := decide_eq_false c111
                           clear c111
                           by_cases c112 : ((rd_T54 x12_4 (ji79)).f0) = 6
                           ·rw [if_pos c112] at H
                            have c112b0 : (((rd_T54 x12_4 (ji79)).f0) == 6) = true := beq_iff_eq.mpr c112
                            have c112b1 : (((rd_T54 x12_4 (ji79)).f0) != 6) = false := bne_eq_false_iff_eq.mpr c112
                            clear c112
                            as_aux_lemma =>
                             have H' := aA H
                             clear H
                             have p254 : 0 ≤ (ji79 : Int) := of_decide_eq_true (by first | (with_reducible assumption) | assumption)
                             have q254 : ji79 < (y252.length : Int) := of_decide_eq_true (by first | (with_reducible assumption) | assumption)
                             obtain ⟨ad254, e254, hx254_0, hx254_1, hx254_2⟩ := at_T54 (Kd.R_reads' HO_12.out).2.2 ji79 p254 q254
                             obtain rfl : (⟨go86, 0, none⟩ : Addr) = ad254 := (by injection e254)
                             (first | simp only [add_plain] at hx254_0 | simp only [add_at] at hx254_0 | simp only [Addr.add, Nat.zero_add] at hx254_0 | skip)
                             (first | simp only [add_plain] at hx254_1 | simp only [add_at] at hx254_1 | simp only [Addr.add, Nat.zero_add] at hx254_1 | skip)
                             (first | simp only [add_plain] at hx254_2 | simp only [add_at] at hx254_2 | simp only [Addr.add, Nat.zero_add] at hx254_2 | skip)
                             replace p254 := eq_true p254
                             replace q254 := eq_true q254
                             go_wp2_with (first | ((with_reducible refine gate_builtin (b := .append) (xs := #[.tmp 190, .tmp 196]) rfl ?_); (try (refine gate_guard (by rfl) ?_; dsimp only)); at_builtin; refine Kd.R_append (Kd.int .u64) (w0 := w) w.heap.size rfl (.tmp 190) (.tmp 196) 22 23 (.int .u64 0) 8 rfl Try.underlying22 info23 rfl (by decide) (by omega) u15 x15_4 ((rd_T54 y252 ji79).f2) [.int .u64 ((rd_T54 y252 ji79).f2)] (fun _ => True) (fun _ => False) rfl rfl ?aP (fun _ hk => hk.elim) ?aF ?aO ?aB ?aS ?aL ?_; (case aP => exact rfl); (case aB => exact (bls HB.out)); (case aF => exact (fun _ _ => trivial)); (case aO => exact (rlu HO_15.out)); (case aS => exact (below_size (bls HB.out))); (case aL => have := LMc110.out; omega); intro v256 w113 ho hb hg hat; rw [← Ny255.out] at ho; have n0_ := aA (Kd.V_afterv (ok := (fun k_ => some k_ ≠ (.slice (some ⟨go86, 0, none⟩) y252.length co89 : Value).ownBlock ∧ k_ ≠ gb204 ∧ k_ ≠ gb214 ∧ k_ ≠ gb241)) (vlu (Kd.V_mono HO_11.out (fun _ hk => ⟨⟨hk.1, ⟨hk.2.2.1, ⟨hk.2.2.2.1, hk.2.2.2.2⟩⟩⟩, hk.2.1⟩))) hg hat); have n1_ := aA (Kd.R_over' (rlu HO_12.out) (Kd.R_typed (rlu HO_15.out)) (by decide) hg); have n2_ := aA (blk_grown (g := gb204) (o := .cells #[.int .i64 1, .int .i64 (wrap64 (1 + (Int.tmod (wrap64 (a0)) 4)))] 38 (0, 0)) (bku BK204.out) hg (Kd.R_ne HO_15.out BK204.out (by decide))); have n3_ := aA (blk_grown (g := gb214) (o := .cells #[.int .i64 x215000_4, .int .u64 x215001_4, .int .u64 x215002_4] 56 (0, 0)) (bku BK214.out) hg (Kd.R_ne HO_15.out BK214.out (by decide))); have n4_ := aA (blk_grown (g := gb241) (o := .cells #[.int .i64 t236, .int .i64 t237, .int .u64 t238, .int .u64 t239] 25 (0, 0)) (bku BK241.out) hg (Kd.R_ne HO_15.out BK241.out (by decide))); have n5_ := aA (hb); have n6_ := aA (ho); clear HO_11 HO_12 BK204 BK214 BK241 HB HO_15; have HO_11 := n0_; have HO_12 := n1_; have BK204 := n2_; have BK214 := n3_; have BK241 := n4_; have HB := n5_; have HO257 := n6_; clear n0_ n1_ n2_ n3_ n4_ n5_ n6_ ho hb hg hat; obtain ⟨Ao114, co114, eo114⟩ := Kd.R_slice HO257.out; subst eo114))
                             (try simp only [← hl12_86])
                             go_roundg kj86
                             case measure => have := HJ3.out; have := HK2.out; have := HK3.out; have := HK4.out; have := HJ86.out; omega
                             case rel => exact ⟨(t242), (y252), (y255), (x16_4), (wrap64 (x17_4 + 1)), (x215000_4), (x215001_4), (x215002_4), (by first | rfl | (simp; done) | (simp [*]; done)), (by first | rfl | (simp; done) | (simp [*]; done)), H', ⟨by have := HJ3.out; have := HK2.out; have := HK3.out; have := HK4.out; have := HJ86.out; omega⟩, ⟨by (try simp only [hl12_86]); (with_reducible repeat (first | apply Kd.V_alloc | apply Kd.V_drewN | apply Kd.V_drew)); exact Kd.V_mono HO_11.out (fun _ hk => ⟨hk.1.1, ⟨hk.2, ⟨hk.1.2.1, hk.1.2.2.1⟩⟩⟩)⟩, ⟨by (try simp only [hl12_86]); (with_reducible repeat (first | apply Kd.R_alloc | apply Kd.R_drewN | apply Kd.R_drew)); exact HO_12.out⟩, ⟨by (try simp only [hl12_86]); (with_reducible repeat (first | apply Kd.R_alloc | apply Kd.R_drewN | apply Kd.R_drew)); exact HO257.out⟩, ⟨by (try simp only [hl12_86]); (with_reducible repeat (first | refine blk_drewN ?_ _ | refine blk_drew ?_ | refine blk_alloc ?_ _)); exact BK204.out⟩, ⟨by (try simp only [hl12_86]); (with_reducible repeat (first | refine blk_drewN ?_ _ | refine blk_drew ?_ | refine blk_alloc ?_ _)); exact BK214.out⟩, ⟨by repeat (first | (with_reducible first | exact HB.out | apply below_alloc | apply pw_below_drewN | apply below_drew1 | refine below_set ?_ GE204.out | refine below_set ?_ GE214.out | refine below_set ?_ GE241.out) | exact HB.out)⟩⟩
                           ·rw [if_neg c112] at H
                            have c112b0 : (((rd_T54 x12_4 (ji79)).f0) == 6) = false := beq_eq_false_iff_ne.mpr c112
                            have c112b1 : (((rd_T54 x12_4 (ji79)).f0) != 6) = true := bne_iff_ne.mpr c112
                            by_cases c115 : ((rd_T54 y252 ji79).f0) = 6
                            ·rw [if_pos c115] at H
                             have c115b0 : (((rd_T54 y252 ji79).f0) == 6) = true := beq_iff_eq.mpr c115
                             have c115b1 : (((rd_T54 y252 ji79).f0) != 6) = false := bne_eq_false_iff_eq.mpr c115
                             clear c115
                             by_cases c116 : (wrap64 ((y255.length : Int) - x16_4)) < x8_2
                             ·rw [if_pos c116] at H
                              have c116b0 : decide ((wrap64 ((y255.length : Int) - x16_4)) < x8_2) = true := decide_eq_true c116
                              clear c116
                              as_aux_lemma =>
                               exact absurd ((Option.some.inj H).trans hr_) (by decide)
                             ·rw [if_neg c116] at H
                              have c116b0 : decide ((wrap64 ((y255.length : Int) - x16_4)) < x8_2) = false := decide_eq_false c116
                              clear c116
                              as_aux_lemma =>
                               have H' := aA H
                               clear H
                               have p254 : 0 ≤ (ji79 : Int) := of_decide_eq_true (by first | (with_reducible assumption) | assumption)
                               have q254 : ji79 < (y252.length : Int) := of_decide_eq_true (by first | (with_reducible assumption) | assumption)
                               obtain ⟨ad254, e254, hx254_0, hx254_1, hx254_2⟩ := at_T54 (Kd.R_reads' HO_12.out).2.2 ji79 p254 q254
                               obtain rfl : (⟨go86, 0, none⟩ : Addr) = ad254 := (by injection e254)
                               (first | simp only [add_plain] at hx254_0 | simp only [add_at] at hx254_0 | simp only [Addr.add, Nat.zero_add] at hx254_0 | skip)
                               (first | simp only [add_plain] at hx254_1 | simp only [add_at] at hx254_1 | simp only [Addr.add, Nat.zero_add] at hx254_1 | skip)
                               (first | simp only [add_plain] at hx254_2 | simp only [add_at] at hx254_2 | simp only [Addr.add, Nat.zero_add] at hx254_2 | skip)
                               replace p254 := eq_true p254
                               replace q254 := eq_true q254
                               go_wp2_with (first | ((with_reducible refine gate_builtin (b := .append) (xs := #[.tmp 190, .tmp 196]) rfl ?_); (try (refine gate_guard (by rfl) ?_; dsimp only)); at_builtin; refine Kd.R_append (Kd.int .u64) (w0 := w) w.heap.size rfl (.tmp 190) (.tmp 196) 22 23 (.int .u64 0) 8 rfl Try.underlying22 info23 rfl (by decide) (by omega) u15 x15_4 ((rd_T54 y252 ji79).f2) [.int .u64 ((rd_T54 y252 ji79).f2)] (fun _ => True) (fun _ => False) rfl rfl ?aP (fun _ hk => hk.elim) ?aF ?aO ?aB ?aS ?aL ?_; (case aP => exact rfl); (case aB => exact (bls HB.out)); (case aF => exact (fun _ _ => trivial)); (case aO => exact (rlu HO_15.out)); (case aS => exact (below_size (bls HB.out))); (case aL => have := LMc110.out; omega); intro v256 w117 ho hb hg hat; rw [← Ny255.out] at ho; have n0_ := aA (Kd.V_afterv (ok := (fun k_ => some k_ ≠ (.slice (some ⟨go86, 0, none⟩) y252.length co89 : Value).ownBlock ∧ k_ ≠ gb204 ∧ k_ ≠ gb214 ∧ k_ ≠ gb241)) (vlu (Kd.V_mono HO_11.out (fun _ hk => ⟨⟨hk.1, ⟨hk.2.2.1, ⟨hk.2.2.2.1, hk.2.2.2.2⟩⟩⟩, hk.2.1⟩))) hg hat); have n1_ := aA (Kd.R_over' (rlu HO_12.out) (Kd.R_typed (rlu HO_15.out)) (by decide) hg); have n2_ := aA (blk_grown (g := gb204) (o := .cells #[.int .i64 1, .int .i64 (wrap64 (1 + (Int.tmod (wrap64 (a0)) 4)))] 38 (0, 0)) (bku BK204.out) hg (Kd.R_ne HO_15.out BK204.out (by decide))); have n3_ := aA (blk_grown (g := gb214) (o := .cells #[.int .i64 x215000_4, .int .u64 x215001_4, .int .u64 x215002_4] 56 (0, 0)) (bku BK214.out) hg (Kd.R_ne HO_15.out BK214.out (by decide))); have n4_ := aA (blk_grown (g := gb241) (o := .cells #[.int .i64 t236, .int .i64 t237, .int .u64 t238, .int .u64 t239] 25 (0, 0)) (bku BK241.out) hg (Kd.R_ne HO_15.out BK241.out (by decide))); have n5_ := aA (hb); have n6_ := aA (ho); clear HO_11 HO_12 BK204 BK214 BK241 HB HO_15; have HO_11 := n0_; have HO_12 := n1_; have BK204 := n2_; have BK214 := n3_; have BK241 := n4_; have HB := n5_; have HO257 := n6_; clear n0_ n1_ n2_ n3_ n4_ n5_ n6_ ho hb hg hat; obtain ⟨Ao118, co118, eo118⟩ := Kd.R_slice HO257.out; subst eo118; have p258 : 0 ≤ (ji79 : Int) := of_decide_eq_true (by first | (with_reducible assumption) | assumption); have q258 : ji79 < (y252.length : Int) := of_decide_eq_true (by first | (with_reducible assumption) | assumption); obtain ⟨ad258, e258, hx258_0, hx258_1, hx258_2⟩ := at_T54 (Kd.R_reads' HO_12.out).2.2 ji79 p258 q258; obtain rfl : (⟨go86, 0, none⟩ : Addr) = ad258 := (by injection e258); (first | simp only [add_plain] at hx258_0 | simp only [add_at] at hx258_0 | simp only [Addr.add, Nat.zero_add] at hx258_0 | skip); (first | simp only [add_plain] at hx258_1 | simp only [add_at] at hx258_1 | simp only [Addr.add, Nat.zero_add] at hx258_1 | skip); (first | simp only [add_plain] at hx258_2 | simp only [add_at] at hx258_2 | simp only [Addr.add, Nat.zero_add] at hx258_2 | skip); replace p258 := eq_true p258; replace q258 := eq_true q258))
                               (try simp only [← hl12_86])
                               go_roundg kj86
                               case measure => have := HJ3.out; have := HK2.out; have := HK3.out; have := HK4.out; have := HJ86.out; omega
                               case rel => exact ⟨(t242), (y252), (y255), (x16_4), (wrap64 (x17_4 + 1)), (x215000_4), (x215001_4), (x215002_4), (by first | rfl | (simp; done) | (simp [*]; done)), (by first | rfl | (simp; done) | (simp [*]; done)), H', ⟨by have := HJ3.out; have := HK2.out; have := HK3.out; have := HK4.out; have := HJ86.out; omega⟩, ⟨by (try simp only [hl12_86]); (with_reducible repeat (first | apply Kd.V_alloc | apply Kd.V_drewN | apply Kd.V_drew)); exact Kd.V_mono HO_11.out (fun _ hk => ⟨hk.1.1, ⟨hk.2, ⟨hk.1.2.1, hk.1.2.2.1⟩⟩⟩)⟩, ⟨by (try simp only [hl12_86]); (with_reducible repeat (first | apply Kd.R_alloc | apply Kd.R_drewN | apply Kd.R_drew)); exact HO_12.out⟩, ⟨by (try simp only [hl12_86]); (with_reducible repeat (first | apply Kd.R_alloc | apply Kd.R_drewN | apply Kd.R_drew)); exact HO257.out⟩, ⟨by (try simp only [hl12_86]); (with_reducible repeat (first | refine blk_drewN ?_ _ | refine blk_drew ?_ | refine blk_alloc ?_ _)); exact BK204.out⟩, ⟨by (try simp only [hl12_86]); (with_reducible repeat (first | refine blk_drewN ?_ _ | refine blk_drew ?_ | refine blk_alloc ?_ _)); exact BK214.out⟩, ⟨by repeat (first | (with_reducible first | exact HB.out | apply below_alloc | apply pw_below_drewN | apply below_drew1 | refine below_set ?_ GE204.out | refine below_set ?_ GE214.out | refine below_set ?_ GE241.out) | exact HB.out)⟩⟩
                            ·rw [if_neg c115] at H
                             have c115b0 : (((rd_T54 y252 ji79).f0) == 6) = false := beq_eq_false_iff_ne.mpr c115
                             have c115b1 : (((rd_T54 y252 ji79).f0) != 6) = true := bne_iff_ne.mpr c115
                             as_aux_lemma =>
                              have H' := aA H
                              clear H
                              have p254 : 0 ≤ (ji79 : Int) := of_decide_eq_true (by first | (with_reducible assumption) | assumption)
                              have q254 : ji79 < (y252.length : Int) := of_decide_eq_true (by first | (with_reducible assumption) | assumption)
                              obtain ⟨ad254, e254, hx254_0, hx254_1, hx254_2⟩ := at_T54 (Kd.R_reads' HO_12.out).2.2 ji79 p254 q254
                              obtain rfl : (⟨go86, 0, none⟩ : Addr) = ad254 := (by injection e254)
                              (first | simp only [add_plain] at hx254_0 | simp only [add_at] at hx254_0 | simp only [Addr.add, Nat.zero_add] at hx254_0 | skip)
                              (first | simp only [add_plain] at hx254_1 | simp only [add_at] at hx254_1 | simp only [Addr.add, Nat.zero_add] at hx254_1 | skip)
                              (first | simp only [add_plain] at hx254_2 | simp only [add_at] at hx254_2 | simp only [Addr.add, Nat.zero_add] at hx254_2 | skip)
                              replace p254 := eq_true p254
                              replace q254 := eq_true q254
                              go_wp2_with (first | ((with_reducible refine gate_builtin (b := .append) (xs := #[.tmp 190, .tmp 196]) rfl ?_); (try (refine gate_guard (by rfl) ?_; dsimp only)); at_builtin; refine Kd.R_append (Kd.int .u64) (w0 := w) w.heap.size rfl (.tmp 190) (.tmp 196) 22 23 (.int .u64 0) 8 rfl Try.underlying22 info23 rfl (by decide) (by omega) u15 x15_4 ((rd_T54 y252 ji79).f2) [.int .u64 ((rd_T54 y252 ji79).f2)] (fun _ => True) (fun _ => False) rfl rfl ?aP (fun _ hk => hk.elim) ?aF ?aO ?aB ?aS ?aL ?_; (case aP => exact rfl); (case aB => exact (bls HB.out)); (case aF => exact (fun _ _ => trivial)); (case aO => exact (rlu HO_15.out)); (case aS => exact (below_size (bls HB.out))); (case aL => have := LMc110.out; omega); intro v256 w119 ho hb hg hat; rw [← Ny255.out] at ho; have n0_ := aA (Kd.V_afterv (ok := (fun k_ => some k_ ≠ (.slice (some ⟨go86, 0, none⟩) y252.length co89 : Value).ownBlock ∧ k_ ≠ gb204 ∧ k_ ≠ gb214 ∧ k_ ≠ gb241)) (vlu (Kd.V_mono HO_11.out (fun _ hk => ⟨⟨hk.1, ⟨hk.2.2.1, ⟨hk.2.2.2.1, hk.2.2.2.2⟩⟩⟩, hk.2.1⟩))) hg hat); have n1_ := aA (Kd.R_over' (rlu HO_12.out) (Kd.R_typed (rlu HO_15.out)) (by decide) hg); have n2_ := aA (blk_grown (g := gb204) (o := .cells #[.int .i64 1, .int .i64 (wrap64 (1 + (Int.tmod (wrap64 (a0)) 4)))] 38 (0, 0)) (bku BK204.out) hg (Kd.R_ne HO_15.out BK204.out (by decide))); have n3_ := aA (blk_grown (g := gb214) (o := .cells #[.int .i64 x215000_4, .int .u64 x215001_4, .int .u64 x215002_4] 56 (0, 0)) (bku BK214.out) hg (Kd.R_ne HO_15.out BK214.out (by decide))); have n4_ := aA (blk_grown (g := gb241) (o := .cells #[.int .i64 t236, .int .i64 t237, .int .u64 t238, .int .u64 t239] 25 (0, 0)) (bku BK241.out) hg (Kd.R_ne HO_15.out BK241.out (by decide))); have n5_ := aA (hb); have n6_ := aA (ho); clear HO_11 HO_12 BK204 BK214 BK241 HB HO_15; have HO_11 := n0_; have HO_12 := n1_; have BK204 := n2_; have BK214 := n3_; have BK241 := n4_; have HB := n5_; have HO257 := n6_; clear n0_ n1_ n2_ n3_ n4_ n5_ n6_ ho hb hg hat; obtain ⟨Ao120, co120, eo120⟩ := Kd.R_slice HO257.out; subst eo120; have p258 : 0 ≤ (ji79 : Int) := of_decide_eq_true (by first | (with_reducible assumption) | assumption); have q258 : ji79 < (y252.length : Int) := of_decide_eq_true (by first | (with_reducible assumption) | assumption); obtain ⟨ad258, e258, hx258_0, hx258_1, hx258_2⟩ := at_T54 (Kd.R_reads' HO_12.out).2.2 ji79 p258 q258; obtain rfl : (⟨go86, 0, none⟩ : Addr) = ad258 := (by injection e258); (first | simp only [add_plain] at hx258_0 | simp only [add_at] at hx258_0 | simp only [Addr.add, Nat.zero_add] at hx258_0 | skip); (first | simp only [add_plain] at hx258_1 | simp only [add_at] at hx258_1 | simp only [Addr.add, Nat.zero_add] at hx258_1 | skip); (first | simp only [add_plain] at hx258_2 | simp only [add_at] at hx258_2 | simp only [Addr.add, Nat.zero_add] at hx258_2 | skip); replace p258 := eq_true p258; replace q258 := eq_true q258))
                              (try simp only [← hl12_86])
                              go_roundg kj86
                              case measure => have := HJ3.out; have := HK2.out; have := HK3.out; have := HK4.out; have := HJ86.out; omega
                              case rel => exact ⟨(t242), (y252), (y255), (x16_4), (wrap64 (x17_4 + 1)), (x215000_4), (x215001_4), (x215002_4), (by first | rfl | (simp; done) | (simp [*]; done)), (by first | rfl | (simp; done) | (simp [*]; done)), H', ⟨by have := HJ3.out; have := HK2.out; have := HK3.out; have := HK4.out; have := HJ86.out; omega⟩, ⟨by (try simp only [hl12_86]); (with_reducible repeat (first | apply Kd.V_alloc | apply Kd.V_drewN | apply Kd.V_drew)); exact Kd.V_mono HO_11.out (fun _ hk => ⟨hk.1.1, ⟨hk.2, ⟨hk.1.2.1, hk.1.2.2.1⟩⟩⟩)⟩, ⟨by (try simp only [hl12_86]); (with_reducible repeat (first | apply Kd.R_alloc | apply Kd.R_drewN | apply Kd.R_drew)); exact HO_12.out⟩, ⟨by (try simp only [hl12_86]); (with_reducible repeat (first | apply Kd.R_alloc | apply Kd.R_drewN | apply Kd.R_drew)); exact HO257.out⟩, ⟨by (try simp only [hl12_86]); (with_reducible repeat (first | refine blk_drewN ?_ _ | refine blk_drew ?_ | refine blk_alloc ?_ _)); exact BK204.out⟩, ⟨by (try simp only [hl12_86]); (with_reducible repeat (first | refine blk_drewN ?_ _ | refine blk_drew ?_ | refine blk_alloc ?_ _)); exact BK214.out⟩, ⟨by repeat (first | (with_reducible first | exact HB.out | apply below_alloc | apply pw_below_drewN | apply below_drew1 | refine below_set ?_ GE204.out | refine below_set ?_ GE214.out | refine below_set ?_ GE241.out) | exact HB.out)⟩⟩
                         ·rw [if_neg c110] at H
                          exact absurd H (by simp)
                        ·rw [if_neg c109] at H
                         exact absurd H (by simp)
                       ·rw [if_neg c108] at H
                        exact absurd H (by simp)
                      ·replace c107 := Bool.eq_false_iff.mpr c107
                       subst c107
                       have H1 : (if (wrap64 ((x15_4.length : Int) - x16_4)) > x8_2 then (some false) else (if ((rd_T54 x12_4 (ji79)).f0) = 6 then (treillagelaw16_QueueOrder.l2 kj86 l2 x8_2 (wrap64 (1 + (Int.tmod (wrap64 (a1)) 12))) t242 y252 x15_4 x16_4 (wrap64 (x17_4 + 1)) 1 (wrap64 (1 + (Int.tmod (wrap64 (a0)) 4))) x215000_4 x215001_4 x215002_4) else (if 0 ≤ ji79 then (if ji79 < (y252.length : Int) then (if ((rd_T54 y252 ji79).f0) = 6 then (if (wrap64 ((x15_4.length : Int) - x16_4)) < x8_2 then (some false) else (treillagelaw16_QueueOrder.l2 kj86 l2 x8_2 (wrap64 (1 + (Int.tmod (wrap64 (a1)) 12))) t242 y252 x15_4 x16_4 (wrap64 (x17_4 + 1)) 1 (wrap64 (1 + (Int.tmod (wrap64 (a0)) 4))) x215000_4 x215001_4 x215002_4)) else (treillagelaw16_QueueOrder.l2 kj86 l2 x8_2 (wrap64 (1 + (Int.tmod (wrap64 (a1)) 12))) t242 y252 x15_4 x16_4 (wrap64 (x17_4 + 1)) 1 (wrap64 (1 + (Int.tmod (wrap64 (a0)) 4))) x215000_4 x215001_4 x215002_4)) else (none)) else (none)))) = some r := by rw [if_neg (show ¬ (false = true) by decide)] at H; exact H
                       clear H
                       have H := H1
                       clear H1
                       by_cases c121 : (wrap64 ((x15_4.length : Int) - x16_4)) > x8_2
                       ·rw [if_pos c121] at H
                        have c121b0 : decide (x8_2 < (wrap64 ((x15_4.length : Int) - x16_4))) = true := decide_eq_true c121
                        clear c121
                        as_aux_lemma =>
                         exact absurd ((Option.some.inj H).trans hr_) (by decide)
                       ·rw [if_neg c121] at H
                        have c121b0 : decide (x8_2 < (wrap64 ((x15_4.length : Int) - x16_4))) = false := decide_eq_false c121
                        clear c121
                        by_cases c122 : ((rd_T54 x12_4 (ji79)).f0) = 6
                        ·rw [if_pos c122] at H
                         have c122b0 : (((rd_T54 x12_4 (ji79)).f0) == 6) = true := beq_iff_eq.mpr c122
                         have c122b1 : (((rd_T54 x12_4 (ji79)).f0) != 6) = false := bne_eq_false_iff_eq.mpr c122
                         clear c122
                         as_aux_lemma =>
                          have H' := aA H
                          clear H
                          obtain ⟨Ao123, co123, eo123⟩ := Kd.R_slice HO_15.out
                          subst eo123
                          go_wp2
                          (try simp only [← hl12_86])
                          go_roundg kj86
                          case measure => have := HJ3.out; have := HK2.out; have := HK3.out; have := HK4.out; have := HJ86.out; omega
                          case rel => exact ⟨(t242), (y252), (x15_4), (x16_4), (wrap64 (x17_4 + 1)), (x215000_4), (x215001_4), (x215002_4), (by first | rfl | (simp; done) | (simp [*]; done)), (by first | rfl | (simp; done) | (simp [*]; done)), H', ⟨by have := HJ3.out; have := HK2.out; have := HK3.out; have := HK4.out; have := HJ86.out; omega⟩, ⟨by (try simp only [hl12_86]); (with_reducible repeat (first | apply Kd.V_alloc | apply Kd.V_drewN | apply Kd.V_drew)); exact Kd.V_mono HO_11.out (fun _ hk => ⟨hk.1, ⟨hk.2.1, ⟨hk.2.2.1, hk.2.2.2.1⟩⟩⟩)⟩, ⟨by (try simp only [hl12_86]); (with_reducible repeat (first | apply Kd.R_alloc | apply Kd.R_drewN | apply Kd.R_drew)); exact HO_12.out⟩, ⟨by (try simp only [hl12_86]); (with_reducible repeat (first | apply Kd.R_alloc | apply Kd.R_drewN | apply Kd.R_drew)); exact HO_15.out⟩, ⟨by (try simp only [hl12_86]); (with_reducible repeat (first | refine blk_drewN ?_ _ | refine blk_drew ?_ | refine blk_alloc ?_ _)); exact BK204.out⟩, ⟨by (try simp only [hl12_86]); (with_reducible repeat (first | refine blk_drewN ?_ _ | refine blk_drew ?_ | refine blk_alloc ?_ _)); exact BK214.out⟩, ⟨by repeat (first | (with_reducible first | exact HB.out | apply below_alloc | apply pw_below_drewN | apply below_drew1 | refine below_set ?_ GE204.out | refine below_set ?_ GE214.out | refine below_set ?_ GE241.out) | exact HB.out)⟩⟩
                        ·rw [if_neg c122] at H
                         have c122b0 : (((rd_T54 x12_4 (ji79)).f0) == 6) = false := beq_eq_false_iff_ne.mpr c122
                         have c122b1 : (((rd_T54 x12_4 (ji79)).f0) != 6) = true := bne_iff_ne.mpr c122
                         by_cases c124 : 0 ≤ ji79
                         ·rw [if_pos c124] at H
                          have c124b0 : decide (0 ≤ ji79) = true := decide_eq_true c124
                          clear c124
                          by_cases c125 : ji79 < (y252.length : Int)
                          ·rw [if_pos c125] at H
                           have c125b0 : decide (ji79 < (y252.length : Int)) = true := decide_eq_true c125
                           clear c125
                           by_cases c126 : ((rd_T54 y252 ji79).f0) = 6
                           ·rw [if_pos c126] at H
                            have c126b0 : (((rd_T54 y252 ji79).f0) == 6) = true := beq_iff_eq.mpr c126
                            have c126b1 : (((rd_T54 y252 ji79).f0) != 6) = false := bne_eq_false_iff_eq.mpr c126
                            clear c126
                            by_cases c127 : (wrap64 ((x15_4.length : Int) - x16_4)) < x8_2
                            ·rw [if_pos c127] at H
                             have c127b0 : decide ((wrap64 ((x15_4.length : Int) - x16_4)) < x8_2) = true := decide_eq_true c127
                             clear c127
                             as_aux_lemma =>
                              exact absurd ((Option.some.inj H).trans hr_) (by decide)
                            ·rw [if_neg c127] at H
                             have c127b0 : decide ((wrap64 ((x15_4.length : Int) - x16_4)) < x8_2) = false := decide_eq_false c127
                             clear c127
                             as_aux_lemma =>
                              have H' := aA H
                              clear H
                              obtain ⟨Ao128, co128, eo128⟩ := Kd.R_slice HO_15.out
                              subst eo128
                              have p259 : 0 ≤ (ji79 : Int) := of_decide_eq_true (by first | (with_reducible assumption) | assumption)
                              have q259 : ji79 < (y252.length : Int) := of_decide_eq_true (by first | (with_reducible assumption) | assumption)
                              obtain ⟨ad259, e259, hx259_0, hx259_1, hx259_2⟩ := at_T54 (Kd.R_reads' HO_12.out).2.2 ji79 p259 q259
                              obtain rfl : (⟨go86, 0, none⟩ : Addr) = ad259 := (by injection e259)
                              (first | simp only [add_plain] at hx259_0 | simp only [add_at] at hx259_0 | simp only [Addr.add, Nat.zero_add] at hx259_0 | skip)
                              (first | simp only [add_plain] at hx259_1 | simp only [add_at] at hx259_1 | simp only [Addr.add, Nat.zero_add] at hx259_1 | skip)
                              (first | simp only [add_plain] at hx259_2 | simp only [add_at] at hx259_2 | simp only [Addr.add, Nat.zero_add] at hx259_2 | skip)
                              replace p259 := eq_true p259
                              replace q259 := eq_true q259
                              go_wp2
                              (try simp only [← hl12_86])
                              go_roundg kj86
                              case measure => have := HJ3.out; have := HK2.out; have := HK3.out; have := HK4.out; have := HJ86.out; omega
                              case rel => exact ⟨(t242), (y252), (x15_4), (x16_4), (wrap64 (x17_4 + 1)), (x215000_4), (x215001_4), (x215002_4), (by first | rfl | (simp; done) | (simp [*]; done)), (by first | rfl | (simp; done) | (simp [*]; done)), H', ⟨by have := HJ3.out; have := HK2.out; have := HK3.out; have := HK4.out; have := HJ86.out; omega⟩, ⟨by (try simp only [hl12_86]); (with_reducible repeat (first | apply Kd.V_alloc | apply Kd.V_drewN | apply Kd.V_drew)); exact Kd.V_mono HO_11.out (fun _ hk => ⟨hk.1, ⟨hk.2.1, ⟨hk.2.2.1, hk.2.2.2.1⟩⟩⟩)⟩, ⟨by (try simp only [hl12_86]); (with_reducible repeat (first | apply Kd.R_alloc | apply Kd.R_drewN | apply Kd.R_drew)); exact HO_12.out⟩, ⟨by (try simp only [hl12_86]); (with_reducible repeat (first | apply Kd.R_alloc | apply Kd.R_drewN | apply Kd.R_drew)); exact HO_15.out⟩, ⟨by (try simp only [hl12_86]); (with_reducible repeat (first | refine blk_drewN ?_ _ | refine blk_drew ?_ | refine blk_alloc ?_ _)); exact BK204.out⟩, ⟨by (try simp only [hl12_86]); (with_reducible repeat (first | refine blk_drewN ?_ _ | refine blk_drew ?_ | refine blk_alloc ?_ _)); exact BK214.out⟩, ⟨by repeat (first | (with_reducible first | exact HB.out | apply below_alloc | apply pw_below_drewN | apply below_drew1 | refine below_set ?_ GE204.out | refine below_set ?_ GE214.out | refine below_set ?_ GE241.out) | exact HB.out)⟩⟩
                           ·rw [if_neg c126] at H
                            have c126b0 : (((rd_T54 y252 ji79).f0) == 6) = false := beq_eq_false_iff_ne.mpr c126
                            have c126b1 : (((rd_T54 y252 ji79).f0) != 6) = true := bne_iff_ne.mpr c126
                            as_aux_lemma =>
                             have H' := aA H
                             clear H
                             obtain ⟨Ao129, co129, eo129⟩ := Kd.R_slice HO_15.out
                             subst eo129
                             have p259 : 0 ≤ (ji79 : Int) := of_decide_eq_true (by first | (with_reducible assumption) | assumption)
                             have q259 : ji79 < (y252.length : Int) := of_decide_eq_true (by first | (with_reducible assumption) | assumption)
                             obtain ⟨ad259, e259, hx259_0, hx259_1, hx259_2⟩ := at_T54 (Kd.R_reads' HO_12.out).2.2 ji79 p259 q259
                             obtain rfl : (⟨go86, 0, none⟩ : Addr) = ad259 := (by injection e259)
                             (first | simp only [add_plain] at hx259_0 | simp only [add_at] at hx259_0 | simp only [Addr.add, Nat.zero_add] at hx259_0 | skip)
                             (first | simp only [add_plain] at hx259_1 | simp only [add_at] at hx259_1 | simp only [Addr.add, Nat.zero_add] at hx259_1 | skip)
                             (first | simp only [add_plain] at hx259_2 | simp only [add_at] at hx259_2 | simp only [Addr.add, Nat.zero_add] at hx259_2 | skip)
                             replace p259 := eq_true p259
                             replace q259 := eq_true q259
                             go_wp2
                             (try simp only [← hl12_86])
                             go_roundg kj86
                             case measure => have := HJ3.out; have := HK2.out; have := HK3.out; have := HK4.out; have := HJ86.out; omega
                             case rel => exact ⟨(t242), (y252), (x15_4), (x16_4), (wrap64 (x17_4 + 1)), (x215000_4), (x215001_4), (x215002_4), (by first | rfl | (simp; done) | (simp [*]; done)), (by first | rfl | (simp; done) | (simp [*]; done)), H', ⟨by have := HJ3.out; have := HK2.out; have := HK3.out; have := HK4.out; have := HJ86.out; omega⟩, ⟨by (try simp only [hl12_86]); (with_reducible repeat (first | apply Kd.V_alloc | apply Kd.V_drewN | apply Kd.V_drew)); exact Kd.V_mono HO_11.out (fun _ hk => ⟨hk.1, ⟨hk.2.1, ⟨hk.2.2.1, hk.2.2.2.1⟩⟩⟩)⟩, ⟨by (try simp only [hl12_86]); (with_reducible repeat (first | apply Kd.R_alloc | apply Kd.R_drewN | apply Kd.R_drew)); exact HO_12.out⟩, ⟨by (try simp only [hl12_86]); (with_reducible repeat (first | apply Kd.R_alloc | apply Kd.R_drewN | apply Kd.R_drew)); exact HO_15.out⟩, ⟨by (try simp only [hl12_86]); (with_reducible repeat (first | refine blk_drewN ?_ _ | refine blk_drew ?_ | refine blk_alloc ?_ _)); exact BK204.out⟩, ⟨by (try simp only [hl12_86]); (with_reducible repeat (first | refine blk_drewN ?_ _ | refine blk_drew ?_ | refine blk_alloc ?_ _)); exact BK214.out⟩, ⟨by repeat (first | (with_reducible first | exact HB.out | apply below_alloc | apply pw_below_drewN | apply below_drew1 | refine below_set ?_ GE204.out | refine below_set ?_ GE214.out | refine below_set ?_ GE241.out) | exact HB.out)⟩⟩
                          ·rw [if_neg c125] at H
                           exact absurd H (by simp)
                         ·rw [if_neg c124] at H
                          exact absurd H (by simp)
                   ·replace c83 := Bool.eq_false_iff.mpr c83
                    subst c83
                    have H1 : (treillagelaw16_QueueOrder.l2 k4 l2 x8_2 (wrap64 (1 + (Int.tmod (wrap64 (a1)) 12))) x11_4 x12_4 x15_4 x16_4 (wrap64 (x17_4 + 1)) 1 (wrap64 (1 + (Int.tmod (wrap64 (a0)) 4))) x215000_4 x215001_4 x215002_4) = some r := by rw [if_neg (show ¬ (false = true) by decide)] at H; exact H
                    clear H
                    have H := H1
                    clear H1
                    as_aux_lemma =>
                     have H' := aA H
                     clear H
                     have p218 : 0 ≤ (x17_4 : Int) := of_decide_eq_true (by first | (with_reducible assumption) | assumption)
                     have q218 : x17_4 < (l2.length : Int) := of_decide_eq_true (by first | (with_reducible assumption) | assumption)
                     obtain ⟨ad218, e218, hx218_0⟩ := Kd.at_int HR2.out x17_4 p218 q218
                     cases e218
                     replace hx218_0 := (HB.out.cell (World.block_lt_of_cell? w _ hx218_0)).trans hx218_0
                     replace p218 := eq_true p218
                     replace q218 := eq_true q218
                     try go_wp2
                     have n0_ := aA (Kd.V_drew HO_11.out)
                     have n1_ := aA (Kd.R_drew HO_12.out)
                     have n2_ := aA (Kd.R_drew HO_15.out)
                     have n3_ := aA (blk_drew BK204.out)
                     have n4_ := aA (blk_drew BK214.out)
                     have n5_ := aA (below_drew1 HB.out)
                     clear HO_11
                     clear HO_12
                     clear HO_15
                     clear BK204
                     clear BK214
                     clear HB
                     have HO_11 := n0_
                     have HO_12 := n1_
                     have HO_15 := n2_
                     have BK204 := n3_
                     have BK214 := n4_
                     have HB := n5_
                     clear n0_ n1_ n2_ n3_ n4_ n5_
                     obtain ⟨Ao131, co131, eo131⟩ := Kd.R_slice HO_12.out
                     (first | subst eo131 | (injection eo131 with f1_ f2_ f3_; have f4_ := f1_.symm; have f5_ := f3_.symm; clear f1_ f2_ f3_; subst f4_; subst f5_))
                     have p235 : 0 ≤ ((ji79) : Int) := of_decide_eq_true (by first | (with_reducible assumption) | assumption)
                     have q235 : (ji79) < (x12_4.length : Int) := of_decide_eq_true (by first | (with_reducible assumption) | assumption)
                     obtain ⟨ad235, e235, hx235_0, hx235_1, hx235_2⟩ := at_T54 (Kd.R_reads' HO_12.out).2.2 (ji79) p235 q235
                     cases e235
                     replace p235 := eq_true p235
                     replace q235 := eq_true q235
                     refine start_ (n := 12) (S := fun w' => w'.cell? ⟨gb204, 0, none⟩ = some (.int .i64 1) ∧ w'.cell? ⟨gb204, 1, none⟩ = some (.int .i64 (wrap64 (1 + (Int.tmod (wrap64 (a0)) 4)))) ∧ w'.cell? (ad235.add (((ji79)).toNat * 3)) = some (.int .i64 ((rd_T54 x12_4 (ji79)).f0)) ∧ w'.cell? ⟨(ad235.add (((ji79)).toNat * 3)).block, (ad235.add (((ji79)).toNat * 3)).off + 1, none⟩ = some (.int .u64 ((rd_T54 x12_4 (ji79)).f1)) ∧ w'.cell? ⟨(ad235.add (((ji79)).toNat * 3)).block, (ad235.add (((ji79)).toNat * 3)).off + 2, none⟩ = some (.int .u64 ((rd_T54 x12_4 (ji79)).f2))) (ds := []) #[false, false, false, false, false, false, false, false, false, false, false, false] (by kernel_rfl) rfl rfl ⟨(blk_cell BK204.out 0).trans rfl, (blk_cell BK204.out 1).trans rfl, hx235_0, hx235_1, hx235_2⟩ (fun hHeld => ?_); refine with_tabW treillagelaw16_QueueOrder.tab32 treillagelaw16_QueueOrder.bits32 (fun HT_ HW_ => ?_)
                     generalize wr.drew = w130 at HO_11 HO_12 HO_15 BK204 BK214 HB hx235_0 hx235_1 hx235_2 hHeld ⊢
                     refine pure_ (i := 1) (N := some 148) (v := ?_) (a' := ?_) #[false, true, false, false, false, false, false, false, false, false, false, false] rfl rfl (any_of HT_.out (by kernel_rfl)) (fun _ _ _ h => h) (Or.inl ⟨by rfl, ?_⟩) ?_ ?_
                     rotate_left
                     ·intro w'
                      go_simp
                      with_reducible rfl
                     rotate_left
                     ·simp only [Act.put, List.setIfInBounds_toArray, List.set_cons_zero, List.set_cons_succ, i64_w, i32_w]
                      rfl
                     refine pure_ (i := 2) (N := some 149) (v := ?_) (a' := ?_) #[false, true, true, false, false, false, false, false, false, false, false, false] rfl rfl (any_of HT_.out (by kernel_rfl)) (fun _ _ _ h => h) (Or.inl ⟨by rfl, ?_⟩) ?_ ?_
                     rotate_left
                     ·intro w'
                      go_simp
                      with_reducible rfl
                     rotate_left
                     ·simp only [Act.put, List.setIfInBounds_toArray, List.set_cons_zero, List.set_cons_succ, i64_w, i32_w]
                      rfl
                     refine pure_ (i := 3) (N := some 150) (v := ?_) (a' := ?_) #[false, true, true, true, false, false, false, false, false, false, false, false] rfl rfl (any_of HT_.out (by kernel_rfl)) (fun _ _ _ h => h) (Or.inl ⟨by rfl, ?_⟩) ?_ ?_
                     rotate_left
                     ·intro w'
                      go_simp
                      with_reducible rfl
                     rotate_left
                     ·simp only [Act.put, List.setIfInBounds_toArray, List.set_cons_zero, List.set_cons_succ, i64_w, i32_w]
                      rfl
                     refine take_ (i := 0) (N := some 147) (v := ?_) (a' := ?_) #[true, true, true, true, false, false, false, false, false, false, false, false] rfl rfl (take_ofW HT_.out HW_.out (by kernel_rfl)) (fun _ _ _ h => h) (Or.inl ⟨by rfl, ?_⟩) hHeld ?_ ?_
                     rotate_left
                     ·rintro w' ⟨s0, s1, s2, s3, s4⟩
                      go_simp
                      with_reducible rfl
                     rotate_left
                     ·simp only [Act.put, List.setIfInBounds_toArray, List.set_cons_zero, List.set_cons_succ, i64_w, i32_w]
                      rfl
                     refine take_ (i := 4) (N := some 151) (v := ?_) (a' := ?_) #[true, true, true, true, true, false, false, false, false, false, false, false] rfl rfl (take_ofW HT_.out HW_.out (by kernel_rfl)) (fun _ _ _ h => h) (Or.inl ⟨by rfl, ?_⟩) hHeld ?_ ?_
                     rotate_left
                     ·rintro w' ⟨s0, s1, s2, s3, s4⟩
                      go_simp
                      with_reducible rfl
                     rotate_left
                     ·simp only [Act.put, List.setIfInBounds_toArray, List.set_cons_zero, List.set_cons_succ, i64_w, i32_w]
                      rfl
                     refine join_ (σ := Nat) 2 #[true, true, true, true, true, true, true, true, true, true, false, false] (fun s_ => [(152, .tuple #[.agg #[.int .i64 t236, .int .i64 t237, .int .u64 t238, .int .u64 t239], .bool false]), (24, .pointer (some ⟨s_, 0, none⟩)), (146, .tuple #[.agg #[.int .i64 t236, .int .i64 t237, .int .u64 t238, .int .u64 t239], .bool false]), (153, .agg #[.int .i64 t236, .int .i64 t237, .int .u64 t238, .int .u64 t239]), (154, .bool false)]) (fun s_ w' => (w'.cell? ⟨gb204, 0, none⟩ = some (.int .i64 1) ∧ w'.cell? ⟨gb204, 1, none⟩ = some (.int .i64 (wrap64 (1 + (Int.tmod (wrap64 (a0)) 4)))) ∧ w'.cell? (ad235.add (((ji79)).toNat * 3)) = some (.int .i64 ((rd_T54 x12_4 (ji79)).f0)) ∧ w'.cell? ⟨(ad235.add (((ji79)).toNat * 3)).block, (ad235.add (((ji79)).toNat * 3)).off + 1, none⟩ = some (.int .u64 ((rd_T54 x12_4 (ji79)).f1)) ∧ w'.cell? ⟨(ad235.add (((ji79)).toNat * 3)).block, (ad235.add (((ji79)).toNat * 3)).off + 2, none⟩ = some (.int .u64 ((rd_T54 x12_4 (ji79)).f2))) ∧ (Kd.V (Kd.int .u64) 23 w' w.heap.size (fun k_ => some k_ ≠ (.slice (some ad235) x12_4.length co131 : Value).ownBlock ∧ some k_ ≠ (u15 : Value).ownBlock ∧ k_ ≠ gb204 ∧ k_ ≠ gb214 ∧ k_ ≠ s_) u11 x11_4) ∧ (Kd.R k54 54 w' w.heap.size (fun _ => True) (.slice (some ad235) x12_4.length co131) x12_4) ∧ (Kd.R (Kd.int .u64) 23 w' w.heap.size (fun _ => True) u15 x15_4) ∧ (w'.heap[gb204]? = some (.cells #[.int .i64 1, .int .i64 (wrap64 (1 + (Int.tmod (wrap64 (a0)) 4)))] 38 (0, 0))) ∧ (w'.heap[gb214]? = some (.cells #[.int .i64 x215000_4, .int .u64 x215001_4, .int .u64 x215002_4] 56 (0, 0))) ∧ (w'.heap[s_]? = some (.cells #[.int .i64 0, .int .i64 0, .int .u64 0, .int .u64 0] 25 (0, 0))) ∧ (w.heap.size ≤ s_) ∧ (w.heap.size ≤ s_) ∧ (gb204 ≠ s_) ∧ (s_ ≠ gb204) ∧ (gb214 ≠ s_) ∧ (s_ ≠ gb214) ∧ (Below w.heap.size w w')) ?_ ?_
                     rotate_left
                     ·intro hCont
                      refine two_ (i := 5) (j := 9) (Ni := some 152) (Nj := some 24) #[true, true, true, true, true, true, false, false, false, false, false, false] #[true, true, true, true, true, false, false, false, false, true, false, false] rfl rfl rfl rfl (two_of HT_.out (by kernel_rfl)) (by decide) (by decide) (fun K hK => ?_) (fun K hK => ?_)
                      ·skip
                       refine goes_ Try.func47 (by kernel_rfl) rfl #[.agg #[.int .i64 1, .int .i64 (wrap64 (1 + (Int.tmod (wrap64 (a0)) 4)))], .agg #[.int .i64 ((rd_T54 x12_4 (ji79)).f0), .int .u64 ((rd_T54 x12_4 (ji79)).f1), .int .u64 ((rd_T54 x12_4 (ji79)).f2)]] (by rfl) rfl rfl (by (try simp only [List.map_toArray, List.map_cons, List.map_nil]); first | done | (simp only [hji79]; rfl) | rfl | (simp only [List.length_drop, List.length_take]; rfl)) ?_
                       with_reducible refine (queue_Want.calls 1 (wrap64 (1 + (Int.tmod (wrap64 (a0)) 4))) ((rd_T54 x12_4 (ji79)).f0) ((rd_T54 x12_4 (ji79)).f1) ((rd_T54 x12_4 (ji79)).f2) t236 t237 t238 t239 false _ A82.out).mono ?_
                       rintro e w132 ⟨rfl, hb⟩
                       have HS2_ := (hb.cell (World.block_lt_of_cell? _ _ (hHeld.2.2.1))).trans (hHeld.2.2.1)
                       have HS3_ := (hb.cell (World.block_lt_of_cell? _ _ (hHeld.2.2.2.1))).trans (hHeld.2.2.2.1)
                       have HS4_ := (hb.cell (World.block_lt_of_cell? _ _ (hHeld.2.2.2.2))).trans (hHeld.2.2.2.2)
                       refine ⟨_, rfl, ?_⟩
                       have n0_ := aA (Kd.V_below (vlu HO_11.out) hb)
                       have n1_ := aA (Kd.R_below (rlu HO_12.out) hb)
                       have n2_ := aA (Kd.R_below (rlu HO_15.out) hb)
                       have n3_ := aA (blk_below (g := gb204) (o := .cells #[.int .i64 1, .int .i64 (wrap64 (1 + (Int.tmod (wrap64 (a0)) 4)))] 38 (0, 0)) (bku BK204.out) hb)
                       have n4_ := aA (blk_below (g := gb214) (o := .cells #[.int .i64 x215000_4, .int .u64 x215001_4, .int .u64 x215002_4] 56 (0, 0)) (bku BK214.out) hb)
                       have n5_ := aA (below_step (bls HB.out) hb)
                       clear HO_11
                       clear HO_12
                       clear HO_15
                       clear BK204
                       clear BK214
                       clear HB
                       have HO_11 := n0_
                       have HO_12 := n1_
                       have HO_15 := n2_
                       have BK204 := n3_
                       have BK214 := n4_
                       have HB := n5_
                       clear n0_ n1_ n2_ n3_ n4_ n5_
                       (try clear hb)
                       (try clear hb2)
                       (try clear hk)
                       (try clear hi)
                       refine hK.out _ _ ⟨(blk_cell BK204.out 0).trans rfl, (blk_cell BK204.out 1).trans rfl, HS2_, HS3_, HS4_⟩ (fun hHeld => ?_)
                       clear hK K
                       refine norm_ (a' := ?_) ?_ ?_
                       rotate_left
                       ·show Act.put _ (some 152) _ = _
                        simp only [Act.put, List.setIfInBounds_toArray, List.set_cons_zero, List.set_cons_succ, i64_w, i32_w]
                        rfl
                       refine pure_ (i := 6) (N := some 146) (v := ?_) (a' := ?_) #[true, true, true, true, true, true, true, false, false, false, false, false] rfl rfl (any_of HT_.out (by kernel_rfl)) (fun _ _ _ h => h) (Or.inl ⟨by rfl, ?_⟩) ?_ ?_
                       rotate_left
                       ·intro w'
                        go_simp
                        with_reducible rfl
                       rotate_left
                       ·simp only [Act.put, List.setIfInBounds_toArray, List.set_cons_zero, List.set_cons_succ, i64_w, i32_w]
                        rfl
                       refine pure_ (i := 7) (N := some 153) (v := ?_) (a' := ?_) #[true, true, true, true, true, true, true, true, false, false, false, false] rfl rfl (any_of HT_.out (by kernel_rfl)) (fun _ _ _ h => h) (Or.inl ⟨by rfl, ?_⟩) ?_ ?_
                       rotate_left
                       ·intro w'
                        go_simp
                        with_reducible rfl
                       rotate_left
                       ·simp only [Act.put, List.setIfInBounds_toArray, List.set_cons_zero, List.set_cons_succ, i64_w, i32_w]
                        rfl
                       refine pure_ (i := 8) (N := some 154) (v := ?_) (a' := ?_) #[true, true, true, true, true, true, true, true, true, false, false, false] rfl rfl (any_of HT_.out (by kernel_rfl)) (fun _ _ _ h => h) (Or.inl ⟨by rfl, ?_⟩) ?_ ?_
                       rotate_left
                       ·intro w'
                        go_simp
                        with_reducible rfl
                       rotate_left
                       ·simp only [Act.put, List.setIfInBounds_toArray, List.set_cons_zero, List.set_cons_succ, i64_w, i32_w]
                        rfl
                       refine one_ (i := 9) (N := some 24) #[true, true, true, true, true, true, true, true, true, true, false, false] rfl rfl (one_of HT_.out (by kernel_rfl)) (by decide) (fun K hK => ?_)
                       refine box_step ?hg (N := 24) ?hd (cs := #[.int .i64 0, .int .i64 0, .int .u64 0, .int .u64 0]) (t := 25) ?hr ?_; (case hd => rfl); (case hg => rfl); (case hr => first | (go_simp; done) | (go_simp; rfl))
                       intro gb241 hg w133 hbox hb
                       have HS2_ := (hb.cell (World.block_lt_of_cell? _ _ (hHeld.2.2.1))).trans (hHeld.2.2.1)
                       have HS3_ := (hb.cell (World.block_lt_of_cell? _ _ (hHeld.2.2.2.1))).trans (hHeld.2.2.2.1)
                       have HS4_ := (hb.cell (World.block_lt_of_cell? _ _ (hHeld.2.2.2.2))).trans (hHeld.2.2.2.2)
                       have n0_ := aA (Kd.V_below (Kd.V_elderB (vlu HO_11.out) gb241 (Nat.le_of_eq hg.symm)) hb)
                       have n1_ := aA (Kd.R_below (rlu HO_12.out) hb)
                       have n2_ := aA (Kd.R_below (rlu HO_15.out) hb)
                       have n3_ := aA (blk_below (g := gb204) (o := .cells #[.int .i64 1, .int .i64 (wrap64 (1 + (Int.tmod (wrap64 (a0)) 4)))] 38 (0, 0)) (bku BK204.out) hb)
                       have n4_ := aA (blk_below (g := gb214) (o := .cells #[.int .i64 x215000_4, .int .u64 x215001_4, .int .u64 x215002_4] 56 (0, 0)) (bku BK214.out) hb)
                       have n5_ := aA (below_step (bls HB.out) hb)
                       have n6_ := aA (hbox)
                       have n7_ := aA ((by rw [hg]; exact (below_size (bls HB.out)) : w.heap.size ≤ gb241))
                       have n8_ := aA ((by rw [hg]; exact (below_size (bls HB.out)) : w.heap.size ≤ gb241))
                       have n9_ := aA ((by rw [hg]; exact Nat.ne_of_lt (blk_lt (g := gb204) (o := .cells #[.int .i64 1, .int .i64 (wrap64 (1 + (Int.tmod (wrap64 (a0)) 4)))] 38 (0, 0)) (bku BK204.out)) : gb204 ≠ gb241))
                       have n10_ := aA ((by rw [hg]; exact Nat.ne_of_gt (blk_lt (g := gb204) (o := .cells #[.int .i64 1, .int .i64 (wrap64 (1 + (Int.tmod (wrap64 (a0)) 4)))] 38 (0, 0)) (bku BK204.out)) : gb241 ≠ gb204))
                       have n11_ := aA ((by rw [hg]; exact Nat.ne_of_lt (blk_lt (g := gb214) (o := .cells #[.int .i64 x215000_4, .int .u64 x215001_4, .int .u64 x215002_4] 56 (0, 0)) (bku BK214.out)) : gb214 ≠ gb241))
                       have n12_ := aA ((by rw [hg]; exact Nat.ne_of_gt (blk_lt (g := gb214) (o := .cells #[.int .i64 x215000_4, .int .u64 x215001_4, .int .u64 x215002_4] 56 (0, 0)) (bku BK214.out)) : gb241 ≠ gb214))
                       clear HO_11
                       clear HO_12
                       clear HO_15
                       clear BK204
                       clear BK214
                       clear HB
                       have HO_11 := n0_
                       have HO_12 := n1_
                       have HO_15 := n2_
                       have BK204 := n3_
                       have BK214 := n4_
                       have HB := n5_
                       have BK241 := n6_
                       have GW241 := n7_
                       have GE241 := n8_
                       have NB204_241 := n9_
                       have NB241_204 := n10_
                       have NB214_241 := n11_
                       have NB241_214 := n12_
                       clear n0_ n1_ n2_ n3_ n4_ n5_ n6_ n7_ n8_ n9_ n10_ n11_ n12_
                       clear hb hbox hg
                       refine hK.out _ _ ⟨(blk_cell BK204.out 0).trans rfl, (blk_cell BK204.out 1).trans rfl, HS2_, HS3_, HS4_⟩ (fun hHeld => ?_)
                       clear hK K
                       refine norm_ (a' := ?_) ?_ ?_
                       rotate_left
                       ·show Act.put _ (some 24) _ = _
                        simp only [Act.put, List.setIfInBounds_toArray, List.set_cons_zero, List.set_cons_succ, i64_w, i32_w]
                        rfl
                       exact norm_ (by simp only [putAll, Act.put, List.setIfInBounds_toArray, List.set_cons_zero, List.set_cons_succ]) (hCont (gb241) _ ⟨hHeld, (vlu (Kd.V_mono HO_11.out (fun _ hk => ⟨hk.1.1, ⟨hk.1.2.1, ⟨hk.1.2.2.1, ⟨hk.1.2.2.2, hk.2⟩⟩⟩⟩))), (rlu HO_12.out), (rlu HO_15.out), (bku BK204.out), (bku BK214.out), (bku BK241.out), GW241.out, GE241.out, NB204_241.out, NB241_204.out, NB214_241.out, NB241_214.out, (bls HB.out)⟩)
                      ·skip
                       refine box_step ?hg (N := 24) ?hd (cs := #[.int .i64 0, .int .i64 0, .int .u64 0, .int .u64 0]) (t := 25) ?hr ?_; (case hd => rfl); (case hg => rfl); (case hr => first | (go_simp; done) | (go_simp; rfl))
                       intro gb241 hg w132 hbox hb
                       have HS2_ := (hb.cell (World.block_lt_of_cell? _ _ (hHeld.2.2.1))).trans (hHeld.2.2.1)
                       have HS3_ := (hb.cell (World.block_lt_of_cell? _ _ (hHeld.2.2.2.1))).trans (hHeld.2.2.2.1)
                       have HS4_ := (hb.cell (World.block_lt_of_cell? _ _ (hHeld.2.2.2.2))).trans (hHeld.2.2.2.2)
                       have n0_ := aA (Kd.V_below (Kd.V_elderB (vlu HO_11.out) gb241 (Nat.le_of_eq hg.symm)) hb)
                       have n1_ := aA (Kd.R_below (rlu HO_12.out) hb)
                       have n2_ := aA (Kd.R_below (rlu HO_15.out) hb)
                       have n3_ := aA (blk_below (g := gb204) (o := .cells #[.int .i64 1, .int .i64 (wrap64 (1 + (Int.tmod (wrap64 (a0)) 4)))] 38 (0, 0)) (bku BK204.out) hb)
                       have n4_ := aA (blk_below (g := gb214) (o := .cells #[.int .i64 x215000_4, .int .u64 x215001_4, .int .u64 x215002_4] 56 (0, 0)) (bku BK214.out) hb)
                       have n5_ := aA (below_step (bls HB.out) hb)
                       have n6_ := aA (hbox)
                       have n7_ := aA ((by rw [hg]; exact (below_size (bls HB.out)) : w.heap.size ≤ gb241))
                       have n8_ := aA ((by rw [hg]; exact (below_size (bls HB.out)) : w.heap.size ≤ gb241))
                       have n9_ := aA ((by rw [hg]; exact Nat.ne_of_lt (blk_lt (g := gb204) (o := .cells #[.int .i64 1, .int .i64 (wrap64 (1 + (Int.tmod (wrap64 (a0)) 4)))] 38 (0, 0)) (bku BK204.out)) : gb204 ≠ gb241))
                       have n10_ := aA ((by rw [hg]; exact Nat.ne_of_gt (blk_lt (g := gb204) (o := .cells #[.int .i64 1, .int .i64 (wrap64 (1 + (Int.tmod (wrap64 (a0)) 4)))] 38 (0, 0)) (bku BK204.out)) : gb241 ≠ gb204))
                       have n11_ := aA ((by rw [hg]; exact Nat.ne_of_lt (blk_lt (g := gb214) (o := .cells #[.int .i64 x215000_4, .int .u64 x215001_4, .int .u64 x215002_4] 56 (0, 0)) (bku BK214.out)) : gb214 ≠ gb241))
                       have n12_ := aA ((by rw [hg]; exact Nat.ne_of_gt (blk_lt (g := gb214) (o := .cells #[.int .i64 x215000_4, .int .u64 x215001_4, .int .u64 x215002_4] 56 (0, 0)) (bku BK214.out)) : gb241 ≠ gb214))
                       clear HO_11
                       clear HO_12
                       clear HO_15
                       clear BK204
                       clear BK214
                       clear HB
                       have HO_11 := n0_
                       have HO_12 := n1_
                       have HO_15 := n2_
                       have BK204 := n3_
                       have BK214 := n4_
                       have HB := n5_
                       have BK241 := n6_
                       have GW241 := n7_
                       have GE241 := n8_
                       have NB204_241 := n9_
                       have NB241_204 := n10_
                       have NB214_241 := n11_
                       have NB241_214 := n12_
                       clear n0_ n1_ n2_ n3_ n4_ n5_ n6_ n7_ n8_ n9_ n10_ n11_ n12_
                       clear hb hbox hg
                       refine hK.out _ _ ⟨(blk_cell BK204.out 0).trans rfl, (blk_cell BK204.out 1).trans rfl, HS2_, HS3_, HS4_⟩ (fun hHeld => ?_)
                       clear hK K
                       refine norm_ (a' := ?_) ?_ ?_
                       rotate_left
                       ·show Act.put _ (some 24) _ = _
                        simp only [Act.put, List.setIfInBounds_toArray, List.set_cons_zero, List.set_cons_succ, i64_w, i32_w]
                        rfl
                       refine one_ (i := 5) (N := some 152) #[true, true, true, true, true, true, false, false, false, true, false, false] rfl rfl (one_of HT_.out (by kernel_rfl)) (by decide) (fun K hK => ?_)
                       refine goes_ Try.func47 (by kernel_rfl) rfl #[.agg #[.int .i64 1, .int .i64 (wrap64 (1 + (Int.tmod (wrap64 (a0)) 4)))], .agg #[.int .i64 ((rd_T54 x12_4 (ji79)).f0), .int .u64 ((rd_T54 x12_4 (ji79)).f1), .int .u64 ((rd_T54 x12_4 (ji79)).f2)]] (by rfl) rfl rfl (by (try simp only [List.map_toArray, List.map_cons, List.map_nil]); first | done | (simp only [hji79]; rfl) | rfl | (simp only [List.length_drop, List.length_take]; rfl)) ?_
                       with_reducible refine (queue_Want.calls 1 (wrap64 (1 + (Int.tmod (wrap64 (a0)) 4))) ((rd_T54 x12_4 (ji79)).f0) ((rd_T54 x12_4 (ji79)).f1) ((rd_T54 x12_4 (ji79)).f2) t236 t237 t238 t239 false _ A82.out).mono ?_
                       rintro e w133 ⟨rfl, hb⟩
                       have HS2_ := (hb.cell (World.block_lt_of_cell? _ _ (hHeld.2.2.1))).trans (hHeld.2.2.1)
                       have HS3_ := (hb.cell (World.block_lt_of_cell? _ _ (hHeld.2.2.2.1))).trans (hHeld.2.2.2.1)
                       have HS4_ := (hb.cell (World.block_lt_of_cell? _ _ (hHeld.2.2.2.2))).trans (hHeld.2.2.2.2)
                       refine ⟨_, rfl, ?_⟩
                       have n0_ := aA (Kd.V_below (vlu HO_11.out) hb)
                       have n1_ := aA (Kd.R_below (rlu HO_12.out) hb)
                       have n2_ := aA (Kd.R_below (rlu HO_15.out) hb)
                       have n3_ := aA (blk_below (g := gb204) (o := .cells #[.int .i64 1, .int .i64 (wrap64 (1 + (Int.tmod (wrap64 (a0)) 4)))] 38 (0, 0)) (bku BK204.out) hb)
                       have n4_ := aA (blk_below (g := gb214) (o := .cells #[.int .i64 x215000_4, .int .u64 x215001_4, .int .u64 x215002_4] 56 (0, 0)) (bku BK214.out) hb)
                       have n5_ := aA (blk_below (g := gb241) (o := .cells #[.int .i64 0, .int .i64 0, .int .u64 0, .int .u64 0] 25 (0, 0)) (bku BK241.out) hb)
                       have n6_ := aA (below_step (bls HB.out) hb)
                       clear HO_11
                       clear HO_12
                       clear HO_15
                       clear BK204
                       clear BK214
                       clear BK241
                       clear HB
                       have HO_11 := n0_
                       have HO_12 := n1_
                       have HO_15 := n2_
                       have BK204 := n3_
                       have BK214 := n4_
                       have BK241 := n5_
                       have HB := n6_
                       clear n0_ n1_ n2_ n3_ n4_ n5_ n6_
                       (try clear hb)
                       (try clear hb2)
                       (try clear hk)
                       (try clear hi)
                       refine hK.out _ _ ⟨(blk_cell BK204.out 0).trans rfl, (blk_cell BK204.out 1).trans rfl, HS2_, HS3_, HS4_⟩ (fun hHeld => ?_)
                       clear hK K
                       refine norm_ (a' := ?_) ?_ ?_
                       rotate_left
                       ·show Act.put _ (some 152) _ = _
                        simp only [Act.put, List.setIfInBounds_toArray, List.set_cons_zero, List.set_cons_succ, i64_w, i32_w]
                        rfl
                       refine pure_ (i := 6) (N := some 146) (v := ?_) (a' := ?_) #[true, true, true, true, true, true, true, false, false, true, false, false] rfl rfl (any_of HT_.out (by kernel_rfl)) (fun _ _ _ h => h) (Or.inl ⟨by rfl, ?_⟩) ?_ ?_
                       rotate_left
                       ·intro w'
                        go_simp
                        with_reducible rfl
                       rotate_left
                       ·simp only [Act.put, List.setIfInBounds_toArray, List.set_cons_zero, List.set_cons_succ, i64_w, i32_w]
                        rfl
                       refine pure_ (i := 7) (N := some 153) (v := ?_) (a' := ?_) #[true, true, true, true, true, true, true, true, false, true, false, false] rfl rfl (any_of HT_.out (by kernel_rfl)) (fun _ _ _ h => h) (Or.inl ⟨by rfl, ?_⟩) ?_ ?_
                       rotate_left
                       ·intro w'
                        go_simp
                        with_reducible rfl
                       rotate_left
                       ·simp only [Act.put, List.setIfInBounds_toArray, List.set_cons_zero, List.set_cons_succ, i64_w, i32_w]
                        rfl
                       refine pure_ (i := 8) (N := some 154) (v := ?_) (a' := ?_) #[true, true, true, true, true, true, true, true, true, true, false, false] rfl rfl (any_of HT_.out (by kernel_rfl)) (fun _ _ _ h => h) (Or.inl ⟨by rfl, ?_⟩) ?_ ?_
                       rotate_left
                       ·intro w'
                        go_simp
                        with_reducible rfl
                       rotate_left
                       ·simp only [Act.put, List.setIfInBounds_toArray, List.set_cons_zero, List.set_cons_succ, i64_w, i32_w]
                        rfl
                       exact norm_ (by simp only [putAll, Act.put, List.setIfInBounds_toArray, List.set_cons_zero, List.set_cons_succ]) (hCont (gb241) _ ⟨hHeld, (vlu (Kd.V_mono HO_11.out (fun _ hk => ⟨hk.1.1, ⟨hk.1.2.1, ⟨hk.1.2.2.1, ⟨hk.1.2.2.2, hk.2⟩⟩⟩⟩))), (rlu HO_12.out), (rlu HO_15.out), (bku BK204.out), (bku BK214.out), (bku BK241.out), GW241.out, GE241.out, NB204_241.out, NB241_204.out, NB214_241.out, NB241_214.out, (bls HB.out)⟩)
                     rintro gb241 w134 ⟨hS_, h0_, h1_, h2_, h3_, h4_, h5_, h6_, h7_, h8_, h9_, h10_, h11_, h12_⟩
                     have n0_ : Aside0 (Kd.V (Kd.int .u64) 23 w134 w.heap.size (fun k_ => some k_ ≠ (.slice (some ad235) x12_4.length co131 : Value).ownBlock ∧ some k_ ≠ (u15 : Value).ownBlock ∧ k_ ≠ gb204 ∧ k_ ≠ gb214 ∧ k_ ≠ gb241) u11 x11_4) := ⟨h0_⟩
                     have n1_ : Aside0 (Kd.R k54 54 w134 w.heap.size (fun _ => True) (.slice (some ad235) x12_4.length co131) x12_4) := ⟨h1_⟩
                     have n2_ : Aside0 (Kd.R (Kd.int .u64) 23 w134 w.heap.size (fun _ => True) u15 x15_4) := ⟨h2_⟩
                     have n3_ : Aside0 (w134.heap[gb204]? = some (.cells #[.int .i64 1, .int .i64 (wrap64 (1 + (Int.tmod (wrap64 (a0)) 4)))] 38 (0, 0))) := ⟨h3_⟩
                     have n4_ : Aside0 (w134.heap[gb214]? = some (.cells #[.int .i64 x215000_4, .int .u64 x215001_4, .int .u64 x215002_4] 56 (0, 0))) := ⟨h4_⟩
                     have n5_ : Aside0 (w134.heap[gb241]? = some (.cells #[.int .i64 0, .int .i64 0, .int .u64 0, .int .u64 0] 25 (0, 0))) := ⟨h5_⟩
                     have n6_ : Aside0 (w.heap.size ≤ gb241) := ⟨h6_⟩
                     have n7_ : Aside0 (w.heap.size ≤ gb241) := ⟨h7_⟩
                     have n8_ : Aside0 (gb204 ≠ gb241) := ⟨h8_⟩
                     have n9_ : Aside0 (gb241 ≠ gb204) := ⟨h9_⟩
                     have n10_ : Aside0 (gb214 ≠ gb241) := ⟨h10_⟩
                     have n11_ : Aside0 (gb241 ≠ gb214) := ⟨h11_⟩
                     have n12_ : Aside0 (Below w.heap.size w w134) := ⟨h12_⟩
                     clear HO_11
                     clear HO_12
                     clear HO_15
                     clear BK204
                     clear BK214
                     clear HB
                     clear h0_ h1_ h2_ h3_ h4_ h5_ h6_ h7_ h8_ h9_ h10_ h11_ h12_
                     have HO_11 := n0_
                     have HO_12 := n1_
                     have HO_15 := n2_
                     have BK204 := n3_
                     have BK214 := n4_
                     have BK241 := n5_
                     have GW241 := n6_
                     have GE241 := n7_
                     have NB204_241 := n8_
                     have NB241_204 := n9_
                     have NB214_241 := n10_
                     have NB241_214 := n11_
                     have HB := n12_
                     clear n0_ n1_ n2_ n3_ n4_ n5_ n6_ n7_ n8_ n9_ n10_ n11_ n12_
                     have hHeld : w134.cell? ⟨gb204, 0, none⟩ = some (.int .i64 1) ∧ w134.cell? ⟨gb204, 1, none⟩ = some (.int .i64 (wrap64 (1 + (Int.tmod (wrap64 (a0)) 4)))) ∧ w134.cell? (ad235.add (((ji79)).toNat * 3)) = some (.int .i64 ((rd_T54 x12_4 (ji79)).f0)) ∧ w134.cell? ⟨(ad235.add (((ji79)).toNat * 3)).block, (ad235.add (((ji79)).toNat * 3)).off + 1, none⟩ = some (.int .u64 ((rd_T54 x12_4 (ji79)).f1)) ∧ w134.cell? ⟨(ad235.add (((ji79)).toNat * 3)).block, (ad235.add (((ji79)).toNat * 3)).off + 2, none⟩ = some (.int .u64 ((rd_T54 x12_4 (ji79)).f2)) := hS_
                     refine norm_ (a' := ?_) ?_ ?_
                     rotate_left
                     ·simp only [putAll, Act.put, List.setIfInBounds_toArray, List.set_cons_zero, List.set_cons_succ]
                      rfl
                     refine one_ (i := 10) (N := none) #[true, true, true, true, true, true, true, true, true, true, true, false] rfl rfl (one_of HT_.out (by kernel_rfl)) (by decide) (fun K hK => ?_)
                     have hs135 : w134.cell? ⟨gb241, 0, none⟩ = some (.int .i64 0) := (blk_cell BK241.out 0).trans rfl
                     have hfs135 := blk_frozen BK241.out 0
                     have hns135_0 := NB204_241.out
                     have hns135_1 := NB214_241.out
                     have hms135_0 := NB241_204.out
                     have hms135_1 := NB241_214.out
                     have hs136 : w134.cell? ⟨gb241, 1, none⟩ = some (.int .i64 0) := (blk_cell BK241.out 1).trans rfl
                     have hfs136 := blk_frozen BK241.out 1
                     have hns136_0 := NB204_241.out
                     have hns136_1 := NB214_241.out
                     have hms136_0 := NB241_204.out
                     have hms136_1 := NB241_214.out
                     have hs137 : w134.cell? ⟨gb241, 2, none⟩ = some (.int .u64 0) := (blk_cell BK241.out 2).trans rfl
                     have hfs137 := blk_frozen BK241.out 2
                     have hns137_0 := NB204_241.out
                     have hns137_1 := NB214_241.out
                     have hms137_0 := NB241_204.out
                     have hms137_1 := NB241_214.out
                     have hs138 : w134.cell? ⟨gb241, 3, none⟩ = some (.int .u64 0) := (blk_cell BK241.out 3).trans rfl
                     have hfs138 := blk_frozen BK241.out 3
                     have hns138_0 := NB204_241.out
                     have hns138_1 := NB214_241.out
                     have hms138_0 := NB241_204.out
                     have hms138_1 := NB241_214.out
                     refine skip_ (w1 := ?_) (by rfl) rfl ?_ ?_
                     rotate_left
                     ·go_simp
                      rfl
                     refine hK.out _ _ ⟨((cell_far (p := ⟨gb241, _, none⟩) NB204_241.out _).trans (((cell_far (p := ⟨gb241, _, none⟩) NB204_241.out _).trans (((cell_far (p := ⟨gb241, _, none⟩) NB204_241.out _).trans (((cell_far (p := ⟨gb241, _, none⟩) NB204_241.out _).trans (hHeld.1)))))))), ((cell_far (p := ⟨gb241, _, none⟩) NB204_241.out _).trans (((cell_far (p := ⟨gb241, _, none⟩) NB204_241.out _).trans (((cell_far (p := ⟨gb241, _, none⟩) NB204_241.out _).trans (((cell_far (p := ⟨gb241, _, none⟩) NB204_241.out _).trans (hHeld.2.1)))))))), ((cell_far (p := ⟨gb241, _, none⟩) (by first | exact Kd.own_blk (Kd.R_ne HO_12.out BK241.out (by decide)) | (rw [add_block]; exact Kd.own_blk (Kd.R_ne HO_12.out BK241.out (by decide))) | (show (Addr.add _ _).block ≠ _; rw [add_block]; exact Kd.own_blk (Kd.R_ne HO_12.out BK241.out (by decide))) | (dsimp only; exact Kd.own_blk (Kd.R_ne HO_12.out BK241.out (by decide)))) _).trans (((cell_far (p := ⟨gb241, _, none⟩) (by first | exact Kd.own_blk (Kd.R_ne HO_12.out BK241.out (by decide)) | (rw [add_block]; exact Kd.own_blk (Kd.R_ne HO_12.out BK241.out (by decide))) | (show (Addr.add _ _).block ≠ _; rw [add_block]; exact Kd.own_blk (Kd.R_ne HO_12.out BK241.out (by decide))) | (dsimp only; exact Kd.own_blk (Kd.R_ne HO_12.out BK241.out (by decide)))) _).trans (((cell_far (p := ⟨gb241, _, none⟩) (by first | exact Kd.own_blk (Kd.R_ne HO_12.out BK241.out (by decide)) | (rw [add_block]; exact Kd.own_blk (Kd.R_ne HO_12.out BK241.out (by decide))) | (show (Addr.add _ _).block ≠ _; rw [add_block]; exact Kd.own_blk (Kd.R_ne HO_12.out BK241.out (by decide))) | (dsimp only; exact Kd.own_blk (Kd.R_ne HO_12.out BK241.out (by decide)))) _).trans (((cell_far (p := ⟨gb241, _, none⟩) (by first | exact Kd.own_blk (Kd.R_ne HO_12.out BK241.out (by decide)) | (rw [add_block]; exact Kd.own_blk (Kd.R_ne HO_12.out BK241.out (by decide))) | (show (Addr.add _ _).block ≠ _; rw [add_block]; exact Kd.own_blk (Kd.R_ne HO_12.out BK241.out (by decide))) | (dsimp only; exact Kd.own_blk (Kd.R_ne HO_12.out BK241.out (by decide)))) _).trans (hHeld.2.2.1)))))))), ((cell_far (p := ⟨gb241, _, none⟩) (by first | exact Kd.own_blk (Kd.R_ne HO_12.out BK241.out (by decide)) | (rw [add_block]; exact Kd.own_blk (Kd.R_ne HO_12.out BK241.out (by decide))) | (show (Addr.add _ _).block ≠ _; rw [add_block]; exact Kd.own_blk (Kd.R_ne HO_12.out BK241.out (by decide))) | (dsimp only; exact Kd.own_blk (Kd.R_ne HO_12.out BK241.out (by decide)))) _).trans (((cell_far (p := ⟨gb241, _, none⟩) (by first | exact Kd.own_blk (Kd.R_ne HO_12.out BK241.out (by decide)) | (rw [add_block]; exact Kd.own_blk (Kd.R_ne HO_12.out BK241.out (by decide))) | (show (Addr.add _ _).block ≠ _; rw [add_block]; exact Kd.own_blk (Kd.R_ne HO_12.out BK241.out (by decide))) | (dsimp only; exact Kd.own_blk (Kd.R_ne HO_12.out BK241.out (by decide)))) _).trans (((cell_far (p := ⟨gb241, _, none⟩) (by first | exact Kd.own_blk (Kd.R_ne HO_12.out BK241.out (by decide)) | (rw [add_block]; exact Kd.own_blk (Kd.R_ne HO_12.out BK241.out (by decide))) | (show (Addr.add _ _).block ≠ _; rw [add_block]; exact Kd.own_blk (Kd.R_ne HO_12.out BK241.out (by decide))) | (dsimp only; exact Kd.own_blk (Kd.R_ne HO_12.out BK241.out (by decide)))) _).trans (((cell_far (p := ⟨gb241, _, none⟩) (by first | exact Kd.own_blk (Kd.R_ne HO_12.out BK241.out (by decide)) | (rw [add_block]; exact Kd.own_blk (Kd.R_ne HO_12.out BK241.out (by decide))) | (show (Addr.add _ _).block ≠ _; rw [add_block]; exact Kd.own_blk (Kd.R_ne HO_12.out BK241.out (by decide))) | (dsimp only; exact Kd.own_blk (Kd.R_ne HO_12.out BK241.out (by decide)))) _).trans (hHeld.2.2.2.1)))))))), ((cell_far (p := ⟨gb241, _, none⟩) (by first | exact Kd.own_blk (Kd.R_ne HO_12.out BK241.out (by decide)) | (rw [add_block]; exact Kd.own_blk (Kd.R_ne HO_12.out BK241.out (by decide))) | (show (Addr.add _ _).block ≠ _; rw [add_block]; exact Kd.own_blk (Kd.R_ne HO_12.out BK241.out (by decide))) | (dsimp only; exact Kd.own_blk (Kd.R_ne HO_12.out BK241.out (by decide)))) _).trans (((cell_far (p := ⟨gb241, _, none⟩) (by first | exact Kd.own_blk (Kd.R_ne HO_12.out BK241.out (by decide)) | (rw [add_block]; exact Kd.own_blk (Kd.R_ne HO_12.out BK241.out (by decide))) | (show (Addr.add _ _).block ≠ _; rw [add_block]; exact Kd.own_blk (Kd.R_ne HO_12.out BK241.out (by decide))) | (dsimp only; exact Kd.own_blk (Kd.R_ne HO_12.out BK241.out (by decide)))) _).trans (((cell_far (p := ⟨gb241, _, none⟩) (by first | exact Kd.own_blk (Kd.R_ne HO_12.out BK241.out (by decide)) | (rw [add_block]; exact Kd.own_blk (Kd.R_ne HO_12.out BK241.out (by decide))) | (show (Addr.add _ _).block ≠ _; rw [add_block]; exact Kd.own_blk (Kd.R_ne HO_12.out BK241.out (by decide))) | (dsimp only; exact Kd.own_blk (Kd.R_ne HO_12.out BK241.out (by decide)))) _).trans (((cell_far (p := ⟨gb241, _, none⟩) (by first | exact Kd.own_blk (Kd.R_ne HO_12.out BK241.out (by decide)) | (rw [add_block]; exact Kd.own_blk (Kd.R_ne HO_12.out BK241.out (by decide))) | (show (Addr.add _ _).block ≠ _; rw [add_block]; exact Kd.own_blk (Kd.R_ne HO_12.out BK241.out (by decide))) | (dsimp only; exact Kd.own_blk (Kd.R_ne HO_12.out BK241.out (by decide)))) _).trans (hHeld.2.2.2.2))))))))⟩ (fun hHeld => ?_)
                     clear hK K
                     refine pure_ (i := 11) (N := some 25) (v := ?_) (a' := ?_) #[true, true, true, true, true, true, true, true, true, true, true, true] rfl rfl (any_of HT_.out (by kernel_rfl)) (fun _ _ _ h => h) (Or.inl ⟨by rfl, ?_⟩) ?_ ?_
                     rotate_left
                     ·intro w'
                      go_simp
                      with_reducible rfl
                     rotate_left
                     ·simp only [Act.put, List.setIfInBounds_toArray, List.set_cons_zero, List.set_cons_succ, i64_w, i32_w]
                      rfl
                     refine done_ (done_of HT_.out (by kernel_rfl)) ?_
                     try go_wp2
                     go_roundg k4
                     case measure => have := HJ3.out; have := HK2.out; have := HK3.out; have := HK4.out; omega
                     case rel => exact ⟨(x11_4), (x12_4), (x15_4), (x16_4), (wrap64 (x17_4 + 1)), (x215000_4), (x215001_4), (x215002_4), (by first | rfl | (simp; done) | (simp [*]; done)), (by first | rfl | (simp; done) | (simp [*]; done)), H', ⟨by have := HJ3.out; have := HK2.out; have := HK3.out; have := HK4.out; omega⟩, ⟨by (with_reducible repeat (first | apply Kd.V_alloc | apply Kd.V_drewN | apply Kd.V_drew)); exact Kd.V_mono (Kd.V_far (p := ⟨gb241, 3, none⟩) (Kd.V_far (p := ⟨gb241, 2, none⟩) (Kd.V_far (p := ⟨gb241, 1, none⟩) (Kd.V_far (p := ⟨gb241, 0, none⟩) (Kd.V_mono HO_11.out (fun k_ hk => (⟨hk, hk.2.2.2.2⟩ : _ ∧ k_ ≠ gb241))) (fun _ hk => hk.2) (.int .i64 t236)) (fun _ hk => hk.2) (.int .i64 t237)) (fun _ hk => hk.2) (.int .u64 t238)) (fun _ hk => hk.2) (.int .u64 t239)) (fun _ hk => ⟨hk.1.1, ⟨hk.1.2.1, ⟨hk.1.2.2.1, hk.1.2.2.2.1⟩⟩⟩)⟩, ⟨by (with_reducible repeat (first | apply Kd.R_alloc | apply Kd.R_drewN | apply Kd.R_drew)); exact Kd.R_mono (Kd.R_far (p := ⟨gb241, 3, none⟩) (Kd.R_far (p := ⟨gb241, 2, none⟩) (Kd.R_far (p := ⟨gb241, 1, none⟩) (Kd.R_far (p := ⟨gb241, 0, none⟩) (Kd.R_types HO_12.out BK241.out (by decide)) (fun _ hk => hk.2) (.int .i64 t236)) (fun _ hk => hk.2) (.int .i64 t237)) (fun _ hk => hk.2) (.int .u64 t238)) (fun _ hk => hk.2) (.int .u64 t239)) (fun _ hk => trivial)⟩, ⟨by (with_reducible repeat (first | apply Kd.R_alloc | apply Kd.R_drewN | apply Kd.R_drew)); exact Kd.R_mono (Kd.R_far (p := ⟨gb241, 3, none⟩) (Kd.R_far (p := ⟨gb241, 2, none⟩) (Kd.R_far (p := ⟨gb241, 1, none⟩) (Kd.R_far (p := ⟨gb241, 0, none⟩) (Kd.R_types HO_15.out BK241.out (by decide)) (fun _ hk => hk.2) (.int .i64 t236)) (fun _ hk => hk.2) (.int .i64 t237)) (fun _ hk => hk.2) (.int .u64 t238)) (fun _ hk => hk.2) (.int .u64 t239)) (fun _ hk => trivial)⟩, ⟨by (with_reducible repeat (first | refine blk_drewN ?_ _ | refine blk_drew ?_ | refine blk_alloc ?_ _)); refine blk_far ?_ NB204_241.out _; (with_reducible repeat (first | refine blk_drewN ?_ _ | refine blk_drew ?_ | refine blk_alloc ?_ _)); refine blk_far ?_ NB204_241.out _; (with_reducible repeat (first | refine blk_drewN ?_ _ | refine blk_drew ?_ | refine blk_alloc ?_ _)); refine blk_far ?_ NB204_241.out _; (with_reducible repeat (first | refine blk_drewN ?_ _ | refine blk_drew ?_ | refine blk_alloc ?_ _)); refine blk_far ?_ NB204_241.out _; (with_reducible repeat (first | refine blk_drewN ?_ _ | refine blk_drew ?_ | refine blk_alloc ?_ _)); exact BK204.out⟩, ⟨by (with_reducible repeat (first | refine blk_drewN ?_ _ | refine blk_drew ?_ | refine blk_alloc ?_ _)); refine blk_far ?_ NB214_241.out _; (with_reducible repeat (first | refine blk_drewN ?_ _ | refine blk_drew ?_ | refine blk_alloc ?_ _)); refine blk_far ?_ NB214_241.out _; (with_reducible repeat (first | refine blk_drewN ?_ _ | refine blk_drew ?_ | refine blk_alloc ?_ _)); refine blk_far ?_ NB214_241.out _; (with_reducible repeat (first | refine blk_drewN ?_ _ | refine blk_drew ?_ | refine blk_alloc ?_ _)); refine blk_far ?_ NB214_241.out _; (with_reducible repeat (first | refine blk_drewN ?_ _ | refine blk_drew ?_ | refine blk_alloc ?_ _)); exact BK214.out⟩, ⟨by repeat (first | (with_reducible first | exact HB.out | apply below_alloc | apply pw_below_drewN | apply below_drew1 | refine below_set ?_ GE204.out | refine below_set ?_ GE214.out | refine below_set ?_ GE241.out) | exact HB.out)⟩⟩
                  ·rw [if_neg c81] at H
                   exact absurd H (by simp)
                 ·rw [if_neg c80] at H
                  exact absurd H (by simp)
              ·rw [if_neg c30] at H
               exact absurd H (by simp)
             ·rw [if_neg c29] at H
              have c29b0 : decide (x17_4 < (l2.length : Int)) = false := decide_eq_false c29
              clear c29
              as_aux_lemma =>
               obtain rfl := Option.some.inj H
               go_wp2
               go_ret
               exact ⟨by first | rfl | (simp [errW_none, errW_some] <;> rfl) | (simp [*, errW_none, errW_some] <;> rfl), by repeat (first | (with_reducible first | exact HB.out | apply below_alloc | apply pw_below_drewN | apply below_drew1 | refine below_set ?_ GE204.out | refine below_set ?_ GE214.out) | exact HB.out)⟩
       ·rw [if_neg c16] at H
        exact absurd H (by simp)

/-- THE ONE PURE STATEMENT of treillagelaw16_QueueOrder: yours. -/
theorem treillagelaw16_QueueOrder.calls (k : Nat) (a0 : Int) (a1 : Int) (A2 : Option Addr) (c2 : Nat) (l2 : List Int) (r : Bool) (w : World) (hr2 : Kd.C (Kd.int .u8) w A2 l2.length l2) (hc2 : l2.length ≤ c2) (h : treillagelaw16_QueueOrder.f k a0 a1 l2 = some true) :
  Calls Try.prog 10 #[.int .u8 a0, .int .u8 a1, .slice A2 l2.length c2] w fun e w' => e = .returned (.bool true) ∧ Below w.heap.size w w' := treillagelaw16_QueueOrder.calls1 k a0 a1 A2 c2 l2 true w hr2 hc2 h rfl
def treillagelaw16_QueueOrder.Pure : Prop := ∀ (a0 : Int) (a1 : Int) (l2 : List Int), (Lit.int .u8 a0).wf = true → (Lit.int .u8 a1).wf = true → l2.length ≤ maxLen → l2.length * 1 ≤ 140737488351232 → (∀ x ∈ l2, (Lit.int .u8 x).wf = true) → ∃ k, treillagelaw16_QueueOrder.f k a0 a1 l2 = some true
theorem treillagelaw16_QueueOrder.walk (P : treillagelaw16_QueueOrder.Pure) (a0 : Int) (a1 : Int) (a2 : Option Addr) (len2 cap2 : Nat) (z2 : List Int) (w : World) (w0 : (Lit.int .u8 a0).wf = true) (w1 : (Lit.int .u8 a1).wf = true) (w2 : (a2 = none ∧ len2 = 0 ∧ cap2 = 0 ∧ z2 = []) ∨ ∃ x, a2 = some x ∧ len2 ≤ cap2 ∧ cap2 ≤ maxLen ∧ z2.length = cap2 ∧ (∀ i, i < z2.length → w.cell? (x.add i) = some (.int .u8 (z2.getD i 0))) ∧ ∀ n ∈ z2, (Lit.int .u8 n).wf = true) (y2 : len2 * 1 ≤ 140737488351232) :
  Calls Try.prog 10 #[.int .u8 a0, .int .u8 a1, .slice a2 len2 cap2] w fun e w' => e = .returned (.bool true) ∧ Below w.heap.size w w' := by
 obtain ⟨l2, rfl, hr2, hm2, hw2, hc2⟩ := ReadsInt.ofRowC w2
 obtain ⟨k, h⟩ := P a0 a1 l2 w0 w1 hm2 y2 hw2
 refine (treillagelaw16_QueueOrder.calls k a0 a1 _ _ l2 true w (Kd.C_of_reads (d := (0 : Int)) (h1 := fun _ => rfl) hr2) hc2 h).mono ?_
 rintro e w' ⟨rfl, hd⟩
 exact ⟨rfl, hd⟩

end Go.Proofs.Ytcjkjlopbjijaaa.PQ
