-- Written by wip/hprint/hprint.py (a program of this session, over the print): not typed by hand
import Derived.Test.YtcjkjlopbjijaaaPYx0
import Derived.Test.YtcjkjlopbjijaaaPYx1
import Derived.Test.YtcjkjlopbjijaaaPYx2
import Derived.Test.YtcjkjlopbjijaaaPYx3
import Derived.Test.YtcjkjlopbjijaaaPYx4
import Derived.Test.YtcjkjlopbjijaaaPYx5
import Derived.Test.YtcjkjlopbjijaaaPYx6
import Derived.Test.YtcjkjlopbjijaaaPYx7
import Derived.Test.YtcjkjlopbjijaaaPYx8
import Derived.Test.YtcjkjlopbjijaaaPYx9
namespace Go.Proofs.Ytcjkjlopbjijaaa.PY
open Go.RowKit Go.Proofs.YtcjkjlopbjijaaaW.PrintWords Go.Proofs.YtcjkjlopbjijaaaW.PrintLast Go.Proofs.YtcjkjlopbjijaaaW.PrintMore
attribute [local go_sem] max2_int min2_int max_two min_two max_three min_three max_four min_four   -- for this text's walks alone
open Go.Proofs.YtcjkjlopbjijaaaH
set_option linter.unusedVariables false
set_option linter.unusedSimpArgs false

attribute [local go_sem high] eqA61 eqA64
/-! ### treillagelaw16_QueuePlays: function 9 -/
mutual
def treillagelaw16_QueuePlays.j0 : Nat → Int → List Int → List Int → Bool → Option (Bool)
 | 0, _, _, _, _ => none
 | k + 1, x0, x1, x2, x45 => if x45 = true then ((treillagelaw16_shown.f k).bind fun t253 => (some t253)) else ((mem_New.f k 1 (wrap64 (1 + (Int.tmod (wrap64 (x0)) 4)))).bind fun t256 => ((treillageref15_New.f k 1 (wrap64 (1 + (Int.tmod (wrap64 (x0)) 4)))).bind fun t259 => (treillagelaw16_QueuePlays.l0 k x1 x2 t256 t259 (([] : List (S54))) (([] : List (S61))) 0 1 (wrap64 (1 + (Int.tmod (wrap64 (x0)) 4))) 1 (wrap64 (1 + (Int.tmod (wrap64 (x0)) 4))))))
def treillagelaw16_QueuePlays.l0 : Nat → List Int → List Int → List Int → List Int → List (S54) → List (S61) → Int → Int → Int → Int → Int → Option (Bool)
 | 0, _, _, _, _, _, _, _, _, _, _, _ => none
 | k + 1, x1, x2, x9, x10, x11, x12, x13, x255000, x255001, x256000, x256001 => if x13 < (x1.length : Int) then (if 0 ≤ x13 then (if x11.length < 5864062014805 then (if x12.length < 5864062014805 then (treillagelaw16_QueuePlays.l0 k x1 x2 x9 x10 (x11 ++ [(⟨0, 0, rd x1 x13⟩ : S54)]) (x12 ++ [(⟨0, 0, rd x1 x13⟩ : S61)]) (wrap64 (x13 + 1)) x255000 x255001 x256000 x256001) else (none)) else (none)) else (none)) else (treillagelaw16_QueuePlays.l1 k x1 x2 x9 x10 x11 x12 0 x255000 x255001 x256000 x256001 0 0 0 0 0 0)
def treillagelaw16_QueuePlays.l1 : Nat → List Int → List Int → List Int → List Int → List (S54) → List (S61) → Int → Int → Int → Int → Int → Int → Int → Int → Int → Int → Int → Option (Bool)
 | 0, _, _, _, _, _, _, _, _, _, _, _, _, _, _, _, _, _ => none
 | k + 1, x1, x2, x9, x10, x11, x12, x16, x255000, x255001, x256000, x256001, x277000, x277001, x277002, x278000, x278001, x278002 => if x16 < (x2.length : Int) then (if 0 ≤ x16 then (if (wrap64 ((x1.length : Int) + 1)) = 0 then (none) else (if (Int.tmod (wrap64 (rd x2 x16)) (wrap64 ((x1.length : Int) + 1))) = (x1.length : Int) then ((queue_Next.f x255000 x255001 x277000 x277001 x277002).bind fun bt279 => ((mem_Do.f x9 bt279.1 bt279.2.1 bt279.2.2.1 bt279.2.2.2).bind fun bt283 => ((treillageref16_Next.f k x256000 x256001 x278000 x278001 x278002).bind fun bt288 => ((treillageref15_Do.f k x10 bt288.1 bt288.2.1 bt288.2.2.1 bt288.2.2.2).bind fun bt292 => ((queue_Given.f k x255000 x255001 x277000 x277001 x277002 bt283.2.1).bind fun bt297 => ((treillageref16_Given.f x256000 x256001 x278000 x278001 x278002 bt292.2.1).bind fun bt301 => ((treillageref03_Handles.f k bt283.1 bt292.1).bind fun t305 => (if t305 = true then (if (!(bt297.1 == bt301.1) || (!(bt297.2.1 == bt301.2.1) || (!(bt297.2.2.1 == bt301.2.2.1)))) = true then (some false) else (treillagelaw16_QueuePlays.l1 k x1 x2 bt283.1 bt292.1 x11 x12 (wrap64 (x16 + 1)) x255000 x255001 x256000 x256001 bt297.1 bt297.2.1 bt297.2.2.1 bt301.1 bt301.2.1 bt301.2.2.1)) else (some false))))))))) else (if 0 ≤ (Int.tmod (wrap64 (rd x2 x16)) (wrap64 ((x1.length : Int) + 1))) then (if (Int.tmod (wrap64 (rd x2 x16)) (wrap64 ((x1.length : Int) + 1))) < (x11.length : Int) then ((queue_Want.f x255000 x255001 ((rd_T54 x11 (Int.tmod (wrap64 (rd x2 x16)) (wrap64 ((x1.length : Int) + 1)))).f0) ((rd_T54 x11 (Int.tmod (wrap64 (rd x2 x16)) (wrap64 ((x1.length : Int) + 1)))).f1) ((rd_T54 x11 (Int.tmod (wrap64 (rd x2 x16)) (wrap64 ((x1.length : Int) + 1)))).f2)).bind fun bt307 => (if (Int.tmod (wrap64 (rd x2 x16)) (wrap64 ((x1.length : Int) + 1))) < (x12.length : Int) then ((treillageref16_Want.f k x256000 x256001 ((rd_T61 x12 (Int.tmod (wrap64 (rd x2 x16)) (wrap64 ((x1.length : Int) + 1)))).f0) ((rd_T61 x12 (Int.tmod (wrap64 (rd x2 x16)) (wrap64 ((x1.length : Int) + 1)))).f1) ((rd_T61 x12 (Int.tmod (wrap64 (rd x2 x16)) (wrap64 ((x1.length : Int) + 1)))).f2)).bind fun bt314 => (if (bt307.2.2.2.2 != bt314.2.2.2.2) = true then (some false) else (if bt307.2.2.2.2 = true then ((mem_Do.f x9 bt307.1 bt307.2.1 bt307.2.2.1 bt307.2.2.2.1).bind fun bt320 => ((treillageref15_Do.f k x10 bt314.1 bt314.2.1 bt314.2.2.1 bt314.2.2.2.1).bind fun bt325 => ((queue_Got.f k ((rd_T54 x11 (Int.tmod (wrap64 (rd x2 x16)) (wrap64 ((x1.length : Int) + 1)))).f0) ((rd_T54 x11 (Int.tmod (wrap64 (rd x2 x16)) (wrap64 ((x1.length : Int) + 1)))).f1) ((rd_T54 x11 (Int.tmod (wrap64 (rd x2 x16)) (wrap64 ((x1.length : Int) + 1)))).f2) bt320.2.1 bt320.2.2).bind fun bt331 => ((some (x11.set ((Int.tmod (wrap64 (rd x2 x16)) (wrap64 ((x1.length : Int) + 1))) : Int).toNat (⟨bt331.1, bt331.2.1, bt331.2.2⟩ : S54) : List (S54))).bind fun y334 => ((treillageref16_Got.f ((rd_T61 x12 (Int.tmod (wrap64 (rd x2 x16)) (wrap64 ((x1.length : Int) + 1)))).f0) ((rd_T61 x12 (Int.tmod (wrap64 (rd x2 x16)) (wrap64 ((x1.length : Int) + 1)))).f1) ((rd_T61 x12 (Int.tmod (wrap64 (rd x2 x16)) (wrap64 ((x1.length : Int) + 1)))).f2) bt325.2.1 bt325.2.2).bind fun bt336 => ((some (x12.set ((Int.tmod (wrap64 (rd x2 x16)) (wrap64 ((x1.length : Int) + 1))) : Int).toNat (⟨bt336.1, bt336.2.1, bt336.2.2⟩ : S61) : List (S61))).bind fun y339 => (if (!(((rd_T54 y334 (Int.tmod (wrap64 (rd x2 x16)) (wrap64 ((x1.length : Int) + 1)))).f0) == ((rd_T61 y339 (Int.tmod (wrap64 (rd x2 x16)) (wrap64 ((x1.length : Int) + 1)))).f0)) || (!(((rd_T54 y334 (Int.tmod (wrap64 (rd x2 x16)) (wrap64 ((x1.length : Int) + 1)))).f1) == ((rd_T61 y339 (Int.tmod (wrap64 (rd x2 x16)) (wrap64 ((x1.length : Int) + 1)))).f1)) || (!(((rd_T54 y334 (Int.tmod (wrap64 (rd x2 x16)) (wrap64 ((x1.length : Int) + 1)))).f2) == ((rd_T61 y339 (Int.tmod (wrap64 (rd x2 x16)) (wrap64 ((x1.length : Int) + 1)))).f2))))) = true then (some false) else ((treillageref03_Handles.f k bt320.1 bt325.1).bind fun t342 => (if t342 = true then (if (!(x277000 == x278000) || (!(x277001 == x278001) || (!(x277002 == x278002)))) = true then (some false) else (treillagelaw16_QueuePlays.l1 k x1 x2 bt320.1 bt325.1 y334 y339 (wrap64 (x16 + 1)) x255000 x255001 x256000 x256001 x277000 x277001 x277002 x278000 x278001 x278002)) else (some false)))))))))) else (treillagelaw16_QueuePlays.l1 k x1 x2 x9 x10 x11 x12 (wrap64 (x16 + 1)) x255000 x255001 x256000 x256001 x277000 x277001 x277002 x278000 x278001 x278002)))) else (none))) else (none)) else (none)))) else (none)) else (some true)
end
def treillagelaw16_QueuePlays.f (k : Nat) (a0 : Int) (l1 : List Int) (l2 : List Int) : Option (Bool) := if (l1.length : Int) > 12 then (treillagelaw16_QueuePlays.j0 k a0 l1 l2 true) else (if (l2.length : Int) > 300 then (treillagelaw16_QueuePlays.j0 k a0 l1 l2 true) else ((treillagelaw16_shown.f k).bind fun t252 => (treillagelaw16_QueuePlays.j0 k a0 l1 l2 (!t252))))
theorem treillagelaw16_QueuePlays.mono_l : ∀ k, (∀ y0 y1 y2 y3, LeO (treillagelaw16_QueuePlays.j0 k y0 y1 y2 y3) (treillagelaw16_QueuePlays.j0 (k + 1) y0 y1 y2 y3)) ∧ (∀ y0 y1 y2 y3 y4 y5 y6 y7 y8 y9 y10, LeO (treillagelaw16_QueuePlays.l0 k y0 y1 y2 y3 y4 y5 y6 y7 y8 y9 y10) (treillagelaw16_QueuePlays.l0 (k + 1) y0 y1 y2 y3 y4 y5 y6 y7 y8 y9 y10)) ∧ (∀ y0 y1 y2 y3 y4 y5 y6 y7 y8 y9 y10 y11 y12 y13 y14 y15 y16, LeO (treillagelaw16_QueuePlays.l1 k y0 y1 y2 y3 y4 y5 y6 y7 y8 y9 y10 y11 y12 y13 y14 y15 y16) (treillagelaw16_QueuePlays.l1 (k + 1) y0 y1 y2 y3 y4 y5 y6 y7 y8 y9 y10 y11 y12 y13 y14 y15 y16))
 | 0 => ⟨fun _ _ _ _ r h => by simp [treillagelaw16_QueuePlays.j0] at h, fun _ _ _ _ _ _ _ _ _ _ _ r h => by simp [treillagelaw16_QueuePlays.l0] at h, fun _ _ _ _ _ _ _ _ _ _ _ _ _ _ _ _ _ r h => by simp [treillagelaw16_QueuePlays.l1] at h⟩
 | k + 1 => by
  obtain ⟨ih0, ih1, ih2⟩ := treillagelaw16_QueuePlays.mono_l k; refine ⟨?_, ?_, ?_⟩
  ·intro y0 y1 y2 y3
   unfold treillagelaw16_QueuePlays.j0; repeat' first
   | (with_reducible exact ih0 _ _ _ _)
   | (with_reducible exact ih1 _ _ _ _ _ _ _ _ _ _ _)
   | (with_reducible exact ih2 _ _ _ _ _ _ _ _ _ _ _ _ _ _ _ _ _)
   | (with_reducible exact mem_New.mono _ _ _)
   | (with_reducible exact queue_Given.mono _ _ _ _ _ _ _)
   | (with_reducible exact queue_Got.mono _ _ _ _ _ _)
   | (with_reducible exact treillagelaw16_shown.mono _)
   | (with_reducible exact treillageref03_Handles.mono _ _ _)
   | (with_reducible exact treillageref15_Do.mono _ _ _ _ _ _)
   | (with_reducible exact treillageref15_New.mono _ _ _)
   | (with_reducible exact treillageref16_Next.mono _ _ _ _ _ _)
   | (with_reducible exact treillageref16_Want.mono _ _ _ _ _ _)
   | (with_reducible exact LeO.refl _)
   | (with_reducible exact LeO.none _)
   | (with_reducible refine LeO.ite ?_ ?_)
   | (with_reducible refine LeO.bind ?_ (fun _ => ?_))
   | exact ih0 _ _ _ _
   | exact ih1 _ _ _ _ _ _ _ _ _ _ _
   | exact ih2 _ _ _ _ _ _ _ _ _ _ _ _ _ _ _ _ _
   | exact mem_New.mono _ _ _
   | exact queue_Given.mono _ _ _ _ _ _ _
   | exact queue_Got.mono _ _ _ _ _ _
   | exact treillagelaw16_shown.mono _
   | exact treillageref03_Handles.mono _ _ _
   | exact treillageref15_Do.mono _ _ _ _ _ _
   | exact treillageref15_New.mono _ _ _
   | exact treillageref16_Next.mono _ _ _ _ _ _
   | exact treillageref16_Want.mono _ _ _ _ _ _
   | exact LeO.none _
   | refine LeO.ite ?_ ?_
   | refine LeO.bind ?_ (fun _ => ?_)
  ·intro y0 y1 y2 y3 y4 y5 y6 y7 y8 y9 y10
   unfold treillagelaw16_QueuePlays.l0; repeat' first
   | (with_reducible exact ih0 _ _ _ _)
   | (with_reducible exact ih1 _ _ _ _ _ _ _ _ _ _ _)
   | (with_reducible exact ih2 _ _ _ _ _ _ _ _ _ _ _ _ _ _ _ _ _)
   | (with_reducible exact mem_New.mono _ _ _)
   | (with_reducible exact queue_Given.mono _ _ _ _ _ _ _)
   | (with_reducible exact queue_Got.mono _ _ _ _ _ _)
   | (with_reducible exact treillagelaw16_shown.mono _)
   | (with_reducible exact treillageref03_Handles.mono _ _ _)
   | (with_reducible exact treillageref15_Do.mono _ _ _ _ _ _)
   | (with_reducible exact treillageref15_New.mono _ _ _)
   | (with_reducible exact treillageref16_Next.mono _ _ _ _ _ _)
   | (with_reducible exact treillageref16_Want.mono _ _ _ _ _ _)
   | (with_reducible exact LeO.refl _)
   | (with_reducible exact LeO.none _)
   | (with_reducible refine LeO.ite ?_ ?_)
   | (with_reducible refine LeO.bind ?_ (fun _ => ?_))
   | exact ih0 _ _ _ _
   | exact ih1 _ _ _ _ _ _ _ _ _ _ _
   | exact ih2 _ _ _ _ _ _ _ _ _ _ _ _ _ _ _ _ _
   | exact mem_New.mono _ _ _
   | exact queue_Given.mono _ _ _ _ _ _ _
   | exact queue_Got.mono _ _ _ _ _ _
   | exact treillagelaw16_shown.mono _
   | exact treillageref03_Handles.mono _ _ _
   | exact treillageref15_Do.mono _ _ _ _ _ _
   | exact treillageref15_New.mono _ _ _
   | exact treillageref16_Next.mono _ _ _ _ _ _
   | exact treillageref16_Want.mono _ _ _ _ _ _
   | exact LeO.none _
   | refine LeO.ite ?_ ?_
   | refine LeO.bind ?_ (fun _ => ?_)
  ·intro y0 y1 y2 y3 y4 y5 y6 y7 y8 y9 y10 y11 y12 y13 y14 y15 y16
   unfold treillagelaw16_QueuePlays.l1; repeat' first
   | (with_reducible exact ih0 _ _ _ _)
   | (with_reducible exact ih1 _ _ _ _ _ _ _ _ _ _ _)
   | (with_reducible exact ih2 _ _ _ _ _ _ _ _ _ _ _ _ _ _ _ _ _)
   | (with_reducible exact mem_New.mono _ _ _)
   | (with_reducible exact queue_Given.mono _ _ _ _ _ _ _)
   | (with_reducible exact queue_Got.mono _ _ _ _ _ _)
   | (with_reducible exact treillagelaw16_shown.mono _)
   | (with_reducible exact treillageref03_Handles.mono _ _ _)
   | (with_reducible exact treillageref15_Do.mono _ _ _ _ _ _)
   | (with_reducible exact treillageref15_New.mono _ _ _)
   | (with_reducible exact treillageref16_Next.mono _ _ _ _ _ _)
   | (with_reducible exact treillageref16_Want.mono _ _ _ _ _ _)
   | (with_reducible exact LeO.refl _)
   | (with_reducible exact LeO.none _)
   | (with_reducible refine LeO.ite ?_ ?_)
   | (with_reducible refine LeO.bind ?_ (fun _ => ?_))
   | exact ih0 _ _ _ _
   | exact ih1 _ _ _ _ _ _ _ _ _ _ _
   | exact ih2 _ _ _ _ _ _ _ _ _ _ _ _ _ _ _ _ _
   | exact mem_New.mono _ _ _
   | exact queue_Given.mono _ _ _ _ _ _ _
   | exact queue_Got.mono _ _ _ _ _ _
   | exact treillagelaw16_shown.mono _
   | exact treillageref03_Handles.mono _ _ _
   | exact treillageref15_Do.mono _ _ _ _ _ _
   | exact treillageref15_New.mono _ _ _
   | exact treillageref16_Next.mono _ _ _ _ _ _
   | exact treillageref16_Want.mono _ _ _ _ _ _
   | exact LeO.none _
   | refine LeO.ite ?_ ?_
   | refine LeO.bind ?_ (fun _ => ?_)
theorem treillagelaw16_QueuePlays.mono : ∀ a0 a1 a2 k, LeO (treillagelaw16_QueuePlays.f k a0 a1 a2) (treillagelaw16_QueuePlays.f (k + 1) a0 a1 a2) := by
 intro a0 a1 a2 k
 obtain ⟨ih0, ih1, ih2⟩ := treillagelaw16_QueuePlays.mono_l k; unfold treillagelaw16_QueuePlays.f
 repeat' first
   | (with_reducible exact ih0 _ _ _ _)
   | (with_reducible exact ih1 _ _ _ _ _ _ _ _ _ _ _)
   | (with_reducible exact ih2 _ _ _ _ _ _ _ _ _ _ _ _ _ _ _ _ _)
   | (with_reducible exact mem_New.mono _ _ _)
   | (with_reducible exact queue_Given.mono _ _ _ _ _ _ _)
   | (with_reducible exact queue_Got.mono _ _ _ _ _ _)
   | (with_reducible exact treillagelaw16_shown.mono _)
   | (with_reducible exact treillageref03_Handles.mono _ _ _)
   | (with_reducible exact treillageref15_Do.mono _ _ _ _ _ _)
   | (with_reducible exact treillageref15_New.mono _ _ _)
   | (with_reducible exact treillageref16_Next.mono _ _ _ _ _ _)
   | (with_reducible exact treillageref16_Want.mono _ _ _ _ _ _)
   | (with_reducible exact LeO.refl _)
   | (with_reducible exact LeO.none _)
   | (with_reducible refine LeO.ite ?_ ?_)
   | (with_reducible refine LeO.bind ?_ (fun _ => ?_))
   | exact ih0 _ _ _ _
   | exact ih1 _ _ _ _ _ _ _ _ _ _ _
   | exact ih2 _ _ _ _ _ _ _ _ _ _ _ _ _ _ _ _ _
   | exact mem_New.mono _ _ _
   | exact queue_Given.mono _ _ _ _ _ _ _
   | exact queue_Got.mono _ _ _ _ _ _
   | exact treillagelaw16_shown.mono _
   | exact treillageref03_Handles.mono _ _ _
   | exact treillageref15_Do.mono _ _ _ _ _ _
   | exact treillageref15_New.mono _ _ _
   | exact treillageref16_Next.mono _ _ _ _ _ _
   | exact treillageref16_Want.mono _ _ _ _ _ _
   | exact LeO.none _
   | refine LeO.ite ?_ ?_
   | refine LeO.bind ?_ (fun _ => ?_)
def treillagelaw16_QueuePlays.T27 : Bool × List (List Nat × List Nat) := (true, [([], []), ([], []), ([], []), ([1, 2], [1, 2]), ([3], [3]), ([0, 4], [0, 4]), ([5], [5]), ([6], [6]), ([6], [6]), ([], []), ([9, 7, 5, 0, 1, 2, 3, 4, 5, 6, 7, 9], [7, 9]), ([8, 10, 0, 1, 2, 3, 4, 5, 6, 7, 8, 9, 10], [8])])
def treillagelaw16_QueuePlays.B27 : List Nat := [0, 0, 0, 6, 14, 31, 63, 127, 127, 0, 767, 2047]
theorem treillagelaw16_QueuePlays.tab27 : rtab .any (opsOf Try.f9 27) = treillagelaw16_QueuePlays.T27 := by kernel_rfl
theorem treillagelaw16_QueuePlays.bits27 : waitsOk treillagelaw16_QueuePlays.T27.2 treillagelaw16_QueuePlays.B27 = true := by kernel_rfl
def treillagelaw16_QueuePlays.T28 : Bool × List (List Nat × List Nat) := (true, [([], []), ([], []), ([], []), ([1, 2], [1, 2]), ([3], [3]), ([0, 4], [0, 4]), ([5], [5]), ([6], [6]), ([6], [6]), ([], []), ([9, 7, 5, 0, 1, 2, 3, 4, 5, 6, 7, 9], [7, 9]), ([8, 10, 0, 1, 2, 3, 4, 5, 6, 7, 8, 9, 10], [8])])
def treillagelaw16_QueuePlays.B28 : List Nat := [0, 0, 0, 6, 14, 31, 63, 127, 127, 0, 767, 2047]
theorem treillagelaw16_QueuePlays.tab28 : rtab .any (opsOf Try.f9 28) = treillagelaw16_QueuePlays.T28 := by kernel_rfl
theorem treillagelaw16_QueuePlays.bits28 : waitsOk treillagelaw16_QueuePlays.T28.2 treillagelaw16_QueuePlays.B28 = true := by kernel_rfl
def treillagelaw16_QueuePlays.T38 : Bool × List (List Nat × List Nat) := (true, [([], []), ([], []), ([0, 1], [0, 1]), ([2], [2]), ([], []), ([], []), ([4, 5], [4, 5]), ([6], [6]), ([3, 7], [3, 7])])
def treillagelaw16_QueuePlays.B38 : List Nat := [0, 0, 3, 7, 0, 0, 48, 112, 255]
theorem treillagelaw16_QueuePlays.tab38 : rtab .any (opsOf Try.f9 38) = treillagelaw16_QueuePlays.T38 := by kernel_rfl
theorem treillagelaw16_QueuePlays.bits38 : waitsOk treillagelaw16_QueuePlays.T38.2 treillagelaw16_QueuePlays.B38 = true := by kernel_rfl

end Go.Proofs.Ytcjkjlopbjijaaa.PY
