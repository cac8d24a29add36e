-- Written by wip/hprint/hprint.py (a program of this session, over the print): not typed by hand
import Derived.Test.YtjnfllaonkeefaaPAx0
import Derived.Test.YtjnfllaonkeefaaPAx1
import Derived.Test.YtjnfllaonkeefaaPAx2
import Derived.Test.YtjnfllaonkeefaaPAx3
import Derived.Test.YtjnfllaonkeefaaPAx4
import Derived.Test.YtjnfllaonkeefaaPAx5
import Derived.Test.YtjnfllaonkeefaaPAx6
import Derived.Test.YtjnfllaonkeefaaPAx7
import Derived.Test.YtjnfllaonkeefaaPAx8
import Derived.Test.YtjnfllaonkeefaaPAx9
namespace Go.Proofs.Ytjnfllaonkeefaa.PA
open Go.RowKit Go.Proofs.YtjnfllaonkeefaaW.PrintWords Go.Proofs.YtjnfllaonkeefaaW.PrintLast Go.Proofs.YtjnfllaonkeefaaW.PrintMore
attribute [local go_sem] max2_int min2_int max_two min_two max_three min_three max_four min_four   -- for this text's walks alone
open Go.Proofs.YtjnfllaonkeefaaH
set_option linter.unusedVariables false
set_option linter.unusedSimpArgs false

/-! ### treillagelaw14_EpochActs: function 4 -/
mutual
def treillagelaw14_EpochActs.j0 : Nat -> Int -> List (S42) -> Bool -> Option (Bool)
 | 0, _, _, _ => none
 | k + 1, x0, x1, x20 => if x20 = true then ((treillagelaw14_shown.f).bind fun t224 => (some t224)) else ((epoch_New.f x0).bind fun bt225 => ((treillageref14_New.f x0).bind fun bt233 => (treillagelaw14_EpochActs.l0 k x1 0 bt225.1 bt225.2.1 bt225.2.2 bt233.1 bt233.2.1 bt233.2.2)))
def treillagelaw14_EpochActs.l0 : Nat -> List (S42) -> Int -> Int -> List Int -> List (S64) -> Int -> List Int -> List (S68) -> Option (Bool)
 | 0, _, _, _, _, _, _, _, _ => none
 | k + 1, x1, x7, x233000, x233001, x233002, x241000, x241001, x241002 => if x7 < (x1.length : Int) then (if 0 <= x7 then (if ((rd_T42 x1 x7).f0) = 0 then ((epoch_Pin.f x233000 x233001 x233002 ((rd_T42 x1 x7).f1) (IntKind.u64.wrap (x233000 - ((rd_T42 x1 x7).f2)))).bind fun bt245 => ((treillageref14_Pin.f x241000 x241001 x241002 ((rd_T42 x1 x7).f1) (IntKind.u64.wrap (x233000 - ((rd_T42 x1 x7).f2)))).bind fun bt253 => (treillagelaw14_EpochActs.j2 k x1 x7 bt245.2.2.2 bt253.2.2.2 bt245.1 bt245.2.1 bt245.2.2.1 bt253.1 bt253.2.1 bt253.2.2.1 ([] : List Int) ([] : List Int) ([] : List Int) ([] : List Int)))) else (if ((rd_T42 x1 x7).f0) = 1 then ((epoch_Unpin.f x233000 x233001 x233002 ((rd_T42 x1 x7).f1)).bind fun bt261 => ((treillageref14_Unpin.f x241000 x241001 x241002 ((rd_T42 x1 x7).f1)).bind fun bt269 => (treillagelaw14_EpochActs.j2 k x1 x7 bt261.2.2.2 bt269.2.2.2 bt261.1 bt261.2.1 bt261.2.2.1 bt269.1 bt269.2.1 bt269.2.2.1 ([] : List Int) ([] : List Int) ([] : List Int) ([] : List Int)))) else (if ((rd_T42 x1 x7).f0) = 2 then ((epoch_Retire.f x233000 x233001 x233002 ((rd_T42 x1 x7).f3.f0) ((rd_T42 x1 x7).f3.f1)).bind fun bt277 => ((treillageref14_Retire.f x241000 x241001 x241002 ((rd_T42 x1 x7).f3.f0) ((rd_T42 x1 x7).f3.f1)).bind fun bt284 => (treillagelaw14_EpochActs.j2 k x1 x7 true true bt277.1 bt277.2.1 bt277.2.2 bt284.1 bt284.2.1 bt284.2.2 ([] : List Int) ([] : List Int) ([] : List Int) ([] : List Int)))) else ((epoch_Advance.f k x233000 x233001 x233002).bind fun bt291 => ((treillageref14_Advance.f k x241000 x241001 x241002).bind fun bt305 => (treillagelaw14_EpochActs.j2 k x1 x7 bt291.2.2.2.2.2 bt305.2.2.2.2.2 bt291.1 bt291.2.1 bt291.2.2.1 bt305.1 bt305.2.1 bt305.2.2.1 bt291.2.2.2.1 bt291.2.2.2.2.1 bt305.2.2.2.1 bt305.2.2.2.2.1)))))) else (none)) else (some true)
def treillagelaw14_EpochActs.j2 : Nat -> List (S42) -> Int -> Bool -> Bool -> Int -> List Int -> List (S64) -> Int -> List Int -> List (S68) -> List Int -> List Int -> List Int -> List Int -> Option (Bool)
 | 0, _, _, _, _, _, _, _, _, _, _, _, _, _, _ => none
 | k + 1, x1, x7, x9, x10, x233000, x233001, x233002, x241000, x241001, x241002, x244000, x244001, x245000, x245001 => if (x9 != x10) = true then (some false) else ((treillageref12_SameGone.f k x244000 x244001 x245000 x245001).bind fun t319 => (if t319 = true then ((treillagelaw14_its.f k x233000 x233001 x233002).bind fun bt320 => ((treillageref14_Same.f k bt320.1 bt320.2.1 bt320.2.2 x241000 x241001 x241002).bind fun t327 => (if t327 = true then ((epoch_May.f x233000 x233001 x233002).bind fun t328 => ((treillageref14_May.f k x241000 x241001 x241002).bind fun t329 => (if (t328 != t329) = true then (some false) else (treillagelaw14_EpochActs.l0 k x1 (wrap64 (x7 + 1)) x233000 x233001 x233002 x241000 x241001 x241002)))) else (some false)))) else (some false)))
end
def treillagelaw14_EpochActs.f (k : Nat) (a0 : Int) (l1 : List (S42)) : Option (Bool) := (treillagelaw14_bounded.f k l1).bind fun t222 => (if t222 = true then ((treillagelaw14_shown.f).bind fun t223 => (treillagelaw14_EpochActs.j0 k a0 l1 (!t223))) else (treillagelaw14_EpochActs.j0 k a0 l1 true))
theorem treillagelaw14_EpochActs.mono_l : ∀ k, (∀ y0 y1 y2, LeO (treillagelaw14_EpochActs.j0 k y0 y1 y2) (treillagelaw14_EpochActs.j0 (k + 1) y0 y1 y2)) /\ (∀ y0 y1 y2 y3 y4 y5 y6 y7, LeO (treillagelaw14_EpochActs.l0 k y0 y1 y2 y3 y4 y5 y6 y7) (treillagelaw14_EpochActs.l0 (k + 1) y0 y1 y2 y3 y4 y5 y6 y7)) /\ (∀ y0 y1 y2 y3 y4 y5 y6 y7 y8 y9 y10 y11 y12 y13, LeO (treillagelaw14_EpochActs.j2 k y0 y1 y2 y3 y4 y5 y6 y7 y8 y9 y10 y11 y12 y13) (treillagelaw14_EpochActs.j2 (k + 1) y0 y1 y2 y3 y4 y5 y6 y7 y8 y9 y10 y11 y12 y13))
 | 0 => ⟨fun _ _ _ r h => by simp [treillagelaw14_EpochActs.j0] at h, fun _ _ _ _ _ _ _ _ r h => by simp [treillagelaw14_EpochActs.l0] at h, fun _ _ _ _ _ _ _ _ _ _ _ _ _ _ r h => by simp [treillagelaw14_EpochActs.j2] at h⟩
 | k + 1 => by
  obtain ⟨ih0, ih1, ih2⟩ := treillagelaw14_EpochActs.mono_l k; refine ⟨?_, ?_, ?_⟩
  ·intro y0 y1 y2
   unfold treillagelaw14_EpochActs.j0; repeat' first
   | (with_reducible exact ih0 _ _ _)
   | (with_reducible exact ih1 _ _ _ _ _ _ _ _)
   | (with_reducible exact ih2 _ _ _ _ _ _ _ _ _ _ _ _ _ _)
   | (with_reducible exact epoch_Advance.mono _ _ _ _)
   | (with_reducible exact treillagelaw14_bounded.mono _ _)
   | (with_reducible exact treillagelaw14_its.mono _ _ _ _)
   | (with_reducible exact treillageref12_SameGone.mono _ _ _ _ _)
   | (with_reducible exact treillageref14_Advance.mono _ _ _ _)
   | (with_reducible exact treillageref14_May.mono _ _ _ _)
   | (with_reducible exact treillageref14_Same.mono _ _ _ _ _ _ _)
   | (with_reducible exact LeO.refl _)
   | (with_reducible exact LeO.none _)
   | (with_reducible refine LeO.ite ?_ ?_)
   | (with_reducible refine LeO.bind ?_ (fun _ => ?_))
   | exact ih0 _ _ _
   | exact ih1 _ _ _ _ _ _ _ _
   | exact ih2 _ _ _ _ _ _ _ _ _ _ _ _ _ _
   | exact epoch_Advance.mono _ _ _ _
   | exact treillagelaw14_bounded.mono _ _
   | exact treillagelaw14_its.mono _ _ _ _
   | exact treillageref12_SameGone.mono _ _ _ _ _
   | exact treillageref14_Advance.mono _ _ _ _
   | exact treillageref14_May.mono _ _ _ _
   | exact treillageref14_Same.mono _ _ _ _ _ _ _
   | exact LeO.none _
   | refine LeO.ite ?_ ?_
   | refine LeO.bind ?_ (fun _ => ?_)
  ·intro y0 y1 y2 y3 y4 y5 y6 y7
   unfold treillagelaw14_EpochActs.l0; repeat' first
   | (with_reducible exact ih0 _ _ _)
   | (with_reducible exact ih1 _ _ _ _ _ _ _ _)
   | (with_reducible exact ih2 _ _ _ _ _ _ _ _ _ _ _ _ _ _)
   | (with_reducible exact epoch_Advance.mono _ _ _ _)
   | (with_reducible exact treillagelaw14_bounded.mono _ _)
   | (with_reducible exact treillagelaw14_its.mono _ _ _ _)
   | (with_reducible exact treillageref12_SameGone.mono _ _ _ _ _)
   | (with_reducible exact treillageref14_Advance.mono _ _ _ _)
   | (with_reducible exact treillageref14_May.mono _ _ _ _)
   | (with_reducible exact treillageref14_Same.mono _ _ _ _ _ _ _)
   | (with_reducible exact LeO.refl _)
   | (with_reducible exact LeO.none _)
   | (with_reducible refine LeO.ite ?_ ?_)
   | (with_reducible refine LeO.bind ?_ (fun _ => ?_))
   | exact ih0 _ _ _
   | exact ih1 _ _ _ _ _ _ _ _
   | exact ih2 _ _ _ _ _ _ _ _ _ _ _ _ _ _
   | exact epoch_Advance.mono _ _ _ _
   | exact treillagelaw14_bounded.mono _ _
   | exact treillagelaw14_its.mono _ _ _ _
   | exact treillageref12_SameGone.mono _ _ _ _ _
   | exact treillageref14_Advance.mono _ _ _ _
   | exact treillageref14_May.mono _ _ _ _
   | exact treillageref14_Same.mono _ _ _ _ _ _ _
   | exact LeO.none _
   | refine LeO.ite ?_ ?_
   | refine LeO.bind ?_ (fun _ => ?_)
  ·intro y0 y1 y2 y3 y4 y5 y6 y7 y8 y9 y10 y11 y12 y13
   unfold treillagelaw14_EpochActs.j2; repeat' first
   | (with_reducible exact ih0 _ _ _)
   | (with_reducible exact ih1 _ _ _ _ _ _ _ _)
   | (with_reducible exact ih2 _ _ _ _ _ _ _ _ _ _ _ _ _ _)
   | (with_reducible exact epoch_Advance.mono _ _ _ _)
   | (with_reducible exact treillagelaw14_bounded.mono _ _)
   | (with_reducible exact treillagelaw14_its.mono _ _ _ _)
   | (with_reducible exact treillageref12_SameGone.mono _ _ _ _ _)
   | (with_reducible exact treillageref14_Advance.mono _ _ _ _)
   | (with_reducible exact treillageref14_May.mono _ _ _ _)
   | (with_reducible exact treillageref14_Same.mono _ _ _ _ _ _ _)
   | (with_reducible exact LeO.refl _)
   | (with_reducible exact LeO.none _)
   | (with_reducible refine LeO.ite ?_ ?_)
   | (with_reducible refine LeO.bind ?_ (fun _ => ?_))
   | exact ih0 _ _ _
   | exact ih1 _ _ _ _ _ _ _ _
   | exact ih2 _ _ _ _ _ _ _ _ _ _ _ _ _ _
   | exact epoch_Advance.mono _ _ _ _
   | exact treillagelaw14_bounded.mono _ _
   | exact treillagelaw14_its.mono _ _ _ _
   | exact treillageref12_SameGone.mono _ _ _ _ _
   | exact treillageref14_Advance.mono _ _ _ _
   | exact treillageref14_May.mono _ _ _ _
   | exact treillageref14_Same.mono _ _ _ _ _ _ _
   | exact LeO.none _
   | refine LeO.ite ?_ ?_
   | refine LeO.bind ?_ (fun _ => ?_)
theorem treillagelaw14_EpochActs.mono : ∀ a0 a1 k, LeO (treillagelaw14_EpochActs.f k a0 a1) (treillagelaw14_EpochActs.f (k + 1) a0 a1) := by
 intro a0 a1 k
 obtain ⟨ih0, ih1, ih2⟩ := treillagelaw14_EpochActs.mono_l k; unfold treillagelaw14_EpochActs.f
 repeat' first
   | (with_reducible exact ih0 _ _ _)
   | (with_reducible exact ih1 _ _ _ _ _ _ _ _)
   | (with_reducible exact ih2 _ _ _ _ _ _ _ _ _ _ _ _ _ _)
   | (with_reducible exact epoch_Advance.mono _ _ _ _)
   | (with_reducible exact treillagelaw14_bounded.mono _ _)
   | (with_reducible exact treillagelaw14_its.mono _ _ _ _)
   | (with_reducible exact treillageref12_SameGone.mono _ _ _ _ _)
   | (with_reducible exact treillageref14_Advance.mono _ _ _ _)
   | (with_reducible exact treillageref14_May.mono _ _ _ _)
   | (with_reducible exact treillageref14_Same.mono _ _ _ _ _ _ _)
   | (with_reducible exact LeO.refl _)
   | (with_reducible exact LeO.none _)
   | (with_reducible refine LeO.ite ?_ ?_)
   | (with_reducible refine LeO.bind ?_ (fun _ => ?_))
   | exact ih0 _ _ _
   | exact ih1 _ _ _ _ _ _ _ _
   | exact ih2 _ _ _ _ _ _ _ _ _ _ _ _ _ _
   | exact epoch_Advance.mono _ _ _ _
   | exact treillagelaw14_bounded.mono _ _
   | exact treillagelaw14_its.mono _ _ _ _
   | exact treillageref12_SameGone.mono _ _ _ _ _
   | exact treillageref14_Advance.mono _ _ _ _
   | exact treillageref14_May.mono _ _ _ _
   | exact treillageref14_Same.mono _ _ _ _ _ _ _
   | exact LeO.none _
   | refine LeO.ite ?_ ?_
   | refine LeO.bind ?_ (fun _ => ?_)
def treillagelaw14_EpochActs.T26 : Bool × List (List Nat × List Nat) := (true, [([], []), ([], []), ([0, 1], [0, 1]), ([2], [2]), ([3], [3]), ([3], [3]), ([4, 5, 3, 3], [3, 4, 5]), ([6, 3], [3, 6]), ([3, 7], [3, 7]), ([8, 6], [8]), ([9], [9]), ([10, 9, 9], [9, 10]), ([9], [9]), ([11, 12, 11, 9], [9, 11, 12]), ([13, 9], [9, 13]), ([9, 14], [9, 14]), ([15, 13], [15]), ([16], [16]), ([17, 16, 16], [16, 17]), ([16], [16]), ([19, 18, 16], [16, 19]), ([18, 20, 16], [16, 18, 20]), ([16, 21], [16, 21])])
def treillagelaw14_EpochActs.B26 : List Nat := [0, 0, 3, 7, 15, 15, 63, 127, 255, 511, 1023, 2047, 1023, 8191, 16383, 32767, 65535, 131071, 262143, 131071, 1048575, 2097151, 4194303]
theorem treillagelaw14_EpochActs.tab26 : rtab .any (opsOf Try.f4 26) = treillagelaw14_EpochActs.T26 := by kernel_rfl
theorem treillagelaw14_EpochActs.bits26 : waitsOk treillagelaw14_EpochActs.T26.2 treillagelaw14_EpochActs.B26 = true := by kernel_rfl

end Go.Proofs.Ytjnfllaonkeefaa.PA
