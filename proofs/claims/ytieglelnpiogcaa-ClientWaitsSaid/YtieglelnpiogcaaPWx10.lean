-- Written by wip/hprint/hprint.py (a program of this session, over the print): not typed by hand
import Derived.Test.YtieglelnpiogcaaPWx0
import Derived.Test.YtieglelnpiogcaaPWx1
import Derived.Test.YtieglelnpiogcaaPWx2
import Derived.Test.YtieglelnpiogcaaPWx3
import Derived.Test.YtieglelnpiogcaaPWx4
import Derived.Test.YtieglelnpiogcaaPWx8
import Derived.Test.YtieglelnpiogcaaPWx9
namespace Go.Proofs.Ytieglelnpiogcaa.PW
open Go.RowKit Go.Proofs.YtieglelnpiogcaaW.PrintWords Go.Proofs.YtieglelnpiogcaaW.PrintLast Go.Proofs.YtieglelnpiogcaaW.PrintMore
attribute [local go_sem] max2_int min2_int max_two min_two max_three min_three max_four min_four   -- for this text's walks alone
open Go.Proofs.YtieglelnpiogcaaH
set_option linter.unusedVariables false
set_option linter.unusedSimpArgs false

/-! ### treillagelaw17_ClientWaits: function 6 -/
mutual
def treillagelaw17_ClientWaits.l0 : Nat → Int → Int → Int → List Int → List (S44) → Int → Int → Int → Int → Int → Int → Int → Int → Int → Int → Int → Int → List (S74) → Option (Bool)
 | 0, _, _, _, _, _, _, _, _, _, _, _, _, _, _, _, _, _, _ => none
 | k + 1, x1, x2, x3, x10, x11, x13, x308000, x308001, x315000, x315001, x315002, x315003, x315004, x315005, x315006, x315007, x315008, x315009 => if x13 < (wrap64 (6 + (Int.tmod (wrap64 (x1)) 30))) then ((client_Want.f x308000 x308001 x11 x315000 x315001 x315002 x315003 x315004 x315005 x315006 x315007 x315008 x315009).bind fun bt315 => ((mem_Do.f x10 bt315.1 bt315.2.1 bt315.2.2.1 bt315.2.2.2.1).bind fun bt321 => (if bt315.2.2.2.2 = true then ((client_Got.f x308000 x308001 x11 x315000 x315001 x315002 x315003 x315004 x315005 x315006 x315007 x315008 x315009 bt321.2.1 bt321.2.2).bind fun bt326 => (treillagelaw17_ClientWaits.l0 k x1 x2 x3 bt321.1 x11 (wrap64 (x13 + 1)) x308000 x308001 bt326.1 bt326.2.1 bt326.2.2.1 bt326.2.2.2.1 bt326.2.2.2.2.1 bt326.2.2.2.2.2.1 bt326.2.2.2.2.2.2.1 bt326.2.2.2.2.2.2.2.1 bt326.2.2.2.2.2.2.2.2.1 bt326.2.2.2.2.2.2.2.2.2)) else (some false)))) else (if x315001 = 1 then (if x315002 = 1 then ((mem_Item.f x308000 x308001 0).bind fun t338 => (if 0 ≤ t338 then (if t338 < (x10.length : Int) then ((client_Item.f 1 1).bind fun t340 => (if (rd x10 t338) = t340 then ((mem_Seq.f x308000 x308001 0).bind fun t341 => (if 0 ≤ t341 then (if t341 < (x10.length : Int) then (if (rd x10 t341) = 1 then ((mem_Tail.f x308000 x308001).bind fun t343 => (if 0 ≤ t343 then (if t343 < (x10.length : Int) then (treillagelaw17_ClientWaits.j1 k x2 x3 x10 x11 ((rd x10 t343) != 1) x308000 x308001 x315000 x315001 x315002 x315003 x315004 x315005 x315006 x315007 x315008 x315009) else (none)) else (none))) else (treillagelaw17_ClientWaits.j1 k x2 x3 x10 x11 true x308000 x308001 x315000 x315001 x315002 x315003 x315004 x315005 x315006 x315007 x315008 x315009)) else (none)) else (none))) else (treillagelaw17_ClientWaits.j1 k x2 x3 x10 x11 true x308000 x308001 x315000 x315001 x315002 x315003 x315004 x315005 x315006 x315007 x315008 x315009))) else (none)) else (none))) else (treillagelaw17_ClientWaits.j1 k x2 x3 x10 x11 true x308000 x308001 x315000 x315001 x315002 x315003 x315004 x315005 x315006 x315007 x315008 x315009)) else (treillagelaw17_ClientWaits.j1 k x2 x3 x10 x11 true x308000 x308001 x315000 x315001 x315002 x315003 x315004 x315005 x315006 x315007 x315008 x315009))
def treillagelaw17_ClientWaits.j1 : Nat → Int → Int → List Int → List (S44) → Bool → Int → Int → Int → Int → Int → Int → Int → Int → Int → Int → Int → List (S74) → Option (Bool)
 | 0, _, _, _, _, _, _, _, _, _, _, _, _, _, _, _, _, _ => none
 | k + 1, x2, x3, x10, x11, x100, x308000, x308001, x315000, x315001, x315002, x315003, x315004, x315005, x315006, x315007, x315008, x315009 => if x100 = true then (some false) else ((mem_Result.f x308000 x308001 0).bind fun t345 => ((mem_Told.f 1 9 9).bind fun t346 => (if 0 ≤ t345 then (if t345 < (x10.length : Int) then ((mem_Result.f x308000 x308001 1).bind fun t348 => ((mem_Told.f 0 8 8).bind fun t349 => (if 0 ≤ t348 then (if t348 < (x10.length : Int) then ((client_Want.f x308000 x308001 x11 x315000 x315001 x315002 x315003 x315004 x315005 x315006 x315007 x315008 x315009).bind fun bt351 => ((mem_Do.f ((x10.set (t345 : Int).toNat t346).set (t348 : Int).toNat t349) bt351.1 bt351.2.1 bt351.2.2.1 bt351.2.2.2.1).bind fun bt357 => ((client_Got.f x308000 x308001 x11 x315000 x315001 x315002 x315003 x315004 x315005 x315006 x315007 x315008 x315009 bt357.2.1 true).bind fun bt362 => (if bt362.2.1 = 1 then ((mem_Told.f 1 (wrap64 (x2)) (wrap64 (x3))).bind fun t374 => ((client_Got.f x308000 x308001 x11 bt362.1 bt362.2.1 bt362.2.2.1 bt362.2.2.2.1 bt362.2.2.2.2.1 bt362.2.2.2.2.2.1 bt362.2.2.2.2.2.2.1 bt362.2.2.2.2.2.2.2.1 bt362.2.2.2.2.2.2.2.2.1 bt362.2.2.2.2.2.2.2.2.2 t374 true).bind fun bt375 => (if bt375.2.1 = 2 then (if (bt375.2.2.2.2.2.2.2.2.2.length : Int) = 2 then (if 1 < (bt375.2.2.2.2.2.2.2.2.2.length : Int) then (if ((rd_T74 bt375.2.2.2.2.2.2.2.2.2 1).f1) = (wrap64 (x2)) then (if ((rd_T74 bt375.2.2.2.2.2.2.2.2.2 1).f0) = (wrap64 (x3)) then (if 0 < (bt375.2.2.2.2.2.2.2.2.2.length : Int) then (some (((rd_T74 bt375.2.2.2.2.2.2.2.2.2 0).f0) == 170)) else (none)) else (some false)) else (some false)) else (none)) else (some false)) else (some false)))) else (some false))))) else (none)) else (none)))) else (none)) else (none))))
end
def treillagelaw17_ClientWaits.f (k : Nat) (a0 : Int) (a1 : Int) (a2 : Int) (a3 : Int) : Option (Bool) := (treillagelaw17_shown.f k).bind fun t306 => (if t306 = true then ((mem_New.f k 2 (wrap64 (1 + (Int.tmod (wrap64 (a0)) 4)))).bind fun t308 => (treillagelaw17_ClientWaits.l0 k a1 a2 a3 t308 (([(⟨5, ([] : List (S78)), (⟨0, 0, 0, (⟨#[]⟩ : ByteArray)⟩ : S42)⟩ : S44), (⟨1, ([] : List (S78)), (⟨0, 0, 0, (⟨#[]⟩ : ByteArray)⟩ : S42)⟩ : S44)] : List (S44))) 0 2 (wrap64 (1 + (Int.tmod (wrap64 (a0)) 4))) 1 0 0 0 0 0 0 0 0 ([] : List (S74)))) else (some false))
theorem treillagelaw17_ClientWaits.mono_l : ∀ k, (∀ y0 y1 y2 y3 y4 y5 y6 y7 y8 y9 y10 y11 y12 y13 y14 y15 y16 y17, LeO (treillagelaw17_ClientWaits.l0 k y0 y1 y2 y3 y4 y5 y6 y7 y8 y9 y10 y11 y12 y13 y14 y15 y16 y17) (treillagelaw17_ClientWaits.l0 (k + 1) y0 y1 y2 y3 y4 y5 y6 y7 y8 y9 y10 y11 y12 y13 y14 y15 y16 y17)) ∧ (∀ y0 y1 y2 y3 y4 y5 y6 y7 y8 y9 y10 y11 y12 y13 y14 y15 y16, LeO (treillagelaw17_ClientWaits.j1 k y0 y1 y2 y3 y4 y5 y6 y7 y8 y9 y10 y11 y12 y13 y14 y15 y16) (treillagelaw17_ClientWaits.j1 (k + 1) y0 y1 y2 y3 y4 y5 y6 y7 y8 y9 y10 y11 y12 y13 y14 y15 y16))
 | 0 => ⟨fun _ _ _ _ _ _ _ _ _ _ _ _ _ _ _ _ _ _ r h => by simp [treillagelaw17_ClientWaits.l0] at h, fun _ _ _ _ _ _ _ _ _ _ _ _ _ _ _ _ _ r h => by simp [treillagelaw17_ClientWaits.j1] at h⟩
 | k + 1 => by
  obtain ⟨ih0, ih1⟩ := treillagelaw17_ClientWaits.mono_l k; refine ⟨?_, ?_⟩
  ·intro y0 y1 y2 y3 y4 y5 y6 y7 y8 y9 y10 y11 y12 y13 y14 y15 y16 y17
   unfold treillagelaw17_ClientWaits.l0; repeat' first
   | (with_reducible exact ih0 _ _ _ _ _ _ _ _ _ _ _ _ _ _ _ _ _ _)
   | (with_reducible exact ih1 _ _ _ _ _ _ _ _ _ _ _ _ _ _ _ _ _)
   | (with_reducible exact mem_New.mono _ _ _)
   | (with_reducible exact treillagelaw17_shown.mono _)
   | (with_reducible exact LeO.refl _)
   | (with_reducible exact LeO.none _)
   | (with_reducible refine LeO.ite ?_ ?_)
   | (with_reducible refine LeO.bind ?_ (fun _ => ?_))
   | exact ih0 _ _ _ _ _ _ _ _ _ _ _ _ _ _ _ _ _ _
   | exact ih1 _ _ _ _ _ _ _ _ _ _ _ _ _ _ _ _ _
   | exact mem_New.mono _ _ _
   | exact treillagelaw17_shown.mono _
   | exact LeO.none _
   | refine LeO.ite ?_ ?_
   | refine LeO.bind ?_ (fun _ => ?_)
  ·intro y0 y1 y2 y3 y4 y5 y6 y7 y8 y9 y10 y11 y12 y13 y14 y15 y16
   unfold treillagelaw17_ClientWaits.j1; repeat' first
   | (with_reducible exact ih0 _ _ _ _ _ _ _ _ _ _ _ _ _ _ _ _ _ _)
   | (with_reducible exact ih1 _ _ _ _ _ _ _ _ _ _ _ _ _ _ _ _ _)
   | (with_reducible exact mem_New.mono _ _ _)
   | (with_reducible exact treillagelaw17_shown.mono _)
   | (with_reducible exact LeO.refl _)
   | (with_reducible exact LeO.none _)
   | (with_reducible refine LeO.ite ?_ ?_)
   | (with_reducible refine LeO.bind ?_ (fun _ => ?_))
   | exact ih0 _ _ _ _ _ _ _ _ _ _ _ _ _ _ _ _ _ _
   | exact ih1 _ _ _ _ _ _ _ _ _ _ _ _ _ _ _ _ _
   | exact mem_New.mono _ _ _
   | exact treillagelaw17_shown.mono _
   | exact LeO.none _
   | refine LeO.ite ?_ ?_
   | refine LeO.bind ?_ (fun _ => ?_)
theorem treillagelaw17_ClientWaits.mono : ∀ a0 a1 a2 a3 k, LeO (treillagelaw17_ClientWaits.f k a0 a1 a2 a3) (treillagelaw17_ClientWaits.f (k + 1) a0 a1 a2 a3) := by
 intro a0 a1 a2 a3 k
 obtain ⟨ih0, ih1⟩ := treillagelaw17_ClientWaits.mono_l k; unfold treillagelaw17_ClientWaits.f
 repeat' first
   | (with_reducible exact ih0 _ _ _ _ _ _ _ _ _ _ _ _ _ _ _ _ _ _)
   | (with_reducible exact ih1 _ _ _ _ _ _ _ _ _ _ _ _ _ _ _ _ _)
   | (with_reducible exact mem_New.mono _ _ _)
   | (with_reducible exact treillagelaw17_shown.mono _)
   | (with_reducible exact LeO.refl _)
   | (with_reducible exact LeO.none _)
   | (with_reducible refine LeO.ite ?_ ?_)
   | (with_reducible refine LeO.bind ?_ (fun _ => ?_))
   | exact ih0 _ _ _ _ _ _ _ _ _ _ _ _ _ _ _ _ _ _
   | exact ih1 _ _ _ _ _ _ _ _ _ _ _ _ _ _ _ _ _
   | exact mem_New.mono _ _ _
   | exact treillagelaw17_shown.mono _
   | exact LeO.none _
   | refine LeO.ite ?_ ?_
   | refine LeO.bind ?_ (fun _ => ?_)
def treillagelaw17_ClientWaits.T16 : Bool × List (List Nat × List Nat) := (true, [([], []), ([0], [0]), ([1], [1]), ([2], [2]), ([3], [3]), ([4, 3], [3, 4]), ([5, 3], [3, 5]), ([3, 6], [3, 6]), ([7, 3], [7]), ([8], [8]), ([8], [8]), ([10, 8, 8], [8, 10]), ([9, 11, 8], [8, 9, 11]), ([12, 8], [8, 12]), ([11, 8], [8]), ([13, 14, 8], [8, 13, 14]), ([8, 15], [8, 15]), ([16, 14], [16]), ([17], [17]), ([17], [17]), ([19, 17, 17], [17, 19]), ([18, 20, 17], [17, 18, 20]), ([21, 17], [17, 21]), ([22, 17], [17, 22]), ([17, 23], [17, 23]), ([24, 20], [24]), ([25], [25]), ([25], [25]), ([27, 25, 25], [25, 27]), ([26, 28, 25], [25, 26, 28]), ([29, 25], [25, 29]), ([30, 25], [25, 30]), ([25, 31], [25, 31])])
def treillagelaw17_ClientWaits.B16 : List Nat := [0, 1, 3, 7, 15, 31, 63, 127, 255, 511, 511, 1535, 4095, 8191, 3583, 32767, 65535, 131071, 262143, 262143, 786431, 2097151, 4194303, 8388607, 16777215, 33554431, 67108863, 67108863, 201326591, 536870911, 1073741823, 2147483647, 4294967295]
theorem treillagelaw17_ClientWaits.tab16 : rtab .any (opsOf Try.f6 16) = treillagelaw17_ClientWaits.T16 := by kernel_rfl
theorem treillagelaw17_ClientWaits.bits16 : waitsOk treillagelaw17_ClientWaits.T16.2 treillagelaw17_ClientWaits.B16 = true := by kernel_rfl
def treillagelaw17_ClientWaits.T25 : Bool × List (List Nat × List Nat) := (true, [([], []), ([], []), ([], []), ([], []), ([3], [3]), ([], []), ([5], [5]), ([4, 6], [4, 6]), ([0, 1, 2, 7, 7], [0, 1, 2, 7]), ([8, 8, 0, 1, 2, 3, 4, 5, 6, 7, 8], [8])])
def treillagelaw17_ClientWaits.B25 : List Nat := [0, 0, 0, 0, 8, 0, 32, 120, 255, 511]
theorem treillagelaw17_ClientWaits.tab25 : rtab .any (opsOf Try.f6 25) = treillagelaw17_ClientWaits.T25 := by kernel_rfl
theorem treillagelaw17_ClientWaits.bits25 : waitsOk treillagelaw17_ClientWaits.T25.2 treillagelaw17_ClientWaits.B25 = true := by kernel_rfl

end Go.Proofs.Ytieglelnpiogcaa.PW
