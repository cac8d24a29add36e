-- Written by wip/hprint/hprint.py (a program of this session, over the print): not typed by hand
import Derived.Test.YtdjkadfgmhmhcaaPTx0
import Derived.Test.YtdjkadfgmhmhcaaPTx8
import Derived.Test.YtdjkadfgmhmhcaaPTx9
namespace Go.Proofs.Ytdjkadfgmhmhcaa.PT
open Go.RowKit Go.Proofs.YtdjkadfgmhmhcaaW.PrintWords Go.Proofs.YtdjkadfgmhmhcaaW.PrintLast Go.Proofs.YtdjkadfgmhmhcaaW.PrintMore
attribute [local go_sem] max2_int min2_int max_two min_two max_three min_three max_four min_four   -- for this text's walks alone
open Go.Proofs.YtdjkadfgmhmhcaaH
set_option linter.unusedVariables false
set_option linter.unusedSimpArgs false

/-! ### treillageref11_Unpack: function 15 -/
mutual
def treillageref11_Unpack.j3 : Nat → List Int → Int → List Int → List Int → Int → Int → ByteArray → ByteArray → Int → Int → Option (Int × Int × ByteArray × ByteArray × List ByteArray × Int × Int × Int)
 | 0, _, _, _, _, _, _, _, _, _, _ => none
 | k + 1, x0, x4, x6, x8, x245000, x245001, x245002, x245003, x245005, x245006 => (treillageref11_take.f k x6 (wrap64 (Int.tmod (IntKind.u64.wrap (Int.tdiv x4 1024)) 32))).bind fun bt262 => (if bt262.2.2 = true then ((treillageref11_take.f k bt262.2.1 (wrap64 (Int.tmod (IntKind.u64.wrap (Int.tdiv x4 32768)) 64))).bind fun bt267 => (treillageref11_Unpack.l2 k x0 bt267.2.1 x8 bt267.2.2 0 x245000 x245001 bt262.1 bt267.1 ([] : List ByteArray) x245005 x245006)) else (some (0, 0, (⟨#[]⟩ : ByteArray), (⟨#[]⟩ : ByteArray), ([] : List ByteArray), 0, 0, 4)))
def treillageref11_Unpack.j5 : Nat → List Int → Bool → Int → Int → ByteArray → ByteArray → List ByteArray → Int → Int → Option (Int × Int × ByteArray × ByteArray × List ByteArray × Int × Int × Int)
 | 0, _, _, _, _, _, _, _, _, _ => none
 | k + 1, x0, x12, x245000, x245001, x245002, x245003, x245004, x245005, x245006 => (treillageref11_Pack.f k x245000 x245001 x245002 x245003 x245004 x245005 x245006).bind fun bt281 => (if x12 = true then (if bt281.2 = 0 then ((treillageref11_same.f k bt281.1 x0).bind fun t285 => (if t285 = true then (some (x245000, x245001, x245002, x245003, x245004, x245005, x245006, 0)) else (some (0, 0, (⟨#[]⟩ : ByteArray), (⟨#[]⟩ : ByteArray), ([] : List ByteArray), 0, 0, 4)))) else (some (0, 0, (⟨#[]⟩ : ByteArray), (⟨#[]⟩ : ByteArray), ([] : List ByteArray), 0, 0, 4))) else (some (0, 0, (⟨#[]⟩ : ByteArray), (⟨#[]⟩ : ByteArray), ([] : List ByteArray), 0, 0, 4)))
def treillageref11_Unpack.l2 : Nat → List Int → List Int → List Int → Bool → Int → Int → Int → ByteArray → ByteArray → List ByteArray → Int → Int → Option (Int × Int × ByteArray × ByteArray × List ByteArray × Int × Int × Int)
 | 0, _, _, _, _, _, _, _, _, _, _, _, _ => none
 | k + 1, x0, x6, x8, x12, x14, x245000, x245001, x245002, x245003, x245004, x245005, x245006 => if x14 < (x8.length : Int) then (if x12 = true then (if 0 ≤ x14 then ((treillageref11_take.f k x6 (rd x8 x14)).bind fun bt273 => (if x245004.length < 8796093022208 then (treillageref11_Unpack.l2 k x0 bt273.2.1 x8 bt273.2.2 (wrap64 (x14 + 1)) x245000 x245001 x245002 x245003 (x245004 ++ [bt273.1]) x245005 x245006) else (none))) else (none)) else (treillageref11_Unpack.j5 k x0 x12 x245000 x245001 x245002 x245003 x245004 x245005 x245006)) else (treillageref11_Unpack.j5 k x0 x12 x245000 x245001 x245002 x245003 x245004 x245005 x245006)
def treillageref11_Unpack.j0 : Nat → List Int → Int → List Int → Int → List Int → Bool → Int → Int → ByteArray → ByteArray → Int → Int → Option (Int × Int × ByteArray × ByteArray × List ByteArray × Int × Int × Int)
 | 0, _, _, _, _, _, _, _, _, _, _, _, _ => none
 | k + 1, x0, x4, x6, x7, x8, x57, x245000, x245001, x245002, x245003, x245005, x245006 => if x57 = true then (some (0, 0, (⟨#[]⟩ : ByteArray), (⟨#[]⟩ : ByteArray), ([] : List ByteArray), 0, 0, 4)) else (treillageref11_Unpack.l0 k x0 x4 x6 x7 x8 0 x245000 x245001 x245002 x245003 x245005 x245006)
def treillageref11_Unpack.l0 : Nat → List Int → Int → List Int → Int → List Int → Int → Int → Int → ByteArray → ByteArray → Int → Int → Option (Int × Int × ByteArray × ByteArray × List ByteArray × Int × Int × Int)
 | 0, _, _, _, _, _, _, _, _, _, _, _, _ => none
 | k + 1, x0, x4, x6, x7, x8, x9, x245000, x245001, x245002, x245003, x245005, x245006 => if x9 < (wrap64 (2 * x7)) then (if 0 ≤ (wrap64 (Int.tdiv x9 8)) then (if (wrap64 (Int.tdiv x9 8)) < (x6.length : Int) then (treillageref11_Unpack.l1 k x0 x4 x6 x7 x8 x9 (rd x6 (wrap64 (Int.tdiv x9 8))) 0 x245000 x245001 x245002 x245003 x245005 x245006) else (none)) else (none)) else (if 2 ≤ (x6.length : Int) then (treillageref11_Unpack.j3 k x0 x4 (x6.drop 2) x8 x245000 x245001 x245002 x245003 x245005 x245006) else (none))
def treillageref11_Unpack.l1 : Nat → List Int → Int → List Int → Int → List Int → Int → Int → Int → Int → Int → ByteArray → ByteArray → Int → Int → Option (Int × Int × ByteArray × ByteArray × List ByteArray × Int × Int × Int)
 | 0, _, _, _, _, _, _, _, _, _, _, _, _, _, _ => none
 | k + 1, x0, x4, x6, x7, x8, x9, x10, x11, x245000, x245001, x245002, x245003, x245005, x245006 => if x11 < (Int.tmod x9 8) then (treillageref11_Unpack.l1 k x0 x4 x6 x7 x8 x9 (IntKind.u64.wrap (Int.tdiv x10 64)) (wrap64 (x11 + 1)) x245000 x245001 x245002 x245003 x245005 x245006) else (if x8.length < 17592186044416 then (treillageref11_Unpack.l0 k x0 x4 x6 x7 (x8 ++ [wrap64 (Int.tmod x10 64)]) (wrap64 (x9 + 1)) x245000 x245001 x245002 x245003 x245005 x245006) else (none))
end
def treillageref11_Unpack.f (k : Nat) (l0 : List Int) : Option (Int × Int × ByteArray × ByteArray × List ByteArray × Int × Int × Int) := if (l0.length : Int) < 2 then (some (0, 0, (⟨#[]⟩ : ByteArray), (⟨#[]⟩ : ByteArray), ([] : List ByteArray), 0, 0, 4)) else (if 0 < (l0.length : Int) then (if 1 < (l0.length : Int) then (if 2 ≤ (l0.length : Int) then ((some (l0.drop 2 : List Int)).bind fun y245 => ((some (([] : List Int) : List Int)).bind fun y250 => (if (wrap64 (Int.tmod (IntKind.u64.wrap (Int.tdiv (rd l0 0) 2097152)) 16)) > 0 then (if (y245.length : Int) < 2 then (treillageref11_Unpack.j0 k l0 (rd l0 0) y245 (wrap64 (Int.tmod (IntKind.u64.wrap (Int.tdiv (rd l0 0) 2097152)) 16)) y250 true (wrap64 (Int.tmod (rd l0 0) 4)) (wrap64 ((wrap64 (Int.tmod (IntKind.u64.wrap (Int.tdiv (rd l0 0) 4)) 256)) - 1)) (⟨#[]⟩ : ByteArray) (⟨#[]⟩ : ByteArray) (rd l0 1) (wrap64 (Int.tmod (IntKind.u64.wrap (Int.tdiv (rd l0 0) 33554432)) 256))) else (treillageref11_Unpack.j0 k l0 (rd l0 0) y245 (wrap64 (Int.tmod (IntKind.u64.wrap (Int.tdiv (rd l0 0) 2097152)) 16)) y250 (decide ((wrap64 (Int.tmod (IntKind.u64.wrap (Int.tdiv (rd l0 0) 2097152)) 16)) > 8)) (wrap64 (Int.tmod (rd l0 0) 4)) (wrap64 ((wrap64 (Int.tmod (IntKind.u64.wrap (Int.tdiv (rd l0 0) 4)) 256)) - 1)) (⟨#[]⟩ : ByteArray) (⟨#[]⟩ : ByteArray) (rd l0 1) (wrap64 (Int.tmod (IntKind.u64.wrap (Int.tdiv (rd l0 0) 33554432)) 256)))) else (treillageref11_Unpack.j3 k l0 (rd l0 0) y245 y250 (wrap64 (Int.tmod (rd l0 0) 4)) (wrap64 ((wrap64 (Int.tmod (IntKind.u64.wrap (Int.tdiv (rd l0 0) 4)) 256)) - 1)) (⟨#[]⟩ : ByteArray) (⟨#[]⟩ : ByteArray) (rd l0 1) (wrap64 (Int.tmod (IntKind.u64.wrap (Int.tdiv (rd l0 0) 33554432)) 256)))))) else (none)) else (none)) else (none))
theorem treillageref11_Unpack.mono_l : ∀ k, (∀ y0 y1 y2 y3 y4 y5 y6 y7 y8 y9, LeO (treillageref11_Unpack.j3 k y0 y1 y2 y3 y4 y5 y6 y7 y8 y9) (treillageref11_Unpack.j3 (k + 1) y0 y1 y2 y3 y4 y5 y6 y7 y8 y9)) ∧ (∀ y0 y1 y2 y3 y4 y5 y6 y7 y8, LeO (treillageref11_Unpack.j5 k y0 y1 y2 y3 y4 y5 y6 y7 y8) (treillageref11_Unpack.j5 (k + 1) y0 y1 y2 y3 y4 y5 y6 y7 y8)) ∧ (∀ y0 y1 y2 y3 y4 y5 y6 y7 y8 y9 y10 y11, LeO (treillageref11_Unpack.l2 k y0 y1 y2 y3 y4 y5 y6 y7 y8 y9 y10 y11) (treillageref11_Unpack.l2 (k + 1) y0 y1 y2 y3 y4 y5 y6 y7 y8 y9 y10 y11)) ∧ (∀ y0 y1 y2 y3 y4 y5 y6 y7 y8 y9 y10 y11, LeO (treillageref11_Unpack.j0 k y0 y1 y2 y3 y4 y5 y6 y7 y8 y9 y10 y11) (treillageref11_Unpack.j0 (k + 1) y0 y1 y2 y3 y4 y5 y6 y7 y8 y9 y10 y11)) ∧ (∀ y0 y1 y2 y3 y4 y5 y6 y7 y8 y9 y10 y11, LeO (treillageref11_Unpack.l0 k y0 y1 y2 y3 y4 y5 y6 y7 y8 y9 y10 y11) (treillageref11_Unpack.l0 (k + 1) y0 y1 y2 y3 y4 y5 y6 y7 y8 y9 y10 y11)) ∧ (∀ y0 y1 y2 y3 y4 y5 y6 y7 y8 y9 y10 y11 y12 y13, LeO (treillageref11_Unpack.l1 k y0 y1 y2 y3 y4 y5 y6 y7 y8 y9 y10 y11 y12 y13) (treillageref11_Unpack.l1 (k + 1) y0 y1 y2 y3 y4 y5 y6 y7 y8 y9 y10 y11 y12 y13))
 | 0 => ⟨fun _ _ _ _ _ _ _ _ _ _ r h => by simp [treillageref11_Unpack.j3] at h, fun _ _ _ _ _ _ _ _ _ r h => by simp [treillageref11_Unpack.j5] at h, fun _ _ _ _ _ _ _ _ _ _ _ _ r h => by simp [treillageref11_Unpack.l2] at h, fun _ _ _ _ _ _ _ _ _ _ _ _ r h => by simp [treillageref11_Unpack.j0] at h, fun _ _ _ _ _ _ _ _ _ _ _ _ r h => by simp [treillageref11_Unpack.l0] at h, fun _ _ _ _ _ _ _ _ _ _ _ _ _ _ r h => by simp [treillageref11_Unpack.l1] at h⟩
 | k + 1 => by
  obtain ⟨ih0, ih1, ih2, ih3, ih4, ih5⟩ := treillageref11_Unpack.mono_l k; refine ⟨?_, ?_, ?_, ?_, ?_, ?_⟩
  ·intro y0 y1 y2 y3 y4 y5 y6 y7 y8 y9
   unfold treillageref11_Unpack.j3; repeat' first
   | (with_reducible exact ih0 _ _ _ _ _ _ _ _ _ _)
   | (with_reducible exact ih1 _ _ _ _ _ _ _ _ _)
   | (with_reducible exact ih2 _ _ _ _ _ _ _ _ _ _ _ _)
   | (with_reducible exact ih3 _ _ _ _ _ _ _ _ _ _ _ _)
   | (with_reducible exact ih4 _ _ _ _ _ _ _ _ _ _ _ _)
   | (with_reducible exact ih5 _ _ _ _ _ _ _ _ _ _ _ _ _ _)
   | (with_reducible exact treillageref11_Pack.mono _ _ _ _ _ _ _ _)
   | (with_reducible exact treillageref11_same.mono _ _ _)
   | (with_reducible exact treillageref11_take.mono _ _ _)
   | (with_reducible exact LeO.refl _)
   | (with_reducible exact LeO.none _)
   | (with_reducible refine LeO.ite ?_ ?_)
   | (with_reducible refine LeO.bind ?_ (fun _ => ?_))
   | exact ih0 _ _ _ _ _ _ _ _ _ _
   | exact ih1 _ _ _ _ _ _ _ _ _
   | exact ih2 _ _ _ _ _ _ _ _ _ _ _ _
   | exact ih3 _ _ _ _ _ _ _ _ _ _ _ _
   | exact ih4 _ _ _ _ _ _ _ _ _ _ _ _
   | exact ih5 _ _ _ _ _ _ _ _ _ _ _ _ _ _
   | exact treillageref11_Pack.mono _ _ _ _ _ _ _ _
   | exact treillageref11_same.mono _ _ _
   | exact treillageref11_take.mono _ _ _
   | exact LeO.none _
   | refine LeO.ite ?_ ?_
   | refine LeO.bind ?_ (fun _ => ?_)
  ·intro y0 y1 y2 y3 y4 y5 y6 y7 y8
   unfold treillageref11_Unpack.j5; repeat' first
   | (with_reducible exact ih0 _ _ _ _ _ _ _ _ _ _)
   | (with_reducible exact ih1 _ _ _ _ _ _ _ _ _)
   | (with_reducible exact ih2 _ _ _ _ _ _ _ _ _ _ _ _)
   | (with_reducible exact ih3 _ _ _ _ _ _ _ _ _ _ _ _)
   | (with_reducible exact ih4 _ _ _ _ _ _ _ _ _ _ _ _)
   | (with_reducible exact ih5 _ _ _ _ _ _ _ _ _ _ _ _ _ _)
   | (with_reducible exact treillageref11_Pack.mono _ _ _ _ _ _ _ _)
   | (with_reducible exact treillageref11_same.mono _ _ _)
   | (with_reducible exact treillageref11_take.mono _ _ _)
   | (with_reducible exact LeO.refl _)
   | (with_reducible exact LeO.none _)
   | (with_reducible refine LeO.ite ?_ ?_)
   | (with_reducible refine LeO.bind ?_ (fun _ => ?_))
   | exact ih0 _ _ _ _ _ _ _ _ _ _
   | exact ih1 _ _ _ _ _ _ _ _ _
   | exact ih2 _ _ _ _ _ _ _ _ _ _ _ _
   | exact ih3 _ _ _ _ _ _ _ _ _ _ _ _
   | exact ih4 _ _ _ _ _ _ _ _ _ _ _ _
   | exact ih5 _ _ _ _ _ _ _ _ _ _ _ _ _ _
   | exact treillageref11_Pack.mono _ _ _ _ _ _ _ _
   | exact treillageref11_same.mono _ _ _
   | exact treillageref11_take.mono _ _ _
   | exact LeO.none _
   | refine LeO.ite ?_ ?_
   | refine LeO.bind ?_ (fun _ => ?_)
  ·intro y0 y1 y2 y3 y4 y5 y6 y7 y8 y9 y10 y11
   unfold treillageref11_Unpack.l2; repeat' first
   | (with_reducible exact ih0 _ _ _ _ _ _ _ _ _ _)
   | (with_reducible exact ih1 _ _ _ _ _ _ _ _ _)
   | (with_reducible exact ih2 _ _ _ _ _ _ _ _ _ _ _ _)
   | (with_reducible exact ih3 _ _ _ _ _ _ _ _ _ _ _ _)
   | (with_reducible exact ih4 _ _ _ _ _ _ _ _ _ _ _ _)
   | (with_reducible exact ih5 _ _ _ _ _ _ _ _ _ _ _ _ _ _)
   | (with_reducible exact treillageref11_Pack.mono _ _ _ _ _ _ _ _)
   | (with_reducible exact treillageref11_same.mono _ _ _)
   | (with_reducible exact treillageref11_take.mono _ _ _)
   | (with_reducible exact LeO.refl _)
   | (with_reducible exact LeO.none _)
   | (with_reducible refine LeO.ite ?_ ?_)
   | (with_reducible refine LeO.bind ?_ (fun _ => ?_))
   | exact ih0 _ _ _ _ _ _ _ _ _ _
   | exact ih1 _ _ _ _ _ _ _ _ _
   | exact ih2 _ _ _ _ _ _ _ _ _ _ _ _
   | exact ih3 _ _ _ _ _ _ _ _ _ _ _ _
   | exact ih4 _ _ _ _ _ _ _ _ _ _ _ _
   | exact ih5 _ _ _ _ _ _ _ _ _ _ _ _ _ _
   | exact treillageref11_Pack.mono _ _ _ _ _ _ _ _
   | exact treillageref11_same.mono _ _ _
   | exact treillageref11_take.mono _ _ _
   | exact LeO.none _
   | refine LeO.ite ?_ ?_
   | refine LeO.bind ?_ (fun _ => ?_)
  ·intro y0 y1 y2 y3 y4 y5 y6 y7 y8 y9 y10 y11
   unfold treillageref11_Unpack.j0; repeat' first
   | (with_reducible exact ih0 _ _ _ _ _ _ _ _ _ _)
   | (with_reducible exact ih1 _ _ _ _ _ _ _ _ _)
   | (with_reducible exact ih2 _ _ _ _ _ _ _ _ _ _ _ _)
   | (with_reducible exact ih3 _ _ _ _ _ _ _ _ _ _ _ _)
   | (with_reducible exact ih4 _ _ _ _ _ _ _ _ _ _ _ _)
   | (with_reducible exact ih5 _ _ _ _ _ _ _ _ _ _ _ _ _ _)
   | (with_reducible exact treillageref11_Pack.mono _ _ _ _ _ _ _ _)
   | (with_reducible exact treillageref11_same.mono _ _ _)
   | (with_reducible exact treillageref11_take.mono _ _ _)
   | (with_reducible exact LeO.refl _)
   | (with_reducible exact LeO.none _)
   | (with_reducible refine LeO.ite ?_ ?_)
   | (with_reducible refine LeO.bind ?_ (fun _ => ?_))
   | exact ih0 _ _ _ _ _ _ _ _ _ _
   | exact ih1 _ _ _ _ _ _ _ _ _
   | exact ih2 _ _ _ _ _ _ _ _ _ _ _ _
   | exact ih3 _ _ _ _ _ _ _ _ _ _ _ _
   | exact ih4 _ _ _ _ _ _ _ _ _ _ _ _
   | exact ih5 _ _ _ _ _ _ _ _ _ _ _ _ _ _
   | exact treillageref11_Pack.mono _ _ _ _ _ _ _ _
   | exact treillageref11_same.mono _ _ _
   | exact treillageref11_take.mono _ _ _
   | exact LeO.none _
   | refine LeO.ite ?_ ?_
   | refine LeO.bind ?_ (fun _ => ?_)
  ·intro y0 y1 y2 y3 y4 y5 y6 y7 y8 y9 y10 y11
   unfold treillageref11_Unpack.l0; repeat' first
   | (with_reducible exact ih0 _ _ _ _ _ _ _ _ _ _)
   | (with_reducible exact ih1 _ _ _ _ _ _ _ _ _)
   | (with_reducible exact ih2 _ _ _ _ _ _ _ _ _ _ _ _)
   | (with_reducible exact ih3 _ _ _ _ _ _ _ _ _ _ _ _)
   | (with_reducible exact ih4 _ _ _ _ _ _ _ _ _ _ _ _)
   | (with_reducible exact ih5 _ _ _ _ _ _ _ _ _ _ _ _ _ _)
   | (with_reducible exact treillageref11_Pack.mono _ _ _ _ _ _ _ _)
   | (with_reducible exact treillageref11_same.mono _ _ _)
   | (with_reducible exact treillageref11_take.mono _ _ _)
   | (with_reducible exact LeO.refl _)
   | (with_reducible exact LeO.none _)
   | (with_reducible refine LeO.ite ?_ ?_)
   | (with_reducible refine LeO.bind ?_ (fun _ => ?_))
   | exact ih0 _ _ _ _ _ _ _ _ _ _
   | exact ih1 _ _ _ _ _ _ _ _ _
   | exact ih2 _ _ _ _ _ _ _ _ _ _ _ _
   | exact ih3 _ _ _ _ _ _ _ _ _ _ _ _
   | exact ih4 _ _ _ _ _ _ _ _ _ _ _ _
   | exact ih5 _ _ _ _ _ _ _ _ _ _ _ _ _ _
   | exact treillageref11_Pack.mono _ _ _ _ _ _ _ _
   | exact treillageref11_same.mono _ _ _
   | exact treillageref11_take.mono _ _ _
   | exact LeO.none _
   | refine LeO.ite ?_ ?_
   | refine LeO.bind ?_ (fun _ => ?_)
  ·intro y0 y1 y2 y3 y4 y5 y6 y7 y8 y9 y10 y11 y12 y13
   unfold treillageref11_Unpack.l1; repeat' first
   | (with_reducible exact ih0 _ _ _ _ _ _ _ _ _ _)
   | (with_reducible exact ih1 _ _ _ _ _ _ _ _ _)
   | (with_reducible exact ih2 _ _ _ _ _ _ _ _ _ _ _ _)
   | (with_reducible exact ih3 _ _ _ _ _ _ _ _ _ _ _ _)
   | (with_reducible exact ih4 _ _ _ _ _ _ _ _ _ _ _ _)
   | (with_reducible exact ih5 _ _ _ _ _ _ _ _ _ _ _ _ _ _)
   | (with_reducible exact treillageref11_Pack.mono _ _ _ _ _ _ _ _)
   | (with_reducible exact treillageref11_same.mono _ _ _)
   | (with_reducible exact treillageref11_take.mono _ _ _)
   | (with_reducible exact LeO.refl _)
   | (with_reducible exact LeO.none _)
   | (with_reducible refine LeO.ite ?_ ?_)
   | (with_reducible refine LeO.bind ?_ (fun _ => ?_))
   | exact ih0 _ _ _ _ _ _ _ _ _ _
   | exact ih1 _ _ _ _ _ _ _ _ _
   | exact ih2 _ _ _ _ _ _ _ _ _ _ _ _
   | exact ih3 _ _ _ _ _ _ _ _ _ _ _ _
   | exact ih4 _ _ _ _ _ _ _ _ _ _ _ _
   | exact ih5 _ _ _ _ _ _ _ _ _ _ _ _ _ _
   | exact treillageref11_Pack.mono _ _ _ _ _ _ _ _
   | exact treillageref11_same.mono _ _ _
   | exact treillageref11_take.mono _ _ _
   | exact LeO.none _
   | refine LeO.ite ?_ ?_
   | refine LeO.bind ?_ (fun _ => ?_)
theorem treillageref11_Unpack.mono : ∀ a0 k, LeO (treillageref11_Unpack.f k a0) (treillageref11_Unpack.f (k + 1) a0) := by
 intro a0 k
 obtain ⟨ih0, ih1, ih2, ih3, ih4, ih5⟩ := treillageref11_Unpack.mono_l k; unfold treillageref11_Unpack.f
 repeat' first
   | (with_reducible exact ih0 _ _ _ _ _ _ _ _ _ _)
   | (with_reducible exact ih1 _ _ _ _ _ _ _ _ _)
   | (with_reducible exact ih2 _ _ _ _ _ _ _ _ _ _ _ _)
   | (with_reducible exact ih3 _ _ _ _ _ _ _ _ _ _ _ _)
   | (with_reducible exact ih4 _ _ _ _ _ _ _ _ _ _ _ _)
   | (with_reducible exact ih5 _ _ _ _ _ _ _ _ _ _ _ _ _ _)
   | (with_reducible exact treillageref11_Pack.mono _ _ _ _ _ _ _ _)
   | (with_reducible exact treillageref11_same.mono _ _ _)
   | (with_reducible exact treillageref11_take.mono _ _ _)
   | (with_reducible exact LeO.refl _)
   | (with_reducible exact LeO.none _)
   | (with_reducible refine LeO.ite ?_ ?_)
   | (with_reducible refine LeO.bind ?_ (fun _ => ?_))
   | exact ih0 _ _ _ _ _ _ _ _ _ _
   | exact ih1 _ _ _ _ _ _ _ _ _
   | exact ih2 _ _ _ _ _ _ _ _ _ _ _ _
   | exact ih3 _ _ _ _ _ _ _ _ _ _ _ _
   | exact ih4 _ _ _ _ _ _ _ _ _ _ _ _
   | exact ih5 _ _ _ _ _ _ _ _ _ _ _ _ _ _
   | exact treillageref11_Pack.mono _ _ _ _ _ _ _ _
   | exact treillageref11_same.mono _ _ _
   | exact treillageref11_take.mono _ _ _
   | exact LeO.none _
   | refine LeO.ite ?_ ?_
   | refine LeO.bind ?_ (fun _ => ?_)
set_option maxHeartbeats 8000000 in
set_option maxRecDepth 100000 in
theorem treillageref11_Unpack.calls (k : Nat) (P0_ : Nat → Prop) (A0 : Option Addr) (c0 : Nat) (l0 : List Int) (r1 : Int) (r2 : Int) (r3 : ByteArray) (r4 : ByteArray) (r5 : List ByteArray) (r6 : Int) (r7 : Int) (r8 : Int) (w : World) (hs0 : Kd.V (Kd.int .u64) 23 w w.heap.size (fun k_ => P0_ k_) (.slice A0 l0.length c0) l0) (h : treillageref11_Unpack.f k l0 = some (r1, r2, r3, r4, r5, r6, r7, r8)) :
  Calls Try.prog 15 #[.slice A0 l0.length c0] w fun e w' => ∃ v4_ : Value, e = .returned (.tuple #[.agg #[.int .i64 r1, .int .i64 r2, .string r3, .string r4, v4_, .int .u64 r6, .int .i64 r7], .int .i64 r8]) ∧ Kd.R Kd.string 9 w' w.heap.size (fun k_ => (w.heap.size ≤ k_)) v4_ r5 ∧ Below w.heap.size w w' := by
 have hu37 := Try.underlying37; have hu35 := Try.underlying35; have HO0 := aA (show Kd.V (Kd.int .u64) 23 w w.heap.size (fun k_ => (P0_ k_ ∨ w.heap.size ≤ k_)) (.slice A0 l0.length c0) l0 from Kd.V_mono hs0 (fun k_ hk => .inl hk)); have HB := aA (Below.refl w.heap.size w); have H : (if (l0.length : Int) < 2 then (some (0, 0, (⟨#[]⟩ : ByteArray), (⟨#[]⟩ : ByteArray), ([] : List ByteArray), 0, 0, 4)) else (if 0 < (l0.length : Int) then (if 1 < (l0.length : Int) then (if 2 ≤ (l0.length : Int) then ((some (l0.drop 2 : List Int)).bind fun y245 => ((some (([] : List Int) : List Int)).bind fun y250 => (if (wrap64 (Int.tmod (IntKind.u64.wrap (Int.tdiv (rd l0 0) 2097152)) 16)) > 0 then (if (y245.length : Int) < 2 then (treillageref11_Unpack.j0 k l0 (rd l0 0) y245 (wrap64 (Int.tmod (IntKind.u64.wrap (Int.tdiv (rd l0 0) 2097152)) 16)) y250 true (wrap64 (Int.tmod (rd l0 0) 4)) (wrap64 ((wrap64 (Int.tmod (IntKind.u64.wrap (Int.tdiv (rd l0 0) 4)) 256)) - 1)) (⟨#[]⟩ : ByteArray) (⟨#[]⟩ : ByteArray) (rd l0 1) (wrap64 (Int.tmod (IntKind.u64.wrap (Int.tdiv (rd l0 0) 33554432)) 256))) else (treillageref11_Unpack.j0 k l0 (rd l0 0) y245 (wrap64 (Int.tmod (IntKind.u64.wrap (Int.tdiv (rd l0 0) 2097152)) 16)) y250 (decide ((wrap64 (Int.tmod (IntKind.u64.wrap (Int.tdiv (rd l0 0) 2097152)) 16)) > 8)) (wrap64 (Int.tmod (rd l0 0) 4)) (wrap64 ((wrap64 (Int.tmod (IntKind.u64.wrap (Int.tdiv (rd l0 0) 4)) 256)) - 1)) (⟨#[]⟩ : ByteArray) (⟨#[]⟩ : ByteArray) (rd l0 1) (wrap64 (Int.tmod (IntKind.u64.wrap (Int.tdiv (rd l0 0) 33554432)) 256)))) else (treillageref11_Unpack.j3 k l0 (rd l0 0) y245 y250 (wrap64 (Int.tmod (rd l0 0) 4)) (wrap64 ((wrap64 (Int.tmod (IntKind.u64.wrap (Int.tdiv (rd l0 0) 4)) 256)) - 1)) (⟨#[]⟩ : ByteArray) (⟨#[]⟩ : ByteArray) (rd l0 1) (wrap64 (Int.tmod (IntKind.u64.wrap (Int.tdiv (rd l0 0) 33554432)) 256)))))) else (none)) else (none)) else (none))) = some (r1, r2, r3, r4, r5, r6, r7, r8) := h; clear h; by_cases c2 : (l0.length : Int) < 2
 ·rw [if_pos c2] at H; have c2b0 : decide ((l0.length : Int) < 2) = true := decide_eq_true c2; have c2b1 : decide (l0.length < 2) = true := decide_eq_true (by omega); clear c2; simp only [Option.some.injEq, Prod.mk.injEq] at H; obtain ⟨rfl, rfl, rfl, rfl, rfl, rfl, rfl, rfl⟩ := H; go_enter Try.func15, Try.ntmps15; go_wp2_with (first | ((with_reducible refine gate_dst (N := 2) rfl ?_); refine box_event ?hg (N := 2) ?hd (cs := #[.int .i64 0, .int .i64 0, .string (⟨#[]⟩ : ByteArray), .string (⟨#[]⟩ : ByteArray), .slice none 0 0, .int .u64 0, .int .i64 0]) (t := 37) ?hr ?_; (case hd => rfl); (case hg => rfl); (case hr => first | (go_simp; done) | (go_simp; rfl)); intro gb241 hg w3 hbox hb; have n0_ := aA (Kd.V_below (Kd.V_elderB (vlu HO0.out) gb241 (Nat.le_of_eq hg.symm)) hb); have n1_ := aA (below_step (blw HB.out) hb); have n2_ := aA (hbox); have n3_ := aA ((by rw [hg]; exact (below_size (blw HB.out)) : w.heap.size ≤ gb241)); have n4_ := aA ((by rw [hg]; exact (below_size (blw HB.out)) : w.heap.size ≤ gb241)); clear HO0 HB; have HO0 := n0_; have HB := n1_; have BK241 := n2_; have GW241 := n3_; have GE241 := n4_; clear n0_ n1_ n2_ n3_ n4_ hb hbox hg; have hcz4_0 : w3.cell? ⟨gb241, 0, none⟩ = some (.int .i64 0) := (blk_cell BK241.out 0).trans rfl; have hcz4_1 : w3.cell? ⟨gb241, 1, none⟩ = some (.int .i64 0) := (blk_cell BK241.out 1).trans rfl; have hcz4_2 : w3.cell? ⟨gb241, 2, none⟩ = some (.string (⟨#[]⟩ : ByteArray)) := (blk_cell BK241.out 2).trans rfl; have hcz4_3 : w3.cell? ⟨gb241, 3, none⟩ = some (.string (⟨#[]⟩ : ByteArray)) := (blk_cell BK241.out 3).trans rfl; have hcz4_4 : w3.cell? ⟨gb241, 4, none⟩ = some (.slice none 0 0) := (blk_cell BK241.out 4).trans rfl; have hcz4_5 : w3.cell? ⟨gb241, 5, none⟩ = some (.int .u64 0) := (blk_cell BK241.out 5).trans rfl; have hcz4_6 : w3.cell? ⟨gb241, 6, none⟩ = some (.int .i64 0) := (blk_cell BK241.out 6).trans rfl; have hfz4_0 := blk_frozen BK241.out 0; have hfz4_1 := blk_frozen BK241.out 1; have hfz4_2 := blk_frozen BK241.out 2; have hfz4_3 := blk_frozen BK241.out 3; have hfz4_4 := blk_frozen BK241.out 4; have hfz4_5 := blk_frozen BK241.out 5; have hfz4_6 := blk_frozen BK241.out 6))
  refine bodyPost_ret (results_ct rfl _ _ gb241 37 #[.int .i64 0, .int .i64 0, .string (⟨#[]⟩ : ByteArray), .string (⟨#[]⟩ : ByteArray), .slice none 0 0, .int .u64 0, .int .i64 0] (0, 0) _ rfl (by (with_reducible repeat (first | refine blk_drewN ?_ _ | refine blk_drew ?_ | refine blk_alloc ?_ _)); refine blk_put (cs := #[.int .i64 0, .int .i64 0, .string (⟨#[]⟩ : ByteArray), .string (⟨#[]⟩ : ByteArray), .slice none 0 0, .int .u64 0, .int .i64 0]) ?_ 6 _ rfl; (with_reducible repeat (first | refine blk_drewN ?_ _ | refine blk_drew ?_ | refine blk_alloc ?_ _)); refine blk_put (cs := #[.int .i64 0, .int .i64 0, .string (⟨#[]⟩ : ByteArray), .string (⟨#[]⟩ : ByteArray), .slice none 0 0, .int .u64 0, .int .i64 0]) ?_ 5 _ rfl; (with_reducible repeat (first | refine blk_drewN ?_ _ | refine blk_drew ?_ | refine blk_alloc ?_ _)); refine blk_put (cs := #[.int .i64 0, .int .i64 0, .string (⟨#[]⟩ : ByteArray), .string (⟨#[]⟩ : ByteArray), .slice none 0 0, .int .u64 0, .int .i64 0]) ?_ 4 _ rfl; (with_reducible repeat (first | refine blk_drewN ?_ _ | refine blk_drew ?_ | refine blk_alloc ?_ _)); refine blk_put (cs := #[.int .i64 0, .int .i64 0, .string (⟨#[]⟩ : ByteArray), .string (⟨#[]⟩ : ByteArray), .slice none 0 0, .int .u64 0, .int .i64 0]) ?_ 3 _ rfl; (with_reducible repeat (first | refine blk_drewN ?_ _ | refine blk_drew ?_ | refine blk_alloc ?_ _)); refine blk_put (cs := #[.int .i64 0, .int .i64 0, .string (⟨#[]⟩ : ByteArray), .string (⟨#[]⟩ : ByteArray), .slice none 0 0, .int .u64 0, .int .i64 0]) ?_ 2 _ rfl; (with_reducible repeat (first | refine blk_drewN ?_ _ | refine blk_drew ?_ | refine blk_alloc ?_ _)); refine blk_put (cs := #[.int .i64 0, .int .i64 0, .string (⟨#[]⟩ : ByteArray), .string (⟨#[]⟩ : ByteArray), .slice none 0 0, .int .u64 0, .int .i64 0]) ?_ 1 _ rfl; (with_reducible repeat (first | refine blk_drewN ?_ _ | refine blk_drew ?_ | refine blk_alloc ?_ _)); refine blk_put (cs := #[.int .i64 0, .int .i64 0, .string (⟨#[]⟩ : ByteArray), .string (⟨#[]⟩ : ByteArray), .slice none 0 0, .int .u64 0, .int .i64 0]) ?_ 0 _ rfl; (with_reducible repeat (first | refine blk_drewN ?_ _ | refine blk_drew ?_ | refine blk_alloc ?_ _)); exact BK241.out) Try.underlying37 rfl (by kernel_rfl)) rfl ?_; exact ⟨_, by first | rfl | (simp [errW_none, errW_some] <;> rfl) | (simp [*, errW_none, errW_some] <;> rfl), by first | exact Kd.R_nil _ _ _ _ _ | exact Kd.N_nil _ _ _ _ _ | exact Kd.V_nil _ _ _ _ _ | exact Kd.Q_nil _ _ _ _ _ | exact Kd.S_nil _ _ _ _ _, by repeat (first | (with_reducible first | exact HB.out | apply below_alloc | apply pw_below_drewN | apply below_drew1 | refine below_set ?_ GE241.out) | exact HB.out)⟩
 ·rw [if_neg c2] at H; have c2b0 : decide ((l0.length : Int) < 2) = false := decide_eq_false c2; have c2b1 : decide (l0.length < 2) = false := decide_eq_false (by omega); clear c2; by_cases c5 : 0 < (l0.length : Int)
  rotate_left
  ·rw [if_neg c5] at H; exact absurd H (by simp)

  rw [if_pos c5] at H; have c5b0 : decide (0 < (l0.length : Int)) = true := decide_eq_true c5; have c5b1 : decide (0 < l0.length) = true := decide_eq_true (by omega); clear c5; by_cases c6 : 1 < (l0.length : Int)
  rotate_left
  ·rw [if_neg c6] at H; exact absurd H (by simp)
  rw [if_pos c6] at H; have c6b0 : decide (1 < (l0.length : Int)) = true := decide_eq_true c6; have c6b1 : decide (1 < l0.length) = true := decide_eq_true (by omega); clear c6; by_cases c7 : 2 ≤ (l0.length : Int)
  rotate_left
  ·rw [if_neg c7] at H; exact absurd H (by simp)
  rw [if_pos c7] at H; have c7b0 := eq_true c7; have c7b1 : decide (2 ≤ (l0.length : Int)) = true := decide_eq_true c7; clear c7; obtain ⟨y245, hy245⟩ : ∃ y_ : List Int, y_ = (l0.drop 2) := ⟨_, rfl⟩; replace H : ((some (([] : List Int) : List Int)).bind fun y250 => (if (wrap64 (Int.tmod (IntKind.u64.wrap (Int.tdiv (rd l0 0) 2097152)) 16)) > 0 then (if (y245.length : Int) < 2 then (treillageref11_Unpack.j0 k l0 (rd l0 0) y245 (wrap64 (Int.tmod (IntKind.u64.wrap (Int.tdiv (rd l0 0) 2097152)) 16)) y250 true (wrap64 (Int.tmod (rd l0 0) 4)) (wrap64 ((wrap64 (Int.tmod (IntKind.u64.wrap (Int.tdiv (rd l0 0) 4)) 256)) - 1)) (⟨#[]⟩ : ByteArray) (⟨#[]⟩ : ByteArray) (rd l0 1) (wrap64 (Int.tmod (IntKind.u64.wrap (Int.tdiv (rd l0 0) 33554432)) 256))) else (treillageref11_Unpack.j0 k l0 (rd l0 0) y245 (wrap64 (Int.tmod (IntKind.u64.wrap (Int.tdiv (rd l0 0) 2097152)) 16)) y250 (decide ((wrap64 (Int.tmod (IntKind.u64.wrap (Int.tdiv (rd l0 0) 2097152)) 16)) > 8)) (wrap64 (Int.tmod (rd l0 0) 4)) (wrap64 ((wrap64 (Int.tmod (IntKind.u64.wrap (Int.tdiv (rd l0 0) 4)) 256)) - 1)) (⟨#[]⟩ : ByteArray) (⟨#[]⟩ : ByteArray) (rd l0 1) (wrap64 (Int.tmod (IntKind.u64.wrap (Int.tdiv (rd l0 0) 33554432)) 256)))) else (treillageref11_Unpack.j3 k l0 (rd l0 0) y245 y250 (wrap64 (Int.tmod (rd l0 0) 4)) (wrap64 ((wrap64 (Int.tmod (IntKind.u64.wrap (Int.tdiv (rd l0 0) 4)) 256)) - 1)) (⟨#[]⟩ : ByteArray) (⟨#[]⟩ : ByteArray) (rd l0 1) (wrap64 (Int.tmod (IntKind.u64.wrap (Int.tdiv (rd l0 0) 33554432)) 256))))) = some (r1, r2, r3, r4, r5, r6, r7, r8) := by first | (rw [hy245]; with_reducible exact H) | (have H2_ := (Option.bind_some _ _).symm.trans H; rw [hy245]; with_reducible exact H2_) | (have H2_ := (Option.bind_some _ _).symm.trans H; with_reducible exact H2_) | with_reducible exact H | (rw [hy245]; exact H) | exact H
  have Ny245 := aA hy245; clear hy245; obtain ⟨y250, hy250⟩ : ∃ y_ : List Int, y_ = (([] : List Int)) := ⟨_, rfl⟩; replace H : (if (wrap64 (Int.tmod (IntKind.u64.wrap (Int.tdiv (rd l0 0) 2097152)) 16)) > 0 then (if (y245.length : Int) < 2 then (treillageref11_Unpack.j0 k l0 (rd l0 0) y245 (wrap64 (Int.tmod (IntKind.u64.wrap (Int.tdiv (rd l0 0) 2097152)) 16)) y250 true (wrap64 (Int.tmod (rd l0 0) 4)) (wrap64 ((wrap64 (Int.tmod (IntKind.u64.wrap (Int.tdiv (rd l0 0) 4)) 256)) - 1)) (⟨#[]⟩ : ByteArray) (⟨#[]⟩ : ByteArray) (rd l0 1) (wrap64 (Int.tmod (IntKind.u64.wrap (Int.tdiv (rd l0 0) 33554432)) 256))) else (treillageref11_Unpack.j0 k l0 (rd l0 0) y245 (wrap64 (Int.tmod (IntKind.u64.wrap (Int.tdiv (rd l0 0) 2097152)) 16)) y250 (decide ((wrap64 (Int.tmod (IntKind.u64.wrap (Int.tdiv (rd l0 0) 2097152)) 16)) > 8)) (wrap64 (Int.tmod (rd l0 0) 4)) (wrap64 ((wrap64 (Int.tmod (IntKind.u64.wrap (Int.tdiv (rd l0 0) 4)) 256)) - 1)) (⟨#[]⟩ : ByteArray) (⟨#[]⟩ : ByteArray) (rd l0 1) (wrap64 (Int.tmod (IntKind.u64.wrap (Int.tdiv (rd l0 0) 33554432)) 256)))) else (treillageref11_Unpack.j3 k l0 (rd l0 0) y245 y250 (wrap64 (Int.tmod (rd l0 0) 4)) (wrap64 ((wrap64 (Int.tmod (IntKind.u64.wrap (Int.tdiv (rd l0 0) 4)) 256)) - 1)) (⟨#[]⟩ : ByteArray) (⟨#[]⟩ : ByteArray) (rd l0 1) (wrap64 (Int.tmod (IntKind.u64.wrap (Int.tdiv (rd l0 0) 33554432)) 256)))) = some (r1, r2, r3, r4, r5, r6, r7, r8) := by first | (rw [hy250]; with_reducible exact H) | (have H2_ := (Option.bind_some _ _).symm.trans H; rw [hy250]; with_reducible exact H2_) | (have H2_ := (Option.bind_some _ _).symm.trans H; with_reducible exact H2_) | with_reducible exact H | (rw [hy250]; exact H) | exact H
  have Ny250 := aA hy250; clear hy250; have HC8 := aA H; clear H; go_enter Try.func15, Try.ntmps15; go_upto_if 50 with (first | ((with_reducible refine gate_dst (N := 2) rfl ?_); refine box_event ?hg (N := 2) ?hd (cs := #[.int .i64 0, .int .i64 0, .string (⟨#[]⟩ : ByteArray), .string (⟨#[]⟩ : ByteArray), .slice none 0 0, .int .u64 0, .int .i64 0]) (t := 37) ?hr ?_; (case hd => rfl); (case hg => rfl); (case hr => first | (go_simp; done) | (go_simp; rfl)); intro gb241 hg w9 hbox hb; have n0_ := aA (Kd.V_below (Kd.V_elderB (vlu HO0.out) gb241 (Nat.le_of_eq hg.symm)) hb); have n1_ := aA (below_step (blw HB.out) hb); have n2_ := aA (hbox); have n3_ := aA ((by rw [hg]; exact (below_size (blw HB.out)) : w.heap.size ≤ gb241)); have n4_ := aA ((by rw [hg]; exact (below_size (blw HB.out)) : w.heap.size ≤ gb241)); clear HO0 HB; have HO0 := n0_; have HB := n1_; have BK241 := n2_; have GW241 := n3_; have GE241 := n4_; clear n0_ n1_ n2_ n3_ n4_ hb hbox hg; have p242 : 0 ≤ (0 : Int) := (by omega); have q242 : 0 < (l0.length : Int) := of_decide_eq_true (by first | (with_reducible assumption) | assumption); obtain ⟨ad242, e242, hx242_0⟩ := Kd.at_int (Kd.V_reads' HO0.out).2.2 0 p242 q242; cases e242; have qi242 : (0 < l0.length) = True := eq_true (by omega); (try rw [show ((0 : Int)).toNat = 0 from rfl] at hx242_0); (try rw [Addr.add_zero'] at hx242_0); replace p242 := eq_true p242; replace q242 := eq_true q242; have p243 : 0 ≤ (1 : Int) := (by omega); have q243 : 1 < (l0.length : Int) := of_decide_eq_true (by first | (with_reducible assumption) | assumption); obtain ⟨ad243, e243, hx243_0⟩ := Kd.at_int (Kd.V_reads' HO0.out).2.2 1 p243 q243; obtain rfl : ad242 = ad243 := (by injection e243); (try simp only [show (1 : Int).toNat = 1 from rfl, Nat.reduceMul, Nat.reduceEqDiff, Go.Addr.add, ↓reduceIte] at hx243_0); have qi243 : (1 < l0.length) = True := eq_true (by omega); (try rw [show ((1 : Int)).toNat = 1 from rfl] at hx243_0); replace p243 := eq_true p243; replace q243 := eq_true q243) | ((with_reducible refine gate_dst (N := 5) rfl ?_); refine box_event ?hg (N := 5) ?hd (cs := #[.int .i64 0, .int .i64 0, .string (⟨#[]⟩ : ByteArray), .string (⟨#[]⟩ : ByteArray), .slice none 0 0, .int .u64 0, .int .i64 0]) (t := 37) ?hr ?_; (case hd => rfl); (case hg => rfl); (case hr => first | (go_simp; done) | (go_simp; rfl)); intro gb244 hg w10 hbox hb; have n0_ := aA (Kd.V_below (Kd.V_elderB (vlu HO0.out) gb244 (Nat.le_of_eq hg.symm)) hb); have n1_ := aA (blk_below (g := gb241) (o := .cells #[.int .i64 0, .int .i64 0, .string (⟨#[]⟩ : ByteArray), .string (⟨#[]⟩ : ByteArray), .slice none 0 0, .int .u64 0, .int .i64 0] 37 (0, 0)) (bku BK241.out) hb); have n2_ := aA (below_step (bls HB.out) hb); have n3_ := aA (hbox); have n4_ := aA ((by rw [hg]; exact (below_size (bls HB.out)) : w.heap.size ≤ gb244)); have n5_ := aA ((by rw [hg]; exact (below_size (bls HB.out)) : w.heap.size ≤ gb244)); have n6_ := aA ((by rw [hg]; exact Nat.ne_of_lt (blk_lt (g := gb241) (o := .cells #[.int .i64 0, .int .i64 0, .string (⟨#[]⟩ : ByteArray), .string (⟨#[]⟩ : ByteArray), .slice none 0 0, .int .u64 0, .int .i64 0] 37 (0, 0)) (bku BK241.out)) : gb241 ≠ gb244)); have n7_ := aA ((by rw [hg]; exact Nat.ne_of_gt (blk_lt (g := gb241) (o := .cells #[.int .i64 0, .int .i64 0, .string (⟨#[]⟩ : ByteArray), .string (⟨#[]⟩ : ByteArray), .slice none 0 0, .int .u64 0, .int .i64 0] 37 (0, 0)) (bku BK241.out)) : gb244 ≠ gb241)); clear HO0 BK241 HB; have HO0 := n0_; have BK241 := n1_; have HB := n2_; have BK244 := n3_; have GW244 := n4_; have GE244 := n5_; have NB241_244 := n6_; have NB244_241 := n7_; clear n0_ n1_ n2_ n3_ n4_ n5_ n6_ n7_ hb hbox hg; have hnb11 := NB244_241.out; have hnc11 := NB241_244.out; have hcz12_0 : w10.cell? ⟨gb244, 0, none⟩ = some (.int .i64 0) := (blk_cell BK244.out 0).trans rfl; have hcz12_1 : w10.cell? ⟨gb244, 1, none⟩ = some (.int .i64 0) := (blk_cell BK244.out 1).trans rfl; have hcz12_2 : w10.cell? ⟨gb244, 2, none⟩ = some (.string (⟨#[]⟩ : ByteArray)) := (blk_cell BK244.out 2).trans rfl; have hcz12_3 : w10.cell? ⟨gb244, 3, none⟩ = some (.string (⟨#[]⟩ : ByteArray)) := (blk_cell BK244.out 3).trans rfl; have hcz12_4 : w10.cell? ⟨gb244, 4, none⟩ = some (.slice none 0 0) := (blk_cell BK244.out 4).trans rfl; have hcz12_5 : w10.cell? ⟨gb244, 5, none⟩ = some (.int .u64 0) := (blk_cell BK244.out 5).trans rfl; have hcz12_6 : w10.cell? ⟨gb244, 6, none⟩ = some (.int .i64 0) := (blk_cell BK244.out 6).trans rfl; have hfz12_0 := blk_frozen BK244.out 0; have hfz12_1 := blk_frozen BK244.out 1; have hfz12_2 := blk_frozen BK244.out 2; have hfz12_3 := blk_frozen BK244.out 3; have hfz12_4 := blk_frozen BK244.out 4; have hfz12_5 := blk_frozen BK244.out 5; have hfz12_6 := blk_frozen BK244.out 6) | ((with_reducible refine gate_store (t := 37) (p := 5) rfl ?_); refine store_event (t := 37) (p := 5) (v := ?vo_w13) (w1 := (((((((w10.setCell ⟨gb244, 0, none⟩ (.int .i64 (wrap64 (Int.tmod (rd l0 0) 4)))).setCell ⟨gb244, 1, none⟩ (.int .i64 (wrap64 ((wrap64 (Int.tmod (IntKind.u64.wrap (Int.tdiv (rd l0 0) 4)) 256)) - 1)))).setCell ⟨gb244, 2, none⟩ (.string (⟨#[]⟩ : ByteArray))).setCell ⟨gb244, 3, none⟩ (.string (⟨#[]⟩ : ByteArray))).setCell ⟨gb244, 4, none⟩ (.slice none 0 0)).setCell ⟨gb244, 5, none⟩ (.int .u64 (rd l0 1))).setCell ⟨gb244, 6, none⟩ (.int .i64 (wrap64 (Int.tmod (IntKind.u64.wrap (Int.tdiv (rd l0 0) 33554432)) 256))))) ?hg ?ho ?hn ?hr ?_; (case ho => rfl); (case hg => rfl); (case hn => rfl); (case hr => first | (go_simp; done) | (go_simp; rfl)); intro w13 hw; have n0_ : Aside0 (Kd.V (Kd.int .u64) 23 w13 w.heap.size (fun k_ => (P0_ k_ ∨ w.heap.size ≤ k_) ∧ k_ ≠ gb241 ∧ k_ ≠ gb244) (.slice (some ad242) l0.length c0) l0) := ⟨(by rw [hw]; exact (vlu (Kd.V_mono (Kd.V_far (p := ⟨gb244, 6, none⟩) (Kd.V_far (p := ⟨gb244, 5, none⟩) (Kd.V_far (p := ⟨gb244, 4, none⟩) (Kd.V_far (p := ⟨gb244, 3, none⟩) (Kd.V_far (p := ⟨gb244, 2, none⟩) (Kd.V_far (p := ⟨gb244, 1, none⟩) (Kd.V_far (p := ⟨gb244, 0, none⟩) (Kd.V_mono HO0.out (fun k_ hk => (⟨hk, hk.2⟩ : _ ∧ k_ ≠ gb244))) (fun _ hk => hk.2) (.int .i64 (wrap64 (Int.tmod (rd l0 0) 4)))) (fun _ hk => hk.2) (.int .i64 (wrap64 ((wrap64 (Int.tmod (IntKind.u64.wrap (Int.tdiv (rd l0 0) 4)) 256)) - 1)))) (fun _ hk => hk.2) (.string (⟨#[]⟩ : ByteArray))) (fun _ hk => hk.2) (.string (⟨#[]⟩ : ByteArray))) (fun _ hk => hk.2) (.slice none 0 0)) (fun _ hk => hk.2) (.int .u64 (rd l0 1))) (fun _ hk => hk.2) (.int .i64 (wrap64 (Int.tmod (IntKind.u64.wrap (Int.tdiv (rd l0 0) 33554432)) 256)))) (fun _ hk => ⟨hk.1.1.1, ⟨hk.1.1.2, hk.1.2⟩⟩))))⟩; have n1_ : Aside0 (w13.heap[gb241]? = some (.cells #[.int .i64 0, .int .i64 0, .string (⟨#[]⟩ : ByteArray), .string (⟨#[]⟩ : ByteArray), .slice none 0 0, .int .u64 0, .int .i64 0] 37 (0, 0))) := ⟨(by rw [hw]; exact (by (with_reducible repeat (first | refine blk_drewN ?_ _ | refine blk_drew ?_ | refine blk_alloc ?_ _)); refine blk_far ?_ NB241_244.out _; (with_reducible repeat (first | refine blk_drewN ?_ _ | refine blk_drew ?_ | refine blk_alloc ?_ _)); refine blk_far ?_ NB241_244.out _; (with_reducible repeat (first | refine blk_drewN ?_ _ | refine blk_drew ?_ | refine blk_alloc ?_ _)); refine blk_far ?_ NB241_244.out _; (with_reducible repeat (first | refine blk_drewN ?_ _ | refine blk_drew ?_ | refine blk_alloc ?_ _)); refine blk_far ?_ NB241_244.out _; (with_reducible repeat (first | refine blk_drewN ?_ _ | refine blk_drew ?_ | refine blk_alloc ?_ _)); refine blk_far ?_ NB241_244.out _; (with_reducible repeat (first | refine blk_drewN ?_ _ | refine blk_drew ?_ | refine blk_alloc ?_ _)); refine blk_far ?_ NB241_244.out _; (with_reducible repeat (first | refine blk_drewN ?_ _ | refine blk_drew ?_ | refine blk_alloc ?_ _)); refine blk_far ?_ NB241_244.out _; (with_reducible repeat (first | refine blk_drewN ?_ _ | refine blk_drew ?_ | refine blk_alloc ?_ _)); exact BK241.out))⟩; have n2_ : Aside0 (w13.heap[gb244]? = some (.cells #[.int .i64 (wrap64 (Int.tmod (rd l0 0) 4)), .int .i64 (wrap64 ((wrap64 (Int.tmod (IntKind.u64.wrap (Int.tdiv (rd l0 0) 4)) 256)) - 1)), .string (⟨#[]⟩ : ByteArray), .string (⟨#[]⟩ : ByteArray), .slice none 0 0, .int .u64 (rd l0 1), .int .i64 (wrap64 (Int.tmod (IntKind.u64.wrap (Int.tdiv (rd l0 0) 33554432)) 256))] 37 (0, 0))) := ⟨(by rw [hw]; exact (by (with_reducible repeat (first | refine blk_drewN ?_ _ | refine blk_drew ?_ | refine blk_alloc ?_ _)); refine blk_put (cs := #[.int .i64 (wrap64 (Int.tmod (rd l0 0) 4)), .int .i64 (wrap64 ((wrap64 (Int.tmod (IntKind.u64.wrap (Int.tdiv (rd l0 0) 4)) 256)) - 1)), .string (⟨#[]⟩ : ByteArray), .string (⟨#[]⟩ : ByteArray), .slice none 0 0, .int .u64 (rd l0 1), .int .i64 0]) ?_ 6 _ rfl; (with_reducible repeat (first | refine blk_drewN ?_ _ | refine blk_drew ?_ | refine blk_alloc ?_ _)); refine blk_put (cs := #[.int .i64 (wrap64 (Int.tmod (rd l0 0) 4)), .int .i64 (wrap64 ((wrap64 (Int.tmod (IntKind.u64.wrap (Int.tdiv (rd l0 0) 4)) 256)) - 1)), .string (⟨#[]⟩ : ByteArray), .string (⟨#[]⟩ : ByteArray), .slice none 0 0, .int .u64 0, .int .i64 0]) ?_ 5 _ rfl; (with_reducible repeat (first | refine blk_drewN ?_ _ | refine blk_drew ?_ | refine blk_alloc ?_ _)); refine blk_put (cs := #[.int .i64 (wrap64 (Int.tmod (rd l0 0) 4)), .int .i64 (wrap64 ((wrap64 (Int.tmod (IntKind.u64.wrap (Int.tdiv (rd l0 0) 4)) 256)) - 1)), .string (⟨#[]⟩ : ByteArray), .string (⟨#[]⟩ : ByteArray), .slice none 0 0, .int .u64 0, .int .i64 0]) ?_ 4 _ rfl; (with_reducible repeat (first | refine blk_drewN ?_ _ | refine blk_drew ?_ | refine blk_alloc ?_ _)); refine blk_put (cs := #[.int .i64 (wrap64 (Int.tmod (rd l0 0) 4)), .int .i64 (wrap64 ((wrap64 (Int.tmod (IntKind.u64.wrap (Int.tdiv (rd l0 0) 4)) 256)) - 1)), .string (⟨#[]⟩ : ByteArray), .string (⟨#[]⟩ : ByteArray), .slice none 0 0, .int .u64 0, .int .i64 0]) ?_ 3 _ rfl; (with_reducible repeat (first | refine blk_drewN ?_ _ | refine blk_drew ?_ | refine blk_alloc ?_ _)); refine blk_put (cs := #[.int .i64 (wrap64 (Int.tmod (rd l0 0) 4)), .int .i64 (wrap64 ((wrap64 (Int.tmod (IntKind.u64.wrap (Int.tdiv (rd l0 0) 4)) 256)) - 1)), .string (⟨#[]⟩ : ByteArray), .string (⟨#[]⟩ : ByteArray), .slice none 0 0, .int .u64 0, .int .i64 0]) ?_ 2 _ rfl; (with_reducible repeat (first | refine blk_drewN ?_ _ | refine blk_drew ?_ | refine blk_alloc ?_ _)); refine blk_put (cs := #[.int .i64 (wrap64 (Int.tmod (rd l0 0) 4)), .int .i64 0, .string (⟨#[]⟩ : ByteArray), .string (⟨#[]⟩ : ByteArray), .slice none 0 0, .int .u64 0, .int .i64 0]) ?_ 1 _ rfl; (with_reducible repeat (first | refine blk_drewN ?_ _ | refine blk_drew ?_ | refine blk_alloc ?_ _)); refine blk_put (cs := #[.int .i64 0, .int .i64 0, .string (⟨#[]⟩ : ByteArray), .string (⟨#[]⟩ : ByteArray), .slice none 0 0, .int .u64 0, .int .i64 0]) ?_ 0 _ rfl; (with_reducible repeat (first | refine blk_drewN ?_ _ | refine blk_drew ?_ | refine blk_alloc ?_ _)); exact BK244.out))⟩; have n3_ : Aside0 (Below w.heap.size w w13) := ⟨(by rw [hw]; exact (bls HB.out))⟩; clear hw HO0 BK241 BK244 HB; have HO0 := n0_; have BK241 := n1_; have BK244 := n2_; have HB := n3_; clear n0_ n1_ n2_ n3_; have q14 : (2 : Int) ≤ ((l0.length : Int) : Int) := of_decide_eq_true (by first | (with_reducible assumption) | assumption); obtain ⟨i014, hi014, _, hsz14, _⟩ := info_parts info23; have hroom14 : l0.length ≤ c0 := (Kd.V_reads' HO0.out).2.1; have hC14 : Kd.F (Kd.int .u64) _ _ (some ad242) l0.length l0 := (Kd.V_at (base := w.heap.size) HO0.out).2.2; have hcut14 := cut_from (P := Try.prog) 28 23 .i64 Try.underlying28 hi014 1 hsz14 (some ad242) l0.length c0 2 (by omega) q14; have hr14 := Kd.F_cut (m := (2 : Int).toNat) (c := c0) hC14 (by omega) hroom14; obtain ⟨A14, hA14⟩ : ∃ A1, A1 = (if c0 = (2 : Int).toNat then (some ad242) else ((some ad242) : Option Addr).map (·.add ((2 : Int).toNat * 1))) := ⟨_, rfl⟩; obtain ⟨c14, hc14⟩ : ∃ c1, c1 = c0 - (2 : Int).toNat := ⟨_, rfl⟩; have hy14 : y245.length = l0.length - (2 : Int).toNat := (by rw [Ny245.out, List.length_drop] <;> omega); rw [show (l0).drop (2 : Int).toNat = y245 from Ny245.out.symm] at hr14; replace hr14 : Kd.F (Kd.int .u64) _ _ A14 y245.length y245 := (by rw [hA14]; exact hr14); rw [← hy14, ← hA14, ← hc14] at hcut14; have HO249 := aA (show Kd.V (Kd.int .u64) 23 _ w.heap.size _ (.slice A14 y245.length c14) y245 from Kd.V_mk (by rw [hy14, hc14]; exact Nat.sub_le_sub_right hroom14 _) hr14); have HC249 := aA (show y245.length ≤ c14 from by rw [hy14, hc14]; exact Nat.sub_le_sub_right hroom14 _); clear hr14 hC14 hroom14 hi014 hsz14 hc14; have KY14 := aA hy14; have KA14 := aA hA14; clear hy14 hA14; replace q14 := eq_true q14) | ((with_reducible refine gate_dst (N := 48) rfl ?_); refine Kd.R_lit (Kd.int .i64) _ 3 ?hg (N := 48) ?hd (xs := ([] : List Int)) (inner := []) (ok := fun _ => True) (okp := fun _ => True) ?hr ?hp (fun _ hk => hk) trivial (Below.refl _ _) (Nat.le_refl _) (by simp) ?_; (case hd => rfl); (case hg => rfl); (case hr => first | (go_simp; done) | (go_simp; rfl)); (case hp => exact (Reps.none _ _)); intro v251 w15 ho16 hb hg_ hnew_; clear hg_ hnew_; (first | rw [← Ny250.out] at ho16 | (simp only [Int.reduceToNat] at ho16; rw [← Ny250.out] at ho16)); have n0_ := aA (Kd.V_elder' (vlu HO0.out) (Kd.R_base ho16) hb); have n1_ := aA (Kd.V_elder' (vlu HO249.out) (Kd.R_base ho16) hb); have n2_ := aA (Kd.R_lower (Kd.R_newM (M := fun k_ => (w.heap.size ≤ k_)) ho16 (below_size (bls HB.out)) (fun k_ h_ => h_)) (below_size (bls HB.out))); have n3_ := aA (blk_below (g := gb241) (o := .cells #[.int .i64 0, .int .i64 0, .string (⟨#[]⟩ : ByteArray), .string (⟨#[]⟩ : ByteArray), .slice none 0 0, .int .u64 0, .int .i64 0] 37 (0, 0)) (bku BK241.out) hb); have n4_ := aA (blk_below (g := gb244) (o := .cells #[.int .i64 (wrap64 (Int.tmod (rd l0 0) 4)), .int .i64 (wrap64 ((wrap64 (Int.tmod (IntKind.u64.wrap (Int.tdiv (rd l0 0) 4)) 256)) - 1)), .string (⟨#[]⟩ : ByteArray), .string (⟨#[]⟩ : ByteArray), .slice none 0 0, .int .u64 (rd l0 1), .int .i64 (wrap64 (Int.tmod (IntKind.u64.wrap (Int.tdiv (rd l0 0) 33554432)) 256))] 37 (0, 0)) (bku BK244.out) hb); have n5_ := aA (below_step (bls HB.out) hb); clear HO0 HO249 BK241 BK244 HB; have HO0 := n0_; have HO249 := n1_; have HO252 := n2_; have BK241 := n3_; have BK244 := n4_; have HB := n5_; clear n0_ n1_ n2_ n3_ n4_ n5_ hb ho16))
  (try simp only [Act.put, List.setIfInBounds_toArray, List.set_cons_zero, List.set_cons_succ]); go_cut [6, 8] (fun v6 v8 wc => ∃ (kq : Nat) (x6_7 : List Int) (x8_7 : List Int) (x242000_7 : Int) (x242001_7 : Int) (x242002_7 : ByteArray) (x242003_7 : ByteArray) (x242005_7 : Int) (x242006_7 : Int), Aside0 (treillageref11_Unpack.j3 kq l0 (rd l0 0) x6_7 x8_7 (wrap64 (Int.tmod (rd l0 0) 4)) (wrap64 ((wrap64 (Int.tmod (IntKind.u64.wrap (Int.tdiv (rd l0 0) 4)) 256)) - 1)) (⟨#[]⟩ : ByteArray) (⟨#[]⟩ : ByteArray) (rd l0 1) (wrap64 (Int.tmod (IntKind.u64.wrap (Int.tdiv (rd l0 0) 33554432)) 256)) = some (r1, r2, r3, r4, r5, r6, r7, r8)) ∧ Aside0 (kq ≤ k) ∧ Aside0 (Kd.V (Kd.int .u64) 23 wc w.heap.size (fun k_ => (P0_ k_ ∨ w.heap.size ≤ k_) ∧ some k_ ≠ (v8 : Value).ownBlock ∧ k_ ≠ gb241 ∧ k_ ≠ gb244) (.slice (some ad242) l0.length c0) l0) ∧ Aside0 (Kd.V (Kd.int .u64) 23 wc w.heap.size (fun k_ => (P0_ k_ ∨ w.heap.size ≤ k_) ∧ some k_ ≠ (v8 : Value).ownBlock ∧ k_ ≠ gb241 ∧ k_ ≠ gb244) v6 x6_7) ∧ Aside0 (Kd.R (Kd.int .i64) 3 wc w.heap.size (fun k_ => (w.heap.size ≤ k_)) v8 x8_7) ∧ Aside0 (wc.heap[gb241]? = some (.cells #[.int .i64 x242000_7, .int .i64 x242001_7, .string x242002_7, .string x242003_7, (.slice none 0 0), .int .u64 x242005_7, .int .i64 x242006_7] 37 (0, 0))) ∧ Aside0 (wc.heap[gb244]? = some (.cells #[.int .i64 (wrap64 (Int.tmod (rd l0 0) 4)), .int .i64 (wrap64 ((wrap64 (Int.tmod (IntKind.u64.wrap (Int.tdiv (rd l0 0) 4)) 256)) - 1)), .string (⟨#[]⟩ : ByteArray), .string (⟨#[]⟩ : ByteArray), (.slice none 0 0), .int .u64 (rd l0 1), .int .i64 (wrap64 (Int.tmod (IntKind.u64.wrap (Int.tdiv (rd l0 0) 33554432)) 256))] 37 (0, 0))) ∧ Aside0 (Below w.heap.size w wc))
  case first =>
   have H := HC8.out; clear HC8; by_cases c17 : (wrap64 (Int.tmod (IntKind.u64.wrap (Int.tdiv (rd l0 0) 2097152)) 16)) > 0
   ·rw [if_pos c17] at H; have c17b0 : decide (0 < (wrap64 (Int.tmod (IntKind.u64.wrap (Int.tdiv (rd l0 0) 2097152)) 16))) = true := decide_eq_true c17; clear c17; (first | rw [c17b0] | rw [c17b1] | (simp only [i64_w, i32_w]; rw [c17b0]) | skip)
    have HC18 := aA H; clear H; go_upto_region 9 with (fail)
    go_cut [57] (fun v57 wc => ∃ (kq : Nat) (x57_17 : Bool), v57 = .bool x57_17 ∧ Aside0 (treillageref11_Unpack.j0 kq l0 (rd l0 0) y245 (wrap64 (Int.tmod (IntKind.u64.wrap (Int.tdiv (rd l0 0) 2097152)) 16)) y250 x57_17 (wrap64 (Int.tmod (rd l0 0) 4)) (wrap64 ((wrap64 (Int.tmod (IntKind.u64.wrap (Int.tdiv (rd l0 0) 4)) 256)) - 1)) (⟨#[]⟩ : ByteArray) (⟨#[]⟩ : ByteArray) (rd l0 1) (wrap64 (Int.tmod (IntKind.u64.wrap (Int.tdiv (rd l0 0) 33554432)) 256)) = some (r1, r2, r3, r4, r5, r6, r7, r8)) ∧ Aside0 (kq ≤ k) ∧ Aside0 (Kd.V (Kd.int .u64) 23 wc w.heap.size (fun k_ => (P0_ k_ ∨ w.heap.size ≤ k_) ∧ some k_ ≠ (v251 : Value).ownBlock ∧ k_ ≠ gb241 ∧ k_ ≠ gb244) (.slice (some ad242) l0.length c0) l0) ∧ Aside0 (Kd.V (Kd.int .u64) 23 wc w.heap.size (fun k_ => (P0_ k_ ∨ w.heap.size ≤ k_) ∧ some k_ ≠ (v251 : Value).ownBlock ∧ k_ ≠ gb241 ∧ k_ ≠ gb244) (.slice A14 y245.length c14) y245) ∧ Aside0 (Kd.R (Kd.int .i64) 3 wc w.heap.size (fun k_ => (w.heap.size ≤ k_)) v251 y250) ∧ Aside0 (wc.heap[gb241]? = some (.cells #[.int .i64 0, .int .i64 0, .string (⟨#[]⟩ : ByteArray), .string (⟨#[]⟩ : ByteArray), (.slice none 0 0), .int .u64 0, .int .i64 0] 37 (0, 0))) ∧ Aside0 (wc.heap[gb244]? = some (.cells #[.int .i64 (wrap64 (Int.tmod (rd l0 0) 4)), .int .i64 (wrap64 ((wrap64 (Int.tmod (IntKind.u64.wrap (Int.tdiv (rd l0 0) 4)) 256)) - 1)), .string (⟨#[]⟩ : ByteArray), .string (⟨#[]⟩ : ByteArray), (.slice none 0 0), .int .u64 (rd l0 1), .int .i64 (wrap64 (Int.tmod (IntKind.u64.wrap (Int.tdiv (rd l0 0) 33554432)) 256))] 37 (0, 0))) ∧ Aside0 (Below w.heap.size w wc))
    case first =>
     have H := HC18.out; clear HC18; by_cases c19 : (y245.length : Int) < 2
     ·rw [if_pos c19] at H; have c19b0 : decide ((y245.length : Int) < 2) = true := decide_eq_true c19; have c19b1 : decide (y245.length < 2) = true := decide_eq_true (by omega); clear c19; (first | rw [c19b0] | rw [c19b1] | (simp only [i64_w, i32_w]; rw [c19b0]) | skip)
      have H' := aA H; clear H; go_wp2; go_meet
      case rel => exact ⟨_, (true), (by first | rfl | (simp; done) | (simp [*]; done)), H', ⟨by first | omega | exact Nat.le_refl _⟩, ⟨by (with_reducible repeat (first | apply Kd.V_alloc | apply Kd.V_drewN | apply Kd.V_drew)); exact Kd.V_mono HO0.out (fun _ hk => ⟨hk.1.1, ⟨hk.2, ⟨hk.1.2.1, hk.1.2.2⟩⟩⟩)⟩, ⟨by (with_reducible repeat (first | apply Kd.V_alloc | apply Kd.V_drewN | apply Kd.V_drew)); exact Kd.V_mono HO249.out (fun _ hk => ⟨hk.1.1, ⟨hk.2, ⟨hk.1.2.1, hk.1.2.2⟩⟩⟩)⟩, ⟨by (with_reducible repeat (first | apply Kd.R_alloc | apply Kd.R_drewN | apply Kd.R_drew)); exact Kd.R_mono HO252.out (fun _ hk => hk.1)⟩, ⟨by (with_reducible repeat (first | refine blk_drewN ?_ _ | refine blk_drew ?_ | refine blk_alloc ?_ _)); exact BK241.out⟩, ⟨by (with_reducible repeat (first | refine blk_drewN ?_ _ | refine blk_drew ?_ | refine blk_alloc ?_ _)); exact BK244.out⟩, ⟨by repeat (first | (with_reducible first | exact HB.out | apply below_alloc | apply pw_below_drewN | apply below_drew1 | refine below_set ?_ GE241.out | refine below_set ?_ GE244.out) | exact HB.out)⟩⟩
     ·rw [if_neg c19] at H; have c19b0 : decide ((y245.length : Int) < 2) = false := decide_eq_false c19; have c19b1 : decide (y245.length < 2) = false := decide_eq_false (by omega); clear c19; (first | rw [c19b0] | rw [c19b1] | (simp only [i64_w, i32_w]; rw [c19b0]) | skip)
      have H' := aA H; clear H; go_wp2; go_meet
      case rel => exact ⟨_, (decide ((wrap64 (Int.tmod (IntKind.u64.wrap (Int.tdiv (rd l0 0) 2097152)) 16)) > 8)), (by first | rfl | (simp; done) | (simp [*]; done)), H', ⟨by first | omega | exact Nat.le_refl _⟩, ⟨by (with_reducible repeat (first | apply Kd.V_alloc | apply Kd.V_drewN | apply Kd.V_drew)); exact Kd.V_mono HO0.out (fun _ hk => ⟨hk.1.1, ⟨hk.2, ⟨hk.1.2.1, hk.1.2.2⟩⟩⟩)⟩, ⟨by (with_reducible repeat (first | apply Kd.V_alloc | apply Kd.V_drewN | apply Kd.V_drew)); exact Kd.V_mono HO249.out (fun _ hk => ⟨hk.1.1, ⟨hk.2, ⟨hk.1.2.1, hk.1.2.2⟩⟩⟩)⟩, ⟨by (with_reducible repeat (first | apply Kd.R_alloc | apply Kd.R_drewN | apply Kd.R_drew)); exact Kd.R_mono HO252.out (fun _ hk => hk.1)⟩, ⟨by (with_reducible repeat (first | refine blk_drewN ?_ _ | refine blk_drew ?_ | refine blk_alloc ?_ _)); exact BK241.out⟩, ⟨by (with_reducible repeat (first | refine blk_drewN ?_ _ | refine blk_drew ?_ | refine blk_alloc ?_ _)); exact BK244.out⟩, ⟨by repeat (first | (with_reducible first | exact HB.out | apply below_alloc | apply pw_below_drewN | apply below_drew1 | refine below_set ?_ GE241.out | refine below_set ?_ GE244.out) | exact HB.out)⟩⟩
    case rest =>
     clear HC18; try clear c1
     try clear q1
     try clear c2
     try clear c2b0
     try clear c2b1
     try clear p2
     try clear q2
     try clear hx2
     try clear qi2
     try clear c5
     try clear c5b0
     try clear c5b1
     try clear c6
     try clear c6b0
     try clear c6b1
     try clear p6
     try clear c7
     try clear c7b0
     try clear c7b1
     try clear c11
     try clear c14
     try clear q14
     try clear c15
     try clear c17
     try clear c17b0
     try clear c17b1
     try clear c19
     try clear c19b0
     try clear c19b1
     try clear hcz12_0
     try clear hcz12_1
     try clear hcz12_2
     try clear hcz12_3
     try clear hcz12_4
     try clear hcz12_5
     try clear hcz12_6
     try clear hcz4_0
     try clear hcz4_1
     try clear hcz4_2
     try clear hcz4_3
     try clear hcz4_4
     try clear hcz4_5
     try clear hcz4_6
     try clear hfz12_0
     try clear hfz12_1
     try clear hfz12_2
     try clear hfz12_3
     try clear hfz12_4
     try clear hfz12_5
     try clear hfz12_6
     try clear hfz4_0
     try clear hfz4_1
     try clear hfz4_2
     try clear hfz4_3
     try clear hfz4_4
     try clear hfz4_5
     try clear hfz4_6
     try clear hx242_0
     try clear hx243_0
     try clear p242
     try clear p243
     try clear q14
     try clear q242
     try clear q243
     obtain ⟨kq, x57_17, rfl, HA, HJ17, HO_0, HO_6, HO_8, BK241, BK244, HB⟩ := hcut; cases kq with
     | zero => exact absurd HA.out (by simp [treillageref11_Unpack.j0])
     | succ kj17 =>
      have H := HA.out; clear HA; simp only [treillageref11_Unpack.j0] at H; by_cases c20 : x57_17 = true
      ·subst c20; have H1 : (some (0, 0, (⟨#[]⟩ : ByteArray), (⟨#[]⟩ : ByteArray), ([] : List ByteArray), 0, 0, 4)) = some (r1, r2, r3, r4, r5, r6, r7, r8) := by rw [if_pos rfl] at H; exact H
       clear H; have H := H1; clear H1; simp only [Option.some.injEq, Prod.mk.injEq] at H; obtain ⟨rfl, rfl, rfl, rfl, rfl, rfl, rfl, rfl⟩ := H; have hnb21 := NB241_244.out; have hnc21 := NB244_241.out; have hcz22_0 : wc.cell? ⟨gb241, 0, none⟩ = some (.int .i64 0) := (blk_cell BK241.out 0).trans rfl; have hcz22_1 : wc.cell? ⟨gb241, 1, none⟩ = some (.int .i64 0) := (blk_cell BK241.out 1).trans rfl; have hcz22_2 : wc.cell? ⟨gb241, 2, none⟩ = some (.string (⟨#[]⟩ : ByteArray)) := (blk_cell BK241.out 2).trans rfl; have hcz22_3 : wc.cell? ⟨gb241, 3, none⟩ = some (.string (⟨#[]⟩ : ByteArray)) := (blk_cell BK241.out 3).trans rfl; have hcz22_4 : wc.cell? ⟨gb241, 4, none⟩ = some (.slice none 0 0) := (blk_cell BK241.out 4).trans rfl; have hcz22_5 : wc.cell? ⟨gb241, 5, none⟩ = some (.int .u64 0) := (blk_cell BK241.out 5).trans rfl; have hcz22_6 : wc.cell? ⟨gb241, 6, none⟩ = some (.int .i64 0) := (blk_cell BK241.out 6).trans rfl; have hfz22_0 := blk_frozen BK241.out 0; have hfz22_1 := blk_frozen BK241.out 1; have hfz22_2 := blk_frozen BK241.out 2; have hfz22_3 := blk_frozen BK241.out 3; have hfz22_4 := blk_frozen BK241.out 4; have hfz22_5 := blk_frozen BK241.out 5; have hfz22_6 := blk_frozen BK241.out 6; go_wp2; refine bodyPost_ret (results_ct rfl _ _ gb241 37 #[.int .i64 0, .int .i64 0, .string (⟨#[]⟩ : ByteArray), .string (⟨#[]⟩ : ByteArray), .slice none 0 0, .int .u64 0, .int .i64 0] (0, 0) _ rfl (by (with_reducible repeat (first | refine blk_drewN ?_ _ | refine blk_drew ?_ | refine blk_alloc ?_ _)); refine blk_put (cs := #[.int .i64 0, .int .i64 0, .string (⟨#[]⟩ : ByteArray), .string (⟨#[]⟩ : ByteArray), .slice none 0 0, .int .u64 0, .int .i64 0]) ?_ 6 _ rfl; (with_reducible repeat (first | refine blk_drewN ?_ _ | refine blk_drew ?_ | refine blk_alloc ?_ _)); refine blk_put (cs := #[.int .i64 0, .int .i64 0, .string (⟨#[]⟩ : ByteArray), .string (⟨#[]⟩ : ByteArray), .slice none 0 0, .int .u64 0, .int .i64 0]) ?_ 5 _ rfl; (with_reducible repeat (first | refine blk_drewN ?_ _ | refine blk_drew ?_ | refine blk_alloc ?_ _)); refine blk_put (cs := #[.int .i64 0, .int .i64 0, .string (⟨#[]⟩ : ByteArray), .string (⟨#[]⟩ : ByteArray), .slice none 0 0, .int .u64 0, .int .i64 0]) ?_ 4 _ rfl; (with_reducible repeat (first | refine blk_drewN ?_ _ | refine blk_drew ?_ | refine blk_alloc ?_ _)); refine blk_put (cs := #[.int .i64 0, .int .i64 0, .string (⟨#[]⟩ : ByteArray), .string (⟨#[]⟩ : ByteArray), .slice none 0 0, .int .u64 0, .int .i64 0]) ?_ 3 _ rfl; (with_reducible repeat (first | refine blk_drewN ?_ _ | refine blk_drew ?_ | refine blk_alloc ?_ _)); refine blk_put (cs := #[.int .i64 0, .int .i64 0, .string (⟨#[]⟩ : ByteArray), .string (⟨#[]⟩ : ByteArray), .slice none 0 0, .int .u64 0, .int .i64 0]) ?_ 2 _ rfl; (with_reducible repeat (first | refine blk_drewN ?_ _ | refine blk_drew ?_ | refine blk_alloc ?_ _)); refine blk_put (cs := #[.int .i64 0, .int .i64 0, .string (⟨#[]⟩ : ByteArray), .string (⟨#[]⟩ : ByteArray), .slice none 0 0, .int .u64 0, .int .i64 0]) ?_ 1 _ rfl; (with_reducible repeat (first | refine blk_drewN ?_ _ | refine blk_drew ?_ | refine blk_alloc ?_ _)); refine blk_put (cs := #[.int .i64 0, .int .i64 0, .string (⟨#[]⟩ : ByteArray), .string (⟨#[]⟩ : ByteArray), .slice none 0 0, .int .u64 0, .int .i64 0]) ?_ 0 _ rfl; (with_reducible repeat (first | refine blk_drewN ?_ _ | refine blk_drew ?_ | refine blk_alloc ?_ _)); exact BK241.out) Try.underlying37 rfl (by kernel_rfl)) rfl ?_; exact ⟨_, by first | rfl | (simp [errW_none, errW_some] <;> rfl) | (simp [*, errW_none, errW_some] <;> rfl), by first | exact Kd.R_nil _ _ _ _ _ | exact Kd.N_nil _ _ _ _ _ | exact Kd.V_nil _ _ _ _ _ | exact Kd.Q_nil _ _ _ _ _ | exact Kd.S_nil _ _ _ _ _, by repeat (first | (with_reducible first | exact HB.out | apply below_alloc | apply pw_below_drewN | apply below_drew1 | refine below_set ?_ GE241.out | refine below_set ?_ GE244.out) | exact HB.out)⟩
      ·replace c20 := Bool.eq_false_iff.mpr c20; subst c20; have H1 : (treillageref11_Unpack.l0 kj17 l0 (rd l0 0) y245 (wrap64 (Int.tmod (IntKind.u64.wrap (Int.tdiv (rd l0 0) 2097152)) 16)) y250 0 (wrap64 (Int.tmod (rd l0 0) 4)) (wrap64 ((wrap64 (Int.tmod (IntKind.u64.wrap (Int.tdiv (rd l0 0) 4)) 256)) - 1)) (⟨#[]⟩ : ByteArray) (⟨#[]⟩ : ByteArray) (rd l0 1) (wrap64 (Int.tmod (IntKind.u64.wrap (Int.tdiv (rd l0 0) 33554432)) 256))) = some (r1, r2, r3, r4, r5, r6, r7, r8) := by rw [if_neg (show ¬ (false = true) by decide)] at H; exact H
       clear H; have H := H1; clear H1; have H' := aA H; clear H; go_wp2; go_loopg [8, 9] kj17 (fun kq v8 v9 w' => ∃ (x8_2 : List Int) (x9_2 : Int), v9 = .int .i64 x9_2 ∧ Aside0 (treillageref11_Unpack.l0 kq l0 (rd l0 0) y245 (wrap64 (Int.tmod (IntKind.u64.wrap (Int.tdiv (rd l0 0) 2097152)) 16)) x8_2 x9_2 (wrap64 (Int.tmod (rd l0 0) 4)) (wrap64 ((wrap64 (Int.tmod (IntKind.u64.wrap (Int.tdiv (rd l0 0) 4)) 256)) - 1)) (⟨#[]⟩ : ByteArray) (⟨#[]⟩ : ByteArray) (rd l0 1) (wrap64 (Int.tmod (IntKind.u64.wrap (Int.tdiv (rd l0 0) 33554432)) 256)) = some (r1, r2, r3, r4, r5, r6, r7, r8)) ∧ Aside0 (kq ≤ kj17) ∧ Aside0 (Kd.V (Kd.int .u64) 23 w' w.heap.size (fun k_ => (P0_ k_ ∨ w.heap.size ≤ k_) ∧ some k_ ≠ (v8 : Value).ownBlock ∧ k_ ≠ gb241 ∧ k_ ≠ gb244) (.slice (some ad242) l0.length c0) l0) ∧ Aside0 (Kd.V (Kd.int .u64) 23 w' w.heap.size (fun k_ => (P0_ k_ ∨ w.heap.size ≤ k_) ∧ some k_ ≠ (v8 : Value).ownBlock ∧ k_ ≠ gb241 ∧ k_ ≠ gb244) (.slice A14 y245.length c14) y245) ∧ Aside0 (Kd.R (Kd.int .i64) 3 w' w.heap.size (fun k_ => (w.heap.size ≤ k_)) v8 x8_2) ∧ Aside0 (w'.heap[gb241]? = some (.cells #[.int .i64 0, .int .i64 0, .string (⟨#[]⟩ : ByteArray), .string (⟨#[]⟩ : ByteArray), (.slice none 0 0), .int .u64 0, .int .i64 0] 37 (0, 0))) ∧ Aside0 (w'.heap[gb244]? = some (.cells #[.int .i64 (wrap64 (Int.tmod (rd l0 0) 4)), .int .i64 (wrap64 ((wrap64 (Int.tmod (IntKind.u64.wrap (Int.tdiv (rd l0 0) 4)) 256)) - 1)), .string (⟨#[]⟩ : ByteArray), .string (⟨#[]⟩ : ByteArray), (.slice none 0 0), .int .u64 (rd l0 1), .int .i64 (wrap64 (Int.tmod (IntKind.u64.wrap (Int.tdiv (rd l0 0) 33554432)) 256))] 37 (0, 0))) ∧ Aside0 (Below w.heap.size w w'))
       case atStart => exact ⟨(y250), (0), (by first | rfl | (simp; done) | (simp [*]; done)), H', ⟨Nat.le_refl _⟩, ⟨by (with_reducible repeat (first | apply Kd.V_alloc | apply Kd.V_drewN | apply Kd.V_drew)); exact HO_0.out⟩, ⟨by (with_reducible repeat (first | apply Kd.V_alloc | apply Kd.V_drewN | apply Kd.V_drew)); exact HO_6.out⟩, ⟨by (with_reducible repeat (first | apply Kd.R_alloc | apply Kd.R_drewN | apply Kd.R_drew)); exact HO_8.out⟩, ⟨by (with_reducible repeat (first | refine blk_drewN ?_ _ | refine blk_drew ?_ | refine blk_alloc ?_ _)); exact BK241.out⟩, ⟨by (with_reducible repeat (first | refine blk_drewN ?_ _ | refine blk_drew ?_ | refine blk_alloc ?_ _)); exact BK244.out⟩, ⟨by repeat (first | (with_reducible first | exact HB.out | apply below_alloc | apply pw_below_drewN | apply below_drew1 | refine below_set ?_ GE241.out | refine below_set ?_ GE244.out) | exact HB.out)⟩⟩
       case round =>
        clear H'; try clear c1
        try clear q1
        try clear c2
        try clear c2b0
        try clear c2b1
        try clear p2
        try clear q2
        try clear hx2
        try clear qi2
        try clear c5
        try clear c5b0
        try clear c5b1
        try clear c6
        try clear c6b0
        try clear c6b1
        try clear p6
        try clear c7
        try clear c7b0
        try clear c7b1
        try clear c11
        try clear c14
        try clear q14
        try clear c15
        try clear c17
        try clear c17b0
        try clear c17b1
        try clear c19
        try clear c19b0
        try clear c19b1
        try clear c20
        try clear c21
        try clear hcz12_0
        try clear hcz12_1
        try clear hcz12_2
        try clear hcz12_3
        try clear hcz12_4
        try clear hcz12_5
        try clear hcz12_6
        try clear hcz22_0
        try clear hcz22_1
        try clear hcz22_2
        try clear hcz22_3
        try clear hcz22_4
        try clear hcz22_5
        try clear hcz22_6
        try clear hcz4_0
        try clear hcz4_1
        try clear hcz4_2
        try clear hcz4_3
        try clear hcz4_4
        try clear hcz4_5
        try clear hcz4_6
        try clear hfz12_0
        try clear hfz12_1
        try clear hfz12_2
        try clear hfz12_3
        try clear hfz12_4
        try clear hfz12_5
        try clear hfz12_6
        try clear hfz22_0
        try clear hfz22_1
        try clear hfz22_2
        try clear hfz22_3
        try clear hfz22_4
        try clear hfz22_5
        try clear hfz22_6
        try clear hfz4_0
        try clear hfz4_1
        try clear hfz4_2
        try clear hfz4_3
        try clear hfz4_4
        try clear hfz4_5
        try clear hfz4_6
        try clear hx242_0
        try clear hx243_0
        try clear p2
        try clear p242
        try clear p243
        try clear p6
        try clear q1
        try clear q14
        try clear q2
        try clear q242
        try clear q243
        obtain ⟨x8_2, x9_2, rfl, HA, HK2, HO_0, HO_6, HO_8, BK241, BK244, HB⟩ := hrel; cases gk with
        | zero => exact absurd HA.out (by simp [treillageref11_Unpack.l0])
        | succ k2 =>
         have H := HA.out; clear HA; simp only [treillageref11_Unpack.l0] at H; by_cases c23 : x9_2 < (wrap64 (2 * (wrap64 (Int.tmod (IntKind.u64.wrap (Int.tdiv (rd l0 0) 2097152)) 16))))
         ·rw [if_pos c23] at H; have c23b0 : decide (x9_2 < (wrap64 (2 * (wrap64 (Int.tmod (IntKind.u64.wrap (Int.tdiv (rd l0 0) 2097152)) 16))))) = true := decide_eq_true c23; clear c23; obtain ⟨ji24, hji24⟩ : ∃ j_ : Int, (wrap64 (Int.tdiv x9_2 8)) = j_ := ⟨_, rfl⟩; replace H : (if 0 ≤ (ji24) then (if (ji24) < (y245.length : Int) then (treillageref11_Unpack.l1 k2 l0 (rd l0 0) y245 (wrap64 (Int.tmod (IntKind.u64.wrap (Int.tdiv (rd l0 0) 2097152)) 16)) x8_2 x9_2 (rd y245 (ji24)) 0 (wrap64 (Int.tmod (rd l0 0) 4)) (wrap64 ((wrap64 (Int.tmod (IntKind.u64.wrap (Int.tdiv (rd l0 0) 4)) 256)) - 1)) (⟨#[]⟩ : ByteArray) (⟨#[]⟩ : ByteArray) (rd l0 1) (wrap64 (Int.tmod (IntKind.u64.wrap (Int.tdiv (rd l0 0) 33554432)) 256))) else (none)) else (none)) = some (r1, r2, r3, r4, r5, r6, r7, r8) := by first | (rw [hji24] at H; exact H) | (simp only [hji24] at H ⊢; exact H)
          have hji24w : (IntKind.i64.wrap (Int.tdiv x9_2 8)) = ji24 := (i64_w _).trans hji24; by_cases c25 : 0 ≤ (ji24)
          rotate_left
          ·rw [if_neg c25] at H; exact absurd H (by simp)
          rw [if_pos c25] at H; have c25b0 : decide (0 ≤ (ji24)) = true := decide_eq_true c25; clear c25; by_cases c26 : (ji24) < (y245.length : Int)
          rotate_left
          ·rw [if_neg c26] at H; exact absurd H (by simp)
          rw [if_pos c26] at H; have c26b0 : decide ((ji24) < (y245.length : Int)) = true := decide_eq_true c26; clear c26; have H' := aA H; clear H; have p258 : 0 ≤ ((ji24) : Int) := of_decide_eq_true (by first | (with_reducible assumption) | assumption); have q258 : (ji24) < (y245.length : Int) := of_decide_eq_true (by first | (with_reducible assumption) | assumption); obtain ⟨ad258, e258, hx258_0⟩ := Kd.at_int (Kd.V_reads' HO_6.out).2.2 (ji24) p258 q258; cases e258
          replace p258 := eq_true p258; replace q258 := eq_true q258; go_wp2; go_loopg [10, 11] k2 (fun kq v10 v11 w' => ∃ (x10_3 : Int) (x11_3 : Int), v10 = .int .u64 x10_3 ∧ v11 = .int .i64 x11_3 ∧ Aside0 (treillageref11_Unpack.l1 kq l0 (rd l0 0) y245 (wrap64 (Int.tmod (IntKind.u64.wrap (Int.tdiv (rd l0 0) 2097152)) 16)) x8_2 x9_2 x10_3 x11_3 (wrap64 (Int.tmod (rd l0 0) 4)) (wrap64 ((wrap64 (Int.tmod (IntKind.u64.wrap (Int.tdiv (rd l0 0) 4)) 256)) - 1)) (⟨#[]⟩ : ByteArray) (⟨#[]⟩ : ByteArray) (rd l0 1) (wrap64 (Int.tmod (IntKind.u64.wrap (Int.tdiv (rd l0 0) 33554432)) 256)) = some (r1, r2, r3, r4, r5, r6, r7, r8)) ∧ Aside0 (kq ≤ k2) ∧ Aside0 (Kd.V (Kd.int .u64) 23 w' w.heap.size (fun k_ => (P0_ k_ ∨ w.heap.size ≤ k_) ∧ some k_ ≠ (u8 : Value).ownBlock ∧ k_ ≠ gb241 ∧ k_ ≠ gb244) (.slice (some ad242) l0.length c0) l0) ∧ Aside0 (Kd.V (Kd.int .u64) 23 w' w.heap.size (fun k_ => (P0_ k_ ∨ w.heap.size ≤ k_) ∧ some k_ ≠ (u8 : Value).ownBlock ∧ k_ ≠ gb241 ∧ k_ ≠ gb244) (.slice (some ad258) y245.length c14) y245) ∧ Aside0 (Kd.R (Kd.int .i64) 3 w' w.heap.size (fun k_ => (w.heap.size ≤ k_)) u8 x8_2) ∧ Aside0 (w'.heap[gb241]? = some (.cells #[.int .i64 0, .int .i64 0, .string (⟨#[]⟩ : ByteArray), .string (⟨#[]⟩ : ByteArray), (.slice none 0 0), .int .u64 0, .int .i64 0] 37 (0, 0))) ∧ Aside0 (w'.heap[gb244]? = some (.cells #[.int .i64 (wrap64 (Int.tmod (rd l0 0) 4)), .int .i64 (wrap64 ((wrap64 (Int.tmod (IntKind.u64.wrap (Int.tdiv (rd l0 0) 4)) 256)) - 1)), .string (⟨#[]⟩ : ByteArray), .string (⟨#[]⟩ : ByteArray), (.slice none 0 0), .int .u64 (rd l0 1), .int .i64 (wrap64 (Int.tmod (IntKind.u64.wrap (Int.tdiv (rd l0 0) 33554432)) 256))] 37 (0, 0))) ∧ Aside0 (Below w.heap.size w w'))
          case atStart => exact ⟨(rd y245 (ji24)), (0), (by first | rfl | (simp; done) | (simp only [← hji24] <;> (first | rfl | simp)) | (simp [*]; done)), (by first | rfl | (simp; done) | (simp [*]; done)), H', ⟨Nat.le_refl _⟩, ⟨by (with_reducible repeat (first | apply Kd.V_alloc | apply Kd.V_drewN | apply Kd.V_drew)); exact HO_0.out⟩, ⟨by (with_reducible repeat (first | apply Kd.V_alloc | apply Kd.V_drewN | apply Kd.V_drew)); exact HO_6.out⟩, ⟨by (with_reducible repeat (first | apply Kd.R_alloc | apply Kd.R_drewN | apply Kd.R_drew)); exact HO_8.out⟩, ⟨by (with_reducible repeat (first | refine blk_drewN ?_ _ | refine blk_drew ?_ | refine blk_alloc ?_ _)); exact BK241.out⟩, ⟨by (with_reducible repeat (first | refine blk_drewN ?_ _ | refine blk_drew ?_ | refine blk_alloc ?_ _)); exact BK244.out⟩, ⟨by repeat (first | (with_reducible first | exact HB.out | apply below_alloc | apply pw_below_drewN | apply below_drew1 | refine below_set ?_ GE241.out | refine below_set ?_ GE244.out) | exact HB.out)⟩⟩
          case round =>
           clear H'; try clear c1
           try clear q1
           try clear c2
           try clear c2b0
           try clear c2b1
           try clear p2
           try clear q2
           try clear hx2
           try clear qi2
           try clear c5
           try clear c5b0
           try clear c5b1
           try clear c6
           try clear c6b0
           try clear c6b1
           try clear p6
           try clear c7
           try clear c7b0
           try clear c7b1
           try clear c11
           try clear c14
           try clear q14
           try clear c15
           try clear c17
           try clear c17b0
           try clear c17b1
           try clear c19
           try clear c19b0
           try clear c19b1
           try clear c20
           try clear c21
           try clear c23
           try clear c23b0
           try clear p24
           try clear q24
           try clear hx24
           try clear qi24
           try clear c25
           try clear c25b0
           try clear p25
           try clear q25
           try clear hx25
           try clear c26
           try clear c26b0
           try clear hcz12_0
           try clear hcz12_1
           try clear hcz12_2
           try clear hcz12_3
           try clear hcz12_4
           try clear hcz12_5
           try clear hcz12_6
           try clear hcz22_0
           try clear hcz22_1
           try clear hcz22_2
           try clear hcz22_3
           try clear hcz22_4
           try clear hcz22_5
           try clear hcz22_6
           try clear hcz4_0
           try clear hcz4_1
           try clear hcz4_2
           try clear hcz4_3
           try clear hcz4_4
           try clear hcz4_5
           try clear hcz4_6
           try clear hfz12_0
           try clear hfz12_1
           try clear hfz12_2
           try clear hfz12_3
           try clear hfz12_4
           try clear hfz12_5
           try clear hfz12_6
           try clear hfz22_0
           try clear hfz22_1
           try clear hfz22_2
           try clear hfz22_3
           try clear hfz22_4
           try clear hfz22_5
           try clear hfz22_6
           try clear hfz4_0
           try clear hfz4_1
           try clear hfz4_2
           try clear hfz4_3
           try clear hfz4_4
           try clear hfz4_5
           try clear hfz4_6
           try clear hx242_0
           try clear hx243_0
           try clear hx258_0
           try clear p2
           try clear p242
           try clear p243
           try clear p258
           try clear p6
           try clear q1
           try clear q14
           try clear q2
           try clear q242
           try clear q243
           try clear q258
           obtain ⟨x10_3, x11_3, rfl, rfl, HA, HK3, HO_0, HO_6, HO_8, BK241, BK244, HB⟩ := hrel; cases gk with
           | zero => exact absurd HA.out (by simp [treillageref11_Unpack.l1])
           | succ k3 =>
            have H := HA.out; clear HA; simp only [treillageref11_Unpack.l1] at H; by_cases c27 : x11_3 < (Int.tmod x9_2 8)
            ·rw [if_pos c27] at H; have c27b0 : decide (x11_3 < (Int.tmod x9_2 8)) = true := decide_eq_true c27; clear c27; have H' := aA H; clear H; go_wp2; go_roundg k3
             case measure => have := HJ17.out; have := HK2.out; have := HK3.out; omega
             case rel => exact ⟨(IntKind.u64.wrap (Int.tdiv x10_3 64)), (wrap64 (x11_3 + 1)), (by first | rfl | (simp; done) | (simp [*]; done)), (by first | rfl | (simp; done) | (simp [*]; done)), H', ⟨by have := HJ17.out; have := HK2.out; have := HK3.out; omega⟩, ⟨by (with_reducible repeat (first | apply Kd.V_alloc | apply Kd.V_drewN | apply Kd.V_drew)); exact HO_0.out⟩, ⟨by (with_reducible repeat (first | apply Kd.V_alloc | apply Kd.V_drewN | apply Kd.V_drew)); exact HO_6.out⟩, ⟨by (with_reducible repeat (first | apply Kd.R_alloc | apply Kd.R_drewN | apply Kd.R_drew)); exact HO_8.out⟩, ⟨by (with_reducible repeat (first | refine blk_drewN ?_ _ | refine blk_drew ?_ | refine blk_alloc ?_ _)); exact BK241.out⟩, ⟨by (with_reducible repeat (first | refine blk_drewN ?_ _ | refine blk_drew ?_ | refine blk_alloc ?_ _)); exact BK244.out⟩, ⟨by repeat (first | (with_reducible first | exact HB.out | apply below_alloc | apply pw_below_drewN | apply below_drew1 | refine below_set ?_ GE241.out | refine below_set ?_ GE244.out) | exact HB.out)⟩⟩
            ·rw [if_neg c27] at H; have c27b0 : decide (x11_3 < (Int.tmod x9_2 8)) = false := decide_eq_false c27; clear c27; by_cases c28 : x8_2.length < 17592186044416
             rotate_left
             ·rw [if_neg c28] at H; exact absurd H (by simp)
             rw [if_pos c28] at H; have LMc28 := aA c28; clear c28; obtain ⟨y259, hy259⟩ : ∃ y_ : List Int, y_ = (x8_2 ++ [wrap64 (Int.tmod x10_3 64)]) := ⟨_, rfl⟩; replace H : (treillageref11_Unpack.l0 k3 l0 (rd l0 0) y245 (wrap64 (Int.tmod (IntKind.u64.wrap (Int.tdiv (rd l0 0) 2097152)) 16)) y259 (wrap64 (x9_2 + 1)) (wrap64 (Int.tmod (rd l0 0) 4)) (wrap64 ((wrap64 (Int.tmod (IntKind.u64.wrap (Int.tdiv (rd l0 0) 4)) 256)) - 1)) (⟨#[]⟩ : ByteArray) (⟨#[]⟩ : ByteArray) (rd l0 1) (wrap64 (Int.tmod (IntKind.u64.wrap (Int.tdiv (rd l0 0) 33554432)) 256))) = some (r1, r2, r3, r4, r5, r6, r7, r8) := by first | (rw [hy259]; with_reducible exact H) | (have H2_ := (Option.bind_some _ _).symm.trans H; rw [hy259]; with_reducible exact H2_) | (have H2_ := (Option.bind_some _ _).symm.trans H; with_reducible exact H2_) | with_reducible exact H | (rw [hy259]; exact H) | exact H
             have Ny259 := aA hy259; clear hy259; have H' := aA H; clear H; go_wp2_with (first | ((with_reducible refine gate_builtin (b := .append) (xs := #[.tmp 78, .tmp 82]) rfl ?_); at_builtin; refine Kd.R_append (Kd.int .i64) (w0 := w) w.heap.size rfl (.tmp 78) (.tmp 82) 63 3 (.int .i64 0) 8 rfl Try.underlying63 info3 rfl (by decide) (by omega) u8 x8_2 (wrap64 (Int.tmod x10_3 64)) [.int .i64 (wrap64 (Int.tmod x10_3 64))] (fun k_ => (w.heap.size ≤ k_)) (fun _ => False) rfl rfl ?aP (fun _ hk => hk.elim) ?aF ?aO ?aB ?aS ?aL ?_; (case aP => exact rfl); (case aB => exact (bls HB.out)); (case aF => exact (fun k_ hk => (Nat.le_trans (below_size (bls HB.out)) hk))); (case aO => exact (rlu HO_8.out)); (case aS => exact (below_size (bls HB.out))); (case aL => have := LMc28.out; omega); intro v260 w29 ho hb hg hat; rw [← Ny259.out] at ho; have n0_ := aA (Kd.V_afterv (ok := (fun k_ => (P0_ k_ ∨ w.heap.size ≤ k_) ∧ k_ ≠ gb241 ∧ k_ ≠ gb244)) (vlu (Kd.V_mono HO_0.out (fun _ hk => ⟨⟨hk.1, ⟨hk.2.2.1, hk.2.2.2⟩⟩, hk.2.1⟩))) hg hat); have n1_ := aA (Kd.V_afterv (ok := (fun k_ => (P0_ k_ ∨ w.heap.size ≤ k_) ∧ k_ ≠ gb241 ∧ k_ ≠ gb244)) (vlu (Kd.V_mono HO_6.out (fun _ hk => ⟨⟨hk.1, ⟨hk.2.2.1, hk.2.2.2⟩⟩, hk.2.1⟩))) hg hat); have n2_ := aA (blk_grown (g := gb241) (o := .cells #[.int .i64 0, .int .i64 0, .string (⟨#[]⟩ : ByteArray), .string (⟨#[]⟩ : ByteArray), .slice none 0 0, .int .u64 0, .int .i64 0] 37 (0, 0)) (bku BK241.out) hg (Kd.R_ne HO_8.out BK241.out (by decide))); have n3_ := aA (blk_grown (g := gb244) (o := .cells #[.int .i64 (wrap64 (Int.tmod (rd l0 0) 4)), .int .i64 (wrap64 ((wrap64 (Int.tmod (IntKind.u64.wrap (Int.tdiv (rd l0 0) 4)) 256)) - 1)), .string (⟨#[]⟩ : ByteArray), .string (⟨#[]⟩ : ByteArray), .slice none 0 0, .int .u64 (rd l0 1), .int .i64 (wrap64 (Int.tmod (IntKind.u64.wrap (Int.tdiv (rd l0 0) 33554432)) 256))] 37 (0, 0)) (bku BK244.out) hg (Kd.R_ne HO_8.out BK244.out (by decide))); have n4_ := aA (hb); have n5_ := aA (ho); clear HO_0 HO_6 BK241 BK244 HB HO_8; have HO_0 := n0_; have HO_6 := n1_; have BK241 := n2_; have BK244 := n3_; have HB := n4_; have HO261 := n5_; clear n0_ n1_ n2_ n3_ n4_ n5_ ho hb hg hat))
             go_roundg k3
             case measure => have := HJ17.out; have := HK2.out; have := HK3.out; omega
             case rel => exact ⟨(y259), (wrap64 (x9_2 + 1)), (by first | rfl | (simp; done) | (simp [*]; done)), H', ⟨by have := HJ17.out; have := HK2.out; have := HK3.out; omega⟩, ⟨by (with_reducible repeat (first | apply Kd.V_alloc | apply Kd.V_drewN | apply Kd.V_drew)); exact Kd.V_mono HO_0.out (fun _ hk => ⟨hk.1.1, ⟨hk.2, ⟨hk.1.2.1, hk.1.2.2⟩⟩⟩)⟩, ⟨by (with_reducible repeat (first | apply Kd.V_alloc | apply Kd.V_drewN | apply Kd.V_drew)); exact Kd.V_mono HO_6.out (fun _ hk => ⟨hk.1.1, ⟨hk.2, ⟨hk.1.2.1, hk.1.2.2⟩⟩⟩)⟩, ⟨by (with_reducible repeat (first | apply Kd.R_alloc | apply Kd.R_drewN | apply Kd.R_drew)); exact HO261.out⟩, ⟨by (with_reducible repeat (first | refine blk_drewN ?_ _ | refine blk_drew ?_ | refine blk_alloc ?_ _)); exact BK241.out⟩, ⟨by (with_reducible repeat (first | refine blk_drewN ?_ _ | refine blk_drew ?_ | refine blk_alloc ?_ _)); exact BK244.out⟩, ⟨by repeat (first | (with_reducible first | exact HB.out | apply below_alloc | apply pw_below_drewN | apply below_drew1 | refine below_set ?_ GE241.out | refine below_set ?_ GE244.out) | exact HB.out)⟩⟩
         ·rw [if_neg c23] at H; have c23b0 : decide (x9_2 < (wrap64 (2 * (wrap64 (Int.tmod (IntKind.u64.wrap (Int.tdiv (rd l0 0) 2097152)) 16))))) = false := decide_eq_false c23; clear c23; by_cases c30 : 2 ≤ (y245.length : Int)
          rotate_left
          ·rw [if_neg c30] at H; exact absurd H (by simp)
          rw [if_pos c30] at H; have c30b0 := eq_true c30; have c30b1 : decide (2 ≤ (y245.length : Int)) = true := decide_eq_true c30; clear c30; obtain ⟨y253, hy253⟩ : ∃ y_ : List Int, y_ = (y245.drop 2) := ⟨_, rfl⟩; replace H : (treillageref11_Unpack.j3 k2 l0 (rd l0 0) y253 x8_2 (wrap64 (Int.tmod (rd l0 0) 4)) (wrap64 ((wrap64 (Int.tmod (IntKind.u64.wrap (Int.tdiv (rd l0 0) 4)) 256)) - 1)) (⟨#[]⟩ : ByteArray) (⟨#[]⟩ : ByteArray) (rd l0 1) (wrap64 (Int.tmod (IntKind.u64.wrap (Int.tdiv (rd l0 0) 33554432)) 256))) = some (r1, r2, r3, r4, r5, r6, r7, r8) := by first | (rw [hy253]; with_reducible exact H) | (have H2_ := (Option.bind_some _ _).symm.trans H; rw [hy253]; with_reducible exact H2_) | (have H2_ := (Option.bind_some _ _).symm.trans H; with_reducible exact H2_) | with_reducible exact H | (rw [hy253]; exact H) | exact H
          have Ny253 := aA hy253; clear hy253; have H' := aA H; clear H; have q31 : (2 : Int) ≤ ((y245.length : Int) : Int) := of_decide_eq_true (by first | (with_reducible assumption) | assumption); obtain ⟨i031, hi031, _, hsz31, _⟩ := info_parts info23; have hroom31 : y245.length ≤ c14 := (Kd.V_reads' HO_6.out).2.1; have hC31 : Kd.F (Kd.int .u64) _ _ A14 y245.length y245 := (Kd.V_at (base := w.heap.size) HO_6.out).2.2; have hcut31 := cut_from (P := Try.prog) 28 23 .i64 Try.underlying28 hi031 1 hsz31 A14 y245.length c14 2 (by omega) q31; have hr31 := Kd.F_cut (m := (2 : Int).toNat) (c := c14) hC31 (by omega) hroom31; obtain ⟨A31, hA31⟩ : ∃ A1, A1 = (if c14 = (2 : Int).toNat then A14 else (A14 : Option Addr).map (·.add ((2 : Int).toNat * 1))) := ⟨_, rfl⟩; obtain ⟨c31, hc31⟩ : ∃ c1, c1 = c14 - (2 : Int).toNat := ⟨_, rfl⟩; have hy31 : y253.length = y245.length - (2 : Int).toNat := (by rw [Ny253.out, List.length_drop] <;> omega); rw [show (y245).drop (2 : Int).toNat = y253 from Ny253.out.symm] at hr31; replace hr31 : Kd.F (Kd.int .u64) _ _ A31 y253.length y253 := (by rw [hA31]; exact hr31); rw [← hy31, ← hA31, ← hc31] at hcut31; have HO257 := aA (show Kd.V (Kd.int .u64) 23 _ w.heap.size _ (.slice A31 y253.length c31) y253 from Kd.V_mk (by rw [hy31, hc31]; exact Nat.sub_le_sub_right hroom31 _) hr31); have HC257 := aA (show y253.length ≤ c31 from by rw [hy31, hc31]; exact Nat.sub_le_sub_right hroom31 _); clear hr31 hC31 hroom31 hi031 hsz31 hc31; have KY31 := aA hy31; have KA31 := aA hA31; clear hy31 hA31; replace q31 := eq_true q31; go_wp2; go_meet
          case rel => exact ⟨_, (y253), (x8_2), (0), (0), ((⟨#[]⟩ : ByteArray)), ((⟨#[]⟩ : ByteArray)), (0), (0), H', ⟨by have := HJ17.out; have := HK2.out; first | omega | exact Nat.le_refl _⟩, ⟨by (with_reducible repeat (first | apply Kd.V_alloc | apply Kd.V_drewN | apply Kd.V_drew)); exact HO_0.out⟩, ⟨by (with_reducible repeat (first | apply Kd.V_alloc | apply Kd.V_drewN | apply Kd.V_drew)); exact HO257.out⟩, ⟨by (with_reducible repeat (first | apply Kd.R_alloc | apply Kd.R_drewN | apply Kd.R_drew)); exact HO_8.out⟩, ⟨by (with_reducible repeat (first | refine blk_drewN ?_ _ | refine blk_drew ?_ | refine blk_alloc ?_ _)); exact BK241.out⟩, ⟨by (with_reducible repeat (first | refine blk_drewN ?_ _ | refine blk_drew ?_ | refine blk_alloc ?_ _)); exact BK244.out⟩, ⟨by repeat (first | (with_reducible first | exact HB.out | apply below_alloc | apply pw_below_drewN | apply below_drew1 | refine below_set ?_ GE241.out | refine below_set ?_ GE244.out) | exact HB.out)⟩⟩
   ·rw [if_neg c17] at H; have c17b0 : decide (0 < (wrap64 (Int.tmod (IntKind.u64.wrap (Int.tdiv (rd l0 0) 2097152)) 16))) = false := decide_eq_false c17; clear c17; (first | rw [c17b0] | rw [c17b1] | (simp only [i64_w, i32_w]; rw [c17b0]) | skip)
    have H' := aA H; clear H; go_wp2; go_meet
    case rel => exact ⟨_, (y245), (y250), (0), (0), ((⟨#[]⟩ : ByteArray)), ((⟨#[]⟩ : ByteArray)), (0), (0), H', ⟨by first | omega | exact Nat.le_refl _⟩, ⟨by (with_reducible repeat (first | apply Kd.V_alloc | apply Kd.V_drewN | apply Kd.V_drew)); exact Kd.V_mono HO0.out (fun _ hk => ⟨hk.1.1, ⟨hk.2, ⟨hk.1.2.1, hk.1.2.2⟩⟩⟩)⟩, ⟨by (with_reducible repeat (first | apply Kd.V_alloc | apply Kd.V_drewN | apply Kd.V_drew)); exact Kd.V_mono HO249.out (fun _ hk => ⟨hk.1.1, ⟨hk.2, ⟨hk.1.2.1, hk.1.2.2⟩⟩⟩)⟩, ⟨by (with_reducible repeat (first | apply Kd.R_alloc | apply Kd.R_drewN | apply Kd.R_drew)); exact Kd.R_mono HO252.out (fun _ hk => hk.1)⟩, ⟨by (with_reducible repeat (first | refine blk_drewN ?_ _ | refine blk_drew ?_ | refine blk_alloc ?_ _)); exact BK241.out⟩, ⟨by (with_reducible repeat (first | refine blk_drewN ?_ _ | refine blk_drew ?_ | refine blk_alloc ?_ _)); exact BK244.out⟩, ⟨by repeat (first | (with_reducible first | exact HB.out | apply below_alloc | apply pw_below_drewN | apply below_drew1 | refine below_set ?_ GE241.out | refine below_set ?_ GE244.out) | exact HB.out)⟩⟩
  case rest =>
   clear HC8; try clear c1
   try clear q1
   try clear c2
   try clear c2b0
   try clear c2b1
   try clear p2
   try clear q2
   try clear hx2
   try clear qi2
   try clear c3
   try clear q3
   try clear c5
   try clear c5b0
   try clear c5b1
   try clear c6
   try clear c6b0
   try clear c6b1
   try clear p6
   try clear c7
   try clear c7b0
   try clear c7b1
   try clear c11
   try clear c14
   try clear q14
   try clear c15
   try clear c17
   try clear c17b0
   try clear c17b1
   try clear c19
   try clear c19b0
   try clear c19b1
   try clear c20
   try clear c21
   try clear c23
   try clear c23b0
   try clear p24
   try clear q24
   try clear hx24
   try clear qi24
   try clear c25
   try clear c25b0
   try clear p25
   try clear q25
   try clear hx25
   try clear c26
   try clear c26b0
   try clear c27
   try clear c27b0
   try clear c28
   try clear c30
   try clear c30b0
   try clear c30b1
   try clear c31
   try clear q31
   try clear hcz12_0
   try clear hcz12_1
   try clear hcz12_2
   try clear hcz12_3
   try clear hcz12_4
   try clear hcz12_5
   try clear hcz12_6
   try clear hcz22_0
   try clear hcz22_1
   try clear hcz22_2
   try clear hcz22_3
   try clear hcz22_4
   try clear hcz22_5
   try clear hcz22_6
   try clear hcz4_0
   try clear hcz4_1
   try clear hcz4_2
   try clear hcz4_3
   try clear hcz4_4
   try clear hcz4_5
   try clear hcz4_6
   try clear hfz12_0
   try clear hfz12_1
   try clear hfz12_2
   try clear hfz12_3
   try clear hfz12_4
   try clear hfz12_5
   try clear hfz12_6
   try clear hfz22_0
   try clear hfz22_1
   try clear hfz22_2
   try clear hfz22_3
   try clear hfz22_4
   try clear hfz22_5
   try clear hfz22_6
   try clear hfz4_0
   try clear hfz4_1
   try clear hfz4_2
   try clear hfz4_3
   try clear hfz4_4
   try clear hfz4_5
   try clear hfz4_6
   try clear hx242_0
   try clear hx243_0
   try clear hx258_0
   try clear p2
   try clear p24
   try clear p242
   try clear p243
   try clear p25
   try clear p258
   try clear p6
   try clear q1
   try clear q14
   try clear q2
   try clear q24
   try clear q242
   try clear q243
   try clear q25
   try clear q258
   try clear q31
   obtain ⟨kq, x6_7, x8_7, x242000_7, x242001_7, x242002_7, x242003_7, x242005_7, x242006_7, HA, HJ7, HO_0, HO_6, HO_8, BK241, BK244, HB⟩ := hcut; cases kq with
   | zero => exact absurd HA.out (by simp [treillageref11_Unpack.j3])
   | succ kj7 =>
    have H := HA.out; clear HA; simp only [treillageref11_Unpack.j3] at H; replace H := Option.bind_eq_some_iff.mp H; obtain ⟨⟨t262, t263, t266⟩, A320, H⟩ := H; replace H : (if t266 = true then ((treillageref11_take.f kj7 t263 (wrap64 (Int.tmod (IntKind.u64.wrap (Int.tdiv (rd l0 0) 32768)) 64))).bind fun bt267 => (treillageref11_Unpack.l2 kj7 l0 bt267.2.1 x8_7 bt267.2.2 0 (wrap64 (Int.tmod (rd l0 0) 4)) (wrap64 ((wrap64 (Int.tmod (IntKind.u64.wrap (Int.tdiv (rd l0 0) 4)) 256)) - 1)) t262 bt267.1 ([] : List ByteArray) (rd l0 1) (wrap64 (Int.tmod (IntKind.u64.wrap (Int.tdiv (rd l0 0) 33554432)) 256)))) else (some (0, 0, (⟨#[]⟩ : ByteArray), (⟨#[]⟩ : ByteArray), ([] : List ByteArray), 0, 0, 4))) = some (r1, r2, r3, r4, r5, r6, r7, r8) := H; have A32 := aA A320; clear A320; by_cases c33 : t266 = true
    ·subst c33; have H1 : ((treillageref11_take.f kj7 t263 (wrap64 (Int.tmod (IntKind.u64.wrap (Int.tdiv (rd l0 0) 32768)) 64))).bind fun bt267 => (treillageref11_Unpack.l2 kj7 l0 bt267.2.1 x8_7 bt267.2.2 0 (wrap64 (Int.tmod (rd l0 0) 4)) (wrap64 ((wrap64 (Int.tmod (IntKind.u64.wrap (Int.tdiv (rd l0 0) 4)) 256)) - 1)) t262 bt267.1 ([] : List ByteArray) (rd l0 1) (wrap64 (Int.tmod (IntKind.u64.wrap (Int.tdiv (rd l0 0) 33554432)) 256)))) = some (r1, r2, r3, r4, r5, r6, r7, r8) := by rw [if_pos rfl] at H; exact H
     clear H; have H := H1; clear H1; replace H := Option.bind_eq_some_iff.mp H; obtain ⟨⟨t267, t268, t271⟩, A340, H⟩ := H; replace H : (treillageref11_Unpack.l2 kj7 l0 t268 x8_7 t271 0 (wrap64 (Int.tmod (rd l0 0) 4)) (wrap64 ((wrap64 (Int.tmod (IntKind.u64.wrap (Int.tdiv (rd l0 0) 4)) 256)) - 1)) t262 t267 ([] : List ByteArray) (rd l0 1) (wrap64 (Int.tmod (IntKind.u64.wrap (Int.tdiv (rd l0 0) 33554432)) 256))) = some (r1, r2, r3, r4, r5, r6, r7, r8) := H; have A34 := aA A340; clear A340; have HC35 := aA H; clear H; obtain ⟨Ao36, co36, eo36⟩ := Kd.V_slice HO_6.out; subst eo36; go_upto_block 4 with (first | ((with_reducible refine gate_callee (f := 32) rfl ?_); refine goesL_ (some 92) rfl rfl Try.func32 (by kernel_rfl) rfl #[.slice Ao36 x6_7.length co36, .int .i64 (wrap64 (Int.tmod (IntKind.u64.wrap (Int.tdiv (rd l0 0) 1024)) 32))] rfl (by (try simp only [List.map_toArray, List.map_cons, List.map_nil]); first | done | rfl | (simp only [List.length_drop, List.length_take]; rfl)) ?_; (with_reducible refine (treillageref11_take.calls kj7 (fun k_ => ((P0_ k_ ∨ w.heap.size ≤ k_) ∧ (some k_ ≠ (u8 : Value).ownBlock ∧ (k_ ≠ gb241 ∧ k_ ≠ gb244)))) _ _ x6_7 (wrap64 (Int.tmod (IntKind.u64.wrap (Int.tdiv (rd l0 0) 1024)) 32)) t262 t263 true _ ?side1 A32.out).mono ?_); (case side1 => first | exact HO_6.out | exact V_below HO_6.out (blw (Below.refl _ _)) (fun k_ hk_ => by first | exact hk_ | exact ⟨⟨hk_.1, hk_.2.1⟩, hk_.2.2⟩)); rintro e w37 ⟨v264, rfl, ho0, hb⟩; refine ⟨_, rfl, ?_⟩; have n0_ := aA (Kd.V_below (vlu HO_0.out) hb); have n1_ := aA (Kd.V_below (vlu HO_6.out) hb); have n2_ := aA (Kd.R_below (rlu HO_8.out) hb); have n3_ := aA (Kd.V_lower (Kd.V_mono (ok' := fun k_ => (P0_ k_ ∨ w.heap.size ≤ k_) ∧ some k_ ≠ (u8 : Value).ownBlock ∧ k_ ≠ gb241 ∧ k_ ≠ gb244) ho0 (fun k_ hk_ => ⟨Or.elim hk_ (fun hs_ => hs_.1) (fun hn_ => (.inr (Nat.le_trans (below_size (bls HB.out)) hn_))), Or.elim hk_ (fun hs_ => hs_.2.1) (fun hn_ => (Kd.fresh' (Kd.R_lt (rlu HO_8.out)) k_ hn_)), Or.elim hk_ (fun hs_ => hs_.2.2.1) (fun hn_ => (Kd.freshB (g := gb241) (o := .cells #[.int .i64 x242000_7, .int .i64 x242001_7, .string x242002_7, .string x242003_7, .slice none 0 0, .int .u64 x242005_7, .int .i64 x242006_7] 37 (0, 0)) (bku BK241.out) k_ hn_)), Or.elim hk_ (fun hs_ => hs_.2.2.2) (fun hn_ => (Kd.freshB (g := gb244) (o := .cells #[.int .i64 (wrap64 (Int.tmod (rd l0 0) 4)), .int .i64 (wrap64 ((wrap64 (Int.tmod (IntKind.u64.wrap (Int.tdiv (rd l0 0) 4)) 256)) - 1)), .string (⟨#[]⟩ : ByteArray), .string (⟨#[]⟩ : ByteArray), .slice none 0 0, .int .u64 (rd l0 1), .int .i64 (wrap64 (Int.tmod (IntKind.u64.wrap (Int.tdiv (rd l0 0) 33554432)) 256))] 37 (0, 0)) (bku BK244.out) k_ hn_))⟩)) (below_size (bls HB.out))); have n4_ := aA (blk_below (g := gb241) (o := .cells #[.int .i64 x242000_7, .int .i64 x242001_7, .string x242002_7, .string x242003_7, .slice none 0 0, .int .u64 x242005_7, .int .i64 x242006_7] 37 (0, 0)) (bku BK241.out) hb); have n5_ := aA (blk_below (g := gb244) (o := .cells #[.int .i64 (wrap64 (Int.tmod (rd l0 0) 4)), .int .i64 (wrap64 ((wrap64 (Int.tmod (IntKind.u64.wrap (Int.tdiv (rd l0 0) 4)) 256)) - 1)), .string (⟨#[]⟩ : ByteArray), .string (⟨#[]⟩ : ByteArray), .slice none 0 0, .int .u64 (rd l0 1), .int .i64 (wrap64 (Int.tmod (IntKind.u64.wrap (Int.tdiv (rd l0 0) 33554432)) 256))] 37 (0, 0)) (bku BK244.out) hb); have n6_ := aA (below_step (bls HB.out) hb); clear HO_0 HO_6 HO_8 BK241 BK244 HB; have HO_0 := n0_; have HO_6 := n1_; have HO_8 := n2_; have HO265 := n3_; have BK241 := n4_; have BK244 := n5_; have HB := n6_; clear n0_ n1_ n2_ n3_ n4_ n5_ n6_; (try clear hb); (try clear hb2); (try clear hk); (try clear hi); (try clear ho0); have hnb38 := NB244_241.out; have hnc38 := NB241_244.out; have hcz39_0 : w37.cell? ⟨gb244, 0, none⟩ = some (.int .i64 (wrap64 (Int.tmod (rd l0 0) 4))) := (blk_cell BK244.out 0).trans rfl; have hcz39_1 : w37.cell? ⟨gb244, 1, none⟩ = some (.int .i64 (wrap64 ((wrap64 (Int.tmod (IntKind.u64.wrap (Int.tdiv (rd l0 0) 4)) 256)) - 1))) := (blk_cell BK244.out 1).trans rfl; have hcz39_2 : w37.cell? ⟨gb244, 2, none⟩ = some (.string (⟨#[]⟩ : ByteArray)) := (blk_cell BK244.out 2).trans rfl; have hcz39_3 : w37.cell? ⟨gb244, 3, none⟩ = some (.string (⟨#[]⟩ : ByteArray)) := (blk_cell BK244.out 3).trans rfl; have hcz39_4 : w37.cell? ⟨gb244, 4, none⟩ = some (.slice none 0 0) := (blk_cell BK244.out 4).trans rfl; have hcz39_5 : w37.cell? ⟨gb244, 5, none⟩ = some (.int .u64 (rd l0 1)) := (blk_cell BK244.out 5).trans rfl; have hcz39_6 : w37.cell? ⟨gb244, 6, none⟩ = some (.int .i64 (wrap64 (Int.tmod (IntKind.u64.wrap (Int.tdiv (rd l0 0) 33554432)) 256))) := (blk_cell BK244.out 6).trans rfl; have hfz39_0 := blk_frozen BK244.out 0; have hfz39_1 := blk_frozen BK244.out 1; have hfz39_2 := blk_frozen BK244.out 2; have hfz39_3 := blk_frozen BK244.out 3; have hfz39_4 := blk_frozen BK244.out 4; have hfz39_5 := blk_frozen BK244.out 5; have hfz39_6 := blk_frozen BK244.out 6) | ((with_reducible refine gate_store (t := 9) (p := 96) rfl ?_); refine store_event (t := 9) (p := 96) (v := ?vo_w40) (w1 := (w37.setCell ⟨gb244, 2, none⟩ (.string t262))) ?hg ?ho ?hn ?hr ?_; (case ho => rfl); (case hg => rfl); (case hn => rfl); (case hr => first | (go_simp; done) | (go_simp; rfl)); intro w40 hw; have n0_ : Aside0 (Kd.V (Kd.int .u64) 23 w40 w.heap.size (fun k_ => (P0_ k_ ∨ w.heap.size ≤ k_) ∧ some k_ ≠ (u8 : Value).ownBlock ∧ k_ ≠ gb241 ∧ k_ ≠ gb244) (.slice (some ad242) l0.length c0) l0) := ⟨(by rw [hw]; exact (vlu (Kd.V_mono (Kd.V_far (p := ⟨gb244, 2, none⟩) (Kd.V_mono HO_0.out (fun k_ hk => (⟨hk, hk.2.2.2⟩ : _ ∧ k_ ≠ gb244))) (fun _ hk => hk.2) (.string t262)) (fun _ hk => ⟨hk.1.1, ⟨hk.1.2.1, ⟨hk.1.2.2.1, hk.1.2.2.2⟩⟩⟩))))⟩; have n1_ : Aside0 (Kd.V (Kd.int .u64) 23 w40 w.heap.size (fun k_ => (P0_ k_ ∨ w.heap.size ≤ k_) ∧ some k_ ≠ (u8 : Value).ownBlock ∧ k_ ≠ gb241 ∧ k_ ≠ gb244) (.slice Ao36 x6_7.length co36) x6_7) := ⟨(by rw [hw]; exact (vlu (Kd.V_mono (Kd.V_far (p := ⟨gb244, 2, none⟩) (Kd.V_mono HO_6.out (fun k_ hk => (⟨hk, hk.2.2.2⟩ : _ ∧ k_ ≠ gb244))) (fun _ hk => hk.2) (.string t262)) (fun _ hk => ⟨hk.1.1, ⟨hk.1.2.1, ⟨hk.1.2.2.1, hk.1.2.2.2⟩⟩⟩))))⟩; have n2_ : Aside0 (Kd.R (Kd.int .i64) 3 w40 w.heap.size (fun k_ => (w.heap.size ≤ k_)) u8 x8_7) := ⟨(by rw [hw]; exact (rlu (Kd.R_mono (Kd.R_far (p := ⟨gb244, 2, none⟩) (Kd.R_types HO_8.out BK244.out (by decide)) (fun _ hk => hk.2) (.string t262)) (fun _ hk => hk.1))))⟩; have n3_ : Aside0 (Kd.V (Kd.int .u64) 23 w40 w.heap.size (fun k_ => (P0_ k_ ∨ w.heap.size ≤ k_) ∧ some k_ ≠ (u8 : Value).ownBlock ∧ k_ ≠ gb241 ∧ k_ ≠ gb244) v264 t263) := ⟨(by rw [hw]; exact (vlu (Kd.V_mono (Kd.V_far (p := ⟨gb244, 2, none⟩) (Kd.V_mono HO265.out (fun k_ hk => (⟨hk, hk.2.2.2⟩ : _ ∧ k_ ≠ gb244))) (fun _ hk => hk.2) (.string t262)) (fun _ hk => ⟨hk.1.1, ⟨hk.1.2.1, ⟨hk.1.2.2.1, hk.1.2.2.2⟩⟩⟩))))⟩; have n4_ : Aside0 (w40.heap[gb241]? = some (.cells #[.int .i64 x242000_7, .int .i64 x242001_7, .string x242002_7, .string x242003_7, .slice none 0 0, .int .u64 x242005_7, .int .i64 x242006_7] 37 (0, 0))) := ⟨(by rw [hw]; exact (by (with_reducible repeat (first | refine blk_drewN ?_ _ | refine blk_drew ?_ | refine blk_alloc ?_ _)); refine blk_far ?_ NB241_244.out _; (with_reducible repeat (first | refine blk_drewN ?_ _ | refine blk_drew ?_ | refine blk_alloc ?_ _)); exact BK241.out))⟩; have n5_ : Aside0 (w40.heap[gb244]? = some (.cells #[.int .i64 (wrap64 (Int.tmod (rd l0 0) 4)), .int .i64 (wrap64 ((wrap64 (Int.tmod (IntKind.u64.wrap (Int.tdiv (rd l0 0) 4)) 256)) - 1)), .string t262, .string (⟨#[]⟩ : ByteArray), .slice none 0 0, .int .u64 (rd l0 1), .int .i64 (wrap64 (Int.tmod (IntKind.u64.wrap (Int.tdiv (rd l0 0) 33554432)) 256))] 37 (0, 0))) := ⟨(by rw [hw]; exact (by (with_reducible repeat (first | refine blk_drewN ?_ _ | refine blk_drew ?_ | refine blk_alloc ?_ _)); refine blk_put (cs := #[.int .i64 (wrap64 (Int.tmod (rd l0 0) 4)), .int .i64 (wrap64 ((wrap64 (Int.tmod (IntKind.u64.wrap (Int.tdiv (rd l0 0) 4)) 256)) - 1)), .string (⟨#[]⟩ : ByteArray), .string (⟨#[]⟩ : ByteArray), .slice none 0 0, .int .u64 (rd l0 1), .int .i64 (wrap64 (Int.tmod (IntKind.u64.wrap (Int.tdiv (rd l0 0) 33554432)) 256))]) ?_ 2 _ rfl; (with_reducible repeat (first | refine blk_drewN ?_ _ | refine blk_drew ?_ | refine blk_alloc ?_ _)); exact BK244.out))⟩; have n6_ : Aside0 (Below w.heap.size w w40) := ⟨(by rw [hw]; exact (bls HB.out))⟩; clear hw HO_0 HO_6 HO_8 HO265 BK241 BK244 HB; have HO_0 := n0_; have HO_6 := n1_; have HO_8 := n2_; have HO265 := n3_; have BK241 := n4_; have BK244 := n5_; have HB := n6_; clear n0_ n1_ n2_ n3_ n4_ n5_ n6_; obtain ⟨Ao41, co41, eo41⟩ := Kd.V_slice HO265.out; subst eo41) | ((with_reducible refine gate_callee (f := 32) rfl ?_); refine goesL_ (some 106) rfl rfl Try.func32 (by kernel_rfl) rfl #[.slice Ao41 t263.length co41, .int .i64 (wrap64 (Int.tmod (IntKind.u64.wrap (Int.tdiv (rd l0 0) 32768)) 64))] rfl (by (try simp only [List.map_toArray, List.map_cons, List.map_nil]); first | done | rfl | (simp only [List.length_drop, List.length_take]; rfl)) ?_; (with_reducible refine (treillageref11_take.calls kj7 (fun k_ => ((P0_ k_ ∨ w.heap.size ≤ k_) ∧ (some k_ ≠ (u8 : Value).ownBlock ∧ (k_ ≠ gb241 ∧ k_ ≠ gb244)))) _ _ t263 (wrap64 (Int.tmod (IntKind.u64.wrap (Int.tdiv (rd l0 0) 32768)) 64)) t267 t268 t271 _ ?side1 A34.out).mono ?_); (case side1 => first | exact HO265.out | exact V_below HO265.out (blw (Below.refl _ _)) (fun k_ hk_ => by first | exact hk_ | exact ⟨⟨hk_.1, hk_.2.1⟩, hk_.2.2⟩)); rintro e w42 ⟨v269, rfl, ho0, hb⟩; refine ⟨_, rfl, ?_⟩; have n0_ := aA (Kd.V_below (vlu HO_0.out) hb); have n1_ := aA (Kd.V_below (vlu HO_6.out) hb); have n2_ := aA (Kd.R_below (rlu HO_8.out) hb); have n3_ := aA (Kd.V_below (vlu HO265.out) hb); have n4_ := aA (Kd.V_lower (Kd.V_mono (ok' := fun k_ => (P0_ k_ ∨ w.heap.size ≤ k_) ∧ some k_ ≠ (u8 : Value).ownBlock ∧ k_ ≠ gb241 ∧ k_ ≠ gb244) ho0 (fun k_ hk_ => ⟨Or.elim hk_ (fun hs_ => hs_.1) (fun hn_ => (.inr (Nat.le_trans (below_size (bls HB.out)) hn_))), Or.elim hk_ (fun hs_ => hs_.2.1) (fun hn_ => (Kd.fresh' (Kd.R_lt (rlu HO_8.out)) k_ hn_)), Or.elim hk_ (fun hs_ => hs_.2.2.1) (fun hn_ => (Kd.freshB (g := gb241) (o := .cells #[.int .i64 x242000_7, .int .i64 x242001_7, .string x242002_7, .string x242003_7, .slice none 0 0, .int .u64 x242005_7, .int .i64 x242006_7] 37 (0, 0)) (bku BK241.out) k_ hn_)), Or.elim hk_ (fun hs_ => hs_.2.2.2) (fun hn_ => (Kd.freshB (g := gb244) (o := .cells #[.int .i64 (wrap64 (Int.tmod (rd l0 0) 4)), .int .i64 (wrap64 ((wrap64 (Int.tmod (IntKind.u64.wrap (Int.tdiv (rd l0 0) 4)) 256)) - 1)), .string t262, .string (⟨#[]⟩ : ByteArray), .slice none 0 0, .int .u64 (rd l0 1), .int .i64 (wrap64 (Int.tmod (IntKind.u64.wrap (Int.tdiv (rd l0 0) 33554432)) 256))] 37 (0, 0)) (bku BK244.out) k_ hn_))⟩)) (below_size (bls HB.out))); have n5_ := aA (blk_below (g := gb241) (o := .cells #[.int .i64 x242000_7, .int .i64 x242001_7, .string x242002_7, .string x242003_7, .slice none 0 0, .int .u64 x242005_7, .int .i64 x242006_7] 37 (0, 0)) (bku BK241.out) hb); have n6_ := aA (blk_below (g := gb244) (o := .cells #[.int .i64 (wrap64 (Int.tmod (rd l0 0) 4)), .int .i64 (wrap64 ((wrap64 (Int.tmod (IntKind.u64.wrap (Int.tdiv (rd l0 0) 4)) 256)) - 1)), .string t262, .string (⟨#[]⟩ : ByteArray), .slice none 0 0, .int .u64 (rd l0 1), .int .i64 (wrap64 (Int.tmod (IntKind.u64.wrap (Int.tdiv (rd l0 0) 33554432)) 256))] 37 (0, 0)) (bku BK244.out) hb); have n7_ := aA (below_step (bls HB.out) hb); clear HO_0 HO_6 HO_8 HO265 BK241 BK244 HB; have HO_0 := n0_; have HO_6 := n1_; have HO_8 := n2_; have HO265 := n3_; have HO270 := n4_; have BK241 := n5_; have BK244 := n6_; have HB := n7_; clear n0_ n1_ n2_ n3_ n4_ n5_ n6_ n7_; (try clear hb); (try clear hb2); (try clear hk); (try clear hi); (try clear ho0); have hcz43_0 : w42.cell? ⟨gb244, 0, none⟩ = some (.int .i64 (wrap64 (Int.tmod (rd l0 0) 4))) := (blk_cell BK244.out 0).trans rfl; have hcz43_1 : w42.cell? ⟨gb244, 1, none⟩ = some (.int .i64 (wrap64 ((wrap64 (Int.tmod (IntKind.u64.wrap (Int.tdiv (rd l0 0) 4)) 256)) - 1))) := (blk_cell BK244.out 1).trans rfl; have hcz43_2 : w42.cell? ⟨gb244, 2, none⟩ = some (.string t262) := (blk_cell BK244.out 2).trans rfl; have hcz43_3 : w42.cell? ⟨gb244, 3, none⟩ = some (.string (⟨#[]⟩ : ByteArray)) := (blk_cell BK244.out 3).trans rfl; have hcz43_4 : w42.cell? ⟨gb244, 4, none⟩ = some (.slice none 0 0) := (blk_cell BK244.out 4).trans rfl; have hcz43_5 : w42.cell? ⟨gb244, 5, none⟩ = some (.int .u64 (rd l0 1)) := (blk_cell BK244.out 5).trans rfl; have hcz43_6 : w42.cell? ⟨gb244, 6, none⟩ = some (.int .i64 (wrap64 (Int.tmod (IntKind.u64.wrap (Int.tdiv (rd l0 0) 33554432)) 256))) := (blk_cell BK244.out 6).trans rfl; have hfz43_0 := blk_frozen BK244.out 0; have hfz43_1 := blk_frozen BK244.out 1; have hfz43_2 := blk_frozen BK244.out 2; have hfz43_3 := blk_frozen BK244.out 3; have hfz43_4 := blk_frozen BK244.out 4; have hfz43_5 := blk_frozen BK244.out 5; have hfz43_6 := blk_frozen BK244.out 6))
     (try simp only [Act.put, List.setIfInBounds_toArray, List.set_cons_zero, List.set_cons_succ]); go_cut [12] (fun v12 wc => ∃ (kq : Nat) (x12_34 : Bool) (x245004_34 : List ByteArray) (u245004 : Value), v12 = .bool x12_34 ∧ Aside0 (treillageref11_Unpack.j5 kq l0 x12_34 (wrap64 (Int.tmod (rd l0 0) 4)) (wrap64 ((wrap64 (Int.tmod (IntKind.u64.wrap (Int.tdiv (rd l0 0) 4)) 256)) - 1)) t262 t267 x245004_34 (rd l0 1) (wrap64 (Int.tmod (IntKind.u64.wrap (Int.tdiv (rd l0 0) 33554432)) 256)) = some (r1, r2, r3, r4, r5, r6, r7, r8)) ∧ Aside0 (kq ≤ kj7) ∧ Aside0 (Kd.V (Kd.int .u64) 23 wc w.heap.size (fun k_ => (P0_ k_ ∨ w.heap.size ≤ k_) ∧ some k_ ≠ (u245004 : Value).ownBlock ∧ k_ ≠ gb241 ∧ k_ ≠ gb244) (.slice (some ad242) l0.length c0) l0) ∧ Aside0 (Kd.R Kd.string 9 wc w.heap.size (fun k_ => (w.heap.size ≤ k_)) u245004 x245004_34) ∧ Aside0 (wc.heap[gb241]? = some (.cells #[.int .i64 x242000_7, .int .i64 x242001_7, .string x242002_7, .string x242003_7, (.slice none 0 0), .int .u64 x242005_7, .int .i64 x242006_7] 37 (0, 0))) ∧ Aside0 (wc.heap[gb244]? = some (.cells #[.int .i64 (wrap64 (Int.tmod (rd l0 0) 4)), .int .i64 (wrap64 ((wrap64 (Int.tmod (IntKind.u64.wrap (Int.tdiv (rd l0 0) 4)) 256)) - 1)), .string t262, .string t267, u245004, .int .u64 (rd l0 1), .int .i64 (wrap64 (Int.tmod (IntKind.u64.wrap (Int.tdiv (rd l0 0) 33554432)) 256))] 37 (0, 0))) ∧ Aside0 (Below w.heap.size w wc))
     case first =>
      have H := HC35.out; clear HC35; have H' := aA H; clear H; go_wp2; go_loopg [6, 12, 14] kj7 (fun kq v6 v12 v14 w' => ∃ (x6_2 : List Int) (x12_2 : Bool) (x14_2 : Int) (x245004_2 : List ByteArray) (u245004 : Value), v12 = .bool x12_2 ∧ v14 = .int .i64 x14_2 ∧ Aside0 (treillageref11_Unpack.l2 kq l0 x6_2 x8_7 x12_2 x14_2 (wrap64 (Int.tmod (rd l0 0) 4)) (wrap64 ((wrap64 (Int.tmod (IntKind.u64.wrap (Int.tdiv (rd l0 0) 4)) 256)) - 1)) t262 t267 x245004_2 (rd l0 1) (wrap64 (Int.tmod (IntKind.u64.wrap (Int.tdiv (rd l0 0) 33554432)) 256)) = some (r1, r2, r3, r4, r5, r6, r7, r8)) ∧ Aside0 (kq ≤ kj7) ∧ Aside0 (Kd.V (Kd.int .u64) 23 w' w.heap.size (fun k_ => (P0_ k_ ∨ w.heap.size ≤ k_) ∧ some k_ ≠ (u8 : Value).ownBlock ∧ some k_ ≠ (u245004 : Value).ownBlock ∧ k_ ≠ gb241 ∧ k_ ≠ gb244) (.slice (some ad242) l0.length c0) l0) ∧ Aside0 (Kd.V (Kd.int .u64) 23 w' w.heap.size (fun k_ => (P0_ k_ ∨ w.heap.size ≤ k_) ∧ some k_ ≠ (u8 : Value).ownBlock ∧ some k_ ≠ (u245004 : Value).ownBlock ∧ k_ ≠ gb241 ∧ k_ ≠ gb244) v6 x6_2) ∧ Aside0 (Kd.R (Kd.int .i64) 3 w' w.heap.size (fun k_ => (w.heap.size ≤ k_)) u8 x8_7) ∧ Aside0 (Kd.R Kd.string 9 w' w.heap.size (fun k_ => (w.heap.size ≤ k_)) u245004 x245004_2) ∧ Aside0 (w'.heap[gb241]? = some (.cells #[.int .i64 x242000_7, .int .i64 x242001_7, .string x242002_7, .string x242003_7, (.slice none 0 0), .int .u64 x242005_7, .int .i64 x242006_7] 37 (0, 0))) ∧ Aside0 (w'.heap[gb244]? = some (.cells #[.int .i64 (wrap64 (Int.tmod (rd l0 0) 4)), .int .i64 (wrap64 ((wrap64 (Int.tmod (IntKind.u64.wrap (Int.tdiv (rd l0 0) 4)) 256)) - 1)), .string t262, .string t267, u245004, .int .u64 (rd l0 1), .int .i64 (wrap64 (Int.tmod (IntKind.u64.wrap (Int.tdiv (rd l0 0) 33554432)) 256))] 37 (0, 0))) ∧ Aside0 (Below w.heap.size w w'))
      case atStart => exact ⟨(t268), (t271), (0), (([] : List ByteArray)), (.slice none 0 0), (by first | rfl | (simp; done) | (simp [*]; done)), (by first | rfl | (simp; done) | (simp [*]; done)), H', ⟨Nat.le_refl _⟩, ⟨by (with_reducible repeat (first | apply Kd.V_alloc | apply Kd.V_drewN | apply Kd.V_drew)); exact Kd.V_mono (Kd.V_far (p := ⟨gb244, 3, none⟩) (Kd.V_mono HO_0.out (fun k_ hk => (⟨hk, hk.2.2.2⟩ : _ ∧ k_ ≠ gb244))) (fun _ hk => hk.2) (.string t267)) (fun _ hk => ⟨hk.1.1, ⟨hk.1.2.1, ⟨(by simp [Value.ownBlock]), ⟨hk.1.2.2.1, hk.1.2.2.2⟩⟩⟩⟩)⟩, ⟨by (with_reducible repeat (first | apply Kd.V_alloc | apply Kd.V_drewN | apply Kd.V_drew)); exact Kd.V_mono (Kd.V_far (p := ⟨gb244, 3, none⟩) (Kd.V_mono HO270.out (fun k_ hk => (⟨hk, hk.2.2.2⟩ : _ ∧ k_ ≠ gb244))) (fun _ hk => hk.2) (.string t267)) (fun _ hk => ⟨hk.1.1, ⟨hk.1.2.1, ⟨(by simp [Value.ownBlock]), ⟨hk.1.2.2.1, hk.1.2.2.2⟩⟩⟩⟩)⟩, ⟨by (with_reducible repeat (first | apply Kd.R_alloc | apply Kd.R_drewN | apply Kd.R_drew)); exact Kd.R_mono (Kd.R_far (p := ⟨gb244, 3, none⟩) (Kd.R_types HO_8.out BK244.out (by decide)) (fun _ hk => hk.2) (.string t267)) (fun _ hk => hk.1)⟩, ⟨by first | exact Kd.R_nil _ _ _ _ _ | exact Kd.N_nil _ _ _ _ _ | exact Kd.V_nil _ _ _ _ _ | exact Kd.Q_nil _ _ _ _ _ | exact Kd.S_nil _ _ _ _ _⟩, ⟨by (with_reducible repeat (first | refine blk_drewN ?_ _ | refine blk_drew ?_ | refine blk_alloc ?_ _)); refine blk_far ?_ NB241_244.out _; (with_reducible repeat (first | refine blk_drewN ?_ _ | refine blk_drew ?_ | refine blk_alloc ?_ _)); exact BK241.out⟩, ⟨by (with_reducible repeat (first | refine blk_drewN ?_ _ | refine blk_drew ?_ | refine blk_alloc ?_ _)); refine blk_put (cs := #[.int .i64 (wrap64 (Int.tmod (rd l0 0) 4)), .int .i64 (wrap64 ((wrap64 (Int.tmod (IntKind.u64.wrap (Int.tdiv (rd l0 0) 4)) 256)) - 1)), .string t262, .string (⟨#[]⟩ : ByteArray), .slice none 0 0, .int .u64 (rd l0 1), .int .i64 (wrap64 (Int.tmod (IntKind.u64.wrap (Int.tdiv (rd l0 0) 33554432)) 256))]) ?_ 3 _ rfl; (with_reducible repeat (first | refine blk_drewN ?_ _ | refine blk_drew ?_ | refine blk_alloc ?_ _)); exact BK244.out⟩, ⟨by repeat (first | (with_reducible first | exact HB.out | apply below_alloc | apply pw_below_drewN | apply below_drew1 | refine below_set ?_ GE241.out | refine below_set ?_ GE244.out) | exact HB.out)⟩⟩
      case round =>
       clear H'; try clear c1
       try clear q1
       try clear c2
       try clear c2b0
       try clear c2b1
       try clear p2
       try clear q2
       try clear hx2
       try clear qi2
       try clear c3
       try clear q3
       try clear c5
       try clear c5b0
       try clear c5b1
       try clear c6
       try clear c6b0
       try clear c6b1
       try clear p6
       try clear c7
       try clear c7b0
       try clear c7b1
       try clear c11
       try clear c14
       try clear q14
       try clear c15
       try clear c17
       try clear c17b0
       try clear c17b1
       try clear c19
       try clear c19b0
       try clear c19b1
       try clear c20
       try clear c21
       try clear c23
       try clear c23b0
       try clear p24
       try clear q24
       try clear hx24
       try clear qi24
       try clear c25
       try clear c25b0
       try clear p25
       try clear q25
       try clear hx25
       try clear c26
       try clear c26b0
       try clear c27
       try clear c27b0
       try clear c28
       try clear c30
       try clear c30b0
       try clear c30b1
       try clear c31
       try clear q31
       try clear c32
       try clear c33
       try clear c38
       try clear hcz12_0
       try clear hcz12_1
       try clear hcz12_2
       try clear hcz12_3
       try clear hcz12_4
       try clear hcz12_5
       try clear hcz12_6
       try clear hcz22_0
       try clear hcz22_1
       try clear hcz22_2
       try clear hcz22_3
       try clear hcz22_4
       try clear hcz22_5
       try clear hcz22_6
       try clear hcz39_0
       try clear hcz39_1
       try clear hcz39_2
       try clear hcz39_3
       try clear hcz39_4
       try clear hcz39_5
       try clear hcz39_6
       try clear hcz43_0
       try clear hcz43_1
       try clear hcz43_2
       try clear hcz43_3
       try clear hcz43_4
       try clear hcz43_5
       try clear hcz43_6
       try clear hcz4_0
       try clear hcz4_1
       try clear hcz4_2
       try clear hcz4_3
       try clear hcz4_4
       try clear hcz4_5
       try clear hcz4_6
       try clear hfz12_0
       try clear hfz12_1
       try clear hfz12_2
       try clear hfz12_3
       try clear hfz12_4
       try clear hfz12_5
       try clear hfz12_6
       try clear hfz22_0
       try clear hfz22_1
       try clear hfz22_2
       try clear hfz22_3
       try clear hfz22_4
       try clear hfz22_5
       try clear hfz22_6
       try clear hfz39_0
       try clear hfz39_1
       try clear hfz39_2
       try clear hfz39_3
       try clear hfz39_4
       try clear hfz39_5
       try clear hfz39_6
       try clear hfz43_0
       try clear hfz43_1
       try clear hfz43_2
       try clear hfz43_3
       try clear hfz43_4
       try clear hfz43_5
       try clear hfz43_6
       try clear hfz4_0
       try clear hfz4_1
       try clear hfz4_2
       try clear hfz4_3
       try clear hfz4_4
       try clear hfz4_5
       try clear hfz4_6
       try clear hx242_0
       try clear hx243_0
       try clear hx258_0
       try clear p2
       try clear p24
       try clear p242
       try clear p243
       try clear p25
       try clear p258
       try clear p6
       try clear q1
       try clear q14
       try clear q2
       try clear q24
       try clear q242
       try clear q243
       try clear q25
       try clear q258
       try clear q3
       try clear q31
       obtain ⟨x6_2, x12_2, x14_2, x245004_2, u245004, rfl, rfl, HA, HK2, HO_0, HO_6, HO_8, HO_245004, BK241, BK244, HB⟩ := hrel; cases gk with
       | zero => exact absurd HA.out (by simp [treillageref11_Unpack.l2])
       | succ k2 =>
        have H := HA.out; clear HA; simp only [treillageref11_Unpack.l2] at H; by_cases c44 : x14_2 < (x8_7.length : Int)
        ·rw [if_pos c44] at H; have c44b0 : decide (x14_2 < (x8_7.length : Int)) = true := decide_eq_true c44; clear c44; (first | rw [c44b0] | rw [c44b1] | (simp only [i64_w, i32_w]; rw [c44b0]) | skip)
         by_cases c45 : x12_2 = true
         ·subst c45; have H1 : (if 0 ≤ x14_2 then ((treillageref11_take.f k2 x6_2 (rd x8_7 x14_2)).bind fun bt273 => (if x245004_2.length < 8796093022208 then (treillageref11_Unpack.l2 k2 l0 bt273.2.1 x8_7 bt273.2.2 (wrap64 (x14_2 + 1)) (wrap64 (Int.tmod (rd l0 0) 4)) (wrap64 ((wrap64 (Int.tmod (IntKind.u64.wrap (Int.tdiv (rd l0 0) 4)) 256)) - 1)) t262 t267 (x245004_2 ++ [bt273.1]) (rd l0 1) (wrap64 (Int.tmod (IntKind.u64.wrap (Int.tdiv (rd l0 0) 33554432)) 256))) else (none))) else (none)) = some (r1, r2, r3, r4, r5, r6, r7, r8) := by rw [if_pos rfl] at H; exact H
          clear H; have H := H1; clear H1; by_cases c46 : 0 ≤ x14_2
          rotate_left
          ·rw [if_neg c46] at H; exact absurd H (by simp)
          rw [if_pos c46] at H; have c46b0 : decide (0 ≤ x14_2) = true := decide_eq_true c46; clear c46; replace H := Option.bind_eq_some_iff.mp H; obtain ⟨⟨t273, t274, t277⟩, A470, H⟩ := H; replace H : (if x245004_2.length < 8796093022208 then (treillageref11_Unpack.l2 k2 l0 t274 x8_7 t277 (wrap64 (x14_2 + 1)) (wrap64 (Int.tmod (rd l0 0) 4)) (wrap64 ((wrap64 (Int.tmod (IntKind.u64.wrap (Int.tdiv (rd l0 0) 4)) 256)) - 1)) t262 t267 (x245004_2 ++ [t273]) (rd l0 1) (wrap64 (Int.tmod (IntKind.u64.wrap (Int.tdiv (rd l0 0) 33554432)) 256))) else (none)) = some (r1, r2, r3, r4, r5, r6, r7, r8) := H; have A47 := aA A470; clear A470; by_cases c48 : x245004_2.length < 8796093022208
          rotate_left
          ·rw [if_neg c48] at H; exact absurd H (by simp)
          rw [if_pos c48] at H; have LMc48 := aA c48; clear c48; obtain ⟨y278, hy278⟩ : ∃ y_ : List ByteArray, y_ = (x245004_2 ++ [t273]) := ⟨_, rfl⟩; replace H : (treillageref11_Unpack.l2 k2 l0 t274 x8_7 t277 (wrap64 (x14_2 + 1)) (wrap64 (Int.tmod (rd l0 0) 4)) (wrap64 ((wrap64 (Int.tmod (IntKind.u64.wrap (Int.tdiv (rd l0 0) 4)) 256)) - 1)) t262 t267 y278 (rd l0 1) (wrap64 (Int.tmod (IntKind.u64.wrap (Int.tdiv (rd l0 0) 33554432)) 256))) = some (r1, r2, r3, r4, r5, r6, r7, r8) := by first | (rw [hy278]; with_reducible exact H) | (have H2_ := (Option.bind_some _ _).symm.trans H; rw [hy278]; with_reducible exact H2_) | (have H2_ := (Option.bind_some _ _).symm.trans H; with_reducible exact H2_) | with_reducible exact H | (rw [hy278]; exact H) | exact H
          have Ny278 := aA hy278; clear hy278; have H' := aA H; clear H; obtain ⟨Ao49, co49, eo49⟩ := Kd.R_slice HO_8.out; subst eo49; have p272 : 0 ≤ (x14_2 : Int) := of_decide_eq_true (by first | (with_reducible assumption) | assumption); have q272 : x14_2 < (x8_7.length : Int) := of_decide_eq_true (by first | (with_reducible assumption) | assumption); obtain ⟨ad272, e272, hx272_0⟩ := Kd.at_int (Kd.R_reads' HO_8.out).2.2 x14_2 p272 q272; cases e272
          replace p272 := eq_true p272; replace q272 := eq_true q272; obtain ⟨Ao50, co50, eo50⟩ := Kd.V_slice HO_6.out; subst eo50; go_wp2_with (first | ((with_reducible refine gate_callee (f := 32) rfl ?_); refine goesL_ (some 126) rfl rfl Try.func32 (by kernel_rfl) rfl #[.slice Ao50 x6_2.length co50, .int .i64 (rd x8_7 x14_2)] rfl (by (try simp only [List.map_toArray, List.map_cons, List.map_nil]); first | done | rfl | (simp only [List.length_drop, List.length_take]; rfl)) ?_; (with_reducible refine (treillageref11_take.calls k2 (fun k_ => ((P0_ k_ ∨ w.heap.size ≤ k_) ∧ (some k_ ≠ (.slice (some ad272) x8_7.length co49 : Value).ownBlock ∧ (some k_ ≠ (u245004 : Value).ownBlock ∧ (k_ ≠ gb241 ∧ k_ ≠ gb244))))) _ _ x6_2 (rd x8_7 x14_2) t273 t274 t277 _ ?side1 A47.out).mono ?_); (case side1 => first | exact HO_6.out | exact V_below HO_6.out (blw (Below.refl _ _)) (fun k_ hk_ => by first | exact hk_ | exact ⟨⟨hk_.1, hk_.2.1⟩, hk_.2.2⟩)); rintro e w51 ⟨v275, rfl, ho0, hb⟩; refine ⟨_, rfl, ?_⟩; have n0_ := aA (Kd.V_below (vlu HO_0.out) hb); have n1_ := aA (Kd.V_below (vlu HO_6.out) hb); have n2_ := aA (Kd.R_below (rlu HO_8.out) hb); have n3_ := aA (Kd.R_below (rlu HO_245004.out) hb); have n4_ := aA (Kd.V_lower (Kd.V_mono (ok' := fun k_ => (P0_ k_ ∨ w.heap.size ≤ k_) ∧ some k_ ≠ (.slice (some ad272) x8_7.length co49 : Value).ownBlock ∧ some k_ ≠ (u245004 : Value).ownBlock ∧ k_ ≠ gb241 ∧ k_ ≠ gb244) ho0 (fun k_ hk_ => ⟨Or.elim hk_ (fun hs_ => hs_.1) (fun hn_ => (.inr (Nat.le_trans (below_size (bls HB.out)) hn_))), Or.elim hk_ (fun hs_ => hs_.2.1) (fun hn_ => (Kd.fresh' (Kd.R_lt (rlu HO_8.out)) k_ hn_)), Or.elim hk_ (fun hs_ => hs_.2.2.1) (fun hn_ => (Kd.fresh' (Kd.R_lt (rlu HO_245004.out)) k_ hn_)), Or.elim hk_ (fun hs_ => hs_.2.2.2.1) (fun hn_ => (Kd.freshB (g := gb241) (o := .cells #[.int .i64 x242000_7, .int .i64 x242001_7, .string x242002_7, .string x242003_7, .slice none 0 0, .int .u64 x242005_7, .int .i64 x242006_7] 37 (0, 0)) (bku BK241.out) k_ hn_)), Or.elim hk_ (fun hs_ => hs_.2.2.2.2) (fun hn_ => (Kd.freshB (g := gb244) (o := .cells #[.int .i64 (wrap64 (Int.tmod (rd l0 0) 4)), .int .i64 (wrap64 ((wrap64 (Int.tmod (IntKind.u64.wrap (Int.tdiv (rd l0 0) 4)) 256)) - 1)), .string t262, .string t267, u245004, .int .u64 (rd l0 1), .int .i64 (wrap64 (Int.tmod (IntKind.u64.wrap (Int.tdiv (rd l0 0) 33554432)) 256))] 37 (0, 0)) (bku BK244.out) k_ hn_))⟩)) (below_size (bls HB.out))); have n5_ := aA (blk_below (g := gb241) (o := .cells #[.int .i64 x242000_7, .int .i64 x242001_7, .string x242002_7, .string x242003_7, .slice none 0 0, .int .u64 x242005_7, .int .i64 x242006_7] 37 (0, 0)) (bku BK241.out) hb); have n6_ := aA (blk_below (g := gb244) (o := .cells #[.int .i64 (wrap64 (Int.tmod (rd l0 0) 4)), .int .i64 (wrap64 ((wrap64 (Int.tmod (IntKind.u64.wrap (Int.tdiv (rd l0 0) 4)) 256)) - 1)), .string t262, .string t267, u245004, .int .u64 (rd l0 1), .int .i64 (wrap64 (Int.tmod (IntKind.u64.wrap (Int.tdiv (rd l0 0) 33554432)) 256))] 37 (0, 0)) (bku BK244.out) hb); have n7_ := aA (below_step (bls HB.out) hb); clear HO_0 HO_6 HO_8 HO_245004 BK241 BK244 HB; have HO_0 := n0_; have HO_6 := n1_; have HO_8 := n2_; have HO_245004 := n3_; have HO276 := n4_; have BK241 := n5_; have BK244 := n6_; have HB := n7_; clear n0_ n1_ n2_ n3_ n4_ n5_ n6_ n7_; (try clear hb); (try clear hb2); (try clear hk); (try clear hi); (try clear ho0); have hnb52 := NB244_241.out; have hnc52 := NB241_244.out; have hcz53_0 : w51.cell? ⟨gb244, 0, none⟩ = some (.int .i64 (wrap64 (Int.tmod (rd l0 0) 4))) := (blk_cell BK244.out 0).trans rfl; have hcz53_1 : w51.cell? ⟨gb244, 1, none⟩ = some (.int .i64 (wrap64 ((wrap64 (Int.tmod (IntKind.u64.wrap (Int.tdiv (rd l0 0) 4)) 256)) - 1))) := (blk_cell BK244.out 1).trans rfl; have hcz53_2 : w51.cell? ⟨gb244, 2, none⟩ = some (.string t262) := (blk_cell BK244.out 2).trans rfl; have hcz53_3 : w51.cell? ⟨gb244, 3, none⟩ = some (.string t267) := (blk_cell BK244.out 3).trans rfl; have hcz53_4 : w51.cell? ⟨gb244, 4, none⟩ = some (u245004) := (blk_cell BK244.out 4).trans rfl; have hcz53_5 : w51.cell? ⟨gb244, 5, none⟩ = some (.int .u64 (rd l0 1)) := (blk_cell BK244.out 5).trans rfl; have hcz53_6 : w51.cell? ⟨gb244, 6, none⟩ = some (.int .i64 (wrap64 (Int.tmod (IntKind.u64.wrap (Int.tdiv (rd l0 0) 33554432)) 256))) := (blk_cell BK244.out 6).trans rfl; have hfz53_0 := blk_frozen BK244.out 0; have hfz53_1 := blk_frozen BK244.out 1; have hfz53_2 := blk_frozen BK244.out 2; have hfz53_3 := blk_frozen BK244.out 3; have hfz53_4 := blk_frozen BK244.out 4; have hfz53_5 := blk_frozen BK244.out 5; have hfz53_6 := blk_frozen BK244.out 6) | ((with_reducible refine gate_builtin (b := .append) (xs := #[.tmp 132, .tmp 134]) rfl ?_); at_builtin; refine Kd.R_append Kd.string (w0 := w) w.heap.size rfl (.tmp 132) (.tmp 134) 22 9 (.string ⟨#[]⟩) 16 rfl Try.underlying22 info9 rfl (by decide) (by omega) u245004 x245004_2 t273 [.string t273] (fun k_ => (w.heap.size ≤ k_)) (fun _ => False) rfl rfl ?aP (fun _ hk => hk.elim) ?aF ?aO ?aB ?aS ?aL ?_; (case aP => exact rfl); (case aB => exact (bls HB.out)); (case aF => exact (fun k_ hk => (Nat.le_trans (below_size (bls HB.out)) hk))); (case aO => exact (rlu HO_245004.out)); (case aS => exact (below_size (bls HB.out))); (case aL => have := LMc48.out; omega); intro v279 w54 ho hb hg hat; rw [← Ny278.out] at ho; have n0_ := aA (Kd.V_afterv (ok := (fun k_ => (P0_ k_ ∨ w.heap.size ≤ k_) ∧ some k_ ≠ (.slice (some ad272) x8_7.length co49 : Value).ownBlock ∧ k_ ≠ gb241 ∧ k_ ≠ gb244)) (vlu (Kd.V_mono HO_0.out (fun _ hk => ⟨⟨hk.1, ⟨hk.2.1, ⟨hk.2.2.2.1, hk.2.2.2.2⟩⟩⟩, hk.2.2.1⟩))) hg hat); have n1_ := aA (Kd.V_afterv (ok := (fun k_ => (P0_ k_ ∨ w.heap.size ≤ k_) ∧ some k_ ≠ (.slice (some ad272) x8_7.length co49 : Value).ownBlock ∧ k_ ≠ gb241 ∧ k_ ≠ gb244)) (vlu (Kd.V_mono HO_6.out (fun _ hk => ⟨⟨hk.1, ⟨hk.2.1, ⟨hk.2.2.2.1, hk.2.2.2.2⟩⟩⟩, hk.2.2.1⟩))) hg hat); have n2_ := aA (Kd.R_over' (rlu HO_8.out) (Kd.R_typed (rlu HO_245004.out)) (by decide) hg); have n3_ := aA (blk_grown (g := gb241) (o := .cells #[.int .i64 x242000_7, .int .i64 x242001_7, .string x242002_7, .string x242003_7, .slice none 0 0, .int .u64 x242005_7, .int .i64 x242006_7] 37 (0, 0)) (bku BK241.out) hg (Kd.R_ne HO_245004.out BK241.out (by decide))); have n4_ := aA (blk_grown (g := gb244) (o := .cells #[.int .i64 (wrap64 (Int.tmod (rd l0 0) 4)), .int .i64 (wrap64 ((wrap64 (Int.tmod (IntKind.u64.wrap (Int.tdiv (rd l0 0) 4)) 256)) - 1)), .string t262, .string t267, u245004, .int .u64 (rd l0 1), .int .i64 (wrap64 (Int.tmod (IntKind.u64.wrap (Int.tdiv (rd l0 0) 33554432)) 256))] 37 (0, 0)) (bku BK244.out) hg (Kd.R_ne HO_245004.out BK244.out (by decide))); have n5_ := aA (Kd.V_afterv (ok := (fun k_ => (P0_ k_ ∨ w.heap.size ≤ k_) ∧ some k_ ≠ (.slice (some ad272) x8_7.length co49 : Value).ownBlock ∧ k_ ≠ gb241 ∧ k_ ≠ gb244)) (vlu (Kd.V_mono HO276.out (fun _ hk => ⟨⟨hk.1, ⟨hk.2.1, ⟨hk.2.2.2.1, hk.2.2.2.2⟩⟩⟩, hk.2.2.1⟩))) hg hat); have n6_ := aA (hb); have n7_ := aA (ho); clear HO_0 HO_6 HO_8 BK241 BK244 HO276 HB HO_245004; have HO_0 := n0_; have HO_6 := n1_; have HO_8 := n2_; have BK241 := n3_; have BK244 := n4_; have HO276 := n5_; have HB := n6_; have HO280 := n7_; clear n0_ n1_ n2_ n3_ n4_ n5_ n6_ n7_ ho hb hg hat; obtain ⟨Ao55, co55, eo55⟩ := Kd.R_slice HO280.out; subst eo55; have hcz56_0 : w54.cell? ⟨gb244, 0, none⟩ = some (.int .i64 (wrap64 (Int.tmod (rd l0 0) 4))) := (blk_cell BK244.out 0).trans rfl; have hcz56_1 : w54.cell? ⟨gb244, 1, none⟩ = some (.int .i64 (wrap64 ((wrap64 (Int.tmod (IntKind.u64.wrap (Int.tdiv (rd l0 0) 4)) 256)) - 1))) := (blk_cell BK244.out 1).trans rfl; have hcz56_2 : w54.cell? ⟨gb244, 2, none⟩ = some (.string t262) := (blk_cell BK244.out 2).trans rfl; have hcz56_3 : w54.cell? ⟨gb244, 3, none⟩ = some (.string t267) := (blk_cell BK244.out 3).trans rfl; have hcz56_4 : w54.cell? ⟨gb244, 4, none⟩ = some (u245004) := (blk_cell BK244.out 4).trans rfl; have hcz56_5 : w54.cell? ⟨gb244, 5, none⟩ = some (.int .u64 (rd l0 1)) := (blk_cell BK244.out 5).trans rfl; have hcz56_6 : w54.cell? ⟨gb244, 6, none⟩ = some (.int .i64 (wrap64 (Int.tmod (IntKind.u64.wrap (Int.tdiv (rd l0 0) 33554432)) 256))) := (blk_cell BK244.out 6).trans rfl; have hfz56_0 := blk_frozen BK244.out 0; have hfz56_1 := blk_frozen BK244.out 1; have hfz56_2 := blk_frozen BK244.out 2; have hfz56_3 := blk_frozen BK244.out 3; have hfz56_4 := blk_frozen BK244.out 4; have hfz56_5 := blk_frozen BK244.out 5; have hfz56_6 := blk_frozen BK244.out 6))
          go_roundg k2
          case measure => have := HJ7.out; have := HK2.out; omega
          case rel => exact ⟨(t274), (t277), (wrap64 (x14_2 + 1)), (y278), (.slice Ao55 y278.length co55), (by first | rfl | (simp; done) | (simp [*]; done)), (by first | rfl | (simp; done) | (simp [*]; done)), H', ⟨by have := HJ7.out; have := HK2.out; omega⟩, ⟨by (with_reducible repeat (first | apply Kd.V_alloc | apply Kd.V_drewN | apply Kd.V_drew)); exact Kd.V_mono (Kd.V_far (p := ⟨gb244, 4, none⟩) (Kd.V_mono HO_0.out (fun k_ hk => (⟨hk, hk.1.2.2.2⟩ : _ ∧ k_ ≠ gb244))) (fun _ hk => hk.2) (.slice Ao55 y278.length co55)) (fun _ hk => ⟨hk.1.1.1, ⟨hk.1.1.2.1, ⟨hk.1.2, ⟨hk.1.1.2.2.1, hk.1.1.2.2.2⟩⟩⟩⟩)⟩, ⟨by (with_reducible repeat (first | apply Kd.V_alloc | apply Kd.V_drewN | apply Kd.V_drew)); exact Kd.V_mono (Kd.V_far (p := ⟨gb244, 4, none⟩) (Kd.V_mono HO276.out (fun k_ hk => (⟨hk, hk.1.2.2.2⟩ : _ ∧ k_ ≠ gb244))) (fun _ hk => hk.2) (.slice Ao55 y278.length co55)) (fun _ hk => ⟨hk.1.1.1, ⟨hk.1.1.2.1, ⟨hk.1.2, ⟨hk.1.1.2.2.1, hk.1.1.2.2.2⟩⟩⟩⟩)⟩, ⟨by (with_reducible repeat (first | apply Kd.R_alloc | apply Kd.R_drewN | apply Kd.R_drew)); exact Kd.R_mono (Kd.R_far (p := ⟨gb244, 4, none⟩) (Kd.R_types HO_8.out BK244.out (by decide)) (fun _ hk => hk.2) (.slice Ao55 y278.length co55)) (fun _ hk => hk.1)⟩, ⟨by (with_reducible repeat (first | apply Kd.R_alloc | apply Kd.R_drewN | apply Kd.R_drew)); exact Kd.R_mono (Kd.R_far (p := ⟨gb244, 4, none⟩) (Kd.R_types HO280.out BK244.out (by decide)) (fun _ hk => hk.2) (.slice Ao55 y278.length co55)) (fun _ hk => hk.1)⟩, ⟨by (with_reducible repeat (first | refine blk_drewN ?_ _ | refine blk_drew ?_ | refine blk_alloc ?_ _)); refine blk_far ?_ NB241_244.out _; (with_reducible repeat (first | refine blk_drewN ?_ _ | refine blk_drew ?_ | refine blk_alloc ?_ _)); exact BK241.out⟩, ⟨by (with_reducible repeat (first | refine blk_drewN ?_ _ | refine blk_drew ?_ | refine blk_alloc ?_ _)); refine blk_put (cs := #[.int .i64 (wrap64 (Int.tmod (rd l0 0) 4)), .int .i64 (wrap64 ((wrap64 (Int.tmod (IntKind.u64.wrap (Int.tdiv (rd l0 0) 4)) 256)) - 1)), .string t262, .string t267, u245004, .int .u64 (rd l0 1), .int .i64 (wrap64 (Int.tmod (IntKind.u64.wrap (Int.tdiv (rd l0 0) 33554432)) 256))]) ?_ 4 _ rfl; (with_reducible repeat (first | refine blk_drewN ?_ _ | refine blk_drew ?_ | refine blk_alloc ?_ _)); exact BK244.out⟩, ⟨by repeat (first | (with_reducible first | exact HB.out | apply below_alloc | apply pw_below_drewN | apply below_drew1 | refine below_set ?_ GE241.out | refine below_set ?_ GE244.out) | exact HB.out)⟩⟩
         ·replace c45 := Bool.eq_false_iff.mpr c45; subst c45; have H1 : (treillageref11_Unpack.j5 k2 l0 false (wrap64 (Int.tmod (rd l0 0) 4)) (wrap64 ((wrap64 (Int.tmod (IntKind.u64.wrap (Int.tdiv (rd l0 0) 4)) 256)) - 1)) t262 t267 x245004_2 (rd l0 1) (wrap64 (Int.tmod (IntKind.u64.wrap (Int.tdiv (rd l0 0) 33554432)) 256))) = some (r1, r2, r3, r4, r5, r6, r7, r8) := by rw [if_neg (show ¬ (false = true) by decide)] at H; exact H
          clear H; have H := H1; clear H1; have H' := aA H; clear H; obtain ⟨Ao57, co57, eo57⟩ := Kd.R_slice HO_8.out; subst eo57; go_wp2; go_meet
          case rel => exact ⟨_, (false), (x245004_2), (u245004), (by first | rfl | (simp; done) | (simp [*]; done)), H', ⟨by have := HJ7.out; have := HK2.out; first | omega | exact Nat.le_refl _⟩, ⟨by (with_reducible repeat (first | apply Kd.V_alloc | apply Kd.V_drewN | apply Kd.V_drew)); exact Kd.V_mono HO_0.out (fun _ hk => ⟨hk.1, ⟨hk.2.2.1, ⟨hk.2.2.2.1, hk.2.2.2.2⟩⟩⟩)⟩, ⟨by (with_reducible repeat (first | apply Kd.R_alloc | apply Kd.R_drewN | apply Kd.R_drew)); exact HO_245004.out⟩, ⟨by (with_reducible repeat (first | refine blk_drewN ?_ _ | refine blk_drew ?_ | refine blk_alloc ?_ _)); exact BK241.out⟩, ⟨by (with_reducible repeat (first | refine blk_drewN ?_ _ | refine blk_drew ?_ | refine blk_alloc ?_ _)); exact BK244.out⟩, ⟨by repeat (first | (with_reducible first | exact HB.out | apply below_alloc | apply pw_below_drewN | apply below_drew1 | refine below_set ?_ GE241.out | refine below_set ?_ GE244.out) | exact HB.out)⟩⟩
        ·rw [if_neg c44] at H; have c44b0 : decide (x14_2 < (x8_7.length : Int)) = false := decide_eq_false c44; clear c44; (first | rw [c44b0] | rw [c44b1] | (simp only [i64_w, i32_w]; rw [c44b0]) | skip)
         have H' := aA H; clear H; obtain ⟨Ao58, co58, eo58⟩ := Kd.R_slice HO_8.out; subst eo58; go_wp2; go_meet
         case rel => exact ⟨_, (x12_2), (x245004_2), (u245004), (by first | rfl | (simp; done) | (simp [*]; done)), H', ⟨by have := HJ7.out; have := HK2.out; first | omega | exact Nat.le_refl _⟩, ⟨by (with_reducible repeat (first | apply Kd.V_alloc | apply Kd.V_drewN | apply Kd.V_drew)); exact Kd.V_mono HO_0.out (fun _ hk => ⟨hk.1, ⟨hk.2.2.1, ⟨hk.2.2.2.1, hk.2.2.2.2⟩⟩⟩)⟩, ⟨by (with_reducible repeat (first | apply Kd.R_alloc | apply Kd.R_drewN | apply Kd.R_drew)); exact HO_245004.out⟩, ⟨by (with_reducible repeat (first | refine blk_drewN ?_ _ | refine blk_drew ?_ | refine blk_alloc ?_ _)); exact BK241.out⟩, ⟨by (with_reducible repeat (first | refine blk_drewN ?_ _ | refine blk_drew ?_ | refine blk_alloc ?_ _)); exact BK244.out⟩, ⟨by repeat (first | (with_reducible first | exact HB.out | apply below_alloc | apply pw_below_drewN | apply below_drew1 | refine below_set ?_ GE241.out | refine below_set ?_ GE244.out) | exact HB.out)⟩⟩
     case rest =>
      clear HC35; try clear c1
      try clear q1
      try clear c2
      try clear c2b0
      try clear c2b1
      try clear p2
      try clear q2
      try clear hx2
      try clear qi2
      try clear c3
      try clear q3
      try clear c4
      try clear c5
      try clear c5b0
      try clear c5b1
      try clear c6
      try clear c6b0
      try clear c6b1
      try clear p6
      try clear c7
      try clear c7b0
      try clear c7b1
      try clear c11
      try clear c14
      try clear q14
      try clear c15
      try clear c17
      try clear c17b0
      try clear c17b1
      try clear c19
      try clear c19b0
      try clear c19b1
      try clear c20
      try clear c21
      try clear c23
      try clear c23b0
      try clear p24
      try clear q24
      try clear hx24
      try clear qi24
      try clear c25
      try clear c25b0
      try clear p25
      try clear q25
      try clear hx25
      try clear c26
      try clear c26b0
      try clear c27
      try clear c27b0
      try clear p27
      try clear q27
      try clear hx27
      try clear c28
      try clear c30
      try clear c30b0
      try clear c30b1
      try clear c31
      try clear q31
      try clear c32
      try clear c33
      try clear c38
      try clear c44
      try clear c44b0
      try clear c44b1
      try clear c45
      try clear c46
      try clear c46b0
      try clear c48
      try clear c52
      try clear hcz12_0
      try clear hcz12_1
      try clear hcz12_2
      try clear hcz12_3
      try clear hcz12_4
      try clear hcz12_5
      try clear hcz12_6
      try clear hcz22_0
      try clear hcz22_1
      try clear hcz22_2
      try clear hcz22_3
      try clear hcz22_4
      try clear hcz22_5
      try clear hcz22_6
      try clear hcz39_0
      try clear hcz39_1
      try clear hcz39_2
      try clear hcz39_3
      try clear hcz39_4
      try clear hcz39_5
      try clear hcz39_6
      try clear hcz43_0
      try clear hcz43_1
      try clear hcz43_2
      try clear hcz43_3
      try clear hcz43_4
      try clear hcz43_5
      try clear hcz43_6
      try clear hcz4_0
      try clear hcz4_1
      try clear hcz4_2
      try clear hcz4_3
      try clear hcz4_4
      try clear hcz4_5
      try clear hcz4_6
      try clear hcz53_0
      try clear hcz53_1
      try clear hcz53_2
      try clear hcz53_3
      try clear hcz53_4
      try clear hcz53_5
      try clear hcz53_6
      try clear hcz56_0
      try clear hcz56_1
      try clear hcz56_2
      try clear hcz56_3
      try clear hcz56_4
      try clear hcz56_5
      try clear hcz56_6
      try clear hfz12_0
      try clear hfz12_1
      try clear hfz12_2
      try clear hfz12_3
      try clear hfz12_4
      try clear hfz12_5
      try clear hfz12_6
      try clear hfz22_0
      try clear hfz22_1
      try clear hfz22_2
      try clear hfz22_3
      try clear hfz22_4
      try clear hfz22_5
      try clear hfz22_6
      try clear hfz39_0
      try clear hfz39_1
      try clear hfz39_2
      try clear hfz39_3
      try clear hfz39_4
      try clear hfz39_5
      try clear hfz39_6
      try clear hfz43_0
      try clear hfz43_1
      try clear hfz43_2
      try clear hfz43_3
      try clear hfz43_4
      try clear hfz43_5
      try clear hfz43_6
      try clear hfz4_0
      try clear hfz4_1
      try clear hfz4_2
      try clear hfz4_3
      try clear hfz4_4
      try clear hfz4_5
      try clear hfz4_6
      try clear hfz53_0
      try clear hfz53_1
      try clear hfz53_2
      try clear hfz53_3
      try clear hfz53_4
      try clear hfz53_5
      try clear hfz53_6
      try clear hfz56_0
      try clear hfz56_1
      try clear hfz56_2
      try clear hfz56_3
      try clear hfz56_4
      try clear hfz56_5
      try clear hfz56_6
      try clear hx242_0
      try clear hx243_0
      try clear hx258_0
      try clear hx272_0
      try clear p2
      try clear p24
      try clear p242
      try clear p243
      try clear p25
      try clear p258
      try clear p272
      try clear p6
      try clear q1
      try clear q14
      try clear q2
      try clear q24
      try clear q242
      try clear q243
      try clear q25
      try clear q258
      try clear q272
      try clear q3
      try clear q31
      obtain ⟨kq, x12_34, x245004_34, u245004, rfl, HA, HJ34, HO_0, HO_245004, BK241, BK244, HB⟩ := hcut; cases kq with
      | zero => exact absurd HA.out (by simp [treillageref11_Unpack.j5])
      | succ kj34 =>
       have H := HA.out; clear HA; simp only [treillageref11_Unpack.j5] at H; replace H := Option.bind_eq_some_iff.mp H; obtain ⟨⟨t281, t284⟩, A590, H⟩ := H; replace H : (if x12_34 = true then (if t284 = 0 then ((treillageref11_same.f kj34 t281 l0).bind fun t285 => (if t285 = true then (some ((wrap64 (Int.tmod (rd l0 0) 4)), (wrap64 ((wrap64 (Int.tmod (IntKind.u64.wrap (Int.tdiv (rd l0 0) 4)) 256)) - 1)), t262, t267, x245004_34, (rd l0 1), (wrap64 (Int.tmod (IntKind.u64.wrap (Int.tdiv (rd l0 0) 33554432)) 256)), 0)) else (some (0, 0, (⟨#[]⟩ : ByteArray), (⟨#[]⟩ : ByteArray), ([] : List ByteArray), 0, 0, 4)))) else (some (0, 0, (⟨#[]⟩ : ByteArray), (⟨#[]⟩ : ByteArray), ([] : List ByteArray), 0, 0, 4))) else (some (0, 0, (⟨#[]⟩ : ByteArray), (⟨#[]⟩ : ByteArray), ([] : List ByteArray), 0, 0, 4))) = some (r1, r2, r3, r4, r5, r6, r7, r8) := H; have A59 := aA A590; clear A590; by_cases c60 : x12_34 = true
       ·subst c60; have H1 : (if t284 = 0 then ((treillageref11_same.f kj34 t281 l0).bind fun t285 => (if t285 = true then (some ((wrap64 (Int.tmod (rd l0 0) 4)), (wrap64 ((wrap64 (Int.tmod (IntKind.u64.wrap (Int.tdiv (rd l0 0) 4)) 256)) - 1)), t262, t267, x245004_34, (rd l0 1), (wrap64 (Int.tmod (IntKind.u64.wrap (Int.tdiv (rd l0 0) 33554432)) 256)), 0)) else (some (0, 0, (⟨#[]⟩ : ByteArray), (⟨#[]⟩ : ByteArray), ([] : List ByteArray), 0, 0, 4)))) else (some (0, 0, (⟨#[]⟩ : ByteArray), (⟨#[]⟩ : ByteArray), ([] : List ByteArray), 0, 0, 4))) = some (r1, r2, r3, r4, r5, r6, r7, r8) := by rw [if_pos rfl] at H; exact H
        clear H; have H := H1; clear H1; by_cases c61 : t284 = 0
        ·rw [if_pos c61] at H; have c61b0 : (t284 == 0) = true := beq_iff_eq.mpr c61; have c61b1 : (t284 != 0) = false := bne_eq_false_iff_eq.mpr c61; clear c61; replace H := Option.bind_eq_some_iff.mp H; obtain ⟨t285, A620, H⟩ := H; replace H : (if t285 = true then (some ((wrap64 (Int.tmod (rd l0 0) 4)), (wrap64 ((wrap64 (Int.tmod (IntKind.u64.wrap (Int.tdiv (rd l0 0) 4)) 256)) - 1)), t262, t267, x245004_34, (rd l0 1), (wrap64 (Int.tmod (IntKind.u64.wrap (Int.tdiv (rd l0 0) 33554432)) 256)), 0)) else (some (0, 0, (⟨#[]⟩ : ByteArray), (⟨#[]⟩ : ByteArray), ([] : List ByteArray), 0, 0, 4))) = some (r1, r2, r3, r4, r5, r6, r7, r8) := H; have A62 := aA A620; clear A620; by_cases c63 : t285 = true
         ·subst c63; have H1 : (some ((wrap64 (Int.tmod (rd l0 0) 4)), (wrap64 ((wrap64 (Int.tmod (IntKind.u64.wrap (Int.tdiv (rd l0 0) 4)) 256)) - 1)), t262, t267, x245004_34, (rd l0 1), (wrap64 (Int.tmod (IntKind.u64.wrap (Int.tdiv (rd l0 0) 33554432)) 256)), 0)) = some (r1, r2, r3, r4, r5, r6, r7, r8) := by rw [if_pos rfl] at H; exact H
          clear H; have H := H1; clear H1; simp only [Option.some.injEq, Prod.mk.injEq] at H; obtain ⟨rfl, rfl, rfl, rfl, rfl, rfl, rfl, rfl⟩ := H; have hnb64 := NB244_241.out; have hnc64 := NB241_244.out; have hcz65_0 : wc.cell? ⟨gb244, 0, none⟩ = some (.int .i64 (wrap64 (Int.tmod (rd l0 0) 4))) := (blk_cell BK244.out 0).trans rfl; have hcz65_1 : wc.cell? ⟨gb244, 1, none⟩ = some (.int .i64 (wrap64 ((wrap64 (Int.tmod (IntKind.u64.wrap (Int.tdiv (rd l0 0) 4)) 256)) - 1))) := (blk_cell BK244.out 1).trans rfl; have hcz65_2 : wc.cell? ⟨gb244, 2, none⟩ = some (.string t262) := (blk_cell BK244.out 2).trans rfl; have hcz65_3 : wc.cell? ⟨gb244, 3, none⟩ = some (.string t267) := (blk_cell BK244.out 3).trans rfl; have hcz65_4 : wc.cell? ⟨gb244, 4, none⟩ = some (u245004) := (blk_cell BK244.out 4).trans rfl; have hcz65_5 : wc.cell? ⟨gb244, 5, none⟩ = some (.int .u64 (rd l0 1)) := (blk_cell BK244.out 5).trans rfl; have hcz65_6 : wc.cell? ⟨gb244, 6, none⟩ = some (.int .i64 (wrap64 (Int.tmod (IntKind.u64.wrap (Int.tdiv (rd l0 0) 33554432)) 256))) := (blk_cell BK244.out 6).trans rfl; have hfz65_0 := blk_frozen BK244.out 0; have hfz65_1 := blk_frozen BK244.out 1; have hfz65_2 := blk_frozen BK244.out 2; have hfz65_3 := blk_frozen BK244.out 3; have hfz65_4 := blk_frozen BK244.out 4; have hfz65_5 := blk_frozen BK244.out 5; have hfz65_6 := blk_frozen BK244.out 6; obtain ⟨Ao66, co66, eo66⟩ := Kd.R_slice HO_245004.out; subst eo66; go_wp2_with (first | ((with_reducible refine gate_callee (f := 12) rfl ?_); refine goesL_ (some 139) rfl rfl Try.func12 (by kernel_rfl) rfl #[.agg #[.int .i64 (wrap64 (Int.tmod (rd l0 0) 4)), .int .i64 (wrap64 ((wrap64 (Int.tmod (IntKind.u64.wrap (Int.tdiv (rd l0 0) 4)) 256)) - 1)), .string t262, .string t267, .slice Ao66 x245004_34.length co66, .int .u64 (rd l0 1), .int .i64 (wrap64 (Int.tmod (IntKind.u64.wrap (Int.tdiv (rd l0 0) 33554432)) 256))]] rfl (by (try simp only [List.map_toArray, List.map_cons, List.map_nil]); first | done | rfl | (simp only [List.length_drop, List.length_take]; rfl)) ?_; (with_reducible refine (treillageref11_Pack.calls kj34 (wrap64 (Int.tmod (rd l0 0) 4)) (wrap64 ((wrap64 (Int.tmod (IntKind.u64.wrap (Int.tdiv (rd l0 0) 4)) 256)) - 1)) t262 t267 _ _ x245004_34 (rd l0 1) (wrap64 (Int.tmod (IntKind.u64.wrap (Int.tdiv (rd l0 0) 33554432)) 256)) t281 t284 _ ?side1 ?side2 A59.out).mono ?_); (case side1 => repeat (first | exact (Kd.R_reads' HO_245004.out).2.2 | (with_reducible refine Kd.C_alloc ?_ _) | (with_reducible refine Kd.C_drewN ?_ _) | (with_reducible refine Kd.C_drew ?_))); (case side2 => exact (Kd.R_reads' HO_245004.out).2.1); rintro e w67 ⟨v282, rfl, ho0, hb⟩; refine ⟨_, rfl, ?_⟩; have n0_ := aA (Kd.V_elder' (vlu HO_0.out) (Kd.R_base ho0) hb); have n1_ := aA (Kd.R_below (rlu HO_245004.out) hb); have n2_ := aA (Kd.R_lower (Kd.R_newM (M := fun k_ => (w.heap.size ≤ k_)) ho0 (below_size (bls HB.out)) (fun k_ h_ => h_)) (below_size (bls HB.out))); have n3_ := aA (blk_below (g := gb241) (o := .cells #[.int .i64 x242000_7, .int .i64 x242001_7, .string x242002_7, .string x242003_7, .slice none 0 0, .int .u64 x242005_7, .int .i64 x242006_7] 37 (0, 0)) (bku BK241.out) hb); have n4_ := aA (blk_below (g := gb244) (o := .cells #[.int .i64 (wrap64 (Int.tmod (rd l0 0) 4)), .int .i64 (wrap64 ((wrap64 (Int.tmod (IntKind.u64.wrap (Int.tdiv (rd l0 0) 4)) 256)) - 1)), .string t262, .string t267, .slice Ao66 x245004_34.length co66, .int .u64 (rd l0 1), .int .i64 (wrap64 (Int.tmod (IntKind.u64.wrap (Int.tdiv (rd l0 0) 33554432)) 256))] 37 (0, 0)) (bku BK244.out) hb); have n5_ := aA (below_step (bls HB.out) hb); clear HO_0 HO_245004 BK241 BK244 HB; have HO_0 := n0_; have HO_245004 := n1_; have HO283 := n2_; have BK241 := n3_; have BK244 := n4_; have HB := n5_; clear n0_ n1_ n2_ n3_ n4_ n5_; (try clear hb); (try clear hb2); (try clear hk); (try clear hi); (try clear ho0); obtain ⟨Ao68, co68, eo68⟩ := Kd.R_slice HO283.out; subst eo68) | (go_at_call 33; (with_reducible refine (treillageref11_same.calls kj34 _ _ t281 _ _ l0 true _ ?side1 ?side2 ?side3 ?side4 A62.out).mono ?_); (case side1 => repeat (first | exact (Kd.R_reads' HO283.out).2.2 | (with_reducible refine Kd.C_alloc ?_ _) | (with_reducible refine Kd.C_drewN ?_ _) | (with_reducible refine Kd.C_drew ?_))); (case side2 => exact (Kd.R_reads' HO283.out).2.1); (case side3 => repeat (first | exact (Kd.V_reads' HO_0.out).2.2 | (with_reducible refine Kd.C_alloc ?_ _) | (with_reducible refine Kd.C_drewN ?_ _) | (with_reducible refine Kd.C_drew ?_))); (case side4 => exact (Kd.V_reads' HO_0.out).2.1); rintro e w' ⟨rfl, ⟨nd, rfl⟩⟩; (try (rw [drewN_self w67]; generalize hq_ : World.drewN w67 _ = w67; have n0_ : Aside0 (Kd.R (Kd.int .u64) 23 w67 w.heap.size (fun k_ => (w.heap.size ≤ k_)) (.slice Ao68 t281.length co68) t281) := ⟨by rw [← hq_]; exact (rlu (Kd.R_mono HO283.out (fun _ hk => hk.1)))⟩; have n1_ : Aside0 (Kd.V (Kd.int .u64) 23 w67 w.heap.size (fun k_ => (P0_ k_ ∨ w.heap.size ≤ k_) ∧ some k_ ≠ (.slice Ao68 t281.length co68 : Value).ownBlock ∧ some k_ ≠ (.slice Ao66 x245004_34.length co66 : Value).ownBlock ∧ k_ ≠ gb241 ∧ k_ ≠ gb244) (.slice (some ad242) l0.length c0) l0) := ⟨by rw [← hq_]; exact (vlu (Kd.V_mono HO_0.out (fun _ hk => ⟨hk.1.1, ⟨hk.2, ⟨hk.1.2.1, ⟨hk.1.2.2.1, hk.1.2.2.2⟩⟩⟩⟩)))⟩; have n2_ : Aside0 (Kd.R Kd.string 9 w67 w.heap.size (fun k_ => (w.heap.size ≤ k_)) (.slice Ao66 x245004_34.length co66) x245004_34) := ⟨by rw [← hq_]; exact (rlu HO_245004.out)⟩; have n3_ : Aside0 (w67.heap[gb241]? = some (.cells #[.int .i64 x242000_7, .int .i64 x242001_7, .string x242002_7, .string x242003_7, .slice none 0 0, .int .u64 x242005_7, .int .i64 x242006_7] 37 (0, 0))) := ⟨by rw [← hq_]; exact (bku BK241.out)⟩; have n4_ : Aside0 (w67.heap[gb244]? = some (.cells #[.int .i64 (wrap64 (Int.tmod (rd l0 0) 4)), .int .i64 (wrap64 ((wrap64 (Int.tmod (IntKind.u64.wrap (Int.tdiv (rd l0 0) 4)) 256)) - 1)), .string t262, .string t267, .slice Ao66 x245004_34.length co66, .int .u64 (rd l0 1), .int .i64 (wrap64 (Int.tmod (IntKind.u64.wrap (Int.tdiv (rd l0 0) 33554432)) 256))] 37 (0, 0))) := ⟨by rw [← hq_]; exact (bku BK244.out)⟩; have n5_ : Aside0 (Below w.heap.size w w67) := ⟨by rw [← hq_]; exact (bls HB.out)⟩; clear HO283 HO_0 HO_245004 BK241 BK244 HB hq_; have HO283 := n0_; have HO_0 := n1_; have HO_245004 := n2_; have BK241 := n3_; have BK244 := n4_; have HB := n5_; clear n0_ n1_ n2_ n3_ n4_ n5_)); have hcz69_0 : w67.cell? ⟨gb244, 0, none⟩ = some (.int .i64 (wrap64 (Int.tmod (rd l0 0) 4))) := (blk_cell BK244.out 0).trans rfl; have hcz69_1 : w67.cell? ⟨gb244, 1, none⟩ = some (.int .i64 (wrap64 ((wrap64 (Int.tmod (IntKind.u64.wrap (Int.tdiv (rd l0 0) 4)) 256)) - 1))) := (blk_cell BK244.out 1).trans rfl; have hcz69_2 : w67.cell? ⟨gb244, 2, none⟩ = some (.string t262) := (blk_cell BK244.out 2).trans rfl; have hcz69_3 : w67.cell? ⟨gb244, 3, none⟩ = some (.string t267) := (blk_cell BK244.out 3).trans rfl; have hcz69_4 : w67.cell? ⟨gb244, 4, none⟩ = some (.slice Ao66 x245004_34.length co66) := (blk_cell BK244.out 4).trans rfl; have hcz69_5 : w67.cell? ⟨gb244, 5, none⟩ = some (.int .u64 (rd l0 1)) := (blk_cell BK244.out 5).trans rfl; have hcz69_6 : w67.cell? ⟨gb244, 6, none⟩ = some (.int .i64 (wrap64 (Int.tmod (IntKind.u64.wrap (Int.tdiv (rd l0 0) 33554432)) 256))) := (blk_cell BK244.out 6).trans rfl; have hfz69_0 := blk_frozen BK244.out 0; have hfz69_1 := blk_frozen BK244.out 1; have hfz69_2 := blk_frozen BK244.out 2; have hfz69_3 := blk_frozen BK244.out 3; have hfz69_4 := blk_frozen BK244.out 4; have hfz69_5 := blk_frozen BK244.out 5; have hfz69_6 := blk_frozen BK244.out 6; have hcz70_0 : w67.cell? ⟨gb241, 0, none⟩ = some (.int .i64 x242000_7) := (blk_cell BK241.out 0).trans rfl; have hcz70_1 : w67.cell? ⟨gb241, 1, none⟩ = some (.int .i64 x242001_7) := (blk_cell BK241.out 1).trans rfl; have hcz70_2 : w67.cell? ⟨gb241, 2, none⟩ = some (.string x242002_7) := (blk_cell BK241.out 2).trans rfl; have hcz70_3 : w67.cell? ⟨gb241, 3, none⟩ = some (.string x242003_7) := (blk_cell BK241.out 3).trans rfl; have hcz70_4 : w67.cell? ⟨gb241, 4, none⟩ = some (.slice none 0 0) := (blk_cell BK241.out 4).trans rfl; have hcz70_5 : w67.cell? ⟨gb241, 5, none⟩ = some (.int .u64 x242005_7) := (blk_cell BK241.out 5).trans rfl; have hcz70_6 : w67.cell? ⟨gb241, 6, none⟩ = some (.int .i64 x242006_7) := (blk_cell BK241.out 6).trans rfl; have hfz70_0 := blk_frozen BK241.out 0; have hfz70_1 := blk_frozen BK241.out 1; have hfz70_2 := blk_frozen BK241.out 2; have hfz70_3 := blk_frozen BK241.out 3; have hfz70_4 := blk_frozen BK241.out 4; have hfz70_5 := blk_frozen BK241.out 5; have hfz70_6 := blk_frozen BK241.out 6))
          refine bodyPost_ret (results_ct rfl _ _ gb241 37 #[.int .i64 (wrap64 (Int.tmod (rd l0 0) 4)), .int .i64 (wrap64 ((wrap64 (Int.tmod (IntKind.u64.wrap (Int.tdiv (rd l0 0) 4)) 256)) - 1)), .string t262, .string t267, .slice Ao66 x245004_34.length co66, .int .u64 (rd l0 1), .int .i64 (wrap64 (Int.tmod (IntKind.u64.wrap (Int.tdiv (rd l0 0) 33554432)) 256))] (0, 0) _ rfl (by (with_reducible repeat (first | refine blk_drewN ?_ _ | refine blk_drew ?_ | refine blk_alloc ?_ _)); refine blk_put (cs := #[.int .i64 (wrap64 (Int.tmod (rd l0 0) 4)), .int .i64 (wrap64 ((wrap64 (Int.tmod (IntKind.u64.wrap (Int.tdiv (rd l0 0) 4)) 256)) - 1)), .string t262, .string t267, .slice Ao66 x245004_34.length co66, .int .u64 (rd l0 1), .int .i64 x242006_7]) ?_ 6 _ rfl; (with_reducible repeat (first | refine blk_drewN ?_ _ | refine blk_drew ?_ | refine blk_alloc ?_ _)); refine blk_put (cs := #[.int .i64 (wrap64 (Int.tmod (rd l0 0) 4)), .int .i64 (wrap64 ((wrap64 (Int.tmod (IntKind.u64.wrap (Int.tdiv (rd l0 0) 4)) 256)) - 1)), .string t262, .string t267, .slice Ao66 x245004_34.length co66, .int .u64 x242005_7, .int .i64 x242006_7]) ?_ 5 _ rfl; (with_reducible repeat (first | refine blk_drewN ?_ _ | refine blk_drew ?_ | refine blk_alloc ?_ _)); refine blk_put (cs := #[.int .i64 (wrap64 (Int.tmod (rd l0 0) 4)), .int .i64 (wrap64 ((wrap64 (Int.tmod (IntKind.u64.wrap (Int.tdiv (rd l0 0) 4)) 256)) - 1)), .string t262, .string t267, .slice none 0 0, .int .u64 x242005_7, .int .i64 x242006_7]) ?_ 4 _ rfl; (with_reducible repeat (first | refine blk_drewN ?_ _ | refine blk_drew ?_ | refine blk_alloc ?_ _)); refine blk_put (cs := #[.int .i64 (wrap64 (Int.tmod (rd l0 0) 4)), .int .i64 (wrap64 ((wrap64 (Int.tmod (IntKind.u64.wrap (Int.tdiv (rd l0 0) 4)) 256)) - 1)), .string t262, .string x242003_7, .slice none 0 0, .int .u64 x242005_7, .int .i64 x242006_7]) ?_ 3 _ rfl; (with_reducible repeat (first | refine blk_drewN ?_ _ | refine blk_drew ?_ | refine blk_alloc ?_ _)); refine blk_put (cs := #[.int .i64 (wrap64 (Int.tmod (rd l0 0) 4)), .int .i64 (wrap64 ((wrap64 (Int.tmod (IntKind.u64.wrap (Int.tdiv (rd l0 0) 4)) 256)) - 1)), .string x242002_7, .string x242003_7, .slice none 0 0, .int .u64 x242005_7, .int .i64 x242006_7]) ?_ 2 _ rfl; (with_reducible repeat (first | refine blk_drewN ?_ _ | refine blk_drew ?_ | refine blk_alloc ?_ _)); refine blk_put (cs := #[.int .i64 (wrap64 (Int.tmod (rd l0 0) 4)), .int .i64 x242001_7, .string x242002_7, .string x242003_7, .slice none 0 0, .int .u64 x242005_7, .int .i64 x242006_7]) ?_ 1 _ rfl; (with_reducible repeat (first | refine blk_drewN ?_ _ | refine blk_drew ?_ | refine blk_alloc ?_ _)); refine blk_put (cs := #[.int .i64 x242000_7, .int .i64 x242001_7, .string x242002_7, .string x242003_7, .slice none 0 0, .int .u64 x242005_7, .int .i64 x242006_7]) ?_ 0 _ rfl; (with_reducible repeat (first | refine blk_drewN ?_ _ | refine blk_drew ?_ | refine blk_alloc ?_ _)); exact BK241.out) Try.underlying37 rfl (by kernel_rfl)) rfl ?_; exact ⟨_, by first | rfl | (simp [errW_none, errW_some] <;> rfl) | (simp [*, errW_none, errW_some] <;> rfl), by (with_reducible repeat (first | apply Kd.R_alloc | apply Kd.R_drewN | apply Kd.R_drew)); exact Kd.R_mono (Kd.R_far (p := ⟨gb241, 6, none⟩) (Kd.R_far (p := ⟨gb241, 5, none⟩) (Kd.R_far (p := ⟨gb241, 4, none⟩) (Kd.R_far (p := ⟨gb241, 3, none⟩) (Kd.R_far (p := ⟨gb241, 2, none⟩) (Kd.R_far (p := ⟨gb241, 1, none⟩) (Kd.R_far (p := ⟨gb241, 0, none⟩) (Kd.R_types HO_245004.out BK241.out (by decide)) (fun _ hk => hk.2) (.int .i64 (wrap64 (Int.tmod (rd l0 0) 4)))) (fun _ hk => hk.2) (.int .i64 (wrap64 ((wrap64 (Int.tmod (IntKind.u64.wrap (Int.tdiv (rd l0 0) 4)) 256)) - 1)))) (fun _ hk => hk.2) (.string t262)) (fun _ hk => hk.2) (.string t267)) (fun _ hk => hk.2) (.slice Ao66 x245004_34.length co66)) (fun _ hk => hk.2) (.int .u64 (rd l0 1))) (fun _ hk => hk.2) (.int .i64 (wrap64 (Int.tmod (IntKind.u64.wrap (Int.tdiv (rd l0 0) 33554432)) 256)))) (fun _ hk => hk.1), by repeat (first | (with_reducible first | exact HB.out | apply below_alloc | apply pw_below_drewN | apply below_drew1 | refine below_set ?_ GE241.out | refine below_set ?_ GE244.out) | exact HB.out)⟩
         ·replace c63 := Bool.eq_false_iff.mpr c63; subst c63; have H1 : (some (0, 0, (⟨#[]⟩ : ByteArray), (⟨#[]⟩ : ByteArray), ([] : List ByteArray), 0, 0, 4)) = some (r1, r2, r3, r4, r5, r6, r7, r8) := by rw [if_neg (show ¬ (false = true) by decide)] at H; exact H
          clear H; have H := H1; clear H1; simp only [Option.some.injEq, Prod.mk.injEq] at H; obtain ⟨rfl, rfl, rfl, rfl, rfl, rfl, rfl, rfl⟩ := H; have hnb71 := NB244_241.out; have hnc71 := NB241_244.out; have hcz72_0 : wc.cell? ⟨gb244, 0, none⟩ = some (.int .i64 (wrap64 (Int.tmod (rd l0 0) 4))) := (blk_cell BK244.out 0).trans rfl; have hcz72_1 : wc.cell? ⟨gb244, 1, none⟩ = some (.int .i64 (wrap64 ((wrap64 (Int.tmod (IntKind.u64.wrap (Int.tdiv (rd l0 0) 4)) 256)) - 1))) := (blk_cell BK244.out 1).trans rfl; have hcz72_2 : wc.cell? ⟨gb244, 2, none⟩ = some (.string t262) := (blk_cell BK244.out 2).trans rfl; have hcz72_3 : wc.cell? ⟨gb244, 3, none⟩ = some (.string t267) := (blk_cell BK244.out 3).trans rfl; have hcz72_4 : wc.cell? ⟨gb244, 4, none⟩ = some (u245004) := (blk_cell BK244.out 4).trans rfl; have hcz72_5 : wc.cell? ⟨gb244, 5, none⟩ = some (.int .u64 (rd l0 1)) := (blk_cell BK244.out 5).trans rfl; have hcz72_6 : wc.cell? ⟨gb244, 6, none⟩ = some (.int .i64 (wrap64 (Int.tmod (IntKind.u64.wrap (Int.tdiv (rd l0 0) 33554432)) 256))) := (blk_cell BK244.out 6).trans rfl; have hfz72_0 := blk_frozen BK244.out 0; have hfz72_1 := blk_frozen BK244.out 1; have hfz72_2 := blk_frozen BK244.out 2; have hfz72_3 := blk_frozen BK244.out 3; have hfz72_4 := blk_frozen BK244.out 4; have hfz72_5 := blk_frozen BK244.out 5; have hfz72_6 := blk_frozen BK244.out 6; obtain ⟨Ao73, co73, eo73⟩ := Kd.R_slice HO_245004.out; subst eo73; go_wp2_with (first | ((with_reducible refine gate_callee (f := 12) rfl ?_); refine goesL_ (some 139) rfl rfl Try.func12 (by kernel_rfl) rfl #[.agg #[.int .i64 (wrap64 (Int.tmod (rd l0 0) 4)), .int .i64 (wrap64 ((wrap64 (Int.tmod (IntKind.u64.wrap (Int.tdiv (rd l0 0) 4)) 256)) - 1)), .string t262, .string t267, .slice Ao73 x245004_34.length co73, .int .u64 (rd l0 1), .int .i64 (wrap64 (Int.tmod (IntKind.u64.wrap (Int.tdiv (rd l0 0) 33554432)) 256))]] rfl (by (try simp only [List.map_toArray, List.map_cons, List.map_nil]); first | done | rfl | (simp only [List.length_drop, List.length_take]; rfl)) ?_; (with_reducible refine (treillageref11_Pack.calls kj34 (wrap64 (Int.tmod (rd l0 0) 4)) (wrap64 ((wrap64 (Int.tmod (IntKind.u64.wrap (Int.tdiv (rd l0 0) 4)) 256)) - 1)) t262 t267 _ _ x245004_34 (rd l0 1) (wrap64 (Int.tmod (IntKind.u64.wrap (Int.tdiv (rd l0 0) 33554432)) 256)) t281 t284 _ ?side1 ?side2 A59.out).mono ?_); (case side1 => repeat (first | exact (Kd.R_reads' HO_245004.out).2.2 | (with_reducible refine Kd.C_alloc ?_ _) | (with_reducible refine Kd.C_drewN ?_ _) | (with_reducible refine Kd.C_drew ?_))); (case side2 => exact (Kd.R_reads' HO_245004.out).2.1); rintro e w74 ⟨v282, rfl, ho0, hb⟩; refine ⟨_, rfl, ?_⟩; have n0_ := aA (Kd.V_elder' (vlu HO_0.out) (Kd.R_base ho0) hb); have n1_ := aA (Kd.R_below (rlu HO_245004.out) hb); have n2_ := aA (Kd.R_lower (Kd.R_newM (M := fun k_ => (w.heap.size ≤ k_)) ho0 (below_size (bls HB.out)) (fun k_ h_ => h_)) (below_size (bls HB.out))); have n3_ := aA (blk_below (g := gb241) (o := .cells #[.int .i64 x242000_7, .int .i64 x242001_7, .string x242002_7, .string x242003_7, .slice none 0 0, .int .u64 x242005_7, .int .i64 x242006_7] 37 (0, 0)) (bku BK241.out) hb); have n4_ := aA (blk_below (g := gb244) (o := .cells #[.int .i64 (wrap64 (Int.tmod (rd l0 0) 4)), .int .i64 (wrap64 ((wrap64 (Int.tmod (IntKind.u64.wrap (Int.tdiv (rd l0 0) 4)) 256)) - 1)), .string t262, .string t267, .slice Ao73 x245004_34.length co73, .int .u64 (rd l0 1), .int .i64 (wrap64 (Int.tmod (IntKind.u64.wrap (Int.tdiv (rd l0 0) 33554432)) 256))] 37 (0, 0)) (bku BK244.out) hb); have n5_ := aA (below_step (bls HB.out) hb); clear HO_0 HO_245004 BK241 BK244 HB; have HO_0 := n0_; have HO_245004 := n1_; have HO283 := n2_; have BK241 := n3_; have BK244 := n4_; have HB := n5_; clear n0_ n1_ n2_ n3_ n4_ n5_; (try clear hb); (try clear hb2); (try clear hk); (try clear hi); (try clear ho0); obtain ⟨Ao75, co75, eo75⟩ := Kd.R_slice HO283.out; subst eo75) | (go_at_call 33; (with_reducible refine (treillageref11_same.calls kj34 _ _ t281 _ _ l0 false _ ?side1 ?side2 ?side3 ?side4 A62.out).mono ?_); (case side1 => repeat (first | exact (Kd.R_reads' HO283.out).2.2 | (with_reducible refine Kd.C_alloc ?_ _) | (with_reducible refine Kd.C_drewN ?_ _) | (with_reducible refine Kd.C_drew ?_))); (case side2 => exact (Kd.R_reads' HO283.out).2.1); (case side3 => repeat (first | exact (Kd.V_reads' HO_0.out).2.2 | (with_reducible refine Kd.C_alloc ?_ _) | (with_reducible refine Kd.C_drewN ?_ _) | (with_reducible refine Kd.C_drew ?_))); (case side4 => exact (Kd.V_reads' HO_0.out).2.1); rintro e w' ⟨rfl, ⟨nd, rfl⟩⟩; (try (rw [drewN_self w74]; generalize hq_ : World.drewN w74 _ = w74; have n0_ : Aside0 (Kd.R (Kd.int .u64) 23 w74 w.heap.size (fun k_ => (w.heap.size ≤ k_)) (.slice Ao75 t281.length co75) t281) := ⟨by rw [← hq_]; exact (rlu (Kd.R_mono HO283.out (fun _ hk => hk.1)))⟩; have n1_ : Aside0 (Kd.V (Kd.int .u64) 23 w74 w.heap.size (fun k_ => (P0_ k_ ∨ w.heap.size ≤ k_) ∧ some k_ ≠ (.slice Ao75 t281.length co75 : Value).ownBlock ∧ some k_ ≠ (.slice Ao73 x245004_34.length co73 : Value).ownBlock ∧ k_ ≠ gb241 ∧ k_ ≠ gb244) (.slice (some ad242) l0.length c0) l0) := ⟨by rw [← hq_]; exact (vlu (Kd.V_mono HO_0.out (fun _ hk => ⟨hk.1.1, ⟨hk.2, ⟨hk.1.2.1, ⟨hk.1.2.2.1, hk.1.2.2.2⟩⟩⟩⟩)))⟩; have n2_ : Aside0 (Kd.R Kd.string 9 w74 w.heap.size (fun k_ => (w.heap.size ≤ k_)) (.slice Ao73 x245004_34.length co73) x245004_34) := ⟨by rw [← hq_]; exact (rlu HO_245004.out)⟩; have n3_ : Aside0 (w74.heap[gb241]? = some (.cells #[.int .i64 x242000_7, .int .i64 x242001_7, .string x242002_7, .string x242003_7, .slice none 0 0, .int .u64 x242005_7, .int .i64 x242006_7] 37 (0, 0))) := ⟨by rw [← hq_]; exact (bku BK241.out)⟩; have n4_ : Aside0 (w74.heap[gb244]? = some (.cells #[.int .i64 (wrap64 (Int.tmod (rd l0 0) 4)), .int .i64 (wrap64 ((wrap64 (Int.tmod (IntKind.u64.wrap (Int.tdiv (rd l0 0) 4)) 256)) - 1)), .string t262, .string t267, .slice Ao73 x245004_34.length co73, .int .u64 (rd l0 1), .int .i64 (wrap64 (Int.tmod (IntKind.u64.wrap (Int.tdiv (rd l0 0) 33554432)) 256))] 37 (0, 0))) := ⟨by rw [← hq_]; exact (bku BK244.out)⟩; have n5_ : Aside0 (Below w.heap.size w w74) := ⟨by rw [← hq_]; exact (bls HB.out)⟩; clear HO283 HO_0 HO_245004 BK241 BK244 HB hq_; have HO283 := n0_; have HO_0 := n1_; have HO_245004 := n2_; have BK241 := n3_; have BK244 := n4_; have HB := n5_; clear n0_ n1_ n2_ n3_ n4_ n5_)); have hcz76_0 : w74.cell? ⟨gb241, 0, none⟩ = some (.int .i64 x242000_7) := (blk_cell BK241.out 0).trans rfl; have hcz76_1 : w74.cell? ⟨gb241, 1, none⟩ = some (.int .i64 x242001_7) := (blk_cell BK241.out 1).trans rfl; have hcz76_2 : w74.cell? ⟨gb241, 2, none⟩ = some (.string x242002_7) := (blk_cell BK241.out 2).trans rfl; have hcz76_3 : w74.cell? ⟨gb241, 3, none⟩ = some (.string x242003_7) := (blk_cell BK241.out 3).trans rfl; have hcz76_4 : w74.cell? ⟨gb241, 4, none⟩ = some (.slice none 0 0) := (blk_cell BK241.out 4).trans rfl; have hcz76_5 : w74.cell? ⟨gb241, 5, none⟩ = some (.int .u64 x242005_7) := (blk_cell BK241.out 5).trans rfl; have hcz76_6 : w74.cell? ⟨gb241, 6, none⟩ = some (.int .i64 x242006_7) := (blk_cell BK241.out 6).trans rfl; have hfz76_0 := blk_frozen BK241.out 0; have hfz76_1 := blk_frozen BK241.out 1; have hfz76_2 := blk_frozen BK241.out 2; have hfz76_3 := blk_frozen BK241.out 3; have hfz76_4 := blk_frozen BK241.out 4; have hfz76_5 := blk_frozen BK241.out 5; have hfz76_6 := blk_frozen BK241.out 6))
          refine bodyPost_ret (results_ct rfl _ _ gb241 37 #[.int .i64 0, .int .i64 0, .string (⟨#[]⟩ : ByteArray), .string (⟨#[]⟩ : ByteArray), .slice none 0 0, .int .u64 0, .int .i64 0] (0, 0) _ rfl (by (with_reducible repeat (first | refine blk_drewN ?_ _ | refine blk_drew ?_ | refine blk_alloc ?_ _)); refine blk_put (cs := #[.int .i64 0, .int .i64 0, .string (⟨#[]⟩ : ByteArray), .string (⟨#[]⟩ : ByteArray), .slice none 0 0, .int .u64 0, .int .i64 x242006_7]) ?_ 6 _ rfl; (with_reducible repeat (first | refine blk_drewN ?_ _ | refine blk_drew ?_ | refine blk_alloc ?_ _)); refine blk_put (cs := #[.int .i64 0, .int .i64 0, .string (⟨#[]⟩ : ByteArray), .string (⟨#[]⟩ : ByteArray), .slice none 0 0, .int .u64 x242005_7, .int .i64 x242006_7]) ?_ 5 _ rfl; (with_reducible repeat (first | refine blk_drewN ?_ _ | refine blk_drew ?_ | refine blk_alloc ?_ _)); refine blk_put (cs := #[.int .i64 0, .int .i64 0, .string (⟨#[]⟩ : ByteArray), .string (⟨#[]⟩ : ByteArray), .slice none 0 0, .int .u64 x242005_7, .int .i64 x242006_7]) ?_ 4 _ rfl; (with_reducible repeat (first | refine blk_drewN ?_ _ | refine blk_drew ?_ | refine blk_alloc ?_ _)); refine blk_put (cs := #[.int .i64 0, .int .i64 0, .string (⟨#[]⟩ : ByteArray), .string x242003_7, .slice none 0 0, .int .u64 x242005_7, .int .i64 x242006_7]) ?_ 3 _ rfl; (with_reducible repeat (first | refine blk_drewN ?_ _ | refine blk_drew ?_ | refine blk_alloc ?_ _)); refine blk_put (cs := #[.int .i64 0, .int .i64 0, .string x242002_7, .string x242003_7, .slice none 0 0, .int .u64 x242005_7, .int .i64 x242006_7]) ?_ 2 _ rfl; (with_reducible repeat (first | refine blk_drewN ?_ _ | refine blk_drew ?_ | refine blk_alloc ?_ _)); refine blk_put (cs := #[.int .i64 0, .int .i64 x242001_7, .string x242002_7, .string x242003_7, .slice none 0 0, .int .u64 x242005_7, .int .i64 x242006_7]) ?_ 1 _ rfl; (with_reducible repeat (first | refine blk_drewN ?_ _ | refine blk_drew ?_ | refine blk_alloc ?_ _)); refine blk_put (cs := #[.int .i64 x242000_7, .int .i64 x242001_7, .string x242002_7, .string x242003_7, .slice none 0 0, .int .u64 x242005_7, .int .i64 x242006_7]) ?_ 0 _ rfl; (with_reducible repeat (first | refine blk_drewN ?_ _ | refine blk_drew ?_ | refine blk_alloc ?_ _)); exact BK241.out) Try.underlying37 rfl (by kernel_rfl)) rfl ?_; exact ⟨_, by first | rfl | (simp [errW_none, errW_some] <;> rfl) | (simp [*, errW_none, errW_some] <;> rfl), by first | exact Kd.R_nil _ _ _ _ _ | exact Kd.N_nil _ _ _ _ _ | exact Kd.V_nil _ _ _ _ _ | exact Kd.Q_nil _ _ _ _ _ | exact Kd.S_nil _ _ _ _ _, by repeat (first | (with_reducible first | exact HB.out | apply below_alloc | apply pw_below_drewN | apply below_drew1 | refine below_set ?_ GE241.out | refine below_set ?_ GE244.out) | exact HB.out)⟩
        ·rw [if_neg c61] at H; have c61b0 : (t284 == 0) = false := beq_eq_false_iff_ne.mpr c61; have c61b1 : (t284 != 0) = true := bne_iff_ne.mpr c61; simp only [Option.some.injEq, Prod.mk.injEq] at H; obtain ⟨rfl, rfl, rfl, rfl, rfl, rfl, rfl, rfl⟩ := H; have hnb77 := NB244_241.out; have hnc77 := NB241_244.out; have hcz78_0 : wc.cell? ⟨gb244, 0, none⟩ = some (.int .i64 (wrap64 (Int.tmod (rd l0 0) 4))) := (blk_cell BK244.out 0).trans rfl; have hcz78_1 : wc.cell? ⟨gb244, 1, none⟩ = some (.int .i64 (wrap64 ((wrap64 (Int.tmod (IntKind.u64.wrap (Int.tdiv (rd l0 0) 4)) 256)) - 1))) := (blk_cell BK244.out 1).trans rfl; have hcz78_2 : wc.cell? ⟨gb244, 2, none⟩ = some (.string t262) := (blk_cell BK244.out 2).trans rfl; have hcz78_3 : wc.cell? ⟨gb244, 3, none⟩ = some (.string t267) := (blk_cell BK244.out 3).trans rfl; have hcz78_4 : wc.cell? ⟨gb244, 4, none⟩ = some (u245004) := (blk_cell BK244.out 4).trans rfl; have hcz78_5 : wc.cell? ⟨gb244, 5, none⟩ = some (.int .u64 (rd l0 1)) := (blk_cell BK244.out 5).trans rfl; have hcz78_6 : wc.cell? ⟨gb244, 6, none⟩ = some (.int .i64 (wrap64 (Int.tmod (IntKind.u64.wrap (Int.tdiv (rd l0 0) 33554432)) 256))) := (blk_cell BK244.out 6).trans rfl; have hfz78_0 := blk_frozen BK244.out 0; have hfz78_1 := blk_frozen BK244.out 1; have hfz78_2 := blk_frozen BK244.out 2; have hfz78_3 := blk_frozen BK244.out 3; have hfz78_4 := blk_frozen BK244.out 4; have hfz78_5 := blk_frozen BK244.out 5; have hfz78_6 := blk_frozen BK244.out 6; obtain ⟨Ao79, co79, eo79⟩ := Kd.R_slice HO_245004.out; subst eo79; go_wp2_with (first | ((with_reducible refine gate_callee (f := 12) rfl ?_); refine goesL_ (some 139) rfl rfl Try.func12 (by kernel_rfl) rfl #[.agg #[.int .i64 (wrap64 (Int.tmod (rd l0 0) 4)), .int .i64 (wrap64 ((wrap64 (Int.tmod (IntKind.u64.wrap (Int.tdiv (rd l0 0) 4)) 256)) - 1)), .string t262, .string t267, .slice Ao79 x245004_34.length co79, .int .u64 (rd l0 1), .int .i64 (wrap64 (Int.tmod (IntKind.u64.wrap (Int.tdiv (rd l0 0) 33554432)) 256))]] rfl (by (try simp only [List.map_toArray, List.map_cons, List.map_nil]); first | done | rfl | (simp only [List.length_drop, List.length_take]; rfl)) ?_; (with_reducible refine (treillageref11_Pack.calls kj34 (wrap64 (Int.tmod (rd l0 0) 4)) (wrap64 ((wrap64 (Int.tmod (IntKind.u64.wrap (Int.tdiv (rd l0 0) 4)) 256)) - 1)) t262 t267 _ _ x245004_34 (rd l0 1) (wrap64 (Int.tmod (IntKind.u64.wrap (Int.tdiv (rd l0 0) 33554432)) 256)) t281 t284 _ ?side1 ?side2 A59.out).mono ?_); (case side1 => repeat (first | exact (Kd.R_reads' HO_245004.out).2.2 | (with_reducible refine Kd.C_alloc ?_ _) | (with_reducible refine Kd.C_drewN ?_ _) | (with_reducible refine Kd.C_drew ?_))); (case side2 => exact (Kd.R_reads' HO_245004.out).2.1); rintro e w80 ⟨v282, rfl, ho0, hb⟩; refine ⟨_, rfl, ?_⟩; have n0_ := aA (Kd.V_elder' (vlu HO_0.out) (Kd.R_base ho0) hb); have n1_ := aA (Kd.R_below (rlu HO_245004.out) hb); have n2_ := aA (Kd.R_lower (Kd.R_newM (M := fun k_ => (w.heap.size ≤ k_)) ho0 (below_size (bls HB.out)) (fun k_ h_ => h_)) (below_size (bls HB.out))); have n3_ := aA (blk_below (g := gb241) (o := .cells #[.int .i64 x242000_7, .int .i64 x242001_7, .string x242002_7, .string x242003_7, .slice none 0 0, .int .u64 x242005_7, .int .i64 x242006_7] 37 (0, 0)) (bku BK241.out) hb); have n4_ := aA (blk_below (g := gb244) (o := .cells #[.int .i64 (wrap64 (Int.tmod (rd l0 0) 4)), .int .i64 (wrap64 ((wrap64 (Int.tmod (IntKind.u64.wrap (Int.tdiv (rd l0 0) 4)) 256)) - 1)), .string t262, .string t267, .slice Ao79 x245004_34.length co79, .int .u64 (rd l0 1), .int .i64 (wrap64 (Int.tmod (IntKind.u64.wrap (Int.tdiv (rd l0 0) 33554432)) 256))] 37 (0, 0)) (bku BK244.out) hb); have n5_ := aA (below_step (bls HB.out) hb); clear HO_0 HO_245004 BK241 BK244 HB; have HO_0 := n0_; have HO_245004 := n1_; have HO283 := n2_; have BK241 := n3_; have BK244 := n4_; have HB := n5_; clear n0_ n1_ n2_ n3_ n4_ n5_; (try clear hb); (try clear hb2); (try clear hk); (try clear hi); (try clear ho0); have hcz81_0 : w80.cell? ⟨gb241, 0, none⟩ = some (.int .i64 x242000_7) := (blk_cell BK241.out 0).trans rfl; have hcz81_1 : w80.cell? ⟨gb241, 1, none⟩ = some (.int .i64 x242001_7) := (blk_cell BK241.out 1).trans rfl; have hcz81_2 : w80.cell? ⟨gb241, 2, none⟩ = some (.string x242002_7) := (blk_cell BK241.out 2).trans rfl; have hcz81_3 : w80.cell? ⟨gb241, 3, none⟩ = some (.string x242003_7) := (blk_cell BK241.out 3).trans rfl; have hcz81_4 : w80.cell? ⟨gb241, 4, none⟩ = some (.slice none 0 0) := (blk_cell BK241.out 4).trans rfl; have hcz81_5 : w80.cell? ⟨gb241, 5, none⟩ = some (.int .u64 x242005_7) := (blk_cell BK241.out 5).trans rfl; have hcz81_6 : w80.cell? ⟨gb241, 6, none⟩ = some (.int .i64 x242006_7) := (blk_cell BK241.out 6).trans rfl; have hfz81_0 := blk_frozen BK241.out 0; have hfz81_1 := blk_frozen BK241.out 1; have hfz81_2 := blk_frozen BK241.out 2; have hfz81_3 := blk_frozen BK241.out 3; have hfz81_4 := blk_frozen BK241.out 4; have hfz81_5 := blk_frozen BK241.out 5; have hfz81_6 := blk_frozen BK241.out 6))
         refine bodyPost_ret (results_ct rfl _ _ gb241 37 #[.int .i64 0, .int .i64 0, .string (⟨#[]⟩ : ByteArray), .string (⟨#[]⟩ : ByteArray), .slice none 0 0, .int .u64 0, .int .i64 0] (0, 0) _ rfl (by (with_reducible repeat (first | refine blk_drewN ?_ _ | refine blk_drew ?_ | refine blk_alloc ?_ _)); refine blk_put (cs := #[.int .i64 0, .int .i64 0, .string (⟨#[]⟩ : ByteArray), .string (⟨#[]⟩ : ByteArray), .slice none 0 0, .int .u64 0, .int .i64 x242006_7]) ?_ 6 _ rfl; (with_reducible repeat (first | refine blk_drewN ?_ _ | refine blk_drew ?_ | refine blk_alloc ?_ _)); refine blk_put (cs := #[.int .i64 0, .int .i64 0, .string (⟨#[]⟩ : ByteArray), .string (⟨#[]⟩ : ByteArray), .slice none 0 0, .int .u64 x242005_7, .int .i64 x242006_7]) ?_ 5 _ rfl; (with_reducible repeat (first | refine blk_drewN ?_ _ | refine blk_drew ?_ | refine blk_alloc ?_ _)); refine blk_put (cs := #[.int .i64 0, .int .i64 0, .string (⟨#[]⟩ : ByteArray), .string (⟨#[]⟩ : ByteArray), .slice none 0 0, .int .u64 x242005_7, .int .i64 x242006_7]) ?_ 4 _ rfl; (with_reducible repeat (first | refine blk_drewN ?_ _ | refine blk_drew ?_ | refine blk_alloc ?_ _)); refine blk_put (cs := #[.int .i64 0, .int .i64 0, .string (⟨#[]⟩ : ByteArray), .string x242003_7, .slice none 0 0, .int .u64 x242005_7, .int .i64 x242006_7]) ?_ 3 _ rfl; (with_reducible repeat (first | refine blk_drewN ?_ _ | refine blk_drew ?_ | refine blk_alloc ?_ _)); refine blk_put (cs := #[.int .i64 0, .int .i64 0, .string x242002_7, .string x242003_7, .slice none 0 0, .int .u64 x242005_7, .int .i64 x242006_7]) ?_ 2 _ rfl; (with_reducible repeat (first | refine blk_drewN ?_ _ | refine blk_drew ?_ | refine blk_alloc ?_ _)); refine blk_put (cs := #[.int .i64 0, .int .i64 x242001_7, .string x242002_7, .string x242003_7, .slice none 0 0, .int .u64 x242005_7, .int .i64 x242006_7]) ?_ 1 _ rfl; (with_reducible repeat (first | refine blk_drewN ?_ _ | refine blk_drew ?_ | refine blk_alloc ?_ _)); refine blk_put (cs := #[.int .i64 x242000_7, .int .i64 x242001_7, .string x242002_7, .string x242003_7, .slice none 0 0, .int .u64 x242005_7, .int .i64 x242006_7]) ?_ 0 _ rfl; (with_reducible repeat (first | refine blk_drewN ?_ _ | refine blk_drew ?_ | refine blk_alloc ?_ _)); exact BK241.out) Try.underlying37 rfl (by kernel_rfl)) rfl ?_; exact ⟨_, by first | rfl | (simp [errW_none, errW_some] <;> rfl) | (simp [*, errW_none, errW_some] <;> rfl), by first | exact Kd.R_nil _ _ _ _ _ | exact Kd.N_nil _ _ _ _ _ | exact Kd.V_nil _ _ _ _ _ | exact Kd.Q_nil _ _ _ _ _ | exact Kd.S_nil _ _ _ _ _, by repeat (first | (with_reducible first | exact HB.out | apply below_alloc | apply pw_below_drewN | apply below_drew1 | refine below_set ?_ GE241.out | refine below_set ?_ GE244.out) | exact HB.out)⟩
       ·replace c60 := Bool.eq_false_iff.mpr c60; subst c60; have H1 : (some (0, 0, (⟨#[]⟩ : ByteArray), (⟨#[]⟩ : ByteArray), ([] : List ByteArray), 0, 0, 4)) = some (r1, r2, r3, r4, r5, r6, r7, r8) := by rw [if_neg (show ¬ (false = true) by decide)] at H; exact H
        clear H; have H := H1; clear H1; simp only [Option.some.injEq, Prod.mk.injEq] at H; obtain ⟨rfl, rfl, rfl, rfl, rfl, rfl, rfl, rfl⟩ := H; have hnb82 := NB244_241.out; have hnc82 := NB241_244.out; have hcz83_0 : wc.cell? ⟨gb244, 0, none⟩ = some (.int .i64 (wrap64 (Int.tmod (rd l0 0) 4))) := (blk_cell BK244.out 0).trans rfl; have hcz83_1 : wc.cell? ⟨gb244, 1, none⟩ = some (.int .i64 (wrap64 ((wrap64 (Int.tmod (IntKind.u64.wrap (Int.tdiv (rd l0 0) 4)) 256)) - 1))) := (blk_cell BK244.out 1).trans rfl; have hcz83_2 : wc.cell? ⟨gb244, 2, none⟩ = some (.string t262) := (blk_cell BK244.out 2).trans rfl; have hcz83_3 : wc.cell? ⟨gb244, 3, none⟩ = some (.string t267) := (blk_cell BK244.out 3).trans rfl; have hcz83_4 : wc.cell? ⟨gb244, 4, none⟩ = some (u245004) := (blk_cell BK244.out 4).trans rfl; have hcz83_5 : wc.cell? ⟨gb244, 5, none⟩ = some (.int .u64 (rd l0 1)) := (blk_cell BK244.out 5).trans rfl; have hcz83_6 : wc.cell? ⟨gb244, 6, none⟩ = some (.int .i64 (wrap64 (Int.tmod (IntKind.u64.wrap (Int.tdiv (rd l0 0) 33554432)) 256))) := (blk_cell BK244.out 6).trans rfl; have hfz83_0 := blk_frozen BK244.out 0; have hfz83_1 := blk_frozen BK244.out 1; have hfz83_2 := blk_frozen BK244.out 2; have hfz83_3 := blk_frozen BK244.out 3; have hfz83_4 := blk_frozen BK244.out 4; have hfz83_5 := blk_frozen BK244.out 5; have hfz83_6 := blk_frozen BK244.out 6; obtain ⟨Ao84, co84, eo84⟩ := Kd.R_slice HO_245004.out; subst eo84; go_wp2_with (first | ((with_reducible refine gate_callee (f := 12) rfl ?_); refine goesL_ (some 139) rfl rfl Try.func12 (by kernel_rfl) rfl #[.agg #[.int .i64 (wrap64 (Int.tmod (rd l0 0) 4)), .int .i64 (wrap64 ((wrap64 (Int.tmod (IntKind.u64.wrap (Int.tdiv (rd l0 0) 4)) 256)) - 1)), .string t262, .string t267, .slice Ao84 x245004_34.length co84, .int .u64 (rd l0 1), .int .i64 (wrap64 (Int.tmod (IntKind.u64.wrap (Int.tdiv (rd l0 0) 33554432)) 256))]] rfl (by (try simp only [List.map_toArray, List.map_cons, List.map_nil]); first | done | rfl | (simp only [List.length_drop, List.length_take]; rfl)) ?_; (with_reducible refine (treillageref11_Pack.calls kj34 (wrap64 (Int.tmod (rd l0 0) 4)) (wrap64 ((wrap64 (Int.tmod (IntKind.u64.wrap (Int.tdiv (rd l0 0) 4)) 256)) - 1)) t262 t267 _ _ x245004_34 (rd l0 1) (wrap64 (Int.tmod (IntKind.u64.wrap (Int.tdiv (rd l0 0) 33554432)) 256)) t281 t284 _ ?side1 ?side2 A59.out).mono ?_); (case side1 => repeat (first | exact (Kd.R_reads' HO_245004.out).2.2 | (with_reducible refine Kd.C_alloc ?_ _) | (with_reducible refine Kd.C_drewN ?_ _) | (with_reducible refine Kd.C_drew ?_))); (case side2 => exact (Kd.R_reads' HO_245004.out).2.1); rintro e w85 ⟨v282, rfl, ho0, hb⟩; refine ⟨_, rfl, ?_⟩; have n0_ := aA (Kd.V_elder' (vlu HO_0.out) (Kd.R_base ho0) hb); have n1_ := aA (Kd.R_below (rlu HO_245004.out) hb); have n2_ := aA (Kd.R_lower (Kd.R_newM (M := fun k_ => (w.heap.size ≤ k_)) ho0 (below_size (bls HB.out)) (fun k_ h_ => h_)) (below_size (bls HB.out))); have n3_ := aA (blk_below (g := gb241) (o := .cells #[.int .i64 x242000_7, .int .i64 x242001_7, .string x242002_7, .string x242003_7, .slice none 0 0, .int .u64 x242005_7, .int .i64 x242006_7] 37 (0, 0)) (bku BK241.out) hb); have n4_ := aA (blk_below (g := gb244) (o := .cells #[.int .i64 (wrap64 (Int.tmod (rd l0 0) 4)), .int .i64 (wrap64 ((wrap64 (Int.tmod (IntKind.u64.wrap (Int.tdiv (rd l0 0) 4)) 256)) - 1)), .string t262, .string t267, .slice Ao84 x245004_34.length co84, .int .u64 (rd l0 1), .int .i64 (wrap64 (Int.tmod (IntKind.u64.wrap (Int.tdiv (rd l0 0) 33554432)) 256))] 37 (0, 0)) (bku BK244.out) hb); have n5_ := aA (below_step (bls HB.out) hb); clear HO_0 HO_245004 BK241 BK244 HB; have HO_0 := n0_; have HO_245004 := n1_; have HO283 := n2_; have BK241 := n3_; have BK244 := n4_; have HB := n5_; clear n0_ n1_ n2_ n3_ n4_ n5_; (try clear hb); (try clear hb2); (try clear hk); (try clear hi); (try clear ho0); have hcz86_0 : w85.cell? ⟨gb241, 0, none⟩ = some (.int .i64 x242000_7) := (blk_cell BK241.out 0).trans rfl; have hcz86_1 : w85.cell? ⟨gb241, 1, none⟩ = some (.int .i64 x242001_7) := (blk_cell BK241.out 1).trans rfl; have hcz86_2 : w85.cell? ⟨gb241, 2, none⟩ = some (.string x242002_7) := (blk_cell BK241.out 2).trans rfl; have hcz86_3 : w85.cell? ⟨gb241, 3, none⟩ = some (.string x242003_7) := (blk_cell BK241.out 3).trans rfl; have hcz86_4 : w85.cell? ⟨gb241, 4, none⟩ = some (.slice none 0 0) := (blk_cell BK241.out 4).trans rfl; have hcz86_5 : w85.cell? ⟨gb241, 5, none⟩ = some (.int .u64 x242005_7) := (blk_cell BK241.out 5).trans rfl; have hcz86_6 : w85.cell? ⟨gb241, 6, none⟩ = some (.int .i64 x242006_7) := (blk_cell BK241.out 6).trans rfl; have hfz86_0 := blk_frozen BK241.out 0; have hfz86_1 := blk_frozen BK241.out 1; have hfz86_2 := blk_frozen BK241.out 2; have hfz86_3 := blk_frozen BK241.out 3; have hfz86_4 := blk_frozen BK241.out 4; have hfz86_5 := blk_frozen BK241.out 5; have hfz86_6 := blk_frozen BK241.out 6))
        refine bodyPost_ret (results_ct rfl _ _ gb241 37 #[.int .i64 0, .int .i64 0, .string (⟨#[]⟩ : ByteArray), .string (⟨#[]⟩ : ByteArray), .slice none 0 0, .int .u64 0, .int .i64 0] (0, 0) _ rfl (by (with_reducible repeat (first | refine blk_drewN ?_ _ | refine blk_drew ?_ | refine blk_alloc ?_ _)); refine blk_put (cs := #[.int .i64 0, .int .i64 0, .string (⟨#[]⟩ : ByteArray), .string (⟨#[]⟩ : ByteArray), .slice none 0 0, .int .u64 0, .int .i64 x242006_7]) ?_ 6 _ rfl; (with_reducible repeat (first | refine blk_drewN ?_ _ | refine blk_drew ?_ | refine blk_alloc ?_ _)); refine blk_put (cs := #[.int .i64 0, .int .i64 0, .string (⟨#[]⟩ : ByteArray), .string (⟨#[]⟩ : ByteArray), .slice none 0 0, .int .u64 x242005_7, .int .i64 x242006_7]) ?_ 5 _ rfl; (with_reducible repeat (first | refine blk_drewN ?_ _ | refine blk_drew ?_ | refine blk_alloc ?_ _)); refine blk_put (cs := #[.int .i64 0, .int .i64 0, .string (⟨#[]⟩ : ByteArray), .string (⟨#[]⟩ : ByteArray), .slice none 0 0, .int .u64 x242005_7, .int .i64 x242006_7]) ?_ 4 _ rfl; (with_reducible repeat (first | refine blk_drewN ?_ _ | refine blk_drew ?_ | refine blk_alloc ?_ _)); refine blk_put (cs := #[.int .i64 0, .int .i64 0, .string (⟨#[]⟩ : ByteArray), .string x242003_7, .slice none 0 0, .int .u64 x242005_7, .int .i64 x242006_7]) ?_ 3 _ rfl; (with_reducible repeat (first | refine blk_drewN ?_ _ | refine blk_drew ?_ | refine blk_alloc ?_ _)); refine blk_put (cs := #[.int .i64 0, .int .i64 0, .string x242002_7, .string x242003_7, .slice none 0 0, .int .u64 x242005_7, .int .i64 x242006_7]) ?_ 2 _ rfl; (with_reducible repeat (first | refine blk_drewN ?_ _ | refine blk_drew ?_ | refine blk_alloc ?_ _)); refine blk_put (cs := #[.int .i64 0, .int .i64 x242001_7, .string x242002_7, .string x242003_7, .slice none 0 0, .int .u64 x242005_7, .int .i64 x242006_7]) ?_ 1 _ rfl; (with_reducible repeat (first | refine blk_drewN ?_ _ | refine blk_drew ?_ | refine blk_alloc ?_ _)); refine blk_put (cs := #[.int .i64 x242000_7, .int .i64 x242001_7, .string x242002_7, .string x242003_7, .slice none 0 0, .int .u64 x242005_7, .int .i64 x242006_7]) ?_ 0 _ rfl; (with_reducible repeat (first | refine blk_drewN ?_ _ | refine blk_drew ?_ | refine blk_alloc ?_ _)); exact BK241.out) Try.underlying37 rfl (by kernel_rfl)) rfl ?_; exact ⟨_, by first | rfl | (simp [errW_none, errW_some] <;> rfl) | (simp [*, errW_none, errW_some] <;> rfl), by first | exact Kd.R_nil _ _ _ _ _ | exact Kd.N_nil _ _ _ _ _ | exact Kd.V_nil _ _ _ _ _ | exact Kd.Q_nil _ _ _ _ _ | exact Kd.S_nil _ _ _ _ _, by repeat (first | (with_reducible first | exact HB.out | apply below_alloc | apply pw_below_drewN | apply below_drew1 | refine below_set ?_ GE241.out | refine below_set ?_ GE244.out) | exact HB.out)⟩
    ·replace c33 := Bool.eq_false_iff.mpr c33; subst c33; have H1 : (some (0, 0, (⟨#[]⟩ : ByteArray), (⟨#[]⟩ : ByteArray), ([] : List ByteArray), 0, 0, 4)) = some (r1, r2, r3, r4, r5, r6, r7, r8) := by rw [if_neg (show ¬ (false = true) by decide)] at H; exact H
     clear H; have H := H1; clear H1; simp only [Option.some.injEq, Prod.mk.injEq] at H; obtain ⟨rfl, rfl, rfl, rfl, rfl, rfl, rfl, rfl⟩ := H; obtain ⟨Ao87, co87, eo87⟩ := Kd.V_slice HO_6.out; subst eo87; go_wp2_with (first | ((with_reducible refine gate_callee (f := 32) rfl ?_); refine goesL_ (some 92) rfl rfl Try.func32 (by kernel_rfl) rfl #[.slice Ao87 x6_7.length co87, .int .i64 (wrap64 (Int.tmod (IntKind.u64.wrap (Int.tdiv (rd l0 0) 1024)) 32))] rfl (by (try simp only [List.map_toArray, List.map_cons, List.map_nil]); first | done | rfl | (simp only [List.length_drop, List.length_take]; rfl)) ?_; (with_reducible refine (treillageref11_take.calls kj7 (fun k_ => ((P0_ k_ ∨ w.heap.size ≤ k_) ∧ (some k_ ≠ (u8 : Value).ownBlock ∧ (k_ ≠ gb241 ∧ k_ ≠ gb244)))) _ _ x6_7 (wrap64 (Int.tmod (IntKind.u64.wrap (Int.tdiv (rd l0 0) 1024)) 32)) t262 t263 false _ ?side1 A32.out).mono ?_); (case side1 => first | exact HO_6.out | exact V_below HO_6.out (blw (Below.refl _ _)) (fun k_ hk_ => by first | exact hk_ | exact ⟨⟨hk_.1, hk_.2.1⟩, hk_.2.2⟩)); rintro e w88 ⟨v264, rfl, ho0, hb⟩; refine ⟨_, rfl, ?_⟩; have n0_ := aA (Kd.V_below (vlu HO_0.out) hb); have n1_ := aA (Kd.V_below (vlu HO_6.out) hb); have n2_ := aA (Kd.R_below (rlu HO_8.out) hb); have n3_ := aA (Kd.V_lower (Kd.V_mono (ok' := fun k_ => (P0_ k_ ∨ w.heap.size ≤ k_) ∧ some k_ ≠ (u8 : Value).ownBlock ∧ k_ ≠ gb241 ∧ k_ ≠ gb244) ho0 (fun k_ hk_ => ⟨Or.elim hk_ (fun hs_ => hs_.1) (fun hn_ => (.inr (Nat.le_trans (below_size (bls HB.out)) hn_))), Or.elim hk_ (fun hs_ => hs_.2.1) (fun hn_ => (Kd.fresh' (Kd.R_lt (rlu HO_8.out)) k_ hn_)), Or.elim hk_ (fun hs_ => hs_.2.2.1) (fun hn_ => (Kd.freshB (g := gb241) (o := .cells #[.int .i64 x242000_7, .int .i64 x242001_7, .string x242002_7, .string x242003_7, .slice none 0 0, .int .u64 x242005_7, .int .i64 x242006_7] 37 (0, 0)) (bku BK241.out) k_ hn_)), Or.elim hk_ (fun hs_ => hs_.2.2.2) (fun hn_ => (Kd.freshB (g := gb244) (o := .cells #[.int .i64 (wrap64 (Int.tmod (rd l0 0) 4)), .int .i64 (wrap64 ((wrap64 (Int.tmod (IntKind.u64.wrap (Int.tdiv (rd l0 0) 4)) 256)) - 1)), .string (⟨#[]⟩ : ByteArray), .string (⟨#[]⟩ : ByteArray), .slice none 0 0, .int .u64 (rd l0 1), .int .i64 (wrap64 (Int.tmod (IntKind.u64.wrap (Int.tdiv (rd l0 0) 33554432)) 256))] 37 (0, 0)) (bku BK244.out) k_ hn_))⟩)) (below_size (bls HB.out))); have n4_ := aA (blk_below (g := gb241) (o := .cells #[.int .i64 x242000_7, .int .i64 x242001_7, .string x242002_7, .string x242003_7, .slice none 0 0, .int .u64 x242005_7, .int .i64 x242006_7] 37 (0, 0)) (bku BK241.out) hb); have n5_ := aA (blk_below (g := gb244) (o := .cells #[.int .i64 (wrap64 (Int.tmod (rd l0 0) 4)), .int .i64 (wrap64 ((wrap64 (Int.tmod (IntKind.u64.wrap (Int.tdiv (rd l0 0) 4)) 256)) - 1)), .string (⟨#[]⟩ : ByteArray), .string (⟨#[]⟩ : ByteArray), .slice none 0 0, .int .u64 (rd l0 1), .int .i64 (wrap64 (Int.tmod (IntKind.u64.wrap (Int.tdiv (rd l0 0) 33554432)) 256))] 37 (0, 0)) (bku BK244.out) hb); have n6_ := aA (below_step (bls HB.out) hb); clear HO_0 HO_6 HO_8 BK241 BK244 HB; have HO_0 := n0_; have HO_6 := n1_; have HO_8 := n2_; have HO265 := n3_; have BK241 := n4_; have BK244 := n5_; have HB := n6_; clear n0_ n1_ n2_ n3_ n4_ n5_ n6_; (try clear hb); (try clear hb2); (try clear hk); (try clear hi); (try clear ho0); have hnb89 := NB244_241.out; have hnc89 := NB241_244.out; have hcz90_0 : w88.cell? ⟨gb244, 0, none⟩ = some (.int .i64 (wrap64 (Int.tmod (rd l0 0) 4))) := (blk_cell BK244.out 0).trans rfl; have hcz90_1 : w88.cell? ⟨gb244, 1, none⟩ = some (.int .i64 (wrap64 ((wrap64 (Int.tmod (IntKind.u64.wrap (Int.tdiv (rd l0 0) 4)) 256)) - 1))) := (blk_cell BK244.out 1).trans rfl; have hcz90_2 : w88.cell? ⟨gb244, 2, none⟩ = some (.string (⟨#[]⟩ : ByteArray)) := (blk_cell BK244.out 2).trans rfl; have hcz90_3 : w88.cell? ⟨gb244, 3, none⟩ = some (.string (⟨#[]⟩ : ByteArray)) := (blk_cell BK244.out 3).trans rfl; have hcz90_4 : w88.cell? ⟨gb244, 4, none⟩ = some (.slice none 0 0) := (blk_cell BK244.out 4).trans rfl; have hcz90_5 : w88.cell? ⟨gb244, 5, none⟩ = some (.int .u64 (rd l0 1)) := (blk_cell BK244.out 5).trans rfl; have hcz90_6 : w88.cell? ⟨gb244, 6, none⟩ = some (.int .i64 (wrap64 (Int.tmod (IntKind.u64.wrap (Int.tdiv (rd l0 0) 33554432)) 256))) := (blk_cell BK244.out 6).trans rfl; have hfz90_0 := blk_frozen BK244.out 0; have hfz90_1 := blk_frozen BK244.out 1; have hfz90_2 := blk_frozen BK244.out 2; have hfz90_3 := blk_frozen BK244.out 3; have hfz90_4 := blk_frozen BK244.out 4; have hfz90_5 := blk_frozen BK244.out 5; have hfz90_6 := blk_frozen BK244.out 6; have hcz91_0 : w88.cell? ⟨gb241, 0, none⟩ = some (.int .i64 x242000_7) := (blk_cell BK241.out 0).trans rfl; have hcz91_1 : w88.cell? ⟨gb241, 1, none⟩ = some (.int .i64 x242001_7) := (blk_cell BK241.out 1).trans rfl; have hcz91_2 : w88.cell? ⟨gb241, 2, none⟩ = some (.string x242002_7) := (blk_cell BK241.out 2).trans rfl; have hcz91_3 : w88.cell? ⟨gb241, 3, none⟩ = some (.string x242003_7) := (blk_cell BK241.out 3).trans rfl; have hcz91_4 : w88.cell? ⟨gb241, 4, none⟩ = some (.slice none 0 0) := (blk_cell BK241.out 4).trans rfl; have hcz91_5 : w88.cell? ⟨gb241, 5, none⟩ = some (.int .u64 x242005_7) := (blk_cell BK241.out 5).trans rfl; have hcz91_6 : w88.cell? ⟨gb241, 6, none⟩ = some (.int .i64 x242006_7) := (blk_cell BK241.out 6).trans rfl; have hfz91_0 := blk_frozen BK241.out 0; have hfz91_1 := blk_frozen BK241.out 1; have hfz91_2 := blk_frozen BK241.out 2; have hfz91_3 := blk_frozen BK241.out 3; have hfz91_4 := blk_frozen BK241.out 4; have hfz91_5 := blk_frozen BK241.out 5; have hfz91_6 := blk_frozen BK241.out 6))
     refine bodyPost_ret (results_ct rfl _ _ gb241 37 #[.int .i64 0, .int .i64 0, .string (⟨#[]⟩ : ByteArray), .string (⟨#[]⟩ : ByteArray), .slice none 0 0, .int .u64 0, .int .i64 0] (0, 0) _ rfl (by (with_reducible repeat (first | refine blk_drewN ?_ _ | refine blk_drew ?_ | refine blk_alloc ?_ _)); refine blk_put (cs := #[.int .i64 0, .int .i64 0, .string (⟨#[]⟩ : ByteArray), .string (⟨#[]⟩ : ByteArray), .slice none 0 0, .int .u64 0, .int .i64 x242006_7]) ?_ 6 _ rfl; (with_reducible repeat (first | refine blk_drewN ?_ _ | refine blk_drew ?_ | refine blk_alloc ?_ _)); refine blk_put (cs := #[.int .i64 0, .int .i64 0, .string (⟨#[]⟩ : ByteArray), .string (⟨#[]⟩ : ByteArray), .slice none 0 0, .int .u64 x242005_7, .int .i64 x242006_7]) ?_ 5 _ rfl; (with_reducible repeat (first | refine blk_drewN ?_ _ | refine blk_drew ?_ | refine blk_alloc ?_ _)); refine blk_put (cs := #[.int .i64 0, .int .i64 0, .string (⟨#[]⟩ : ByteArray), .string (⟨#[]⟩ : ByteArray), .slice none 0 0, .int .u64 x242005_7, .int .i64 x242006_7]) ?_ 4 _ rfl; (with_reducible repeat (first | refine blk_drewN ?_ _ | refine blk_drew ?_ | refine blk_alloc ?_ _)); refine blk_put (cs := #[.int .i64 0, .int .i64 0, .string (⟨#[]⟩ : ByteArray), .string x242003_7, .slice none 0 0, .int .u64 x242005_7, .int .i64 x242006_7]) ?_ 3 _ rfl; (with_reducible repeat (first | refine blk_drewN ?_ _ | refine blk_drew ?_ | refine blk_alloc ?_ _)); refine blk_put (cs := #[.int .i64 0, .int .i64 0, .string x242002_7, .string x242003_7, .slice none 0 0, .int .u64 x242005_7, .int .i64 x242006_7]) ?_ 2 _ rfl; (with_reducible repeat (first | refine blk_drewN ?_ _ | refine blk_drew ?_ | refine blk_alloc ?_ _)); refine blk_put (cs := #[.int .i64 0, .int .i64 x242001_7, .string x242002_7, .string x242003_7, .slice none 0 0, .int .u64 x242005_7, .int .i64 x242006_7]) ?_ 1 _ rfl; (with_reducible repeat (first | refine blk_drewN ?_ _ | refine blk_drew ?_ | refine blk_alloc ?_ _)); refine blk_put (cs := #[.int .i64 x242000_7, .int .i64 x242001_7, .string x242002_7, .string x242003_7, .slice none 0 0, .int .u64 x242005_7, .int .i64 x242006_7]) ?_ 0 _ rfl; (with_reducible repeat (first | refine blk_drewN ?_ _ | refine blk_drew ?_ | refine blk_alloc ?_ _)); refine blk_far ?_ NB241_244.out _; (with_reducible repeat (first | refine blk_drewN ?_ _ | refine blk_drew ?_ | refine blk_alloc ?_ _)); exact BK241.out) Try.underlying37 rfl (by kernel_rfl)) rfl ?_; exact ⟨_, by first | rfl | (simp [errW_none, errW_some] <;> rfl) | (simp [*, errW_none, errW_some] <;> rfl), by first | exact Kd.R_nil _ _ _ _ _ | exact Kd.N_nil _ _ _ _ _ | exact Kd.V_nil _ _ _ _ _ | exact Kd.Q_nil _ _ _ _ _ | exact Kd.S_nil _ _ _ _ _, by repeat (first | (with_reducible first | exact HB.out | apply below_alloc | apply pw_below_drewN | apply below_drew1 | refine below_set ?_ GE241.out | refine below_set ?_ GE244.out) | exact HB.out)⟩
end Go.Proofs.Ytdjkadfgmhmhcaa.PT
