-- Written by wip/hprint/hprint.py (a program of this session, over the print): not typed by hand
import Derived.Test.YtdjkadfgmhmhcaaPTx0
import Derived.Test.YtdjkadfgmhmhcaaPTx6
import Derived.Test.YtdjkadfgmhmhcaaPTx7
namespace Go.Proofs.Ytdjkadfgmhmhcaa.PT
open Go.RowKit Go.Proofs.YtdjkadfgmhmhcaaW.PrintWords Go.Proofs.YtdjkadfgmhmhcaaW.PrintLast Go.Proofs.YtdjkadfgmhmhcaaW.PrintMore
attribute [local go_sem] max2_int min2_int max_two min_two max_three min_three max_four min_four   -- for this text's walks alone
open Go.Proofs.YtdjkadfgmhmhcaaH
set_option linter.unusedVariables false
set_option linter.unusedSimpArgs false

/-! ### treillageref11_Pack: function 12 -/
mutual
def treillageref11_Pack.j0 : Nat → Int → List Int → Int → Int → ByteArray → ByteArray → List ByteArray → Int → Int → Option (List Int × Int)
 | 0, _, _, _, _, _, _, _, _, _ => none
 | k + 1, x4, x5, x174000, x174001, x174002, x174003, x174004, x174005, x174006 => (treillageref11_Words.f k x174002).bind fun t195 => (if x5.length + t195.length < 17592186044416 then ((some (x5 ++ t195 : List Int)).bind fun y198 => ((treillageref11_Words.f k x174003).bind fun t201 => (if y198.length + t201.length < 17592186044416 then (treillageref11_Pack.l0 k x4 (y198 ++ t201) 0 x174000 x174001 x174002 x174003 x174004 x174005 x174006) else (none)))) else (none))
def treillageref11_Pack.l0 : Nat → Int → List Int → Int → Int → Int → ByteArray → ByteArray → List ByteArray → Int → Int → Option (List Int × Int)
 | 0, _, _, _, _, _, _, _, _, _, _ => none
 | k + 1, x4, x5, x6, x174000, x174001, x174002, x174003, x174004, x174005, x174006 => if x6 < x4 then (if 0 ≤ x6 then (if x6 < (x174004.length : Int) then ((treillageref11_Words.f k (rdOf ByteArray.empty x174004 x6)).bind fun t208 => (if x5.length + t208.length < 17592186044416 then (treillageref11_Pack.l0 k x4 (x5 ++ t208) (wrap64 (x6 + 1)) x174000 x174001 x174002 x174003 x174004 x174005 x174006) else (none))) else (none)) else (none)) else (some (x5, 0))
end
def treillageref11_Pack.f (k : Nat) (a0_0 : Int) (a0_1 : Int) (a0_2 : ByteArray) (a0_3 : ByteArray) (l0_4 : List ByteArray) (a0_5 : Int) (a0_6 : Int) : Option (List Int × Int) := (treillageref11_May.f k a0_0 a0_1 a0_2 a0_3 l0_4 a0_5 a0_6).bind fun t174 => (if t174 = true then ((treillageref11_number.f k (([IntKind.u64.wrap (a0_0), IntKind.u64.wrap (wrap64 (a0_1 + 1)), IntKind.u64.wrap ((a0_2.size : Int)), IntKind.u64.wrap ((a0_3.size : Int)), IntKind.u64.wrap (wrap64 ((l0_4.length : Int) / 2)), IntKind.u64.wrap (a0_6)] : List Int)) (([4, 256, 32, 64, 16, 256] : List Int))).bind fun t181 => ((some (([t181, a0_5] : List Int) : List Int)).bind fun y182 => (if (l0_4.length : Int) > 0 then (if 0 ≤ (mn (l0_4.length : Int) 8) then (if (mn (l0_4.length : Int) 8) ≤ (l0_4.length : Int) then ((treillageref11_sixes.f k (l0_4.take ((mn (l0_4.length : Int) 8) : Int).toNat)).bind fun t186 => ((treillageref11_sixes.f k (l0_4.drop ((mn (l0_4.length : Int) 8) : Int).toNat)).bind fun t188 => ((some (([t186, t188] : List Int) : List Int)).bind fun y189 => (if y182.length + y189.length < 17592186044416 then (treillageref11_Pack.j0 k (l0_4.length : Int) (y182 ++ y189) a0_0 a0_1 a0_2 a0_3 l0_4 a0_5 a0_6) else (none))))) else (none)) else (none)) else (treillageref11_Pack.j0 k (l0_4.length : Int) y182 a0_0 a0_1 a0_2 a0_3 l0_4 a0_5 a0_6)))) else (some (([] : List Int), 1)))
theorem treillageref11_Pack.mono_l : ∀ k, (∀ y0 y1 y2 y3 y4 y5 y6 y7 y8, LeO (treillageref11_Pack.j0 k y0 y1 y2 y3 y4 y5 y6 y7 y8) (treillageref11_Pack.j0 (k + 1) y0 y1 y2 y3 y4 y5 y6 y7 y8)) ∧ (∀ y0 y1 y2 y3 y4 y5 y6 y7 y8 y9, LeO (treillageref11_Pack.l0 k y0 y1 y2 y3 y4 y5 y6 y7 y8 y9) (treillageref11_Pack.l0 (k + 1) y0 y1 y2 y3 y4 y5 y6 y7 y8 y9))
 | 0 => ⟨fun _ _ _ _ _ _ _ _ _ r h => by simp [treillageref11_Pack.j0] at h, fun _ _ _ _ _ _ _ _ _ _ r h => by simp [treillageref11_Pack.l0] at h⟩
 | k + 1 => by
  obtain ⟨ih0, ih1⟩ := treillageref11_Pack.mono_l k; refine ⟨?_, ?_⟩
  ·intro y0 y1 y2 y3 y4 y5 y6 y7 y8
   unfold treillageref11_Pack.j0; repeat' first
   | (with_reducible exact ih0 _ _ _ _ _ _ _ _ _)
   | (with_reducible exact ih1 _ _ _ _ _ _ _ _ _ _)
   | (with_reducible exact treillageref11_May.mono _ _ _ _ _ _ _ _)
   | (with_reducible exact treillageref11_Words.mono _ _)
   | (with_reducible exact treillageref11_number.mono _ _ _)
   | (with_reducible exact treillageref11_sixes.mono _ _)
   | (with_reducible exact LeO.refl _)
   | (with_reducible exact LeO.none _)
   | (with_reducible refine LeO.ite ?_ ?_)
   | (with_reducible refine LeO.bind ?_ (fun _ => ?_))
   | exact ih0 _ _ _ _ _ _ _ _ _
   | exact ih1 _ _ _ _ _ _ _ _ _ _
   | exact treillageref11_May.mono _ _ _ _ _ _ _ _
   | exact treillageref11_Words.mono _ _
   | exact treillageref11_number.mono _ _ _
   | exact treillageref11_sixes.mono _ _
   | exact LeO.none _
   | refine LeO.ite ?_ ?_
   | refine LeO.bind ?_ (fun _ => ?_)
  ·intro y0 y1 y2 y3 y4 y5 y6 y7 y8 y9
   unfold treillageref11_Pack.l0; repeat' first
   | (with_reducible exact ih0 _ _ _ _ _ _ _ _ _)
   | (with_reducible exact ih1 _ _ _ _ _ _ _ _ _ _)
   | (with_reducible exact treillageref11_May.mono _ _ _ _ _ _ _ _)
   | (with_reducible exact treillageref11_Words.mono _ _)
   | (with_reducible exact treillageref11_number.mono _ _ _)
   | (with_reducible exact treillageref11_sixes.mono _ _)
   | (with_reducible exact LeO.refl _)
   | (with_reducible exact LeO.none _)
   | (with_reducible refine LeO.ite ?_ ?_)
   | (with_reducible refine LeO.bind ?_ (fun _ => ?_))
   | exact ih0 _ _ _ _ _ _ _ _ _
   | exact ih1 _ _ _ _ _ _ _ _ _ _
   | exact treillageref11_May.mono _ _ _ _ _ _ _ _
   | exact treillageref11_Words.mono _ _
   | exact treillageref11_number.mono _ _ _
   | exact treillageref11_sixes.mono _ _
   | exact LeO.none _
   | refine LeO.ite ?_ ?_
   | refine LeO.bind ?_ (fun _ => ?_)
theorem treillageref11_Pack.mono : ∀ a0 a1 a2 a3 a4 a5 a6 k, LeO (treillageref11_Pack.f k a0 a1 a2 a3 a4 a5 a6) (treillageref11_Pack.f (k + 1) a0 a1 a2 a3 a4 a5 a6) := by
 intro a0 a1 a2 a3 a4 a5 a6 k
 obtain ⟨ih0, ih1⟩ := treillageref11_Pack.mono_l k; unfold treillageref11_Pack.f
 repeat' first
   | (with_reducible exact ih0 _ _ _ _ _ _ _ _ _)
   | (with_reducible exact ih1 _ _ _ _ _ _ _ _ _ _)
   | (with_reducible exact treillageref11_May.mono _ _ _ _ _ _ _ _)
   | (with_reducible exact treillageref11_Words.mono _ _)
   | (with_reducible exact treillageref11_number.mono _ _ _)
   | (with_reducible exact treillageref11_sixes.mono _ _)
   | (with_reducible exact LeO.refl _)
   | (with_reducible exact LeO.none _)
   | (with_reducible refine LeO.ite ?_ ?_)
   | (with_reducible refine LeO.bind ?_ (fun _ => ?_))
   | exact ih0 _ _ _ _ _ _ _ _ _
   | exact ih1 _ _ _ _ _ _ _ _ _ _
   | exact treillageref11_May.mono _ _ _ _ _ _ _ _
   | exact treillageref11_Words.mono _ _
   | exact treillageref11_number.mono _ _ _
   | exact treillageref11_sixes.mono _ _
   | exact LeO.none _
   | refine LeO.ite ?_ ?_
   | refine LeO.bind ?_ (fun _ => ?_)
def treillageref11_Pack.T4 : Bool × List (List Nat × List Nat) := (true, [([], []), ([0], [0]), ([1], [1]), ([], []), ([3], [3]), ([4], [4]), ([5], [5]), ([], []), ([7], [7]), ([8], [8]), ([9], [9]), ([], []), ([11], [11]), ([12], [12]), ([13], [13]), ([], []), ([15], [15]), ([16], [16]), ([], []), ([18], [18]), ([19], [19]), ([20], [20]), ([2, 6, 10, 14, 17, 21], [2, 6, 10, 14, 17, 21]), ([], []), ([22, 23], [22, 23]), ([], []), ([25], [25]), ([26], [26]), ([24, 27], [24, 27]), ([28, 24, 0, 1, 2, 3, 4, 5, 6, 7, 8, 9, 10, 11, 12, 13, 14, 15, 16, 17, 18, 19, 20, 21, 22, 23, 24, 25, 26, 27, 28], [28])])
def treillageref11_Pack.B4 : List Nat := [0, 1, 3, 0, 8, 24, 56, 0, 128, 384, 896, 0, 2048, 6144, 14336, 0, 32768, 98304, 0, 262144, 786432, 1835008, 4194303, 0, 16777215, 0, 33554432, 100663296, 268435455, 536870911]
theorem treillageref11_Pack.tab4 : rtab .any (opsOf Try.f12 4) = treillageref11_Pack.T4 := by kernel_rfl
theorem treillageref11_Pack.bits4 : waitsOk treillageref11_Pack.T4.2 treillageref11_Pack.B4 = true := by kernel_rfl
def treillageref11_Pack.T6 : Bool × List (List Nat × List Nat) := (true, [([], []), ([], []), ([1], [1]), ([], []), ([3], [3]), ([2, 4], [2, 4]), ([5], [5]), ([], []), ([7], [7]), ([], []), ([9], [9]), ([8, 10], [8, 10]), ([11, 6], [11]), ([6, 12], [6, 12]), ([0, 13, 12], [0, 13]), ([14, 14, 0, 1, 2, 3, 4, 5, 6, 7, 8, 9, 10, 11, 12, 13, 14], [0, 14])])
def treillageref11_Pack.B6 : List Nat := [0, 0, 2, 0, 8, 30, 62, 0, 128, 0, 512, 1920, 4094, 8190, 16383, 32767]
theorem treillageref11_Pack.tab6 : rtab .any (opsOf Try.f12 6) = treillageref11_Pack.T6 := by kernel_rfl
theorem treillageref11_Pack.bits6 : waitsOk treillageref11_Pack.T6.2 treillageref11_Pack.B6 = true := by kernel_rfl
set_option maxHeartbeats 8000000 in
set_option maxRecDepth 100000 in
theorem treillageref11_Pack.calls (k : Nat) (a0_0 : Int) (a0_1 : Int) (a0_2 : ByteArray) (a0_3 : ByteArray) (A0_4 : Option Addr) (c0_4 : Nat) (l0_4 : List ByteArray) (a0_5 : Int) (a0_6 : Int) (r1 : List Int) (r2 : Int) (w : World) (hr0_4 : Kd.C Kd.string w A0_4 l0_4.length l0_4) (hc0_4 : l0_4.length ≤ c0_4) (h : treillageref11_Pack.f k a0_0 a0_1 a0_2 a0_3 l0_4 a0_5 a0_6 = some (r1, r2)) :
  Calls Try.prog 12 #[.agg #[.int .i64 a0_0, .int .i64 a0_1, .string a0_2, .string a0_3, .slice A0_4 l0_4.length c0_4, .int .u64 a0_5, .int .i64 a0_6]] w fun e w' => ∃ v0_ : Value, e = .returned (.tuple #[v0_, .int .i64 r2]) ∧ Kd.R (Kd.int .u64) 23 w' w.heap.size (fun _ => True) v0_ r1 ∧ Below w.heap.size w w' := by
 have hu37 := Try.underlying37; have HR0_4 := aA hr0_4; have HC0_4 := aA hc0_4; clear hr0_4 hc0_4; have HB := aA (Below.refl w.heap.size w); have H : ((treillageref11_May.f k a0_0 a0_1 a0_2 a0_3 l0_4 a0_5 a0_6).bind fun t174 => (if t174 = true then ((treillageref11_number.f k (([IntKind.u64.wrap (a0_0), IntKind.u64.wrap (wrap64 (a0_1 + 1)), IntKind.u64.wrap ((a0_2.size : Int)), IntKind.u64.wrap ((a0_3.size : Int)), IntKind.u64.wrap (wrap64 ((l0_4.length : Int) / 2)), IntKind.u64.wrap (a0_6)] : List Int)) (([4, 256, 32, 64, 16, 256] : List Int))).bind fun t181 => ((some (([t181, a0_5] : List Int) : List Int)).bind fun y182 => (if (l0_4.length : Int) > 0 then (if 0 ≤ (mn (l0_4.length : Int) 8) then (if (mn (l0_4.length : Int) 8) ≤ (l0_4.length : Int) then ((treillageref11_sixes.f k (l0_4.take ((mn (l0_4.length : Int) 8) : Int).toNat)).bind fun t186 => ((treillageref11_sixes.f k (l0_4.drop ((mn (l0_4.length : Int) 8) : Int).toNat)).bind fun t188 => ((some (([t186, t188] : List Int) : List Int)).bind fun y189 => (if y182.length + y189.length < 17592186044416 then (treillageref11_Pack.j0 k (l0_4.length : Int) (y182 ++ y189) a0_0 a0_1 a0_2 a0_3 l0_4 a0_5 a0_6) else (none))))) else (none)) else (none)) else (treillageref11_Pack.j0 k (l0_4.length : Int) y182 a0_0 a0_1 a0_2 a0_3 l0_4 a0_5 a0_6)))) else (some (([] : List Int), 1)))) = some (r1, r2) := h; clear h; replace H := Option.bind_eq_some_iff.mp H; obtain ⟨t174, A20, H⟩ := H; replace H : (if t174 = true then ((treillageref11_number.f k (([IntKind.u64.wrap (a0_0), IntKind.u64.wrap (wrap64 (a0_1 + 1)), IntKind.u64.wrap ((a0_2.size : Int)), IntKind.u64.wrap ((a0_3.size : Int)), IntKind.u64.wrap (wrap64 ((l0_4.length : Int) / 2)), IntKind.u64.wrap (a0_6)] : List Int)) (([4, 256, 32, 64, 16, 256] : List Int))).bind fun t181 => ((some (([t181, a0_5] : List Int) : List Int)).bind fun y182 => (if (l0_4.length : Int) > 0 then (if 0 ≤ (mn (l0_4.length : Int) 8) then (if (mn (l0_4.length : Int) 8) ≤ (l0_4.length : Int) then ((treillageref11_sixes.f k (l0_4.take ((mn (l0_4.length : Int) 8) : Int).toNat)).bind fun t186 => ((treillageref11_sixes.f k (l0_4.drop ((mn (l0_4.length : Int) 8) : Int).toNat)).bind fun t188 => ((some (([t186, t188] : List Int) : List Int)).bind fun y189 => (if y182.length + y189.length < 17592186044416 then (treillageref11_Pack.j0 k (l0_4.length : Int) (y182 ++ y189) a0_0 a0_1 a0_2 a0_3 l0_4 a0_5 a0_6) else (none))))) else (none)) else (none)) else (treillageref11_Pack.j0 k (l0_4.length : Int) y182 a0_0 a0_1 a0_2 a0_3 l0_4 a0_5 a0_6)))) else (some (([] : List Int), 1))) = some (r1, r2) := H; have A2 := aA A20; clear A20; by_cases c3 : t174 = true
 ·subst c3; have H1 : ((treillageref11_number.f k (([IntKind.u64.wrap (a0_0), IntKind.u64.wrap (wrap64 (a0_1 + 1)), IntKind.u64.wrap ((a0_2.size : Int)), IntKind.u64.wrap ((a0_3.size : Int)), IntKind.u64.wrap (wrap64 ((l0_4.length : Int) / 2)), IntKind.u64.wrap (a0_6)] : List Int)) (([4, 256, 32, 64, 16, 256] : List Int))).bind fun t181 => ((some (([t181, a0_5] : List Int) : List Int)).bind fun y182 => (if (l0_4.length : Int) > 0 then (if 0 ≤ (mn (l0_4.length : Int) 8) then (if (mn (l0_4.length : Int) 8) ≤ (l0_4.length : Int) then ((treillageref11_sixes.f k (l0_4.take ((mn (l0_4.length : Int) 8) : Int).toNat)).bind fun t186 => ((treillageref11_sixes.f k (l0_4.drop ((mn (l0_4.length : Int) 8) : Int).toNat)).bind fun t188 => ((some (([t186, t188] : List Int) : List Int)).bind fun y189 => (if y182.length + y189.length < 17592186044416 then (treillageref11_Pack.j0 k (l0_4.length : Int) (y182 ++ y189) a0_0 a0_1 a0_2 a0_3 l0_4 a0_5 a0_6) else (none))))) else (none)) else (none)) else (treillageref11_Pack.j0 k (l0_4.length : Int) y182 a0_0 a0_1 a0_2 a0_3 l0_4 a0_5 a0_6)))) = some (r1, r2) := by rw [if_pos rfl] at H; exact H
  clear H; have H := H1; clear H1; obtain ⟨y175, hy175⟩ : ∃ y_ : List Int, y_ = (([IntKind.u64.wrap (a0_0), IntKind.u64.wrap (wrap64 (a0_1 + 1)), IntKind.u64.wrap ((a0_2.size : Int)), IntKind.u64.wrap ((a0_3.size : Int)), IntKind.u64.wrap (wrap64 ((l0_4.length : Int) / 2)), IntKind.u64.wrap (a0_6)] : List Int)) := ⟨_, rfl⟩; replace H : ((treillageref11_number.f k y175 (([4, 256, 32, 64, 16, 256] : List Int))).bind fun t181 => ((some (([t181, a0_5] : List Int) : List Int)).bind fun y182 => (if (l0_4.length : Int) > 0 then (if 0 ≤ (mn (l0_4.length : Int) 8) then (if (mn (l0_4.length : Int) 8) ≤ (l0_4.length : Int) then ((treillageref11_sixes.f k (l0_4.take ((mn (l0_4.length : Int) 8) : Int).toNat)).bind fun t186 => ((treillageref11_sixes.f k (l0_4.drop ((mn (l0_4.length : Int) 8) : Int).toNat)).bind fun t188 => ((some (([t186, t188] : List Int) : List Int)).bind fun y189 => (if y182.length + y189.length < 17592186044416 then (treillageref11_Pack.j0 k (l0_4.length : Int) (y182 ++ y189) a0_0 a0_1 a0_2 a0_3 l0_4 a0_5 a0_6) else (none))))) else (none)) else (none)) else (treillageref11_Pack.j0 k (l0_4.length : Int) y182 a0_0 a0_1 a0_2 a0_3 l0_4 a0_5 a0_6)))) = some (r1, r2) := by first | (rw [hy175]; with_reducible exact H) | (have H2_ := (Option.bind_some _ _).symm.trans H; rw [hy175]; with_reducible exact H2_) | (have H2_ := (Option.bind_some _ _).symm.trans H; with_reducible exact H2_) | with_reducible exact H | (rw [hy175]; exact H) | exact H
  have Ny175 := aA hy175; clear hy175; obtain ⟨y178, hy178⟩ : ∃ y_ : List Int, y_ = (([4, 256, 32, 64, 16, 256] : List Int)) := ⟨_, rfl⟩; replace H : ((treillageref11_number.f k y175 y178).bind fun t181 => ((some (([t181, a0_5] : List Int) : List Int)).bind fun y182 => (if (l0_4.length : Int) > 0 then (if 0 ≤ (mn (l0_4.length : Int) 8) then (if (mn (l0_4.length : Int) 8) ≤ (l0_4.length : Int) then ((treillageref11_sixes.f k (l0_4.take ((mn (l0_4.length : Int) 8) : Int).toNat)).bind fun t186 => ((treillageref11_sixes.f k (l0_4.drop ((mn (l0_4.length : Int) 8) : Int).toNat)).bind fun t188 => ((some (([t186, t188] : List Int) : List Int)).bind fun y189 => (if y182.length + y189.length < 17592186044416 then (treillageref11_Pack.j0 k (l0_4.length : Int) (y182 ++ y189) a0_0 a0_1 a0_2 a0_3 l0_4 a0_5 a0_6) else (none))))) else (none)) else (none)) else (treillageref11_Pack.j0 k (l0_4.length : Int) y182 a0_0 a0_1 a0_2 a0_3 l0_4 a0_5 a0_6)))) = some (r1, r2) := by first | (rw [hy178]; with_reducible exact H) | (have H2_ := (Option.bind_some _ _).symm.trans H; rw [hy178]; with_reducible exact H2_) | (have H2_ := (Option.bind_some _ _).symm.trans H; with_reducible exact H2_) | with_reducible exact H | (rw [hy178]; exact H) | exact H
  have Ny178 := aA hy178; clear hy178; replace H := Option.bind_eq_some_iff.mp H; obtain ⟨t181, A40, H⟩ := H; replace H : ((some (([t181, a0_5] : List Int) : List Int)).bind fun y182 => (if (l0_4.length : Int) > 0 then (if 0 ≤ (mn (l0_4.length : Int) 8) then (if (mn (l0_4.length : Int) 8) ≤ (l0_4.length : Int) then ((treillageref11_sixes.f k (l0_4.take ((mn (l0_4.length : Int) 8) : Int).toNat)).bind fun t186 => ((treillageref11_sixes.f k (l0_4.drop ((mn (l0_4.length : Int) 8) : Int).toNat)).bind fun t188 => ((some (([t186, t188] : List Int) : List Int)).bind fun y189 => (if y182.length + y189.length < 17592186044416 then (treillageref11_Pack.j0 k (l0_4.length : Int) (y182 ++ y189) a0_0 a0_1 a0_2 a0_3 l0_4 a0_5 a0_6) else (none))))) else (none)) else (none)) else (treillageref11_Pack.j0 k (l0_4.length : Int) y182 a0_0 a0_1 a0_2 a0_3 l0_4 a0_5 a0_6))) = some (r1, r2) := H; have A4 := aA A40; clear A40; obtain ⟨y182, hy182⟩ : ∃ y_ : List Int, y_ = (([t181, a0_5] : List Int)) := ⟨_, rfl⟩; replace H : (if (l0_4.length : Int) > 0 then (if 0 ≤ (mn (l0_4.length : Int) 8) then (if (mn (l0_4.length : Int) 8) ≤ (l0_4.length : Int) then ((treillageref11_sixes.f k (l0_4.take ((mn (l0_4.length : Int) 8) : Int).toNat)).bind fun t186 => ((treillageref11_sixes.f k (l0_4.drop ((mn (l0_4.length : Int) 8) : Int).toNat)).bind fun t188 => ((some (([t186, t188] : List Int) : List Int)).bind fun y189 => (if y182.length + y189.length < 17592186044416 then (treillageref11_Pack.j0 k (l0_4.length : Int) (y182 ++ y189) a0_0 a0_1 a0_2 a0_3 l0_4 a0_5 a0_6) else (none))))) else (none)) else (none)) else (treillageref11_Pack.j0 k (l0_4.length : Int) y182 a0_0 a0_1 a0_2 a0_3 l0_4 a0_5 a0_6)) = some (r1, r2) := by first | (rw [hy182]; with_reducible exact H) | (have H2_ := (Option.bind_some _ _).symm.trans H; rw [hy182]; with_reducible exact H2_) | (have H2_ := (Option.bind_some _ _).symm.trans H; with_reducible exact H2_) | with_reducible exact H | (rw [hy182]; exact H) | exact H
  have Ny182 := aA hy182; clear hy182; have HC5 := aA H; clear H; go_enter Try.func12, Try.ntmps12; try go_wp2_with (first | ((with_reducible refine gate_dst (N := 1) rfl ?_); refine box_event ?hg (N := 1) ?hd (cs := #[.int .i64 a0_0, .int .i64 a0_1, .string a0_2, .string a0_3, .slice A0_4 l0_4.length c0_4, .int .u64 a0_5, .int .i64 a0_6]) (t := 37) ?hr ?_; (case hd => rfl); (case hg => rfl); (case hr => first | (go_simp; done) | (go_simp; rfl)); intro gb173 hg w6 hbox hb; have n0_ := aA (below_step (blw HB.out) hb); have n1_ := aA (hbox); have n2_ := aA ((by rw [hg]; exact (below_size (blw HB.out)) : w.heap.size ≤ gb173)); have n3_ := aA ((by rw [hg]; exact (below_size (blw HB.out)) : w.heap.size ≤ gb173)); clear HB; have HB := n0_; have BK173 := n1_; have GW173 := n2_; have GE173 := n3_; clear n0_ n1_ n2_ n3_ hb hbox hg; have hcz7_0 : w6.cell? ⟨gb173, 0, none⟩ = some (.int .i64 a0_0) := (blk_cell BK173.out 0).trans rfl; have hcz7_1 : w6.cell? ⟨gb173, 1, none⟩ = some (.int .i64 a0_1) := (blk_cell BK173.out 1).trans rfl; have hcz7_2 : w6.cell? ⟨gb173, 2, none⟩ = some (.string a0_2) := (blk_cell BK173.out 2).trans rfl; have hcz7_3 : w6.cell? ⟨gb173, 3, none⟩ = some (.string a0_3) := (blk_cell BK173.out 3).trans rfl; have hcz7_4 : w6.cell? ⟨gb173, 4, none⟩ = some (.slice A0_4 l0_4.length c0_4) := (blk_cell BK173.out 4).trans rfl; have hcz7_5 : w6.cell? ⟨gb173, 5, none⟩ = some (.int .u64 a0_5) := (blk_cell BK173.out 5).trans rfl; have hcz7_6 : w6.cell? ⟨gb173, 6, none⟩ = some (.int .i64 a0_6) := (blk_cell BK173.out 6).trans rfl; have hfz7_0 := blk_frozen BK173.out 0; have hfz7_1 := blk_frozen BK173.out 1; have hfz7_2 := blk_frozen BK173.out 2; have hfz7_3 := blk_frozen BK173.out 3; have hfz7_4 := blk_frozen BK173.out 4; have hfz7_5 := blk_frozen BK173.out 5; have hfz7_6 := blk_frozen BK173.out 6) | ((with_reducible refine gate_callee (f := 17) rfl ?_); refine goesL_ (some 8) rfl rfl Try.func17 (by kernel_rfl) rfl #[.agg #[.int .i64 a0_0, .int .i64 a0_1, .string a0_2, .string a0_3, .slice A0_4 l0_4.length c0_4, .int .u64 a0_5, .int .i64 a0_6]] rfl (by (try simp only [List.map_toArray, List.map_cons, List.map_nil]); first | done | rfl | (simp only [List.length_drop, List.length_take]; rfl)) ?_; (with_reducible refine (treillageref11_May.calls k a0_0 a0_1 a0_2 a0_3 _ _ l0_4 a0_5 a0_6 true _ ?side1 ?side2 A2.out).mono ?_); (case side1 => repeat (first | exact (Kd.C_below HR0_4.out HB.out) | (with_reducible refine Kd.C_alloc ?_ _) | (with_reducible refine Kd.C_drewN ?_ _) | (with_reducible refine Kd.C_drew ?_))); (case side2 => exact HC0_4.out); rintro e w8 ⟨rfl, hb⟩; refine ⟨_, rfl, ?_⟩; have n0_ := aA (blk_below (g := gb173) (o := .cells #[.int .i64 a0_0, .int .i64 a0_1, .string a0_2, .string a0_3, .slice A0_4 l0_4.length c0_4, .int .u64 a0_5, .int .i64 a0_6] 37 (0, 0)) (bku BK173.out) hb); have n1_ := aA (below_step (bls HB.out) hb); clear BK173 HB; have BK173 := n0_; have HB := n1_; clear n0_ n1_; (try clear hb); (try clear hb2); (try clear hk); (try clear hi); have hcz9_0 : w8.cell? ⟨gb173, 0, none⟩ = some (.int .i64 a0_0) := (blk_cell BK173.out 0).trans rfl; have hcz9_1 : w8.cell? ⟨gb173, 1, none⟩ = some (.int .i64 a0_1) := (blk_cell BK173.out 1).trans rfl; have hcz9_2 : w8.cell? ⟨gb173, 2, none⟩ = some (.string a0_2) := (blk_cell BK173.out 2).trans rfl; have hcz9_3 : w8.cell? ⟨gb173, 3, none⟩ = some (.string a0_3) := (blk_cell BK173.out 3).trans rfl; have hcz9_4 : w8.cell? ⟨gb173, 4, none⟩ = some (.slice A0_4 l0_4.length c0_4) := (blk_cell BK173.out 4).trans rfl; have hcz9_5 : w8.cell? ⟨gb173, 5, none⟩ = some (.int .u64 a0_5) := (blk_cell BK173.out 5).trans rfl; have hcz9_6 : w8.cell? ⟨gb173, 6, none⟩ = some (.int .i64 a0_6) := (blk_cell BK173.out 6).trans rfl; have hfz9_0 := blk_frozen BK173.out 0; have hfz9_1 := blk_frozen BK173.out 1; have hfz9_2 := blk_frozen BK173.out 2; have hfz9_3 := blk_frozen BK173.out 3; have hfz9_4 := blk_frozen BK173.out 4; have hfz9_5 := blk_frozen BK173.out 5; have hfz9_6 := blk_frozen BK173.out 6))
  have n0_ := aA (blk_drew BK173.out); have n1_ := aA (below_drew1 HB.out); clear BK173; clear HB; have BK173 := n0_; have HB := n1_; clear n0_ n1_; refine start_ (n := 30) (S := fun w' => w'.cell? ⟨gb173, 0, none⟩ = some (.int .i64 a0_0) ∧ w'.cell? ⟨gb173, 1, none⟩ = some (.int .i64 a0_1) ∧ w'.cell? ⟨gb173, 2, none⟩ = some (.string a0_2) ∧ w'.cell? ⟨gb173, 3, none⟩ = some (.string a0_3) ∧ w'.cell? ⟨gb173, 4, none⟩ = some (.slice A0_4 l0_4.length c0_4) ∧ w'.cell? ⟨gb173, 5, none⟩ = some (.int .u64 a0_5) ∧ w'.cell? ⟨gb173, 6, none⟩ = some (.int .i64 a0_6)) (ds := []) #[false, false, false, false, false, false, false, false, false, false, false, false, false, false, false, false, false, false, false, false, false, false, false, false, false, false, false, false, false, false] (by kernel_rfl) rfl rfl ⟨(blk_cell BK173.out 0).trans rfl, (blk_cell BK173.out 1).trans rfl, (blk_cell BK173.out 2).trans rfl, (blk_cell BK173.out 3).trans rfl, (blk_cell BK173.out 4).trans rfl, (blk_cell BK173.out 5).trans rfl, (blk_cell BK173.out 6).trans rfl⟩ (fun hHeld => ?_); refine with_tabW treillageref11_Pack.tab4 treillageref11_Pack.bits4 (fun HT_ HW_ => ?_); generalize w8.drew = w10 at BK173 HB hHeld ⊢; refine pure_ (i := 0) (N := some 13) (v := ?_) (a' := ?_) #[true, false, false, false, false, false, false, false, false, false, false, false, false, false, false, false, false, false, false, false, false, false, false, false, false, false, false, false, false, false] rfl rfl (any_of HT_.out (by kernel_rfl)) (fun _ _ _ h => h) (Or.inl ⟨by rfl, ?_⟩) ?_ ?_; rotate_left
  ·intro w'
   go_simp
   with_reducible rfl
  rotate_left
  ·simp only [Act.put, List.setIfInBounds_toArray, List.set_cons_zero, List.set_cons_succ, i64_w, i32_w]; rfl
  refine pure_ (i := 3) (N := some 16) (v := ?_) (a' := ?_) #[true, false, false, true, false, false, false, false, false, false, false, false, false, false, false, false, false, false, false, false, false, false, false, false, false, false, false, false, false, false] rfl rfl (any_of HT_.out (by kernel_rfl)) (fun _ _ _ h => h) (Or.inl ⟨by rfl, ?_⟩) ?_ ?_; rotate_left
  ·intro w'
   go_simp
   with_reducible rfl
  rotate_left
  ·simp only [Act.put, List.setIfInBounds_toArray, List.set_cons_zero, List.set_cons_succ, i64_w, i32_w]; rfl
  refine pure_ (i := 7) (N := some 20) (v := ?_) (a' := ?_) #[true, false, false, true, false, false, false, true, false, false, false, false, false, false, false, false, false, false, false, false, false, false, false, false, false, false, false, false, false, false] rfl rfl (any_of HT_.out (by kernel_rfl)) (fun _ _ _ h => h) (Or.inl ⟨by rfl, ?_⟩) ?_ ?_; rotate_left
  ·intro w'
   go_simp
   with_reducible rfl
  rotate_left
  ·simp only [Act.put, List.setIfInBounds_toArray, List.set_cons_zero, List.set_cons_succ, i64_w, i32_w]; rfl
  refine pure_ (i := 11) (N := some 24) (v := ?_) (a' := ?_) #[true, false, false, true, false, false, false, true, false, false, false, true, false, false, false, false, false, false, false, false, false, false, false, false, false, false, false, false, false, false] rfl rfl (any_of HT_.out (by kernel_rfl)) (fun _ _ _ h => h) (Or.inl ⟨by rfl, ?_⟩) ?_ ?_; rotate_left
  ·intro w'
   go_simp
   with_reducible rfl
  rotate_left
  ·simp only [Act.put, List.setIfInBounds_toArray, List.set_cons_zero, List.set_cons_succ, i64_w, i32_w]; rfl
  refine pure_ (i := 15) (N := some 28) (v := ?_) (a' := ?_) #[true, false, false, true, false, false, false, true, false, false, false, true, false, false, false, true, false, false, false, false, false, false, false, false, false, false, false, false, false, false] rfl rfl (any_of HT_.out (by kernel_rfl)) (fun _ _ _ h => h) (Or.inl ⟨by rfl, ?_⟩) ?_ ?_; rotate_left
  ·intro w'
   go_simp
   with_reducible rfl
  rotate_left
  ·simp only [Act.put, List.setIfInBounds_toArray, List.set_cons_zero, List.set_cons_succ, i64_w, i32_w]; rfl
  refine pure_ (i := 16) (N := some 29) (v := ?_) (a' := ?_) #[true, false, false, true, false, false, false, true, false, false, false, true, false, false, false, true, true, false, false, false, false, false, false, false, false, false, false, false, false, false] rfl rfl (any_of HT_.out (by kernel_rfl)) (fun _ _ _ h => h) (Or.inl ⟨by rfl, ?_⟩) ?_ ?_; rotate_left
  ·intro w'
   go_simp
   with_reducible rfl
  rotate_left
  ·simp only [Act.put, List.setIfInBounds_toArray, List.set_cons_zero, List.set_cons_succ, i64_w, i32_w]; rfl
  refine pure_ (i := 17) (N := some 30) (v := ?_) (a' := ?_) #[true, false, false, true, false, false, false, true, false, false, false, true, false, false, false, true, true, true, false, false, false, false, false, false, false, false, false, false, false, false] rfl rfl (any_of HT_.out (by kernel_rfl)) (fun _ _ _ h => h) (Or.inl ⟨by rfl, ?_⟩) ?_ ?_; rotate_left
  ·intro w'
   go_simp
   with_reducible rfl
  rotate_left
  ·simp only [Act.put, List.setIfInBounds_toArray, List.set_cons_zero, List.set_cons_succ, i64_w, i32_w]; rfl
  refine pure_ (i := 18) (N := some 31) (v := ?_) (a' := ?_) #[true, false, false, true, false, false, false, true, false, false, false, true, false, false, false, true, true, true, true, false, false, false, false, false, false, false, false, false, false, false] rfl rfl (any_of HT_.out (by kernel_rfl)) (fun _ _ _ h => h) (Or.inl ⟨by rfl, ?_⟩) ?_ ?_; rotate_left
  ·intro w'
   go_simp
   with_reducible rfl
  rotate_left
  ·simp only [Act.put, List.setIfInBounds_toArray, List.set_cons_zero, List.set_cons_succ, i64_w, i32_w]; rfl
  refine pure_ (i := 19) (N := some 32) (v := ?_) (a' := ?_) #[true, false, false, true, false, false, false, true, false, false, false, true, false, false, false, true, true, true, true, true, false, false, false, false, false, false, false, false, false, false] rfl rfl (any_of HT_.out (by kernel_rfl)) (fun _ _ _ h => h) (Or.inl ⟨by rfl, ?_⟩) ?_ ?_; rotate_left
  ·intro w'
   go_simp
   with_reducible rfl
  rotate_left
  ·simp only [Act.put, List.setIfInBounds_toArray, List.set_cons_zero, List.set_cons_succ, i64_w, i32_w]; rfl
  refine pure_ (i := 25) (N := some 38) (v := ?_) (a' := ?_) #[true, false, false, true, false, false, false, true, false, false, false, true, false, false, false, true, true, true, true, true, false, false, false, false, false, true, false, false, false, false] rfl rfl (any_of HT_.out (by kernel_rfl)) (fun _ _ _ h => h) (Or.inl ⟨by rfl, ?_⟩) ?_ ?_; rotate_left
  ·intro w'
   go_simp
   with_reducible rfl
  rotate_left
  ·simp only [Act.put, List.setIfInBounds_toArray, List.set_cons_zero, List.set_cons_succ, i64_w, i32_w]; rfl
  refine pure_ (i := 26) (N := some 39) (v := ?_) (a' := ?_) #[true, false, false, true, false, false, false, true, false, false, false, true, false, false, false, true, true, true, true, true, false, false, false, false, false, true, true, false, false, false] rfl rfl (any_of HT_.out (by kernel_rfl)) (fun _ _ _ h => h) (Or.inl ⟨by rfl, ?_⟩) ?_ ?_; rotate_left
  ·intro w'
   go_simp
   with_reducible rfl
  rotate_left
  ·simp only [Act.put, List.setIfInBounds_toArray, List.set_cons_zero, List.set_cons_succ, i64_w, i32_w]; rfl
  refine take_ (i := 1) (N := some 14) (v := ?_) (a' := ?_) #[true, true, false, true, false, false, false, true, false, false, false, true, false, false, false, true, true, true, true, true, false, false, false, false, false, true, true, false, false, false] rfl rfl (take_ofW HT_.out HW_.out (by kernel_rfl)) (fun _ _ _ h => h) (Or.inl ⟨by rfl, ?_⟩) hHeld ?_ ?_; rotate_left
  ·rintro w' ⟨s0, s1, s2, s3, s4, s5, s6⟩
   go_simp
   with_reducible rfl
  rotate_left
  ·simp only [Act.put, List.setIfInBounds_toArray, List.set_cons_zero, List.set_cons_succ, i64_w, i32_w]; rfl
  refine pure_ (i := 2) (N := some 15) (v := ?_) (a' := ?_) #[true, true, true, true, false, false, false, true, false, false, false, true, false, false, false, true, true, true, true, true, false, false, false, false, false, true, true, false, false, false] rfl rfl (any_of HT_.out (by kernel_rfl)) (fun _ _ _ h => h) (Or.inl ⟨by rfl, ?_⟩) ?_ ?_; rotate_left
  ·intro w'
   go_simp
   with_reducible rfl
  rotate_left
  ·simp only [Act.put, List.setIfInBounds_toArray, List.set_cons_zero, List.set_cons_succ, i64_w, i32_w]; rfl
  refine take_ (i := 4) (N := some 17) (v := ?_) (a' := ?_) #[true, true, true, true, true, false, false, true, false, false, false, true, false, false, false, true, true, true, true, true, false, false, false, false, false, true, true, false, false, false] rfl rfl (take_ofW HT_.out HW_.out (by kernel_rfl)) (fun _ _ _ h => h) (Or.inl ⟨by rfl, ?_⟩) hHeld ?_ ?_; rotate_left
  ·rintro w' ⟨s0, s1, s2, s3, s4, s5, s6⟩
   go_simp
   with_reducible rfl
  rotate_left
  ·simp only [Act.put, List.setIfInBounds_toArray, List.set_cons_zero, List.set_cons_succ, i64_w, i32_w]; rfl
  refine pure_ (i := 5) (N := some 18) (v := ?_) (a' := ?_) #[true, true, true, true, true, true, false, true, false, false, false, true, false, false, false, true, true, true, true, true, false, false, false, false, false, true, true, false, false, false] rfl rfl (any_of HT_.out (by kernel_rfl)) (fun _ _ _ h => h) (Or.inl ⟨by rfl, ?_⟩) ?_ ?_; rotate_left
  ·intro w'
   go_simp
   with_reducible rfl
  rotate_left
  ·simp only [Act.put, List.setIfInBounds_toArray, List.set_cons_zero, List.set_cons_succ, i64_w, i32_w]; rfl
  refine pure_ (i := 6) (N := some 19) (v := ?_) (a' := ?_) #[true, true, true, true, true, true, true, true, false, false, false, true, false, false, false, true, true, true, true, true, false, false, false, false, false, true, true, false, false, false] rfl rfl (any_of HT_.out (by kernel_rfl)) (fun _ _ _ h => h) (Or.inl ⟨by rfl, ?_⟩) ?_ ?_; rotate_left
  ·intro w'
   go_simp
   with_reducible rfl
  rotate_left
  ·simp only [Act.put, List.setIfInBounds_toArray, List.set_cons_zero, List.set_cons_succ, i64_w, i32_w]; rfl
  refine take_ (i := 8) (N := some 21) (v := ?_) (a' := ?_) #[true, true, true, true, true, true, true, true, true, false, false, true, false, false, false, true, true, true, true, true, false, false, false, false, false, true, true, false, false, false] rfl rfl (take_ofW HT_.out HW_.out (by kernel_rfl)) (fun _ _ _ h => h) (Or.inl ⟨by rfl, ?_⟩) hHeld ?_ ?_; rotate_left
  ·rintro w' ⟨s0, s1, s2, s3, s4, s5, s6⟩
   go_simp
   with_reducible rfl
  rotate_left
  ·simp only [Act.put, List.setIfInBounds_toArray, List.set_cons_zero, List.set_cons_succ, i64_w, i32_w]; rfl
  refine pure_ (i := 9) (N := some 22) (v := ?_) (a' := ?_) #[true, true, true, true, true, true, true, true, true, true, false, true, false, false, false, true, true, true, true, true, false, false, false, false, false, true, true, false, false, false] rfl rfl (any_of HT_.out (by kernel_rfl)) (fun _ _ _ h => h) (Or.inl ⟨by rfl, ?_⟩) ?_ ?_; rotate_left
  ·intro w'
   go_simp
   with_reducible rfl
  rotate_left
  ·simp only [Act.put, List.setIfInBounds_toArray, List.set_cons_zero, List.set_cons_succ, i64_w, i32_w]; rfl
  refine pure_ (i := 10) (N := some 23) (v := ?_) (a' := ?_) #[true, true, true, true, true, true, true, true, true, true, true, true, false, false, false, true, true, true, true, true, false, false, false, false, false, true, true, false, false, false] rfl rfl (any_of HT_.out (by kernel_rfl)) (fun _ _ _ h => h) (Or.inl ⟨by rfl, ?_⟩) ?_ ?_; rotate_left
  ·intro w'
   go_simp
   with_reducible rfl
  rotate_left
  ·simp only [Act.put, List.setIfInBounds_toArray, List.set_cons_zero, List.set_cons_succ, i64_w, i32_w]; rfl
  refine take_ (i := 12) (N := some 25) (v := ?_) (a' := ?_) #[true, true, true, true, true, true, true, true, true, true, true, true, true, false, false, true, true, true, true, true, false, false, false, false, false, true, true, false, false, false] rfl rfl (take_ofW HT_.out HW_.out (by kernel_rfl)) (fun _ _ _ h => h) (Or.inl ⟨by rfl, ?_⟩) hHeld ?_ ?_; rotate_left
  ·rintro w' ⟨s0, s1, s2, s3, s4, s5, s6⟩
   go_simp
   with_reducible rfl
  rotate_left
  ·simp only [Act.put, List.setIfInBounds_toArray, List.set_cons_zero, List.set_cons_succ, i64_w, i32_w]; rfl
  refine pure_ (i := 13) (N := some 26) (v := ?_) (a' := ?_) #[true, true, true, true, true, true, true, true, true, true, true, true, true, true, false, true, true, true, true, true, false, false, false, false, false, true, true, false, false, false] rfl rfl (any_of HT_.out (by kernel_rfl)) (fun _ _ _ h => h) (Or.inl ⟨by rfl, ?_⟩) ?_ ?_; rotate_left
  ·intro w'
   go_simp
   with_reducible rfl
  rotate_left
  ·simp only [Act.put, List.setIfInBounds_toArray, List.set_cons_zero, List.set_cons_succ, i64_w, i32_w]; rfl
  refine pure_ (i := 14) (N := some 27) (v := ?_) (a' := ?_) #[true, true, true, true, true, true, true, true, true, true, true, true, true, true, true, true, true, true, true, true, false, false, false, false, false, true, true, false, false, false] rfl rfl (any_of HT_.out (by kernel_rfl)) (fun _ _ _ h => h) (Or.inl ⟨by rfl, ?_⟩) ?_ ?_; rotate_left
  ·intro w'
   go_simp
   with_reducible rfl
  rotate_left
  ·simp only [Act.put, List.setIfInBounds_toArray, List.set_cons_zero, List.set_cons_succ, i64_w, i32_w]; rfl
  refine take_ (i := 20) (N := some 33) (v := ?_) (a' := ?_) #[true, true, true, true, true, true, true, true, true, true, true, true, true, true, true, true, true, true, true, true, true, false, false, false, false, true, true, false, false, false] rfl rfl (take_ofW HT_.out HW_.out (by kernel_rfl)) (fun _ _ _ h => h) (Or.inl ⟨by rfl, ?_⟩) hHeld ?_ ?_; rotate_left
  ·rintro w' ⟨s0, s1, s2, s3, s4, s5, s6⟩
   go_simp
   with_reducible rfl
  rotate_left
  ·simp only [Act.put, List.setIfInBounds_toArray, List.set_cons_zero, List.set_cons_succ, i64_w, i32_w]; rfl
  refine pure_ (i := 21) (N := some 34) (v := ?_) (a' := ?_) #[true, true, true, true, true, true, true, true, true, true, true, true, true, true, true, true, true, true, true, true, true, true, false, false, false, true, true, false, false, false] rfl rfl (any_of HT_.out (by kernel_rfl)) (fun _ _ _ h => h) (Or.inl ⟨by rfl, ?_⟩) ?_ ?_; rotate_left
  ·intro w'
   go_simp
   with_reducible rfl
  rotate_left
  ·simp only [Act.put, List.setIfInBounds_toArray, List.set_cons_zero, List.set_cons_succ, i64_w, i32_w]; rfl
  refine take_ (i := 27) (N := some 40) (v := ?_) (a' := ?_) #[true, true, true, true, true, true, true, true, true, true, true, true, true, true, true, true, true, true, true, true, true, true, false, false, false, true, true, true, false, false] rfl rfl (take_ofW HT_.out HW_.out (by kernel_rfl)) (fun _ _ _ h => h) (Or.inl ⟨by rfl, ?_⟩) hHeld ?_ ?_; rotate_left
  ·rintro w' ⟨s0, s1, s2, s3, s4, s5, s6⟩
   go_simp
   with_reducible rfl
  rotate_left
  ·simp only [Act.put, List.setIfInBounds_toArray, List.set_cons_zero, List.set_cons_succ, i64_w, i32_w]; rfl
  refine join_ (σ := Value × Value) 3 #[true, true, true, true, true, true, true, true, true, true, true, true, true, true, true, true, true, true, true, true, true, true, true, true, false, true, true, true, false, false] (fun s_ => [(35, s_.1), (36, s_.2)]) (fun s_ w' => (w'.cell? ⟨gb173, 0, none⟩ = some (.int .i64 a0_0) ∧ w'.cell? ⟨gb173, 1, none⟩ = some (.int .i64 a0_1) ∧ w'.cell? ⟨gb173, 2, none⟩ = some (.string a0_2) ∧ w'.cell? ⟨gb173, 3, none⟩ = some (.string a0_3) ∧ w'.cell? ⟨gb173, 4, none⟩ = some (.slice A0_4 l0_4.length c0_4) ∧ w'.cell? ⟨gb173, 5, none⟩ = some (.int .u64 a0_5) ∧ w'.cell? ⟨gb173, 6, none⟩ = some (.int .i64 a0_6)) ∧ (Kd.R (Kd.int .u64) 23 w' w.heap.size (fun k_ => some k_ ≠ (s_.2 : Value).ownBlock) s_.1 y175) ∧ (Kd.R (Kd.int .u64) 23 w' w.heap.size (fun k_ => some k_ ≠ (s_.1 : Value).ownBlock) s_.2 y178) ∧ (w'.heap[gb173]? = some (.cells #[.int .i64 a0_0, .int .i64 a0_1, .string a0_2, .string a0_3, .slice A0_4 l0_4.length c0_4, .int .u64 a0_5, .int .i64 a0_6] 37 (0, 0))) ∧ (Below w.heap.size w w')) ?_ ?_; rotate_left
  ·intro hCont
   refine two_ (i := 22) (j := 23) (Ni := some 35) (Nj := some 36) #[true, true, true, true, true, true, true, true, true, true, true, true, true, true, true, true, true, true, true, true, true, true, true, false, false, true, true, true, false, false] #[true, true, true, true, true, true, true, true, true, true, true, true, true, true, true, true, true, true, true, true, true, true, false, true, false, true, true, true, false, false] rfl rfl rfl rfl (two_of HT_.out (by kernel_rfl)) (by decide) (by decide) (fun K hK => ?_) (fun K hK => ?_)
   ·skip
    refine Kd.R_lit_step (Kd.int .u64) _ 23 ?hg (N := 35) ?hd (xs := ([IntKind.u64.wrap (a0_0), IntKind.u64.wrap (wrap64 (a0_1 + 1)), IntKind.u64.wrap ((a0_2.size : Int)), IntKind.u64.wrap ((a0_3.size : Int)), IntKind.u64.wrap (wrap64 ((l0_4.length : Int) / 2)), IntKind.u64.wrap (a0_6)] : List Int)) (inner := [.int .u64 (IntKind.u64.wrap (a0_0)), .int .u64 (IntKind.u64.wrap (wrap64 (a0_1 + 1))), .int .u64 (IntKind.u64.wrap ((a0_2.size : Int))), .int .u64 (IntKind.u64.wrap ((a0_3.size : Int))), .int .u64 (IntKind.u64.wrap (wrap64 ((l0_4.length : Int) / 2))), .int .u64 (IntKind.u64.wrap (a0_6))]) (ok := fun _ => True) (okp := fun _ => True) ?hr ?hp (fun _ hk => hk) trivial (Below.refl _ _) (Nat.le_refl _) (by simp) ?_; (case hd => rfl); (case hg => rfl); (case hr => first | (go_simp; done) | (go_simp; rfl)); (case hp => exact (Reps.one (show Kd.M (Kd.int .u64) _ _ _ (IntKind.u64.wrap (a0_0)) [.int .u64 (IntKind.u64.wrap (a0_0))] from rfl) (Reps.one (show Kd.M (Kd.int .u64) _ _ _ (IntKind.u64.wrap (wrap64 (a0_1 + 1))) [.int .u64 (IntKind.u64.wrap (wrap64 (a0_1 + 1)))] from rfl) (Reps.one (show Kd.M (Kd.int .u64) _ _ _ (IntKind.u64.wrap ((a0_2.size : Int))) [.int .u64 (IntKind.u64.wrap ((a0_2.size : Int)))] from rfl) (Reps.one (show Kd.M (Kd.int .u64) _ _ _ (IntKind.u64.wrap ((a0_3.size : Int))) [.int .u64 (IntKind.u64.wrap ((a0_3.size : Int)))] from rfl) (Reps.one (show Kd.M (Kd.int .u64) _ _ _ (IntKind.u64.wrap (wrap64 ((l0_4.length : Int) / 2))) [.int .u64 (IntKind.u64.wrap (wrap64 ((l0_4.length : Int) / 2)))] from rfl) (Reps.one (show Kd.M (Kd.int .u64) _ _ _ (IntKind.u64.wrap (a0_6)) [.int .u64 (IntKind.u64.wrap (a0_6))] from rfl) (Reps.none _ _))))))))
    intro v176 w11 ho12 hb hg_ hnew_
    clear hg_ hnew_; (first | rw [← Ny175.out] at ho12 | (simp only [Int.reduceToNat] at ho12; rw [← Ny175.out] at ho12))
    have n0_ := aA (Kd.R_lower ho12 (below_size (bls HB.out))); have n1_ := aA (blk_below (g := gb173) (o := .cells #[.int .i64 a0_0, .int .i64 a0_1, .string a0_2, .string a0_3, .slice A0_4 l0_4.length c0_4, .int .u64 a0_5, .int .i64 a0_6] 37 (0, 0)) (bku BK173.out) hb); have n2_ := aA (below_step (bls HB.out) hb); clear BK173; clear HB; have HO177 := n0_; have BK173 := n1_; have HB := n2_; clear n0_ n1_ n2_; clear hb ho12; refine hK.out _ _ ⟨(blk_cell BK173.out 0).trans rfl, (blk_cell BK173.out 1).trans rfl, (blk_cell BK173.out 2).trans rfl, (blk_cell BK173.out 3).trans rfl, (blk_cell BK173.out 4).trans rfl, (blk_cell BK173.out 5).trans rfl, (blk_cell BK173.out 6).trans rfl⟩ (fun hHeld => ?_); clear hK K; refine norm_ (a' := ?_) ?_ ?_; rotate_left
    ·show Act.put _ (some 35) _ = _
     simp only [Act.put, List.setIfInBounds_toArray, List.set_cons_zero, List.set_cons_succ, i64_w, i32_w]; rfl
    refine one_ (i := 23) (N := some 36) #[true, true, true, true, true, true, true, true, true, true, true, true, true, true, true, true, true, true, true, true, true, true, true, true, false, true, true, true, false, false] rfl rfl (one_of HT_.out (by kernel_rfl)) (by decide) (fun K hK => ?_); refine Kd.R_lit_step (Kd.int .u64) _ 23 ?hg (N := 36) ?hd (xs := ([4, 256, 32, 64, 16, 256] : List Int)) (inner := [.int .u64 4, .int .u64 256, .int .u64 32, .int .u64 64, .int .u64 16, .int .u64 256]) (ok := fun _ => True) (okp := fun _ => True) ?hr ?hp (fun _ hk => hk) trivial (Below.refl _ _) (Nat.le_refl _) (by simp) ?_; (case hd => rfl); (case hg => rfl); (case hr => first | (go_simp; done) | (go_simp; rfl)); (case hp => exact (Reps.one (show Kd.M (Kd.int .u64) _ _ _ 4 [.int .u64 4] from rfl) (Reps.one (show Kd.M (Kd.int .u64) _ _ _ 256 [.int .u64 256] from rfl) (Reps.one (show Kd.M (Kd.int .u64) _ _ _ 32 [.int .u64 32] from rfl) (Reps.one (show Kd.M (Kd.int .u64) _ _ _ 64 [.int .u64 64] from rfl) (Reps.one (show Kd.M (Kd.int .u64) _ _ _ 16 [.int .u64 16] from rfl) (Reps.one (show Kd.M (Kd.int .u64) _ _ _ 256 [.int .u64 256] from rfl) (Reps.none _ _))))))))
    intro v179 w13 ho14 hb hg_ hnew_
    clear hg_ hnew_; (first | rw [← Ny178.out] at ho14 | (simp only [Int.reduceToNat] at ho14; rw [← Ny178.out] at ho14))
    have n0_ := aA (Kd.R_elder' (rlu HO177.out) (Kd.R_base ho14) hb); have n1_ := aA (Kd.R_lower (Kd.R_new' ho14 (Kd.R_lt (rlu HO177.out))) (below_size (bls HB.out))); have n2_ := aA (blk_below (g := gb173) (o := .cells #[.int .i64 a0_0, .int .i64 a0_1, .string a0_2, .string a0_3, .slice A0_4 l0_4.length c0_4, .int .u64 a0_5, .int .i64 a0_6] 37 (0, 0)) (bku BK173.out) hb); have n3_ := aA (below_step (bls HB.out) hb); clear HO177; clear BK173; clear HB; have HO177 := n0_; have HO180 := n1_; have BK173 := n2_; have HB := n3_; clear n0_ n1_ n2_ n3_; clear hb ho14; refine hK.out _ _ ⟨(blk_cell BK173.out 0).trans rfl, (blk_cell BK173.out 1).trans rfl, (blk_cell BK173.out 2).trans rfl, (blk_cell BK173.out 3).trans rfl, (blk_cell BK173.out 4).trans rfl, (blk_cell BK173.out 5).trans rfl, (blk_cell BK173.out 6).trans rfl⟩ (fun hHeld => ?_); clear hK K; refine norm_ (a' := ?_) ?_ ?_; rotate_left
    ·show Act.put _ (some 36) _ = _
     simp only [Act.put, List.setIfInBounds_toArray, List.set_cons_zero, List.set_cons_succ, i64_w, i32_w]; rfl
    exact norm_ (by simp only [putAll, Act.put, List.setIfInBounds_toArray, List.set_cons_zero, List.set_cons_succ]) (hCont (v176, v179) _ ⟨hHeld, (rlu (Kd.R_mono HO177.out (fun _ hk => hk.2))), (rlu (Kd.R_mono HO180.out (fun _ hk => hk.2))), (bku BK173.out), (bls HB.out)⟩)
   ·skip
    refine Kd.R_lit_step (Kd.int .u64) _ 23 ?hg (N := 36) ?hd (xs := ([4, 256, 32, 64, 16, 256] : List Int)) (inner := [.int .u64 4, .int .u64 256, .int .u64 32, .int .u64 64, .int .u64 16, .int .u64 256]) (ok := fun _ => True) (okp := fun _ => True) ?hr ?hp (fun _ hk => hk) trivial (Below.refl _ _) (Nat.le_refl _) (by simp) ?_; (case hd => rfl); (case hg => rfl); (case hr => first | (go_simp; done) | (go_simp; rfl)); (case hp => exact (Reps.one (show Kd.M (Kd.int .u64) _ _ _ 4 [.int .u64 4] from rfl) (Reps.one (show Kd.M (Kd.int .u64) _ _ _ 256 [.int .u64 256] from rfl) (Reps.one (show Kd.M (Kd.int .u64) _ _ _ 32 [.int .u64 32] from rfl) (Reps.one (show Kd.M (Kd.int .u64) _ _ _ 64 [.int .u64 64] from rfl) (Reps.one (show Kd.M (Kd.int .u64) _ _ _ 16 [.int .u64 16] from rfl) (Reps.one (show Kd.M (Kd.int .u64) _ _ _ 256 [.int .u64 256] from rfl) (Reps.none _ _))))))))
    intro v179 w11 ho12 hb hg_ hnew_
    clear hg_ hnew_; (first | rw [← Ny178.out] at ho12 | (simp only [Int.reduceToNat] at ho12; rw [← Ny178.out] at ho12))
    have n0_ := aA (Kd.R_lower ho12 (below_size (bls HB.out))); have n1_ := aA (blk_below (g := gb173) (o := .cells #[.int .i64 a0_0, .int .i64 a0_1, .string a0_2, .string a0_3, .slice A0_4 l0_4.length c0_4, .int .u64 a0_5, .int .i64 a0_6] 37 (0, 0)) (bku BK173.out) hb); have n2_ := aA (below_step (bls HB.out) hb); clear BK173; clear HB; have HO180 := n0_; have BK173 := n1_; have HB := n2_; clear n0_ n1_ n2_; clear hb ho12; refine hK.out _ _ ⟨(blk_cell BK173.out 0).trans rfl, (blk_cell BK173.out 1).trans rfl, (blk_cell BK173.out 2).trans rfl, (blk_cell BK173.out 3).trans rfl, (blk_cell BK173.out 4).trans rfl, (blk_cell BK173.out 5).trans rfl, (blk_cell BK173.out 6).trans rfl⟩ (fun hHeld => ?_); clear hK K; refine norm_ (a' := ?_) ?_ ?_; rotate_left
    ·show Act.put _ (some 36) _ = _
     simp only [Act.put, List.setIfInBounds_toArray, List.set_cons_zero, List.set_cons_succ, i64_w, i32_w]; rfl
    refine one_ (i := 22) (N := some 35) #[true, true, true, true, true, true, true, true, true, true, true, true, true, true, true, true, true, true, true, true, true, true, true, true, false, true, true, true, false, false] rfl rfl (one_of HT_.out (by kernel_rfl)) (by decide) (fun K hK => ?_); refine Kd.R_lit_step (Kd.int .u64) _ 23 ?hg (N := 35) ?hd (xs := ([IntKind.u64.wrap (a0_0), IntKind.u64.wrap (wrap64 (a0_1 + 1)), IntKind.u64.wrap ((a0_2.size : Int)), IntKind.u64.wrap ((a0_3.size : Int)), IntKind.u64.wrap (wrap64 ((l0_4.length : Int) / 2)), IntKind.u64.wrap (a0_6)] : List Int)) (inner := [.int .u64 (IntKind.u64.wrap (a0_0)), .int .u64 (IntKind.u64.wrap (wrap64 (a0_1 + 1))), .int .u64 (IntKind.u64.wrap ((a0_2.size : Int))), .int .u64 (IntKind.u64.wrap ((a0_3.size : Int))), .int .u64 (IntKind.u64.wrap (wrap64 ((l0_4.length : Int) / 2))), .int .u64 (IntKind.u64.wrap (a0_6))]) (ok := fun _ => True) (okp := fun _ => True) ?hr ?hp (fun _ hk => hk) trivial (Below.refl _ _) (Nat.le_refl _) (by simp) ?_; (case hd => rfl); (case hg => rfl); (case hr => first | (go_simp; done) | (go_simp; rfl)); (case hp => exact (Reps.one (show Kd.M (Kd.int .u64) _ _ _ (IntKind.u64.wrap (a0_0)) [.int .u64 (IntKind.u64.wrap (a0_0))] from rfl) (Reps.one (show Kd.M (Kd.int .u64) _ _ _ (IntKind.u64.wrap (wrap64 (a0_1 + 1))) [.int .u64 (IntKind.u64.wrap (wrap64 (a0_1 + 1)))] from rfl) (Reps.one (show Kd.M (Kd.int .u64) _ _ _ (IntKind.u64.wrap ((a0_2.size : Int))) [.int .u64 (IntKind.u64.wrap ((a0_2.size : Int)))] from rfl) (Reps.one (show Kd.M (Kd.int .u64) _ _ _ (IntKind.u64.wrap ((a0_3.size : Int))) [.int .u64 (IntKind.u64.wrap ((a0_3.size : Int)))] from rfl) (Reps.one (show Kd.M (Kd.int .u64) _ _ _ (IntKind.u64.wrap (wrap64 ((l0_4.length : Int) / 2))) [.int .u64 (IntKind.u64.wrap (wrap64 ((l0_4.length : Int) / 2)))] from rfl) (Reps.one (show Kd.M (Kd.int .u64) _ _ _ (IntKind.u64.wrap (a0_6)) [.int .u64 (IntKind.u64.wrap (a0_6))] from rfl) (Reps.none _ _))))))))
    intro v176 w13 ho14 hb hg_ hnew_
    clear hg_ hnew_; (first | rw [← Ny175.out] at ho14 | (simp only [Int.reduceToNat] at ho14; rw [← Ny175.out] at ho14))
    have n0_ := aA (Kd.R_elder' (rlu HO180.out) (Kd.R_base ho14) hb); have n1_ := aA (Kd.R_lower (Kd.R_new' ho14 (Kd.R_lt (rlu HO180.out))) (below_size (bls HB.out))); have n2_ := aA (blk_below (g := gb173) (o := .cells #[.int .i64 a0_0, .int .i64 a0_1, .string a0_2, .string a0_3, .slice A0_4 l0_4.length c0_4, .int .u64 a0_5, .int .i64 a0_6] 37 (0, 0)) (bku BK173.out) hb); have n3_ := aA (below_step (bls HB.out) hb); clear HO180; clear BK173; clear HB; have HO180 := n0_; have HO177 := n1_; have BK173 := n2_; have HB := n3_; clear n0_ n1_ n2_ n3_; clear hb ho14; refine hK.out _ _ ⟨(blk_cell BK173.out 0).trans rfl, (blk_cell BK173.out 1).trans rfl, (blk_cell BK173.out 2).trans rfl, (blk_cell BK173.out 3).trans rfl, (blk_cell BK173.out 4).trans rfl, (blk_cell BK173.out 5).trans rfl, (blk_cell BK173.out 6).trans rfl⟩ (fun hHeld => ?_); clear hK K; refine norm_ (a' := ?_) ?_ ?_; rotate_left
    ·show Act.put _ (some 35) _ = _
     simp only [Act.put, List.setIfInBounds_toArray, List.set_cons_zero, List.set_cons_succ, i64_w, i32_w]; rfl
    exact norm_ (by simp only [putAll, Act.put, List.setIfInBounds_toArray, List.set_cons_zero, List.set_cons_succ]) (hCont (v176, v179) _ ⟨hHeld, (rlu (Kd.R_mono HO177.out (fun _ hk => hk.2))), (rlu (Kd.R_mono HO180.out (fun _ hk => hk.2))), (bku BK173.out), (bls HB.out)⟩)
  rintro ⟨v176, v179⟩ w15 ⟨hS_, h0_, h1_, h2_, h3_⟩
  have n0_ : Aside0 (Kd.R (Kd.int .u64) 23 w15 w.heap.size (fun k_ => some k_ ≠ (v179 : Value).ownBlock) v176 y175) := ⟨h0_⟩; have n1_ : Aside0 (Kd.R (Kd.int .u64) 23 w15 w.heap.size (fun k_ => some k_ ≠ (v176 : Value).ownBlock) v179 y178) := ⟨h1_⟩; have n2_ : Aside0 (w15.heap[gb173]? = some (.cells #[.int .i64 a0_0, .int .i64 a0_1, .string a0_2, .string a0_3, .slice A0_4 l0_4.length c0_4, .int .u64 a0_5, .int .i64 a0_6] 37 (0, 0))) := ⟨h2_⟩; have n3_ : Aside0 (Below w.heap.size w w15) := ⟨h3_⟩; clear BK173; clear HB; clear h0_ h1_ h2_ h3_; have HO177 := n0_; have HO180 := n1_; have BK173 := n2_; have HB := n3_; clear n0_ n1_ n2_ n3_; have hHeld : w15.cell? ⟨gb173, 0, none⟩ = some (.int .i64 a0_0) ∧ w15.cell? ⟨gb173, 1, none⟩ = some (.int .i64 a0_1) ∧ w15.cell? ⟨gb173, 2, none⟩ = some (.string a0_2) ∧ w15.cell? ⟨gb173, 3, none⟩ = some (.string a0_3) ∧ w15.cell? ⟨gb173, 4, none⟩ = some (.slice A0_4 l0_4.length c0_4) ∧ w15.cell? ⟨gb173, 5, none⟩ = some (.int .u64 a0_5) ∧ w15.cell? ⟨gb173, 6, none⟩ = some (.int .i64 a0_6) := hS_; obtain ⟨Ao16, co16, eo16⟩ := Kd.R_slice HO177.out; (first | subst eo16 | (injection eo16 with f1_ f2_ f3_; have f4_ := f1_.symm; have f5_ := f3_.symm; clear f1_ f2_ f3_; subst f4_; subst f5_))
  obtain ⟨Ao17, co17, eo17⟩ := Kd.R_slice HO180.out; (first | subst eo17 | (injection eo17 with f1_ f2_ f3_; have f4_ := f1_.symm; have f5_ := f3_.symm; clear f1_ f2_ f3_; subst f4_; subst f5_))
  refine norm_ (a' := ?_) ?_ ?_; rotate_left
  ·simp only [putAll, Act.put, List.setIfInBounds_toArray, List.set_cons_zero, List.set_cons_succ]; rfl
  refine one_ (i := 24) (N := some 37) #[true, true, true, true, true, true, true, true, true, true, true, true, true, true, true, true, true, true, true, true, true, true, true, true, true, true, true, true, false, false] rfl rfl (one_of HT_.out (by kernel_rfl)) (by decide) (fun K hK => ?_); refine goes_ Try.func27 (by kernel_rfl) rfl #[.slice Ao16 y175.length co16, .slice Ao17 y178.length co17] (by rfl) rfl rfl (by (try simp only [List.map_toArray, List.map_cons, List.map_nil]); first | done | rfl | (simp only [List.length_drop, List.length_take]; rfl)) ?_; with_reducible refine (treillageref11_number.calls k _ _ y175 _ _ y178 t181 _ ?side1 ?side2 ?side3 ?side4 A4.out).mono ?_
  (case side1 => repeat (first | exact (Kd.R_reads' HO177.out).2.2 | (with_reducible refine Kd.C_alloc ?_ _) | (with_reducible refine Kd.C_drewN ?_ _) | (with_reducible refine Kd.C_drew ?_)))
  (case side2 => exact (Kd.R_reads' HO177.out).2.1)
  (case side3 => repeat (first | exact (Kd.R_reads' HO180.out).2.2 | (with_reducible refine Kd.C_alloc ?_ _) | (with_reducible refine Kd.C_drewN ?_ _) | (with_reducible refine Kd.C_drew ?_)))
  (case side4 => exact (Kd.R_reads' HO180.out).2.1)
  rintro e w' ⟨rfl, ⟨nd, rfl⟩⟩
  refine ⟨_, rfl, ?_⟩; refine hK.out _ _ ⟨(blk_cell BK173.out 0).trans rfl, (blk_cell BK173.out 1).trans rfl, (blk_cell BK173.out 2).trans rfl, (blk_cell BK173.out 3).trans rfl, (blk_cell BK173.out 4).trans rfl, (blk_cell BK173.out 5).trans rfl, (blk_cell BK173.out 6).trans rfl⟩ (fun hHeld => ?_); clear hK K; refine norm_ (a' := ?_) ?_ ?_; rotate_left
  ·show Act.put _ (some 37) _ = _
   simp only [Act.put, List.setIfInBounds_toArray, List.set_cons_zero, List.set_cons_succ, i64_w, i32_w]; rfl
  refine one_ (i := 28) (N := some 41) #[true, true, true, true, true, true, true, true, true, true, true, true, true, true, true, true, true, true, true, true, true, true, true, true, true, true, true, true, true, false] rfl rfl (one_of HT_.out (by kernel_rfl)) (by decide) (fun K hK => ?_); refine Kd.R_lit_step (Kd.int .u64) _ 23 ?hg (N := 41) ?hd (xs := ([t181, a0_5] : List Int)) (inner := [.int .u64 t181, .int .u64 a0_5]) (ok := fun _ => True) (okp := fun _ => True) ?hr ?hp (fun _ hk => hk) trivial (Below.refl _ _) (Nat.le_refl _) (by simp) ?_; (case hd => rfl); (case hg => rfl); (case hr => first | (go_simp; done) | (go_simp; rfl)); (case hp => exact (Reps.one (show Kd.M (Kd.int .u64) _ _ _ t181 [.int .u64 t181] from rfl) (Reps.one (show Kd.M (Kd.int .u64) _ _ _ a0_5 [.int .u64 a0_5] from rfl) (Reps.none _ _))))
  intro v183 w18 ho19 hb hg_ hnew_
  clear hg_ hnew_; (first | rw [← Ny182.out] at ho19 | (simp only [Int.reduceToNat] at ho19; rw [← Ny182.out] at ho19))
  have n0_ := aA (Kd.R_elder' (rlu HO177.out) (Kd.R_base ho19) hb); have n1_ := aA (Kd.R_elder' (rlu HO180.out) (Kd.R_base ho19) hb); have n2_ := aA (Kd.R_lower (Kd.R_new' (Kd.R_new' ho19 (Kd.R_lt (rlu HO177.out))) (Kd.R_lt (rlu HO180.out))) (below_size (bls HB.out))); have n3_ := aA (blk_below (g := gb173) (o := .cells #[.int .i64 a0_0, .int .i64 a0_1, .string a0_2, .string a0_3, .slice A0_4 l0_4.length c0_4, .int .u64 a0_5, .int .i64 a0_6] 37 (0, 0)) (bku BK173.out) hb); have n4_ := aA (below_step (bls HB.out) hb); clear HO177; clear HO180; clear BK173; clear HB; have HO177 := n0_; have HO180 := n1_; have HO184 := n2_; have BK173 := n3_; have HB := n4_; clear n0_ n1_ n2_ n3_ n4_; clear hb ho19; refine hK.out _ _ ⟨(blk_cell BK173.out 0).trans rfl, (blk_cell BK173.out 1).trans rfl, (blk_cell BK173.out 2).trans rfl, (blk_cell BK173.out 3).trans rfl, (blk_cell BK173.out 4).trans rfl, (blk_cell BK173.out 5).trans rfl, (blk_cell BK173.out 6).trans rfl⟩ (fun hHeld => ?_); clear hK K; refine norm_ (a' := ?_) ?_ ?_; rotate_left
  ·show Act.put _ (some 41) _ = _
   simp only [Act.put, List.setIfInBounds_toArray, List.set_cons_zero, List.set_cons_succ, i64_w, i32_w]; rfl
  refine pure_ (i := 29) (N := some 5) (v := ?_) (a' := ?_) #[true, true, true, true, true, true, true, true, true, true, true, true, true, true, true, true, true, true, true, true, true, true, true, true, true, true, true, true, true, true] rfl rfl (any_of HT_.out (by kernel_rfl)) (fun _ _ _ h => h) (Or.inl ⟨by rfl, ?_⟩) ?_ ?_; rotate_left
  ·intro w'
   go_simp
   with_reducible rfl
  rotate_left
  ·simp only [Act.put, List.setIfInBounds_toArray, List.set_cons_zero, List.set_cons_succ, i64_w, i32_w]; rfl
  refine done_ (done_of HT_.out (by kernel_rfl)) ?_; go_upto_if 43 with (fail)
  go_cut [5] (fun v5 wc => ∃ (kq : Nat) (x5_4 : List Int), Aside0 (treillageref11_Pack.j0 kq (l0_4.length : Int) x5_4 a0_0 a0_1 a0_2 a0_3 l0_4 a0_5 a0_6 = some (r1, r2)) ∧ Aside0 (kq ≤ k) ∧ Aside0 (Kd.R (Kd.int .u64) 23 wc w.heap.size (fun _ => True) v5 x5_4) ∧ Aside0 (wc.heap[gb173]? = some (.cells #[.int .i64 a0_0, .int .i64 a0_1, .string a0_2, .string a0_3, (.slice A0_4 l0_4.length c0_4), .int .u64 a0_5, .int .i64 a0_6] 37 (0, 0))) ∧ Aside0 (Below w.heap.size w wc))
  case first =>
   have H := HC5.out; clear HC5; by_cases c20 : (l0_4.length : Int) > 0
   ·rw [if_pos c20] at H; have c20b0 : decide (0 < (l0_4.length : Int)) = true := decide_eq_true c20; have c20b1 : decide (0 < l0_4.length) = true := decide_eq_true (by omega); clear c20; (first | rw [c20b0] | rw [c20b1] | (simp only [i64_w, i32_w]; rw [c20b0]) | skip)
    obtain ⟨ji21, hji21⟩ : ∃ j_ : Int, (mn (l0_4.length : Int) 8) = j_ := ⟨_, rfl⟩; replace H : (if 0 ≤ (ji21) then (if (ji21) ≤ (l0_4.length : Int) then ((treillageref11_sixes.f k (l0_4.take ((ji21) : Int).toNat)).bind fun t186 => ((treillageref11_sixes.f k (l0_4.drop ((ji21) : Int).toNat)).bind fun t188 => ((some (([t186, t188] : List Int) : List Int)).bind fun y189 => (if y182.length + y189.length < 17592186044416 then (treillageref11_Pack.j0 k (l0_4.length : Int) (y182 ++ y189) a0_0 a0_1 a0_2 a0_3 l0_4 a0_5 a0_6) else (none))))) else (none)) else (none)) = some (r1, r2) := by first | (rw [hji21] at H; exact H) | (simp only [hji21] at H ⊢; exact H)
    (try (have hji21h : ji21 ≤ 8 := by (rw [← hji21]; unfold mn; (repeat' split) <;> omega))); (try (have hji21g : ji21 ≤ 64 := by omega)); (try (have hji21l : 0 ≤ ji21 := by (rw [← hji21]; unfold mn; (repeat' split) <;> omega))); (try (have hji21m : 0 ≤ ji21 := by omega)); have hji21_ : (if 8 < (l0_4.length : Int) then 8 else (l0_4.length : Int)) = ji21 := hji21; by_cases c22 : 0 ≤ (ji21)
    rotate_left
    ·rw [if_neg c22] at H; exact absurd H (by simp)
    rw [if_pos c22] at H; have c22b0 := eq_true c22; have c22b1 : decide (0 ≤ (ji21)) = true := decide_eq_true c22; clear c22; by_cases c23 : (ji21) ≤ (l0_4.length : Int)
    rotate_left
    ·rw [if_neg c23] at H; exact absurd H (by simp)
    rw [if_pos c23] at H; have c23b0 := eq_true c23; have c23b1 : decide ((ji21) ≤ (l0_4.length : Int)) = true := decide_eq_true c23; clear c23; replace H := Option.bind_eq_some_iff.mp H; obtain ⟨t186, A240, H⟩ := H; replace H : ((treillageref11_sixes.f k (l0_4.drop ((ji21) : Int).toNat)).bind fun t188 => ((some (([t186, t188] : List Int) : List Int)).bind fun y189 => (if y182.length + y189.length < 17592186044416 then (treillageref11_Pack.j0 k (l0_4.length : Int) (y182 ++ y189) a0_0 a0_1 a0_2 a0_3 l0_4 a0_5 a0_6) else (none)))) = some (r1, r2) := H; have A24 := aA A240; clear A240; have c26b0 := eq_true (of_decide_eq_true (by first | (with_reducible assumption) | assumption) : 0 ≤ (ji21)); have c27b0 := eq_true (of_decide_eq_true (by first | (with_reducible assumption) | assumption) : (ji21) ≤ (l0_4.length : Int)); replace H := Option.bind_eq_some_iff.mp H; obtain ⟨t188, A280, H⟩ := H; replace H : ((some (([t186, t188] : List Int) : List Int)).bind fun y189 => (if y182.length + y189.length < 17592186044416 then (treillageref11_Pack.j0 k (l0_4.length : Int) (y182 ++ y189) a0_0 a0_1 a0_2 a0_3 l0_4 a0_5 a0_6) else (none))) = some (r1, r2) := H; have A28 := aA A280; clear A280; obtain ⟨y189, hy189⟩ : ∃ y_ : List Int, y_ = (([t186, t188] : List Int)) := ⟨_, rfl⟩; replace H : (if y182.length + y189.length < 17592186044416 then (treillageref11_Pack.j0 k (l0_4.length : Int) (y182 ++ y189) a0_0 a0_1 a0_2 a0_3 l0_4 a0_5 a0_6) else (none)) = some (r1, r2) := by first | (rw [hy189]; with_reducible exact H) | (have H2_ := (Option.bind_some _ _).symm.trans H; rw [hy189]; with_reducible exact H2_) | (have H2_ := (Option.bind_some _ _).symm.trans H; with_reducible exact H2_) | with_reducible exact H | (rw [hy189]; exact H) | exact H
    have Ny189 := aA hy189; clear hy189; by_cases c29 : y182.length + y189.length < 17592186044416
    rotate_left
    ·rw [if_neg c29] at H; exact absurd H (by simp)
    rw [if_pos c29] at H; have LMc29 := aA c29; clear c29; obtain ⟨y192, hy192⟩ : ∃ y_ : List Int, y_ = (y182 ++ y189) := ⟨_, rfl⟩; replace H : (treillageref11_Pack.j0 k (l0_4.length : Int) y192 a0_0 a0_1 a0_2 a0_3 l0_4 a0_5 a0_6) = some (r1, r2) := by first | (rw [hy192]; with_reducible exact H) | (have H2_ := (Option.bind_some _ _).symm.trans H; rw [hy192]; with_reducible exact H2_) | (have H2_ := (Option.bind_some _ _).symm.trans H; with_reducible exact H2_) | with_reducible exact H | (rw [hy192]; exact H) | exact H
    have Ny192 := aA hy192; clear hy192; have H' := aA H; clear H; try go_wp2
    have n0_ := aA (Kd.R_drew HO177.out); have n1_ := aA (Kd.R_drew HO180.out); have n2_ := aA (Kd.R_drew HO184.out); have n3_ := aA (blk_drew BK173.out); have n4_ := aA (below_drew1 HB.out); clear HO177; clear HO180; clear HO184; clear BK173; clear HB; have HO177 := n0_; have HO180 := n1_; have HO184 := n2_; have BK173 := n3_; have HB := n4_; clear n0_ n1_ n2_ n3_ n4_; obtain ⟨i031, hi031, _, hsz31, _⟩ := info_parts info9; obtain ⟨hcut31, hA31, hC31⟩ := print_take_of (P := Try.prog) Value.string (⟨#[]⟩ : ByteArray) 22 9 .i64 Try.underlying22 hi031 hsz31 A0_4 c0_4 l0_4 (ji21) (of_decide_eq_true (by first | (with_reducible assumption) | assumption)) (of_decide_eq_true (by first | (with_reducible assumption) | assumption)) HC0_4.out; have HR185 := aA (Kd.C_of_reads (h1 := fun _ => rfl) (hA31 _ (Kd.reads_of_C HR0_4.out))); have HC185 := aA hC31; clear hA31 hC31 hi031 hsz31; obtain ⟨i032, hi032, _, hsz32, _⟩ := info_parts info9; obtain ⟨A32, hcut32, hA32, hC32⟩ := print_drop_of (P := Try.prog) Value.string (⟨#[]⟩ : ByteArray) 22 9 .i64 Try.underlying22 hi032 hsz32 A0_4 c0_4 l0_4 (ji21) (of_decide_eq_true (by first | (with_reducible assumption) | assumption)) (of_decide_eq_true (by first | (with_reducible assumption) | assumption)) HC0_4.out; have HR187 := aA (Kd.C_of_reads (h1 := fun _ => rfl) (hA32 _ (Kd.reads_of_C HR0_4.out))); have HC187 := aA hC32; clear hA32 hC32 hi032 hsz32; refine start_ (n := 16) (S := fun w' => w'.cell? ⟨gb173, 0, none⟩ = some (.int .i64 a0_0) ∧ w'.cell? ⟨gb173, 1, none⟩ = some (.int .i64 a0_1) ∧ w'.cell? ⟨gb173, 2, none⟩ = some (.string a0_2) ∧ w'.cell? ⟨gb173, 3, none⟩ = some (.string a0_3) ∧ w'.cell? ⟨gb173, 4, none⟩ = some (.slice A0_4 l0_4.length c0_4) ∧ w'.cell? ⟨gb173, 5, none⟩ = some (.int .u64 a0_5) ∧ w'.cell? ⟨gb173, 6, none⟩ = some (.int .i64 a0_6)) (ds := []) #[false, false, false, false, false, false, false, false, false, false, false, false, false, false, false, false] (by kernel_rfl) rfl rfl ⟨(blk_cell BK173.out 0).trans rfl, (blk_cell BK173.out 1).trans rfl, (blk_cell BK173.out 2).trans rfl, (blk_cell BK173.out 3).trans rfl, (blk_cell BK173.out 4).trans rfl, (blk_cell BK173.out 5).trans rfl, (blk_cell BK173.out 6).trans rfl⟩ (fun hHeld => ?_); refine with_tabW treillageref11_Pack.tab6 treillageref11_Pack.bits6 (fun HT_ HW_ => ?_); generalize w18.drew = w30 at HO177 HO180 HO184 BK173 HB HR185 HR187 hHeld ⊢; refine pure_ (i := 0) (N := some 44) (v := ?_) (a' := ?_) #[true, false, false, false, false, false, false, false, false, false, false, false, false, false, false, false] rfl rfl (any_of HT_.out (by kernel_rfl)) (fun _ _ _ h => h) (Or.inl ⟨by rfl, ?_⟩) ?_ ?_; rotate_left
    ·intro w'
     go_simp
     with_reducible rfl
    rotate_left
    ·simp only [Act.put, List.setIfInBounds_toArray, List.set_cons_zero, List.set_cons_succ, i64_w, i32_w]; rfl
    refine pure_ (i := 1) (N := some 45) (v := ?_) (a' := ?_) #[true, true, false, false, false, false, false, false, false, false, false, false, false, false, false, false] rfl rfl (any_of HT_.out (by kernel_rfl)) (fun _ _ _ h => h) (Or.inl ⟨by rfl, ?_⟩) ?_ ?_; rotate_left
    ·intro w'
     go_simp
     with_reducible rfl
    rotate_left
    ·simp only [Act.put, List.setIfInBounds_toArray, List.set_cons_zero, List.set_cons_succ, i64_w, i32_w]; rfl
    refine pure_ (i := 3) (N := some 47) (v := ?_) (a' := ?_) #[true, true, false, true, false, false, false, false, false, false, false, false, false, false, false, false] rfl rfl (any_of HT_.out (by kernel_rfl)) (fun _ _ _ h => h) (Or.inl ⟨by rfl, ?_⟩) ?_ ?_; rotate_left
    ·intro w'
     go_simp
     with_reducible rfl
    rotate_left
    ·simp only [Act.put, List.setIfInBounds_toArray, List.set_cons_zero, List.set_cons_succ, i64_w, i32_w]; rfl
    refine pure_ (i := 4) (N := some 48) (v := ?_) (a' := ?_) #[true, true, false, true, true, false, false, false, false, false, false, false, false, false, false, false] rfl rfl (any_of HT_.out (by kernel_rfl)) (fun _ _ _ h => h) (Or.inl ⟨by rfl, ?_⟩) ?_ ?_; rotate_left
    ·intro w'
     go_simp
     with_reducible rfl
    rotate_left
    ·simp only [Act.put, List.setIfInBounds_toArray, List.set_cons_zero, List.set_cons_succ, i64_w, i32_w]; rfl
    refine pure_ (i := 7) (N := some 51) (v := ?_) (a' := ?_) #[true, true, false, true, true, false, false, true, false, false, false, false, false, false, false, false] rfl rfl (any_of HT_.out (by kernel_rfl)) (fun _ _ _ h => h) (Or.inl ⟨by rfl, ?_⟩) ?_ ?_; rotate_left
    ·intro w'
     go_simp
     with_reducible rfl
    rotate_left
    ·simp only [Act.put, List.setIfInBounds_toArray, List.set_cons_zero, List.set_cons_succ, i64_w, i32_w]; rfl
    refine pure_ (i := 9) (N := some 53) (v := ?_) (a' := ?_) #[true, true, false, true, true, false, false, true, false, true, false, false, false, false, false, false] rfl rfl (any_of HT_.out (by kernel_rfl)) (fun _ _ _ h => h) (Or.inl ⟨by rfl, ?_⟩) ?_ ?_; rotate_left
    ·intro w'
     go_simp
     with_reducible rfl
    rotate_left
    ·simp only [Act.put, List.setIfInBounds_toArray, List.set_cons_zero, List.set_cons_succ, i64_w, i32_w]; rfl
    refine pure_ (i := 10) (N := some 54) (v := ?_) (a' := ?_) #[true, true, false, true, true, false, false, true, false, true, true, false, false, false, false, false] rfl rfl (any_of HT_.out (by kernel_rfl)) (fun _ _ _ h => h) (Or.inl ⟨by rfl, ?_⟩) ?_ ?_; rotate_left
    ·intro w'
     go_simp
     with_reducible rfl
    rotate_left
    ·simp only [Act.put, List.setIfInBounds_toArray, List.set_cons_zero, List.set_cons_succ, i64_w, i32_w]; rfl
    refine take_ (i := 2) (N := some 46) (v := ?_) (a' := ?_) #[true, true, true, true, true, false, false, true, false, true, true, false, false, false, false, false] rfl rfl (take_ofW HT_.out HW_.out (by kernel_rfl)) (fun _ _ _ h => h) (Or.inl ⟨by rfl, ?_⟩) hHeld ?_ ?_; rotate_left
    ·rintro w' ⟨s0, s1, s2, s3, s4, s5, s6⟩
     go_simp
     with_reducible rfl
    rotate_left
    ·simp only [Act.put, List.setIfInBounds_toArray, List.set_cons_zero, List.set_cons_succ, i64_w, i32_w]; rfl
    refine pure_ (i := 5) (N := some 49) (v := ?_) (a' := ?_) #[true, true, true, true, true, true, false, true, false, true, true, false, false, false, false, false] rfl rfl (any_of HT_.out (by kernel_rfl)) (fun _ _ _ h => h) (Or.inl ⟨by rfl, ?_⟩) ?_ ?_; rotate_left
    ·intro w'
     go_simp
     with_reducible rfl
    rotate_left
    ·simp only [Act.put, List.setIfInBounds_toArray, List.set_cons_zero, List.set_cons_succ, i64_w, i32_w]; rfl
    refine take_ (i := 8) (N := some 52) (v := ?_) (a' := ?_) #[true, true, true, true, true, true, false, true, true, true, true, false, false, false, false, false] rfl rfl (take_ofW HT_.out HW_.out (by kernel_rfl)) (fun _ _ _ h => h) (Or.inl ⟨by rfl, ?_⟩) hHeld ?_ ?_; rotate_left
    ·rintro w' ⟨s0, s1, s2, s3, s4, s5, s6⟩
     go_simp
     with_reducible rfl
    rotate_left
    ·simp only [Act.put, List.setIfInBounds_toArray, List.set_cons_zero, List.set_cons_succ, i64_w, i32_w]; rfl
    refine pure_ (i := 11) (N := some 55) (v := ?_) (a' := ?_) #[true, true, true, true, true, true, false, true, true, true, true, true, false, false, false, false] rfl rfl (any_of HT_.out (by kernel_rfl)) (fun _ _ _ h => h) (Or.inl ⟨by rfl, ?_⟩) ?_ ?_; rotate_left
    ·intro w'
     go_simp
     with_reducible rfl
    rotate_left
    ·simp only [Act.put, List.setIfInBounds_toArray, List.set_cons_zero, List.set_cons_succ, i64_w, i32_w]; rfl
    refine one_ (i := 6) (N := some 50) #[true, true, true, true, true, true, true, true, true, true, true, true, false, false, false, false] rfl rfl (one_of HT_.out (by kernel_rfl)) (by decide) (fun K hK => ?_); refine goes_ Try.func28 (by kernel_rfl) rfl #[.slice A0_4 (l0_4.take ((ji21) : Int).toNat).length c0_4] (by rfl) rfl rfl (by (try simp only [List.map_toArray, List.map_cons, List.map_nil]); first | done | (rw [show (l0_4.take ((ji21) : Int).toNat).length = (ji21).toNat from (by rw [List.length_take]; have h_ : ((ji21) : Int) ≤ (l0_4.length : Int) := of_decide_eq_true (by first | (with_reducible assumption) | assumption); omega)] <;> rfl) | (simp only [hji21]; rfl) | rfl | (simp only [List.length_drop, List.length_take]; rfl)) ?_; with_reducible refine (treillageref11_sixes.calls k _ _ (l0_4.take ((ji21) : Int).toNat) t186 _ ?side1 ?side2 A24.out).mono ?_
    (case side1 => repeat (first | exact (Kd.C_below HR185.out HB.out) | (with_reducible refine Kd.C_alloc ?_ _) | (with_reducible refine Kd.C_drewN ?_ _) | (with_reducible refine Kd.C_drew ?_)))
    (case side2 => exact HC185.out)
    rintro e w33 ⟨rfl, hb⟩
    refine ⟨_, rfl, ?_⟩; have n0_ := aA (Kd.R_below (rlu HO177.out) hb); have n1_ := aA (Kd.R_below (rlu HO180.out) hb); have n2_ := aA (Kd.R_below (rlu HO184.out) hb); have n3_ := aA (blk_below (g := gb173) (o := .cells #[.int .i64 a0_0, .int .i64 a0_1, .string a0_2, .string a0_3, .slice A0_4 l0_4.length c0_4, .int .u64 a0_5, .int .i64 a0_6] 37 (0, 0)) (bku BK173.out) hb); have n4_ := aA (below_step (bls HB.out) hb); clear HO177; clear HO180; clear HO184; clear BK173; clear HB; have HO177 := n0_; have HO180 := n1_; have HO184 := n2_; have BK173 := n3_; have HB := n4_; clear n0_ n1_ n2_ n3_ n4_; (try clear hb); (try clear hb2); (try clear hk); (try clear hi); refine hK.out _ _ ⟨(blk_cell BK173.out 0).trans rfl, (blk_cell BK173.out 1).trans rfl, (blk_cell BK173.out 2).trans rfl, (blk_cell BK173.out 3).trans rfl, (blk_cell BK173.out 4).trans rfl, (blk_cell BK173.out 5).trans rfl, (blk_cell BK173.out 6).trans rfl⟩ (fun hHeld => ?_); clear hK K; refine norm_ (a' := ?_) ?_ ?_; rotate_left
    ·show Act.put _ (some 50) _ = _
     simp only [Act.put, List.setIfInBounds_toArray, List.set_cons_zero, List.set_cons_succ, i64_w, i32_w]; rfl
    refine one_ (i := 12) (N := some 56) #[true, true, true, true, true, true, true, true, true, true, true, true, true, false, false, false] rfl rfl (one_of HT_.out (by kernel_rfl)) (by decide) (fun K hK => ?_); refine goes_ Try.func28 (by kernel_rfl) rfl #[.slice A32 (l0_4.drop ((ji21) : Int).toNat).length (c0_4 - (ji21).toNat)] (by rfl) rfl rfl (by (try simp only [List.map_toArray, List.map_cons, List.map_nil]); first | done | (rw [show (l0_4.drop ((ji21) : Int).toNat).length = (l0_4.length - (ji21).toNat) from List.length_drop] <;> rfl) | (simp only [hji21]; rfl) | rfl | (simp only [List.length_drop, List.length_take]; rfl)) ?_; with_reducible refine (treillageref11_sixes.calls k _ _ (l0_4.drop ((ji21) : Int).toNat) t188 _ ?side1 ?side2 A28.out).mono ?_
    (case side1 => repeat (first | exact (Kd.C_below HR187.out HB.out) | (with_reducible refine Kd.C_alloc ?_ _) | (with_reducible refine Kd.C_drewN ?_ _) | (with_reducible refine Kd.C_drew ?_)))
    (case side2 => exact HC187.out)
    rintro e w34 ⟨rfl, hb⟩
    refine ⟨_, rfl, ?_⟩; have n0_ := aA (Kd.R_below (rlu HO177.out) hb); have n1_ := aA (Kd.R_below (rlu HO180.out) hb); have n2_ := aA (Kd.R_below (rlu HO184.out) hb); have n3_ := aA (blk_below (g := gb173) (o := .cells #[.int .i64 a0_0, .int .i64 a0_1, .string a0_2, .string a0_3, .slice A0_4 l0_4.length c0_4, .int .u64 a0_5, .int .i64 a0_6] 37 (0, 0)) (bku BK173.out) hb); have n4_ := aA (below_step (bls HB.out) hb); clear HO177; clear HO180; clear HO184; clear BK173; clear HB; have HO177 := n0_; have HO180 := n1_; have HO184 := n2_; have BK173 := n3_; have HB := n4_; clear n0_ n1_ n2_ n3_ n4_; (try clear hb); (try clear hb2); (try clear hk); (try clear hi); refine hK.out _ _ ⟨(blk_cell BK173.out 0).trans rfl, (blk_cell BK173.out 1).trans rfl, (blk_cell BK173.out 2).trans rfl, (blk_cell BK173.out 3).trans rfl, (blk_cell BK173.out 4).trans rfl, (blk_cell BK173.out 5).trans rfl, (blk_cell BK173.out 6).trans rfl⟩ (fun hHeld => ?_); clear hK K; refine norm_ (a' := ?_) ?_ ?_; rotate_left
    ·show Act.put _ (some 56) _ = _
     simp only [Act.put, List.setIfInBounds_toArray, List.set_cons_zero, List.set_cons_succ, i64_w, i32_w]; rfl
    refine one_ (i := 13) (N := some 57) #[true, true, true, true, true, true, true, true, true, true, true, true, true, true, false, false] rfl rfl (one_of HT_.out (by kernel_rfl)) (by decide) (fun K hK => ?_); refine Kd.R_lit_step (Kd.int .u64) _ 23 ?hg (N := 57) ?hd (xs := ([t186, t188] : List Int)) (inner := [.int .u64 t186, .int .u64 t188]) (ok := fun _ => True) (okp := fun _ => True) ?hr ?hp (fun _ hk => hk) trivial (Below.refl _ _) (Nat.le_refl _) (by simp) ?_; (case hd => rfl); (case hg => rfl); (case hr => first | (go_simp; done) | (go_simp; rfl)); (case hp => exact (Reps.one (show Kd.M (Kd.int .u64) _ _ _ t186 [.int .u64 t186] from rfl) (Reps.one (show Kd.M (Kd.int .u64) _ _ _ t188 [.int .u64 t188] from rfl) (Reps.none _ _))))
    intro v190 w35 ho36 hb hg_ hnew_
    clear hg_ hnew_; (first | rw [← Ny189.out] at ho36 | (simp only [Int.reduceToNat] at ho36; rw [← Ny189.out] at ho36))
    have n0_ := aA (Kd.R_elder' (rlu HO177.out) (Kd.R_base ho36) hb); have n1_ := aA (Kd.R_elder' (rlu HO180.out) (Kd.R_base ho36) hb); have n2_ := aA (Kd.R_elder' (rlu HO184.out) (Kd.R_base ho36) hb); have n3_ := aA (Kd.R_lower (Kd.R_new' (Kd.R_new' (Kd.R_new' ho36 (Kd.R_lt (rlu HO177.out))) (Kd.R_lt (rlu HO180.out))) (Kd.R_lt (rlu HO184.out))) (below_size (bls HB.out))); have n4_ := aA (blk_below (g := gb173) (o := .cells #[.int .i64 a0_0, .int .i64 a0_1, .string a0_2, .string a0_3, .slice A0_4 l0_4.length c0_4, .int .u64 a0_5, .int .i64 a0_6] 37 (0, 0)) (bku BK173.out) hb); have n5_ := aA (below_step (bls HB.out) hb); clear HO177; clear HO180; clear HO184; clear BK173; clear HB; have HO177 := n0_; have HO180 := n1_; have HO184 := n2_; have HO191 := n3_; have BK173 := n4_; have HB := n5_; clear n0_ n1_ n2_ n3_ n4_ n5_; clear hb ho36; obtain ⟨Ao38, co38, eo38⟩ := Kd.R_slice HO191.out; (first | subst eo38 | (injection eo38 with f1_ f2_ f3_; have f4_ := f1_.symm; have f5_ := f3_.symm; clear f1_ f2_ f3_; subst f4_; subst f5_))
    refine hK.out _ _ ⟨(blk_cell BK173.out 0).trans rfl, (blk_cell BK173.out 1).trans rfl, (blk_cell BK173.out 2).trans rfl, (blk_cell BK173.out 3).trans rfl, (blk_cell BK173.out 4).trans rfl, (blk_cell BK173.out 5).trans rfl, (blk_cell BK173.out 6).trans rfl⟩ (fun hHeld => ?_); clear hK K; refine norm_ (a' := ?_) ?_ ?_; rotate_left
    ·show Act.put _ (some 57) _ = _
     simp only [Act.put, List.setIfInBounds_toArray, List.set_cons_zero, List.set_cons_succ, i64_w, i32_w]; rfl
    refine one_ (i := 14) (N := some 58) #[true, true, true, true, true, true, true, true, true, true, true, true, true, true, true, false] rfl rfl (one_of HT_.out (by kernel_rfl)) (by decide) (fun K hK => ?_); refine Kd.R_append_rows_step (Kd.int .u64) (w0 := w) w.heap.size (by rfl) (.tmp 44) (.tmp 57) 28 23 (.int .u64 0) 8 rfl Try.underlying28 info23 rfl (by decide) (by omega) v183 y182 y189 _ _ _ (fun k_ => some k_ ≠ (.slice Ao16 y175.length co16 : Value).ownBlock ∧ some k_ ≠ (.slice Ao17 y178.length co17 : Value).ownBlock ∧ some k_ ≠ (.slice Ao38 y189.length co38 : Value).ownBlock) (fun _ => False) rfl rfl ?aO ?aR (fun _ _ h => h) (fun _ h => h.elim) ?aF ?aB ?aS ?aL ?_; (case aR => repeat (first | exact (Kd.R_reads' HO191.out).2.2 | (with_reducible refine Kd.C_alloc ?_ _) | (with_reducible refine Kd.C_drewN ?_ _) | (with_reducible refine Kd.C_drew ?_)))
    (case aB => exact (bls HB.out))
    (case aF => exact (fun k_ hk => ⟨Kd.fresh' (Kd.R_lt (rlu HO177.out)) k_ hk, Kd.fresh' (Kd.R_lt (rlu HO180.out)) k_ hk, Kd.fresh' (Kd.R_lt (rlu HO191.out)) k_ hk⟩))
    (case aO => exact (rlu (Kd.R_mono HO184.out (fun _ hk => ⟨hk.1.1.2, ⟨hk.1.2, hk.2⟩⟩))))
    (case aS => exact (below_size (bls HB.out)))
    (case aL => have := LMc29.out; omega)
    intro v193 w37 ho hb hg hat
    rw [← Ny192.out] at ho; have n0_ := aA (blk_grown (g := gb173) (o := .cells #[.int .i64 a0_0, .int .i64 a0_1, .string a0_2, .string a0_3, .slice A0_4 l0_4.length c0_4, .int .u64 a0_5, .int .i64 a0_6] 37 (0, 0)) (bku BK173.out) hg (Kd.R_ne HO184.out BK173.out (by decide))); have n1_ := aA (Kd.R_after (ok := (fun k_ => some k_ ≠ (.slice Ao17 y178.length co17 : Value).ownBlock ∧ some k_ ≠ (.slice Ao38 y189.length co38 : Value).ownBlock)) (rlu (Kd.R_mono HO177.out (fun _ hk => ⟨⟨hk.1.1, hk.2⟩, hk.1.2⟩))) hg hat); have n2_ := aA (Kd.R_after (ok := (fun k_ => some k_ ≠ (.slice Ao16 y175.length co16 : Value).ownBlock ∧ some k_ ≠ (.slice Ao38 y189.length co38 : Value).ownBlock)) (rlu (Kd.R_mono HO180.out (fun _ hk => ⟨⟨hk.1.1, hk.2⟩, hk.1.2⟩))) hg hat); have n3_ := aA (Kd.R_after (ok := (fun k_ => some k_ ≠ (.slice Ao16 y175.length co16 : Value).ownBlock ∧ some k_ ≠ (.slice Ao17 y178.length co17 : Value).ownBlock)) (rlu (Kd.R_mono HO191.out (fun _ hk => ⟨⟨hk.1.1.2, hk.1.2⟩, hk.2⟩))) hg hat); have n4_ := aA (hb); have n5_ := aA (ho); clear BK173; clear HO177; clear HO180; clear HO191; clear HB; clear HO184; have BK173 := n0_; have HO177 := n1_; have HO180 := n2_; have HO191 := n3_; have HB := n4_; have HO194 := n5_; clear n0_ n1_ n2_ n3_ n4_ n5_; clear ho hb hg hat; refine hK.out _ _ ⟨(blk_cell BK173.out 0).trans rfl, (blk_cell BK173.out 1).trans rfl, (blk_cell BK173.out 2).trans rfl, (blk_cell BK173.out 3).trans rfl, (blk_cell BK173.out 4).trans rfl, (blk_cell BK173.out 5).trans rfl, (blk_cell BK173.out 6).trans rfl⟩ (fun hHeld => ?_); clear hK K; refine norm_ (a' := ?_) ?_ ?_; rotate_left
    ·show Act.put _ (some 58) _ = _
     simp only [Act.put, List.setIfInBounds_toArray, List.set_cons_zero, List.set_cons_succ, i64_w, i32_w]; rfl
    refine pure_ (i := 15) (N := some 5) (v := ?_) (a' := ?_) #[true, true, true, true, true, true, true, true, true, true, true, true, true, true, true, true] rfl rfl (any_of HT_.out (by kernel_rfl)) (fun _ _ _ h => h) (Or.inl ⟨by rfl, ?_⟩) ?_ ?_; rotate_left
    ·intro w'
     go_simp
     with_reducible rfl
    rotate_left
    ·simp only [Act.put, List.setIfInBounds_toArray, List.set_cons_zero, List.set_cons_succ, i64_w, i32_w]; rfl
    refine done_ (done_of HT_.out (by kernel_rfl)) ?_; try go_wp2
    go_meet
    case rel => exact ⟨_, (y192), H', ⟨by first | omega | exact Nat.le_refl _⟩, ⟨by (with_reducible repeat (first | apply Kd.R_alloc | apply Kd.R_drewN | apply Kd.R_drew)); exact Kd.R_mono HO194.out (fun _ hk => trivial)⟩, ⟨by (with_reducible repeat (first | refine blk_drewN ?_ _ | refine blk_drew ?_ | refine blk_alloc ?_ _)); exact BK173.out⟩, ⟨by repeat (first | (with_reducible first | exact HB.out | apply below_alloc | apply pw_below_drewN | apply below_drew1 | refine below_set ?_ GE173.out) | exact HB.out)⟩⟩
   ·rw [if_neg c20] at H; have c20b0 : decide (0 < (l0_4.length : Int)) = false := decide_eq_false c20; have c20b1 : decide (0 < l0_4.length) = false := decide_eq_false (by omega); clear c20; (first | rw [c20b0] | rw [c20b1] | (simp only [i64_w, i32_w]; rw [c20b0]) | skip)
    have H' := aA H; clear H; go_wp2; go_meet
    case rel => exact ⟨_, (y182), H', ⟨by first | omega | exact Nat.le_refl _⟩, ⟨by (with_reducible repeat (first | apply Kd.R_alloc | apply Kd.R_drewN | apply Kd.R_drew)); exact Kd.R_mono HO184.out (fun _ hk => trivial)⟩, ⟨by (with_reducible repeat (first | refine blk_drewN ?_ _ | refine blk_drew ?_ | refine blk_alloc ?_ _)); exact BK173.out⟩, ⟨by repeat (first | (with_reducible first | exact HB.out | apply below_alloc | apply pw_below_drewN | apply below_drew1 | refine below_set ?_ GE173.out) | exact HB.out)⟩⟩
  case rest =>
   clear HC5; try clear c2
   try clear p2
   try clear p6
   try clear c20
   try clear c20b0
   try clear c20b1
   try clear c22
   try clear c22b0
   try clear c22b1
   try clear c23
   try clear c23b0
   try clear c23b1
   try clear c25
   try clear c25b0
   try clear c26
   try clear c26b0
   try clear c27
   try clear c27b0
   try clear c28
   try clear c29
   obtain ⟨kq, x5_4, HA, HJ4, HO_5, BK173, HB⟩ := hcut; cases kq with
   | zero => exact absurd HA.out (by simp [treillageref11_Pack.j0])
   | succ kj4 =>
    have H := HA.out; clear HA; simp only [treillageref11_Pack.j0] at H; replace H := Option.bind_eq_some_iff.mp H; obtain ⟨t195, A390, H⟩ := H; replace H : (if x5_4.length + t195.length < 17592186044416 then ((some (x5_4 ++ t195 : List Int)).bind fun y198 => ((treillageref11_Words.f kj4 a0_3).bind fun t201 => (if y198.length + t201.length < 17592186044416 then (treillageref11_Pack.l0 kj4 (l0_4.length : Int) (y198 ++ t201) 0 a0_0 a0_1 a0_2 a0_3 l0_4 a0_5 a0_6) else (none)))) else (none)) = some (r1, r2) := H; have A39 := aA A390; clear A390; by_cases c40 : x5_4.length + t195.length < 17592186044416
    rotate_left
    ·rw [if_neg c40] at H; exact absurd H (by simp)
    rw [if_pos c40] at H; have LMc40 := aA c40; clear c40; obtain ⟨y198, hy198⟩ : ∃ y_ : List Int, y_ = (x5_4 ++ t195) := ⟨_, rfl⟩; replace H : ((treillageref11_Words.f kj4 a0_3).bind fun t201 => (if y198.length + t201.length < 17592186044416 then (treillageref11_Pack.l0 kj4 (l0_4.length : Int) (y198 ++ t201) 0 a0_0 a0_1 a0_2 a0_3 l0_4 a0_5 a0_6) else (none))) = some (r1, r2) := by first | (rw [hy198]; with_reducible exact H) | (have H2_ := (Option.bind_some _ _).symm.trans H; rw [hy198]; with_reducible exact H2_) | (have H2_ := (Option.bind_some _ _).symm.trans H; with_reducible exact H2_) | with_reducible exact H | (rw [hy198]; exact H) | exact H
    have Ny198 := aA hy198; clear hy198; replace H := Option.bind_eq_some_iff.mp H; obtain ⟨t201, A410, H⟩ := H; replace H : (if y198.length + t201.length < 17592186044416 then (treillageref11_Pack.l0 kj4 (l0_4.length : Int) (y198 ++ t201) 0 a0_0 a0_1 a0_2 a0_3 l0_4 a0_5 a0_6) else (none)) = some (r1, r2) := H; have A41 := aA A410; clear A410; by_cases c42 : y198.length + t201.length < 17592186044416
    rotate_left
    ·rw [if_neg c42] at H; exact absurd H (by simp)
    rw [if_pos c42] at H; have LMc42 := aA c42; clear c42; obtain ⟨y204, hy204⟩ : ∃ y_ : List Int, y_ = (y198 ++ t201) := ⟨_, rfl⟩; replace H : (treillageref11_Pack.l0 kj4 (l0_4.length : Int) y204 0 a0_0 a0_1 a0_2 a0_3 l0_4 a0_5 a0_6) = some (r1, r2) := by first | (rw [hy204]; with_reducible exact H) | (have H2_ := (Option.bind_some _ _).symm.trans H; rw [hy204]; with_reducible exact H2_) | (have H2_ := (Option.bind_some _ _).symm.trans H; with_reducible exact H2_) | with_reducible exact H | (rw [hy204]; exact H) | exact H
    have Ny204 := aA hy204; clear hy204; have H' := aA H; clear H; have hcz43_0 : wc.cell? ⟨gb173, 0, none⟩ = some (.int .i64 a0_0) := (blk_cell BK173.out 0).trans rfl; have hcz43_1 : wc.cell? ⟨gb173, 1, none⟩ = some (.int .i64 a0_1) := (blk_cell BK173.out 1).trans rfl; have hcz43_2 : wc.cell? ⟨gb173, 2, none⟩ = some (.string a0_2) := (blk_cell BK173.out 2).trans rfl; have hcz43_3 : wc.cell? ⟨gb173, 3, none⟩ = some (.string a0_3) := (blk_cell BK173.out 3).trans rfl; have hcz43_4 : wc.cell? ⟨gb173, 4, none⟩ = some (.slice A0_4 l0_4.length c0_4) := (blk_cell BK173.out 4).trans rfl; have hcz43_5 : wc.cell? ⟨gb173, 5, none⟩ = some (.int .u64 a0_5) := (blk_cell BK173.out 5).trans rfl; have hcz43_6 : wc.cell? ⟨gb173, 6, none⟩ = some (.int .i64 a0_6) := (blk_cell BK173.out 6).trans rfl; have hfz43_0 := blk_frozen BK173.out 0; have hfz43_1 := blk_frozen BK173.out 1; have hfz43_2 := blk_frozen BK173.out 2; have hfz43_3 := blk_frozen BK173.out 3; have hfz43_4 := blk_frozen BK173.out 4; have hfz43_5 := blk_frozen BK173.out 5; have hfz43_6 := blk_frozen BK173.out 6; go_wp2_with (first | ((with_reducible refine gate_callee (f := 23) rfl ?_); refine goesL_ (some 62) rfl rfl Try.func23 (by kernel_rfl) rfl #[.string a0_2] rfl (by (try simp only [List.map_toArray, List.map_cons, List.map_nil]); first | done | rfl | (simp only [List.length_drop, List.length_take]; rfl)) ?_; (with_reducible refine (treillageref11_Words.calls kj4 a0_2 t195 _ A39.out).mono ?_); rintro e w44 ⟨v196, rfl, ho0, hb⟩; refine ⟨_, rfl, ?_⟩; have n0_ := aA (Kd.R_elder' (rlu HO_5.out) (Kd.R_base ho0) hb); have n1_ := aA (Kd.R_lower (Kd.R_new' ho0 (Kd.R_lt (rlu HO_5.out))) (below_size (bls HB.out))); have n2_ := aA (blk_below (g := gb173) (o := .cells #[.int .i64 a0_0, .int .i64 a0_1, .string a0_2, .string a0_3, .slice A0_4 l0_4.length c0_4, .int .u64 a0_5, .int .i64 a0_6] 37 (0, 0)) (bku BK173.out) hb); have n3_ := aA (below_step (bls HB.out) hb); clear HO_5 BK173 HB; have HO_5 := n0_; have HO197 := n1_; have BK173 := n2_; have HB := n3_; clear n0_ n1_ n2_ n3_; (try clear hb); (try clear hb2); (try clear hk); (try clear hi); (try clear ho0); obtain ⟨Ao46, co46, eo46⟩ := Kd.R_slice HO197.out; subst eo46) | ((with_reducible refine gate_builtin (b := .append) (xs := #[.tmp 59, .tmp 62]) rfl ?_); at_builtin; refine Kd.R_append_rows (Kd.int .u64) (w0 := w) w.heap.size rfl (.tmp 59) (.tmp 62) 28 23 (.int .u64 0) 8 rfl Try.underlying28 info23 rfl (by decide) (by omega) u5 x5_4 t195 _ _ _ (fun k_ => some k_ ≠ (.slice Ao46 t195.length co46 : Value).ownBlock) (fun _ => False) rfl rfl ?aO ?aR (fun _ _ h => h) (fun _ h => h.elim) ?aF ?aB ?aS ?aL ?_; (case aR => repeat (first | exact (Kd.R_reads' HO197.out).2.2 | (with_reducible refine Kd.C_alloc ?_ _) | (with_reducible refine Kd.C_drewN ?_ _) | (with_reducible refine Kd.C_drew ?_))); (case aB => exact (bls HB.out)); (case aF => exact (fun k_ hk => Kd.fresh' (Kd.R_lt (rlu HO197.out)) k_ hk)); (case aO => exact (rlu (Kd.R_mono HO_5.out (fun _ hk => hk.2)))); (case aS => exact (below_size (bls HB.out))); (case aL => have := LMc40.out; omega); intro v199 w45 ho hb hg hat; rw [← Ny198.out] at ho; have n0_ := aA (blk_grown (g := gb173) (o := .cells #[.int .i64 a0_0, .int .i64 a0_1, .string a0_2, .string a0_3, .slice A0_4 l0_4.length c0_4, .int .u64 a0_5, .int .i64 a0_6] 37 (0, 0)) (bku BK173.out) hg (Kd.R_ne HO_5.out BK173.out (by decide))); have n1_ := aA (Kd.R_after (ok := (fun _ => True)) (rlu HO197.out) hg hat); have n2_ := aA (hb); have n3_ := aA (ho); clear BK173 HO197 HB HO_5; have BK173 := n0_; have HO197 := n1_; have HB := n2_; have HO200 := n3_; clear n0_ n1_ n2_ n3_ ho hb hg hat; have hcz47_0 : w45.cell? ⟨gb173, 0, none⟩ = some (.int .i64 a0_0) := (blk_cell BK173.out 0).trans rfl; have hcz47_1 : w45.cell? ⟨gb173, 1, none⟩ = some (.int .i64 a0_1) := (blk_cell BK173.out 1).trans rfl; have hcz47_2 : w45.cell? ⟨gb173, 2, none⟩ = some (.string a0_2) := (blk_cell BK173.out 2).trans rfl; have hcz47_3 : w45.cell? ⟨gb173, 3, none⟩ = some (.string a0_3) := (blk_cell BK173.out 3).trans rfl; have hcz47_4 : w45.cell? ⟨gb173, 4, none⟩ = some (.slice A0_4 l0_4.length c0_4) := (blk_cell BK173.out 4).trans rfl; have hcz47_5 : w45.cell? ⟨gb173, 5, none⟩ = some (.int .u64 a0_5) := (blk_cell BK173.out 5).trans rfl; have hcz47_6 : w45.cell? ⟨gb173, 6, none⟩ = some (.int .i64 a0_6) := (blk_cell BK173.out 6).trans rfl; have hfz47_0 := blk_frozen BK173.out 0; have hfz47_1 := blk_frozen BK173.out 1; have hfz47_2 := blk_frozen BK173.out 2; have hfz47_3 := blk_frozen BK173.out 3; have hfz47_4 := blk_frozen BK173.out 4; have hfz47_5 := blk_frozen BK173.out 5; have hfz47_6 := blk_frozen BK173.out 6) | ((with_reducible refine gate_callee (f := 23) rfl ?_); refine goesL_ (some 67) rfl rfl Try.func23 (by kernel_rfl) rfl #[.string a0_3] rfl (by (try simp only [List.map_toArray, List.map_cons, List.map_nil]); first | done | rfl | (simp only [List.length_drop, List.length_take]; rfl)) ?_; (with_reducible refine (treillageref11_Words.calls kj4 a0_3 t201 _ A41.out).mono ?_); rintro e w48 ⟨v202, rfl, ho0, hb⟩; refine ⟨_, rfl, ?_⟩; have n0_ := aA (Kd.R_elder' (rlu HO197.out) (Kd.R_base ho0) hb); have n1_ := aA (Kd.R_elder' (rlu HO200.out) (Kd.R_base ho0) hb); have n2_ := aA (Kd.R_lower (Kd.R_new' (Kd.R_new' ho0 (Kd.R_lt (rlu HO197.out))) (Kd.R_lt (rlu HO200.out))) (below_size (bls HB.out))); have n3_ := aA (blk_below (g := gb173) (o := .cells #[.int .i64 a0_0, .int .i64 a0_1, .string a0_2, .string a0_3, .slice A0_4 l0_4.length c0_4, .int .u64 a0_5, .int .i64 a0_6] 37 (0, 0)) (bku BK173.out) hb); have n4_ := aA (below_step (bls HB.out) hb); clear HO197 HO200 BK173 HB; have HO197 := n0_; have HO200 := n1_; have HO203 := n2_; have BK173 := n3_; have HB := n4_; clear n0_ n1_ n2_ n3_ n4_; (try clear hb); (try clear hb2); (try clear hk); (try clear hi); (try clear ho0); obtain ⟨Ao50, co50, eo50⟩ := Kd.R_slice HO203.out; subst eo50) | ((with_reducible refine gate_builtin (b := .append) (xs := #[.tmp 64, .tmp 67]) rfl ?_); at_builtin; refine Kd.R_append_rows (Kd.int .u64) (w0 := w) w.heap.size rfl (.tmp 64) (.tmp 67) 28 23 (.int .u64 0) 8 rfl Try.underlying28 info23 rfl (by decide) (by omega) v199 y198 t201 _ _ _ (fun k_ => some k_ ≠ (.slice Ao46 t195.length co46 : Value).ownBlock ∧ some k_ ≠ (.slice Ao50 t201.length co50 : Value).ownBlock) (fun _ => False) rfl rfl ?aO ?aR (fun _ _ h => h) (fun _ h => h.elim) ?aF ?aB ?aS ?aL ?_; (case aR => repeat (first | exact (Kd.R_reads' HO203.out).2.2 | (with_reducible refine Kd.C_alloc ?_ _) | (with_reducible refine Kd.C_drewN ?_ _) | (with_reducible refine Kd.C_drew ?_))); (case aB => exact (bls HB.out)); (case aF => exact (fun k_ hk => ⟨Kd.fresh' (Kd.R_lt (rlu HO197.out)) k_ hk, Kd.fresh' (Kd.R_lt (rlu HO203.out)) k_ hk⟩)); (case aO => exact (rlu HO200.out)); (case aS => exact (below_size (bls HB.out))); (case aL => have := LMc42.out; omega); intro v205 w49 ho hb hg hat; rw [← Ny204.out] at ho; have n0_ := aA (blk_grown (g := gb173) (o := .cells #[.int .i64 a0_0, .int .i64 a0_1, .string a0_2, .string a0_3, .slice A0_4 l0_4.length c0_4, .int .u64 a0_5, .int .i64 a0_6] 37 (0, 0)) (bku BK173.out) hg (Kd.R_ne HO200.out BK173.out (by decide))); have n1_ := aA (Kd.R_after (ok := (fun k_ => some k_ ≠ (.slice Ao50 t201.length co50 : Value).ownBlock)) (rlu (Kd.R_mono HO197.out (fun _ hk => ⟨hk.2, hk.1.2⟩))) hg hat); have n2_ := aA (Kd.R_after (ok := (fun k_ => some k_ ≠ (.slice Ao46 t195.length co46 : Value).ownBlock)) (rlu (Kd.R_mono HO203.out (fun _ hk => ⟨hk.1.2, hk.2⟩))) hg hat); have n3_ := aA (hb); have n4_ := aA (ho); clear BK173 HO197 HO203 HB HO200; have BK173 := n0_; have HO197 := n1_; have HO203 := n2_; have HB := n3_; have HO206 := n4_; clear n0_ n1_ n2_ n3_ n4_ ho hb hg hat))
    go_loopg [5, 6] kj4 (fun kq v5 v6 w' => ∃ (x5_2 : List Int) (x6_2 : Int), v6 = .int .i64 x6_2 ∧ Aside0 (treillageref11_Pack.l0 kq (l0_4.length : Int) x5_2 x6_2 a0_0 a0_1 a0_2 a0_3 l0_4 a0_5 a0_6 = some (r1, r2)) ∧ Aside0 (kq ≤ kj4) ∧ Aside0 (Kd.R (Kd.int .u64) 23 w' w.heap.size (fun _ => True) v5 x5_2) ∧ Aside0 (w'.heap[gb173]? = some (.cells #[.int .i64 a0_0, .int .i64 a0_1, .string a0_2, .string a0_3, (.slice A0_4 l0_4.length c0_4), .int .u64 a0_5, .int .i64 a0_6] 37 (0, 0))) ∧ Aside0 (Below w.heap.size w w'))
    case atStart => exact ⟨(y204), (0), (by first | rfl | (simp; done) | (simp [*]; done)), H', ⟨Nat.le_refl _⟩, ⟨by (with_reducible repeat (first | apply Kd.R_alloc | apply Kd.R_drewN | apply Kd.R_drew)); exact Kd.R_mono HO206.out (fun _ hk => trivial)⟩, ⟨by (with_reducible repeat (first | refine blk_drewN ?_ _ | refine blk_drew ?_ | refine blk_alloc ?_ _)); exact BK173.out⟩, ⟨by repeat (first | (with_reducible first | exact HB.out | apply below_alloc | apply pw_below_drewN | apply below_drew1 | refine below_set ?_ GE173.out) | exact HB.out)⟩⟩
    case round =>
     clear H'; try clear c2
     try clear p2
     try clear c4
     try clear p6
     try clear c20
     try clear c20b0
     try clear c20b1
     try clear c22
     try clear c22b0
     try clear c22b1
     try clear c23
     try clear c23b0
     try clear c23b1
     try clear c25
     try clear c25b0
     try clear c26
     try clear c26b0
     try clear c27
     try clear c27b0
     try clear c28
     try clear c29
     try clear c40
     try clear c42
     try clear hcz43_0
     try clear hcz43_1
     try clear hcz43_2
     try clear hcz43_3
     try clear hcz43_4
     try clear hcz43_5
     try clear hcz43_6
     try clear hcz47_0
     try clear hcz47_1
     try clear hcz47_2
     try clear hcz47_3
     try clear hcz47_4
     try clear hcz47_5
     try clear hcz47_6
     try clear hfz43_0
     try clear hfz43_1
     try clear hfz43_2
     try clear hfz43_3
     try clear hfz43_4
     try clear hfz43_5
     try clear hfz43_6
     try clear hfz47_0
     try clear hfz47_1
     try clear hfz47_2
     try clear hfz47_3
     try clear hfz47_4
     try clear hfz47_5
     try clear hfz47_6
     try clear p2
     try clear p6
     obtain ⟨x5_2, x6_2, rfl, HA, HK2, HO_5, BK173, HB⟩ := hrel; cases gk with
     | zero => exact absurd HA.out (by simp [treillageref11_Pack.l0])
     | succ k2 =>
      have H := HA.out; clear HA; simp only [treillageref11_Pack.l0] at H; by_cases c51 : x6_2 < (l0_4.length : Int)
      ·rw [if_pos c51] at H; have c51b0 : decide (x6_2 < (l0_4.length : Int)) = true := decide_eq_true c51; clear c51; by_cases c52 : 0 ≤ x6_2
       rotate_left
       ·rw [if_neg c52] at H; exact absurd H (by simp)
       rw [if_pos c52] at H; have c52b0 : decide (0 ≤ x6_2) = true := decide_eq_true c52; clear c52; by_cases c53 : x6_2 < (l0_4.length : Int)
       rotate_left
       ·rw [if_neg c53] at H; exact absurd H (by simp)
       rw [if_pos c53] at H; have c53b0 : decide (x6_2 < (l0_4.length : Int)) = true := decide_eq_true c53; clear c53; replace H := Option.bind_eq_some_iff.mp H; obtain ⟨t208, A540, H⟩ := H; replace H : (if x5_2.length + t208.length < 17592186044416 then (treillageref11_Pack.l0 k2 (l0_4.length : Int) (x5_2 ++ t208) (wrap64 (x6_2 + 1)) a0_0 a0_1 a0_2 a0_3 l0_4 a0_5 a0_6) else (none)) = some (r1, r2) := H; have A54 := aA A540; clear A540; by_cases c55 : x5_2.length + t208.length < 17592186044416
       rotate_left
       ·rw [if_neg c55] at H; exact absurd H (by simp)
       rw [if_pos c55] at H; have LMc55 := aA c55; clear c55; obtain ⟨y211, hy211⟩ : ∃ y_ : List Int, y_ = (x5_2 ++ t208) := ⟨_, rfl⟩; replace H : (treillageref11_Pack.l0 k2 (l0_4.length : Int) y211 (wrap64 (x6_2 + 1)) a0_0 a0_1 a0_2 a0_3 l0_4 a0_5 a0_6) = some (r1, r2) := by first | (rw [hy211]; with_reducible exact H) | (have H2_ := (Option.bind_some _ _).symm.trans H; rw [hy211]; with_reducible exact H2_) | (have H2_ := (Option.bind_some _ _).symm.trans H; with_reducible exact H2_) | with_reducible exact H | (rw [hy211]; exact H) | exact H
       have Ny211 := aA hy211; clear hy211; have H' := aA H; clear H; have hcz56_0 : wr.cell? ⟨gb173, 0, none⟩ = some (.int .i64 a0_0) := (blk_cell BK173.out 0).trans rfl; have hcz56_1 : wr.cell? ⟨gb173, 1, none⟩ = some (.int .i64 a0_1) := (blk_cell BK173.out 1).trans rfl; have hcz56_2 : wr.cell? ⟨gb173, 2, none⟩ = some (.string a0_2) := (blk_cell BK173.out 2).trans rfl; have hcz56_3 : wr.cell? ⟨gb173, 3, none⟩ = some (.string a0_3) := (blk_cell BK173.out 3).trans rfl; have hcz56_4 : wr.cell? ⟨gb173, 4, none⟩ = some (.slice A0_4 l0_4.length c0_4) := (blk_cell BK173.out 4).trans rfl; have hcz56_5 : wr.cell? ⟨gb173, 5, none⟩ = some (.int .u64 a0_5) := (blk_cell BK173.out 5).trans rfl; have hcz56_6 : wr.cell? ⟨gb173, 6, none⟩ = some (.int .i64 a0_6) := (blk_cell BK173.out 6).trans rfl; have hfz56_0 := blk_frozen BK173.out 0; have hfz56_1 := blk_frozen BK173.out 1; have hfz56_2 := blk_frozen BK173.out 2; have hfz56_3 := blk_frozen BK173.out 3; have hfz56_4 := blk_frozen BK173.out 4; have hfz56_5 := blk_frozen BK173.out 5; have hfz56_6 := blk_frozen BK173.out 6; have p207 : 0 ≤ (x6_2 : Int) := of_decide_eq_true (by first | (with_reducible assumption) | assumption); have q207 : x6_2 < (l0_4.length : Int) := of_decide_eq_true (by first | (with_reducible assumption) | assumption); obtain ⟨ad207, e207, hx207_0⟩ := Kd.at_string HR0_4.out x6_2 p207 q207; cases e207
       replace hx207_0 := (HB.out.cell (World.block_lt_of_cell? w _ hx207_0)).trans hx207_0; replace p207 := eq_true p207; replace q207 := eq_true q207; go_wp2_with (first | ((with_reducible refine gate_callee (f := 23) rfl ?_); refine goesL_ (some 80) rfl rfl Try.func23 (by kernel_rfl) rfl #[.string (rdOf ByteArray.empty l0_4 x6_2)] rfl (by (try simp only [List.map_toArray, List.map_cons, List.map_nil]); first | done | rfl | (simp only [List.length_drop, List.length_take]; rfl)) ?_; (with_reducible refine (treillageref11_Words.calls k2 (rdOf ByteArray.empty l0_4 x6_2) t208 _ A54.out).mono ?_); rintro e w57 ⟨v209, rfl, ho0, hb⟩; refine ⟨_, rfl, ?_⟩; have n0_ := aA (Kd.R_elder' (rlu HO_5.out) (Kd.R_base ho0) hb); have n1_ := aA (Kd.R_lower (Kd.R_new' ho0 (Kd.R_lt (rlu HO_5.out))) (below_size (bls HB.out))); have n2_ := aA (blk_below (g := gb173) (o := .cells #[.int .i64 a0_0, .int .i64 a0_1, .string a0_2, .string a0_3, .slice (some ad207) l0_4.length c0_4, .int .u64 a0_5, .int .i64 a0_6] 37 (0, 0)) (bku BK173.out) hb); have n3_ := aA (below_step (bls HB.out) hb); clear HO_5 BK173 HB; have HO_5 := n0_; have HO210 := n1_; have BK173 := n2_; have HB := n3_; clear n0_ n1_ n2_ n3_; (try clear hb); (try clear hb2); (try clear hk); (try clear hi); (try clear ho0); obtain ⟨Ao59, co59, eo59⟩ := Kd.R_slice HO210.out; subst eo59) | ((with_reducible refine gate_builtin (b := .append) (xs := #[.tmp 74, .tmp 80]) rfl ?_); at_builtin; refine Kd.R_append_rows (Kd.int .u64) (w0 := w) w.heap.size rfl (.tmp 74) (.tmp 80) 28 23 (.int .u64 0) 8 rfl Try.underlying28 info23 rfl (by decide) (by omega) u5 x5_2 t208 _ _ _ (fun k_ => some k_ ≠ (.slice Ao59 t208.length co59 : Value).ownBlock) (fun _ => False) rfl rfl ?aO ?aR (fun _ _ h => h) (fun _ h => h.elim) ?aF ?aB ?aS ?aL ?_; (case aR => repeat (first | exact (Kd.R_reads' HO210.out).2.2 | (with_reducible refine Kd.C_alloc ?_ _) | (with_reducible refine Kd.C_drewN ?_ _) | (with_reducible refine Kd.C_drew ?_))); (case aB => exact (bls HB.out)); (case aF => exact (fun k_ hk => Kd.fresh' (Kd.R_lt (rlu HO210.out)) k_ hk)); (case aO => exact (rlu (Kd.R_mono HO_5.out (fun _ hk => hk.2)))); (case aS => exact (below_size (bls HB.out))); (case aL => have := LMc55.out; omega); intro v212 w58 ho hb hg hat; rw [← Ny211.out] at ho; have n0_ := aA (blk_grown (g := gb173) (o := .cells #[.int .i64 a0_0, .int .i64 a0_1, .string a0_2, .string a0_3, .slice (some ad207) l0_4.length c0_4, .int .u64 a0_5, .int .i64 a0_6] 37 (0, 0)) (bku BK173.out) hg (Kd.R_ne HO_5.out BK173.out (by decide))); have n1_ := aA (Kd.R_after (ok := (fun _ => True)) (rlu HO210.out) hg hat); have n2_ := aA (hb); have n3_ := aA (ho); clear BK173 HO210 HB HO_5; have BK173 := n0_; have HO210 := n1_; have HB := n2_; have HO213 := n3_; clear n0_ n1_ n2_ n3_ ho hb hg hat))
       go_roundg k2
       case measure => have := HJ4.out; have := HK2.out; omega
       case rel => exact ⟨(y211), (wrap64 (x6_2 + 1)), (by first | rfl | (simp; done) | (simp [*]; done)), H', ⟨by have := HJ4.out; have := HK2.out; omega⟩, ⟨by (with_reducible repeat (first | apply Kd.R_alloc | apply Kd.R_drewN | apply Kd.R_drew)); exact Kd.R_mono HO213.out (fun _ hk => trivial)⟩, ⟨by (with_reducible repeat (first | refine blk_drewN ?_ _ | refine blk_drew ?_ | refine blk_alloc ?_ _)); exact BK173.out⟩, ⟨by repeat (first | (with_reducible first | exact HB.out | apply below_alloc | apply pw_below_drewN | apply below_drew1 | refine below_set ?_ GE173.out) | exact HB.out)⟩⟩
      ·rw [if_neg c51] at H; have c51b0 : decide (x6_2 < (l0_4.length : Int)) = false := decide_eq_false c51; clear c51; simp only [Option.some.injEq, Prod.mk.injEq] at H; obtain ⟨rfl, rfl⟩ := H; go_wp2; go_ret2
       exact ⟨_, by first | rfl | (simp [errW_none, errW_some] <;> rfl) | (simp [*, errW_none, errW_some] <;> rfl), by (with_reducible repeat (first | apply Kd.R_alloc | apply Kd.R_drewN | apply Kd.R_drew)); exact HO_5.out, by repeat (first | (with_reducible first | exact HB.out | apply below_alloc | apply pw_below_drewN | apply below_drew1 | refine below_set ?_ GE173.out) | exact HB.out)⟩
 ·replace c3 := Bool.eq_false_iff.mpr c3; subst c3; have H1 : (some (([] : List Int), 1)) = some (r1, r2) := by rw [if_neg (show ¬ (false = true) by decide)] at H; exact H
  clear H; have H := H1; clear H1; simp only [Option.some.injEq, Prod.mk.injEq] at H; obtain ⟨rfl, rfl⟩ := H; go_enter Try.func12, Try.ntmps12; go_wp2_with (first | ((with_reducible refine gate_dst (N := 1) rfl ?_); refine box_event ?hg (N := 1) ?hd (cs := #[.int .i64 a0_0, .int .i64 a0_1, .string a0_2, .string a0_3, .slice A0_4 l0_4.length c0_4, .int .u64 a0_5, .int .i64 a0_6]) (t := 37) ?hr ?_; (case hd => rfl); (case hg => rfl); (case hr => first | (go_simp; done) | (go_simp; rfl)); intro gb173 hg w60 hbox hb; have n0_ := aA (below_step (blw HB.out) hb); have n1_ := aA (hbox); have n2_ := aA ((by rw [hg]; exact (below_size (blw HB.out)) : w.heap.size ≤ gb173)); have n3_ := aA ((by rw [hg]; exact (below_size (blw HB.out)) : w.heap.size ≤ gb173)); clear HB; have HB := n0_; have BK173 := n1_; have GW173 := n2_; have GE173 := n3_; clear n0_ n1_ n2_ n3_ hb hbox hg; have hcz61_0 : w60.cell? ⟨gb173, 0, none⟩ = some (.int .i64 a0_0) := (blk_cell BK173.out 0).trans rfl; have hcz61_1 : w60.cell? ⟨gb173, 1, none⟩ = some (.int .i64 a0_1) := (blk_cell BK173.out 1).trans rfl; have hcz61_2 : w60.cell? ⟨gb173, 2, none⟩ = some (.string a0_2) := (blk_cell BK173.out 2).trans rfl; have hcz61_3 : w60.cell? ⟨gb173, 3, none⟩ = some (.string a0_3) := (blk_cell BK173.out 3).trans rfl; have hcz61_4 : w60.cell? ⟨gb173, 4, none⟩ = some (.slice A0_4 l0_4.length c0_4) := (blk_cell BK173.out 4).trans rfl; have hcz61_5 : w60.cell? ⟨gb173, 5, none⟩ = some (.int .u64 a0_5) := (blk_cell BK173.out 5).trans rfl; have hcz61_6 : w60.cell? ⟨gb173, 6, none⟩ = some (.int .i64 a0_6) := (blk_cell BK173.out 6).trans rfl; have hfz61_0 := blk_frozen BK173.out 0; have hfz61_1 := blk_frozen BK173.out 1; have hfz61_2 := blk_frozen BK173.out 2; have hfz61_3 := blk_frozen BK173.out 3; have hfz61_4 := blk_frozen BK173.out 4; have hfz61_5 := blk_frozen BK173.out 5; have hfz61_6 := blk_frozen BK173.out 6) | ((with_reducible refine gate_callee (f := 17) rfl ?_); refine goesL_ (some 8) rfl rfl Try.func17 (by kernel_rfl) rfl #[.agg #[.int .i64 a0_0, .int .i64 a0_1, .string a0_2, .string a0_3, .slice A0_4 l0_4.length c0_4, .int .u64 a0_5, .int .i64 a0_6]] rfl (by (try simp only [List.map_toArray, List.map_cons, List.map_nil]); first | done | rfl | (simp only [List.length_drop, List.length_take]; rfl)) ?_; (with_reducible refine (treillageref11_May.calls k a0_0 a0_1 a0_2 a0_3 _ _ l0_4 a0_5 a0_6 false _ ?side1 ?side2 A2.out).mono ?_); (case side1 => repeat (first | exact (Kd.C_below HR0_4.out HB.out) | (with_reducible refine Kd.C_alloc ?_ _) | (with_reducible refine Kd.C_drewN ?_ _) | (with_reducible refine Kd.C_drew ?_))); (case side2 => exact HC0_4.out); rintro e w62 ⟨rfl, hb⟩; refine ⟨_, rfl, ?_⟩; have n0_ := aA (blk_below (g := gb173) (o := .cells #[.int .i64 a0_0, .int .i64 a0_1, .string a0_2, .string a0_3, .slice A0_4 l0_4.length c0_4, .int .u64 a0_5, .int .i64 a0_6] 37 (0, 0)) (bku BK173.out) hb); have n1_ := aA (below_step (bls HB.out) hb); clear BK173 HB; have BK173 := n0_; have HB := n1_; clear n0_ n1_; (try clear hb); (try clear hb2); (try clear hk); (try clear hi)))
  go_ret2
  exact ⟨_, by first | rfl | (simp [errW_none, errW_some] <;> rfl) | (simp [*, errW_none, errW_some] <;> rfl), by first | exact Kd.R_nil _ _ _ _ _ | exact Kd.N_nil _ _ _ _ _ | exact Kd.V_nil _ _ _ _ _ | exact Kd.Q_nil _ _ _ _ _ | exact Kd.S_nil _ _ _ _ _, by repeat (first | (with_reducible first | exact HB.out | apply below_alloc | apply pw_below_drewN | apply below_drew1 | refine below_set ?_ GE173.out) | exact HB.out)⟩

end Go.Proofs.Ytdjkadfgmhmhcaa.PT
