-- Written by wip/hprint/hprint.py (a program of this session, over the print): not typed by hand
import Derived.Test.YtdjkadfgmhmhcaaPTx0
import Derived.Test.YtdjkadfgmhmhcaaPTx2
import Derived.Test.YtdjkadfgmhmhcaaPTx3
namespace Go.Proofs.Ytdjkadfgmhmhcaa.PT
open Go.RowKit Go.Proofs.YtdjkadfgmhmhcaaW.PrintWords Go.Proofs.YtdjkadfgmhmhcaaW.PrintLast Go.Proofs.YtdjkadfgmhmhcaaW.PrintMore
attribute [local go_sem] max2_int min2_int max_two min_two max_three min_three max_four min_four   -- for this text's walks alone
open Go.Proofs.YtdjkadfgmhmhcaaH
set_option linter.unusedVariables false
set_option linter.unusedSimpArgs false

def packAt : Nat → Int
 | 0 => 0
 | 1 => 2
 | 2 => 10
 | 3 => 15
 | 4 => 21
 | 5 => 25
 | _ => 33
def packHead (ns : List Int) : Nat → Int
 | 0 => 0
 | k + 1 => Go.bits .or .u64 (packHead ns k) (IntKind.u64.wrap (IntKind.u64.wrap (ns.getD k 0) * 2 ^ min (packAt k).toNat 64))
def packWords (T : List ByteArray) (O : List Int) : Nat → Option (List Int)
 | 0 => some O
 | k + 1 => (packWords T O k).bind fun out => (rec_Words.f ((rdOf ByteArray.empty T k).size + 2) (rdOf ByteArray.empty T k)).bind fun a => if out.length + a.length < 17592186044416 then some (out ++ a) else none
theorem packWords_some {T : List ByteArray} {O : List Int} {n : Nat} {r : List Int} (h : packWords T O n = some r) : ∀ k, k ≤ n → ∃ xs, packWords T O k = some xs := by
 intro k hk
 induction n generalizing r with
 | zero => exact ⟨O, by rw [show k = 0 from by omega]; rfl⟩
 | succ n ih =>
  by_cases he : k = n + 1
  ·exact ⟨r, by rw [he]; exact h⟩
  ·unfold packWords at h; obtain ⟨xs, hx, _⟩ := Option.bind_eq_some_iff.1 h; exact ih hx (by omega)
theorem packWords_step {T : List ByteArray} {O : List Int} {k : Nat} {xs ys : List Int} (h : packWords T O k = some xs) (h2 : packWords T O (k + 1) = some ys) : ∃ a, rec_Words.f ((rdOf ByteArray.empty T k).size + 2) (rdOf ByteArray.empty T k) = some a ∧ xs.length + a.length < 17592186044416 ∧ ys = xs ++ a := by
 unfold packWords at h2; rw [h, Option.bind_some] at h2; obtain ⟨a, h3, h4⟩ := Option.bind_eq_some_iff.1 h2; split at h4
 ·rename_i h5
  injection h4 with h4; exact ⟨a, h3, h5, h4.symm⟩
 ·cases h4
def packNs (a0_0 a0_1 : Int) (a0_2 a0_3 : ByteArray) (l0_4 : List ByteArray) (a0_6 : Int) : List Int := [a0_0, wrap64 (a0_1 + 1), (a0_2.size : Int), (a0_3.size : Int), ((l0_4.length / 2 : Nat) : Int), a0_6]
def packStart (a0_0 a0_1 : Int) (a0_2 a0_3 : ByteArray) (l0_4 : List ByteArray) (a0_5 a0_6 : Int) : List Int := if l0_4.length = 0 then [packHead (packNs a0_0 a0_1 a0_2 a0_3 l0_4 a0_6) 6, a0_5] else [packHead (packNs a0_0 a0_1 a0_2 a0_3 l0_4 a0_6) 6, a0_5] ++ [(lensAt l0_4 l0_4.length).1, (lensAt l0_4 l0_4.length).2]
theorem rec_May_bounds {a0_0 a0_1 : Int} {a0_2 a0_3 : ByteArray} {l0_4 : List ByteArray} {a0_6 : Int} (h : recMay a0_0 a0_1 a0_2 a0_3 l0_4 a0_6 = true) : 0 ≤ a0_0 ∧ a0_0 ≤ 3 ∧ -1 ≤ a0_1 ∧ a0_1 < 60 ∧ a0_2.size ≤ 20 ∧ a0_3.size ≤ 60 ∧ l0_4.length ≤ 16 ∧ 0 ≤ a0_6 ∧ a0_6 ≤ 200 := by
 simp only [recMay, Bool.and_eq_true, decide_eq_true_eq] at h; omega
set_option maxHeartbeats 3200000 in
set_option maxRecDepth 100000 in
theorem rec_Pack_yes (a0_0 : Int) (a0_1 : Int) (a0_2 : ByteArray) (a0_3 : ByteArray) (A0_4 : Option Addr) (c0_4 : Nat) (l0_4 : List ByteArray) (a0_5 : Int) (a0_6 : Int) (w : World) (hr0_4 : Kd.C Kd.string w A0_4 l0_4.length l0_4) (hc0_4 : l0_4.length ≤ c0_4) (hM : recMay a0_0 a0_1 a0_2 a0_3 l0_4 a0_6 = true) (res : List Int) (hRes : packWords ([a0_2, a0_3] ++ l0_4) (packStart a0_0 a0_1 a0_2 a0_3 l0_4 a0_5 a0_6) ([a0_2, a0_3] ++ l0_4).length = some res) :
  Calls Try.prog 11 #[.agg #[.int .i64 a0_0, .int .i64 a0_1, .string a0_2, .string a0_3, .slice A0_4 l0_4.length c0_4, .int .u64 a0_5, .int .i64 a0_6]] w fun e w' => ∃ v1 : Value, e = .returned (.tuple #[v1, .int .i64 0]) ∧ Kd.R (Kd.int .u64) 23 w' w.heap.size (fun _ => True) v1 res ∧ Below w.heap.size w w' := by
 have HRES := aA hRes; clear hRes; have hu := Try.underlying27; have hu2 := Try.underlying25; have HR := aA hr0_4; have HMay := aA (show rec_May.f a0_0 a0_1 a0_2 a0_3 l0_4 a0_5 a0_6 = some true from congrArg some hM); have HBD := aA (rec_May_bounds hM); have HB := Below.refl w.heap.size w; clear hr0_4 hM; obtain ⟨n4, hn4⟩ : ∃ n : Nat, n = l0_4.length / 2 := ⟨_, rfl⟩; have hq4 : wrap64 ((l0_4.length : Int) / 2) = (n4 : Int) := (by have h_ := HBD.out; unfold wrap64; omega); have HN4 := aA hn4; clear hn4; go_enter Try.func11, Try.ntmps11
 go_wp2_with (first
  | ((with_reducible refine gate_dst (N := 1) rfl ?_); (with_reducible refine gate_ (.box 27 (.tmp 0)) rfl ?_); refine box_event (N := 1) rfl rfl (cs := #[.int .i64 a0_0, .int .i64 a0_1, .string a0_2, .string a0_3, .slice A0_4 l0_4.length c0_4, .int .u64 a0_5, .int .i64 a0_6]) (t := 27) (by first | (go_simp; done) | (go_simp; rfl)) ?_; intro ga hg_ wa_ hba hbl_; have HGa : w.heap.size ≤ ga := (by rw [hg_]; exact Nat.le_trans (by first | exact Nat.le_refl _ | exact HB.size) (Nat.le_refl _)); replace HB := below_step (blw HB) hbl_; clear hg_ hbl_; have hqa_0 : wa_.cell? ⟨ga, 0, none⟩ = some (.int .i64 a0_0) := (blk_cell hba 0).trans rfl; have hqa_1 : wa_.cell? ⟨ga, 1, none⟩ = some (.int .i64 a0_1) := (blk_cell hba 1).trans rfl; have hqa_2 : wa_.cell? ⟨ga, 2, none⟩ = some (.string a0_2) := (blk_cell hba 2).trans rfl; have hqa_3 : wa_.cell? ⟨ga, 3, none⟩ = some (.string a0_3) := (blk_cell hba 3).trans rfl; have hqa_4 : wa_.cell? ⟨ga, 4, none⟩ = some (.slice A0_4 l0_4.length c0_4) := (blk_cell hba 4).trans rfl; have hqa_5 : wa_.cell? ⟨ga, 5, none⟩ = some (.int .u64 a0_5) := (blk_cell hba 5).trans rfl; have hqa_6 : wa_.cell? ⟨ga, 6, none⟩ = some (.int .i64 a0_6) := (blk_cell hba 6).trans rfl)
  | ((with_reducible refine gate_dst (N := 13) rfl ?_); (with_reducible refine gate_callee (f := 16) rfl ?_); refine goesL_ (some 13) rfl rfl Try.func16 (by kernel_rfl) rfl #[.agg #[.int .i64 a0_0, .int .i64 a0_1, .string a0_2, .string a0_3, .slice A0_4 l0_4.length c0_4, .int .u64 a0_5, .int .i64 a0_6]] rfl (by (try simp only [List.map_toArray, List.map_cons, List.map_nil]); first | done | rfl | kernel_rfl) ?_; refine (rec_May.calls a0_0 a0_1 a0_2 a0_3 A0_4 c0_4 l0_4 a0_5 a0_6 true _ (Kd.C_below HR.out HB) hc0_4 HMay.out).mono ?_; rintro e wc2_ ⟨rfl, hb_⟩; clear hqa_0 hqa_1 hqa_2 hqa_3 hqa_4 hqa_5 hqa_6; replace hba := blk_below (by exact hba) hb_; have hqa_0 : wc2_.cell? ⟨ga, 0, none⟩ = some (.int .i64 a0_0) := (blk_cell hba 0).trans rfl; have hqa_1 : wc2_.cell? ⟨ga, 1, none⟩ = some (.int .i64 a0_1) := (blk_cell hba 1).trans rfl; have hqa_2 : wc2_.cell? ⟨ga, 2, none⟩ = some (.string a0_2) := (blk_cell hba 2).trans rfl; have hqa_3 : wc2_.cell? ⟨ga, 3, none⟩ = some (.string a0_3) := (blk_cell hba 3).trans rfl; have hqa_4 : wc2_.cell? ⟨ga, 4, none⟩ = some (.slice A0_4 l0_4.length c0_4) := (blk_cell hba 4).trans rfl; have hqa_5 : wc2_.cell? ⟨ga, 5, none⟩ = some (.int .u64 a0_5) := (blk_cell hba 5).trans rfl; have hqa_6 : wc2_.cell? ⟨ga, 6, none⟩ = some (.int .i64 a0_6) := (blk_cell hba 6).trans rfl; replace HB := below_step (blw HB) hb_; clear hb_; refine ⟨_, rfl, ?_⟩))
 clear hq4; clear hqa_0 hqa_1 hqa_2 hqa_3 hqa_4 hqa_5 hqa_6; go_loopw [34, 4, 5] (fun i hd at_ wr => ∃ k : Nat, k ≤ 6 ∧ i = .int .i64 k ∧ hd = .int .u64 (packHead [a0_0, wrap64 (a0_1 + 1), (a0_2.size : Int), (a0_3.size : Int), (n4 : Int), a0_6] k) ∧ at_ = .int .i64 (packAt k) ∧ wr.heap[ga]? = some (.cells #[.int .i64 a0_0, .int .i64 a0_1, .string a0_2, .string a0_3, .slice A0_4 l0_4.length c0_4, .int .u64 a0_5, .int .i64 a0_6] 27 (0, 0)) ∧ Below w.heap.size w wr) (fun i _ _ _ => 6 - (intOf i).toNat)
 case atStart => exact ⟨0, by omega, rfl, rfl, rfl, hba, HB⟩
 case round =>
  clear hba HB; obtain ⟨k, hk, rfl, rfl, rfl, hba, HB⟩ := hrel; have hqa_0 : wr.cell? ⟨ga, 0, none⟩ = some (.int .i64 a0_0) := (blk_cell hba 0).trans rfl; have hqa_1 : wr.cell? ⟨ga, 1, none⟩ = some (.int .i64 a0_1) := (blk_cell hba 1).trans rfl; have hqa_2 : wr.cell? ⟨ga, 2, none⟩ = some (.string a0_2) := (blk_cell hba 2).trans rfl; have hqa_3 : wr.cell? ⟨ga, 3, none⟩ = some (.string a0_3) := (blk_cell hba 3).trans rfl; have hqa_4 : wr.cell? ⟨ga, 4, none⟩ = some (.slice A0_4 l0_4.length c0_4) := (blk_cell hba 4).trans rfl; have hqa_5 : wr.cell? ⟨ga, 5, none⟩ = some (.int .u64 a0_5) := (blk_cell hba 5).trans rfl; have hqa_6 : wr.cell? ⟨ga, 6, none⟩ = some (.int .i64 a0_6) := (blk_cell hba 6).trans rfl; have hix0 : ∀ (x0 x1 x2 x3 x4 x5 : Value) (W : World), (Instr.index 53 (.agg #[x0, x1, x2, x3, x4, x5]) (.int .i64 0)).run Try.prog W = .ok x0 W := fun _ _ _ _ _ _ _ => by kernel_rfl
  have hix1 : ∀ (x0 x1 x2 x3 x4 x5 : Value) (W : World), (Instr.index 53 (.agg #[x0, x1, x2, x3, x4, x5]) (.int .i64 1)).run Try.prog W = .ok x1 W := fun _ _ _ _ _ _ _ => by kernel_rfl
  have hix2 : ∀ (x0 x1 x2 x3 x4 x5 : Value) (W : World), (Instr.index 53 (.agg #[x0, x1, x2, x3, x4, x5]) (.int .i64 2)).run Try.prog W = .ok x2 W := fun _ _ _ _ _ _ _ => by kernel_rfl
  have hix3 : ∀ (x0 x1 x2 x3 x4 x5 : Value) (W : World), (Instr.index 53 (.agg #[x0, x1, x2, x3, x4, x5]) (.int .i64 3)).run Try.prog W = .ok x3 W := fun _ _ _ _ _ _ _ => by kernel_rfl
  have hix4 : ∀ (x0 x1 x2 x3 x4 x5 : Value) (W : World), (Instr.index 53 (.agg #[x0, x1, x2, x3, x4, x5]) (.int .i64 4)).run Try.prog W = .ok x4 W := fun _ _ _ _ _ _ _ => by kernel_rfl
  have hix5 : ∀ (x0 x1 x2 x3 x4 x5 : Value) (W : World), (Instr.index 53 (.agg #[x0, x1, x2, x3, x4, x5]) (.int .i64 5)).run Try.prog W = .ok x5 W := fun _ _ _ _ _ _ _ => by kernel_rfl
  have hcs : k = 0 ∨ k = 1 ∨ k = 2 ∨ k = 3 ∨ k = 4 ∨ k = 5 ∨ k = 6 := by omega
  rcases hcs with rfl | rfl | rfl | rfl | rfl | rfl | rfl
  ·have hp_ : packAt 0 = 0 := rfl; obtain ⟨hv, hhv⟩ : ∃ h, h = packHead [a0_0, wrap64 (a0_1 + 1), (a0_2.size : Int), (a0_3.size : Int), (n4 : Int), a0_6] 0 := ⟨_, rfl⟩; rw [← hhv]; have Hhv := aA hhv; clear hhv; go_wp2_with (go_at_call 24; refine (rec_widths_walk _).mono ?_; rintro e ww ⟨rfl, hb_⟩; clear hqa_0 hqa_1 hqa_2 hqa_3 hqa_4 hqa_5 hqa_6; replace hba := blk_below hba hb_; replace HB := below_step HB hb_; clear hb_)
   go_roundw
   case rel => exact ⟨1, by omega, by go_num, (by rw [packHead, ← Hhv.out]; simp [packAt]), rfl, hba, HB⟩
   case measure => simp [intOf]
  ·have hp_ : packAt 1 = 2 := rfl; obtain ⟨hv, hhv⟩ : ∃ h, h = packHead [a0_0, wrap64 (a0_1 + 1), (a0_2.size : Int), (a0_3.size : Int), (n4 : Int), a0_6] 1 := ⟨_, rfl⟩; rw [← hhv]; have Hhv := aA hhv; clear hhv; go_wp2_with (go_at_call 24; refine (rec_widths_walk _).mono ?_; rintro e ww ⟨rfl, hb_⟩; clear hqa_0 hqa_1 hqa_2 hqa_3 hqa_4 hqa_5 hqa_6; replace hba := blk_below hba hb_; replace HB := below_step HB hb_; clear hb_)
   go_roundw
   case rel => exact ⟨2, by omega, by go_num, (by rw [packHead, ← Hhv.out]; simp [packAt]), rfl, hba, HB⟩
   case measure => simp [intOf]
  ·have hp_ : packAt 2 = 10 := rfl; obtain ⟨hv, hhv⟩ : ∃ h, h = packHead [a0_0, wrap64 (a0_1 + 1), (a0_2.size : Int), (a0_3.size : Int), (n4 : Int), a0_6] 2 := ⟨_, rfl⟩; rw [← hhv]; have Hhv := aA hhv; clear hhv; go_wp2_with (go_at_call 24; refine (rec_widths_walk _).mono ?_; rintro e ww ⟨rfl, hb_⟩; clear hqa_0 hqa_1 hqa_2 hqa_3 hqa_4 hqa_5 hqa_6; replace hba := blk_below hba hb_; replace HB := below_step HB hb_; clear hb_)
   go_roundw
   case rel => exact ⟨3, by omega, by go_num, (by rw [packHead, ← Hhv.out]; simp [packAt]), rfl, hba, HB⟩
   case measure => simp [intOf]
  ·have hp_ : packAt 3 = 15 := rfl; obtain ⟨hv, hhv⟩ : ∃ h, h = packHead [a0_0, wrap64 (a0_1 + 1), (a0_2.size : Int), (a0_3.size : Int), (n4 : Int), a0_6] 3 := ⟨_, rfl⟩; rw [← hhv]; have Hhv := aA hhv; clear hhv; go_wp2_with (go_at_call 24; refine (rec_widths_walk _).mono ?_; rintro e ww ⟨rfl, hb_⟩; clear hqa_0 hqa_1 hqa_2 hqa_3 hqa_4 hqa_5 hqa_6; replace hba := blk_below hba hb_; replace HB := below_step HB hb_; clear hb_)
   go_roundw
   case rel => exact ⟨4, by omega, by go_num, (by rw [packHead, ← Hhv.out]; simp [packAt]), rfl, hba, HB⟩
   case measure => simp [intOf]
  ·have hp_ : packAt 4 = 21 := rfl; obtain ⟨hv, hhv⟩ : ∃ h, h = packHead [a0_0, wrap64 (a0_1 + 1), (a0_2.size : Int), (a0_3.size : Int), (n4 : Int), a0_6] 4 := ⟨_, rfl⟩; rw [← hhv]; have Hhv := aA hhv; clear hhv; go_wp2_with (go_at_call 24; refine (rec_widths_walk _).mono ?_; rintro e ww ⟨rfl, hb_⟩; clear hqa_0 hqa_1 hqa_2 hqa_3 hqa_4 hqa_5 hqa_6; replace hba := blk_below hba hb_; replace HB := below_step HB hb_; clear hb_)
   go_roundw
   case rel => exact ⟨5, by omega, by go_num, (by rw [packHead, ← Hhv.out]; simp [packAt]), rfl, hba, HB⟩
   case measure => simp [intOf]
  ·have hp_ : packAt 5 = 25 := rfl; obtain ⟨hv, hhv⟩ : ∃ h, h = packHead [a0_0, wrap64 (a0_1 + 1), (a0_2.size : Int), (a0_3.size : Int), (n4 : Int), a0_6] 5 := ⟨_, rfl⟩; rw [← hhv]; have Hhv := aA hhv; clear hhv; go_wp2_with (go_at_call 24; refine (rec_widths_walk _).mono ?_; rintro e ww ⟨rfl, hb_⟩; clear hqa_0 hqa_1 hqa_2 hqa_3 hqa_4 hqa_5 hqa_6; replace hba := blk_below hba hb_; replace HB := below_step HB hb_; clear hb_)
   go_roundw
   case rel => exact ⟨6, by omega, by go_num, (by rw [packHead, ← Hhv.out]; simp [packAt]), rfl, hba, HB⟩
   case measure => simp [intOf]
  ·obtain ⟨hv, hhv⟩ : ∃ h, h = packHead [a0_0, wrap64 (a0_1 + 1), (a0_2.size : Int), (a0_3.size : Int), (n4 : Int), a0_6] 6 := ⟨_, rfl⟩; rw [← hhv]; have Hhv := aA hhv; clear hhv
   go_upto_region 11 with (first
    | ((with_reducible refine gate_dst (N := 54) rfl ?_); refine Kd.R_lit (Kd.int .u64) w.heap.size 23 ?hg (N := 54) ?hd (xs := [hv, a0_5]) (inner := [.int .u64 hv, .int .u64 a0_5]) (ok := fun _ => True) (okp := fun _ => False) ?hr ?hp (fun _ h_ => h_.elim) trivial HB HB.size (by simp) ?_; (case hd => rfl); (case hg => rfl); (case hr => first | (go_simp; done) | (go_simp; rfl)); (case hp => exact (Reps.one rfl (Reps.one rfl (Reps.none _ _)))); intro vo wo HO hb_ hg_ hat_; obtain ⟨Ao, co, eo_⟩ := Kd.R_slice HO; subst eo_; clear hqa_0 hqa_1 hqa_2 hqa_3 hqa_4 hqa_5 hqa_6; replace hba := blk_grown hba hg_ (by simp); replace HB := hb_; clear hb_ hg_ hat_; have hqa_0 : wo.cell? ⟨ga, 0, none⟩ = some (.int .i64 a0_0) := (blk_cell hba 0).trans rfl; have hqa_1 : wo.cell? ⟨ga, 1, none⟩ = some (.int .i64 a0_1) := (blk_cell hba 1).trans rfl; have hqa_2 : wo.cell? ⟨ga, 2, none⟩ = some (.string a0_2) := (blk_cell hba 2).trans rfl; have hqa_3 : wo.cell? ⟨ga, 3, none⟩ = some (.string a0_3) := (blk_cell hba 3).trans rfl; have hqa_4 : wo.cell? ⟨ga, 4, none⟩ = some (.slice A0_4 l0_4.length c0_4) := (blk_cell hba 4).trans rfl; have hqa_5 : wo.cell? ⟨ga, 5, none⟩ = some (.int .u64 a0_5) := (blk_cell hba 5).trans rfl; have hqa_6 : wo.cell? ⟨ga, 6, none⟩ = some (.int .i64 a0_6) := (blk_cell hba 6).trans rfl))
   by_cases hne : l0_4.length = 0
   ·have hne' : ¬ (0 : Int) < (l0_4.length : Int) := by omega
    go_upto_region 14 with (first
       | fail)
    have HO0 : ∃ (Ap : Option Addr) (cp : Nat), True := ⟨none, 0, trivial⟩; clear HO0; obtain ⟨T, hT⟩ : ∃ T, T = [a0_2, a0_3] ++ l0_4 := ⟨_, rfl⟩; have HTT := aA hT; have HRS := aA (show packWords T [hv, a0_5] T.length = some res from by have h_ := HRES.out; rw [← hT] at h_; unfold packStart at h_; rw [if_pos (by omega)] at h_; rw [Hhv.out, HN4.out]; exact h_); clear hT
    go_wp2_with (first
       | ((with_reducible refine gate_dst (N := 69) rfl ?_); refine Kd.R_lit Kd.string w.heap.size 9 ?hg (N := 69) ?hd (xs := [a0_2, a0_3]) (inner := [.string a0_2, .string a0_3]) (ok := fun _ => True) (okp := fun _ => False) ?hr ?hp (fun _ h_ => h_.elim) trivial HB HB.size (by simp) ?_; (case hd => rfl); (case hg => rfl); (case hr => first | (go_simp; done) | (go_simp; rfl)); (case hp => exact (Reps.one rfl (Reps.one rfl (Reps.none _ _)))); intro vs wS HS hb_ hg_ hat_; obtain ⟨As, cs, es_⟩ := Kd.R_slice HS; subst es_; clear hqa_0 hqa_1 hqa_2 hqa_3 hqa_4 hqa_5 hqa_6; replace hba := blk_grown hba hg_ (by simp); replace HO := Kd.R_grown2 HO rfl hg_ (by simp); replace HB := hb_; clear hb_ hg_ hat_; have hqa_0 : wS.cell? ⟨ga, 0, none⟩ = some (.int .i64 a0_0) := (blk_cell hba 0).trans rfl; have hqa_1 : wS.cell? ⟨ga, 1, none⟩ = some (.int .i64 a0_1) := (blk_cell hba 1).trans rfl; have hqa_2 : wS.cell? ⟨ga, 2, none⟩ = some (.string a0_2) := (blk_cell hba 2).trans rfl; have hqa_3 : wS.cell? ⟨ga, 3, none⟩ = some (.string a0_3) := (blk_cell hba 3).trans rfl; have hqa_4 : wS.cell? ⟨ga, 4, none⟩ = some (.slice A0_4 l0_4.length c0_4) := (blk_cell hba 4).trans rfl; have hqa_5 : wS.cell? ⟨ga, 5, none⟩ = some (.int .u64 a0_5) := (blk_cell hba 5).trans rfl; have hqa_6 : wS.cell? ⟨ga, 6, none⟩ = some (.int .i64 a0_6) := (blk_cell hba 6).trans rfl)
       | ((with_reducible refine gate_dst (N := 72) rfl ?_); refine Kd.event_run rfl (v := .slice (some ⟨wS.heap.size, 0, none⟩) 2 2) (w1 := wS.alloc (.cells #[.slice As ([a0_2, a0_3] : List ByteArray).length cs, .slice A0_4 l0_4.length c0_4] 22)) ?hr ?_; (case hr => first | (go_simp; done) | (go_simp; rfl)); have hbx := blk_new wS (.cells #[.slice As ([a0_2, a0_3] : List ByteArray).length cs, .slice A0_4 l0_4.length c0_4] 22); clear hqa_0 hqa_1 hqa_2 hqa_3 hqa_4 hqa_5 hqa_6; replace hba := blk_alloc hba (.cells #[.slice As ([a0_2, a0_3] : List ByteArray).length cs, .slice A0_4 l0_4.length c0_4] 22); replace HO := Kd.R_alloc HO (.cells #[.slice As ([a0_2, a0_3] : List ByteArray).length cs, .slice A0_4 l0_4.length c0_4] 22); replace HS := Kd.R_alloc HS (.cells #[.slice As ([a0_2, a0_3] : List ByteArray).length cs, .slice A0_4 l0_4.length c0_4] 22); replace HB := below_alloc HB (.cells #[.slice As ([a0_2, a0_3] : List ByteArray).length cs, .slice A0_4 l0_4.length c0_4] 22); generalize wS.heap.size = gx at hbx ⊢; generalize wS.alloc (.cells #[.slice As ([a0_2, a0_3] : List ByteArray).length cs, .slice A0_4 l0_4.length c0_4] 22) = wX at hbx hba HO HS HB ⊢; have hqa_0 : wX.cell? ⟨ga, 0, none⟩ = some (.int .i64 a0_0) := (blk_cell hba 0).trans rfl; have hqa_1 : wX.cell? ⟨ga, 1, none⟩ = some (.int .i64 a0_1) := (blk_cell hba 1).trans rfl; have hqa_2 : wX.cell? ⟨ga, 2, none⟩ = some (.string a0_2) := (blk_cell hba 2).trans rfl; have hqa_3 : wX.cell? ⟨ga, 3, none⟩ = some (.string a0_3) := (blk_cell hba 3).trans rfl; have hqa_4 : wX.cell? ⟨ga, 4, none⟩ = some (.slice A0_4 l0_4.length c0_4) := (blk_cell hba 4).trans rfl; have hqa_5 : wX.cell? ⟨ga, 5, none⟩ = some (.int .u64 a0_5) := (blk_cell hba 5).trans rfl; have hqa_6 : wX.cell? ⟨ga, 6, none⟩ = some (.int .i64 a0_6) := (blk_cell hba 6).trans rfl)
       | (go_at_call 26; refine (rec_concat_walk gx As A0_4 cs c0_4 [a0_2, a0_3] l0_4 _ hbx (Kd.R_reads' HS).2.2 (Kd.C_below HR.out HB) (by have h_ := HBD.out; simp only [List.length_cons, List.length_nil]; omega)).mono ?_; rintro e wT ⟨vt, rfl, HT, hb_⟩; obtain ⟨At, ct, et_⟩ := Kd.R_slice HT; replace HT := Kd.R_lower HT HB.size; rw [← HTT.out] at HT et_; subst et_; clear hqa_0 hqa_1 hqa_2 hqa_3 hqa_4 hqa_5 hqa_6 hba hbx HS; replace HO := Kd.R_below HO hb_; replace HB := below_step HB hb_; clear hb_))
    have hT18 : T.length ≤ 100 := (by rw [HTT.out, List.length_append, List.length_cons, List.length_cons, List.length_nil]; have h_ := HBD.out; omega); go_loopw [75, 8] (fun i s wr => ∃ (k : Nat) (out : List Int), k ≤ T.length ∧ i = .int .i64 k ∧ packWords T [hv, a0_5] k = some out ∧ Kd.R (Kd.int .u64) 23 wr w.heap.size (fun _ => True) s out ∧ Kd.R Kd.string 9 wr w.heap.size (fun _ => True) (.slice At T.length ct) T ∧ Below w.heap.size w wr) (fun i _ _ => T.length - (intOf i).toNat)
    case atStart => exact ⟨0, _, Nat.zero_le _, rfl, rfl, HO, HT, HB⟩
    case round =>
     clear HO HT HB; obtain ⟨k, out, hk, rfl, hpk, HO, HT, HB⟩ := hrel; have HPK := aA hpk; clear hpk; by_cases hlt : k < T.length
     ·obtain ⟨ys, hys⟩ := packWords_some HRS.out (k + 1) (by omega); obtain ⟨aw, hw_, hl_, hy_⟩ := packWords_step HPK.out hys; obtain ⟨ad, ea_, hx⟩ := Kd.at_string (Kd.R_reads' HT).2.2 (k : Int) (by omega) (by omega); subst ea_; rw [Int.toNat_natCast] at hx; obtain ⟨x, hxe⟩ : ∃ x, x = rdOf ByteArray.empty T k := ⟨_, rfl⟩; rw [← hxe] at hx hw_; have HW_ := aA hw_; have HLT := aA (show (out.length + aw.length) * 8 ≤ 140737488355328 by omega); have HYS := aA hys; have HY := aA hy_; clear hxe hw_ hl_ hys hy_; have hlt' : (k : Int) < (T.length : Int) := by omega
      go_wp2_with (first
       | (go_at_call 22; refine (rec_Words.calls (x.size + 2) x aw _ HW_.out).mono ?_; rintro e ww ⟨va, rfl, HA, hb_⟩; obtain ⟨Aw, cw, ew_⟩ := Kd.R_slice HA; replace HA := Kd.R_lower HA HB.size; subst ew_; clear hx; replace HO := Kd.R_below HO hb_; replace HT := Kd.R_below HT hb_; replace HB := below_step HB hb_; clear hb_)
       | ((with_reducible refine gate_dst (N := 82) rfl ?_); refine Kd.R_append_rows (Kd.int .u64) (w0 := w) w.heap.size rfl (.tmp 79) (.tmp 81) 28 23 (.int .u64 0) 8 rfl Try.underlying28 (by kernel_rfl) rfl (by decide) (by omega) _ out aw Aw aw.length cw (fun _ => True) (fun _ => False) rfl rfl HO (Kd.R_reads' HA).2.2 (fun _ _ h => h) (fun _ h => h.elim) (fun _ _ => trivial) HB HB.size (by have h_ := HLT.out; omega) ?_; intro v1 w1 HO1 hb_ hg_ hat_; have HT1 := Kd.R_mono (Kd.R_grown (Kd.R_apartR HT HO (by decide)) hg_ (fun _ h_ => h_.2)) (ok' := fun _ => True) (fun _ _ => trivial); clear HO HT HA HB hg_ hat_; have HO := HO1; have HT := HT1; have HB := hb_; clear HO1 HT1 hb_))
      go_roundw
      case rel => exact ⟨k + 1, _, by omega, by go_num, by rw [HYS.out, HY.out], HO, HT, HB⟩
      case measure => simp [intOf]; omega
     ·have hkl : k = T.length := by omega
      subst hkl; go_wp2; go_ret2
      have hr_ : out = res := by have h1_ := HPK.out; rw [HRS.out] at h1_; injection h1_ with h1_; exact h1_.symm
      subst hr_; exact ⟨_, rfl, HO, HB⟩
   ·have hne' : (0 : Int) < (l0_4.length : Int) := by omega
    have hne2 : 0 < l0_4.length := by omega
    go_upto_region 13 with (first
       | (go_at_call 25; refine (rec_lengths_walk A0_4 c0_4 l0_4 _ (Kd.C_below HR.out HB) (by have h_ := HBD.out; omega)).mono ?_; rintro e wl ⟨rfl, hb_⟩; clear hqa_0 hqa_1 hqa_2 hqa_3 hqa_4 hqa_5 hqa_6; replace hba := blk_below hba hb_; replace HO := Kd.R_below HO hb_; replace HB := below_step HB hb_; clear hb_; have hqa_0 : wl.cell? ⟨ga, 0, none⟩ = some (.int .i64 a0_0) := (blk_cell hba 0).trans rfl; have hqa_1 : wl.cell? ⟨ga, 1, none⟩ = some (.int .i64 a0_1) := (blk_cell hba 1).trans rfl; have hqa_2 : wl.cell? ⟨ga, 2, none⟩ = some (.string a0_2) := (blk_cell hba 2).trans rfl; have hqa_3 : wl.cell? ⟨ga, 3, none⟩ = some (.string a0_3) := (blk_cell hba 3).trans rfl; have hqa_4 : wl.cell? ⟨ga, 4, none⟩ = some (.slice A0_4 l0_4.length c0_4) := (blk_cell hba 4).trans rfl; have hqa_5 : wl.cell? ⟨ga, 5, none⟩ = some (.int .u64 a0_5) := (blk_cell hba 5).trans rfl; have hqa_6 : wl.cell? ⟨ga, 6, none⟩ = some (.int .i64 a0_6) := (blk_cell hba 6).trans rfl)
       | ((with_reducible refine gate_dst (N := 9) rfl ?_); (with_reducible refine gate_ (.alloc 55) rfl ?_); refine box_event (N := 9) rfl rfl (cs := #[.int .u64 0, .int .u64 0]) (t := 55) (by first | (go_simp; done) | (go_simp; rfl)) ?_; intro gu hg_ wu_ hbu hbl_; have HGu : w.heap.size ≤ gu := (by rw [hg_]; exact Nat.le_trans (by first | exact Nat.le_refl _ | exact HB.size) (Nat.le_refl _)); have HNu_a : gu ≠ ga := (by rw [hg_]; exact Nat.ne_of_gt (blk_lt (by exact hba))); clear hqa_0 hqa_1 hqa_2 hqa_3 hqa_4 hqa_5 hqa_6; replace hba := blk_below (by exact hba) hbl_; have hqa_0 : wu_.cell? ⟨ga, 0, none⟩ = some (.int .i64 a0_0) := (blk_cell hba 0).trans rfl; have hqa_1 : wu_.cell? ⟨ga, 1, none⟩ = some (.int .i64 a0_1) := (blk_cell hba 1).trans rfl; have hqa_2 : wu_.cell? ⟨ga, 2, none⟩ = some (.string a0_2) := (blk_cell hba 2).trans rfl; have hqa_3 : wu_.cell? ⟨ga, 3, none⟩ = some (.string a0_3) := (blk_cell hba 3).trans rfl; have hqa_4 : wu_.cell? ⟨ga, 4, none⟩ = some (.slice A0_4 l0_4.length c0_4) := (blk_cell hba 4).trans rfl; have hqa_5 : wu_.cell? ⟨ga, 5, none⟩ = some (.int .u64 a0_5) := (blk_cell hba 5).trans rfl; have hqa_6 : wu_.cell? ⟨ga, 6, none⟩ = some (.int .i64 a0_6) := (blk_cell hba 6).trans rfl; replace HO := Kd.R_below HO hbl_; replace HB := below_step (blw HB) hbl_; clear hg_ hbl_; have hqu_0 : wu_.cell? ⟨gu, 0, none⟩ = some (.int .u64 0) := (blk_cell hbu 0).trans rfl; have hqu_1 : wu_.cell? ⟨gu, 1, none⟩ = some (.int .u64 0) := (blk_cell hbu 1).trans rfl)
       | ((with_reducible refine gate_ (.store 55 (.tmp 9) (.tmp 61)) rfl ?_); have hbu0_ := hbu; refine blk_store_all (w0 := w) (base := w.heap.size) (u := .agg #[.int .u64 (lensAt l0_4 l0_4.length).1, .int .u64 (lensAt l0_4 l0_4.length).2]) (seg := [.int .u64 (lensAt l0_4 l0_4.length).1, .int .u64 (lensAt l0_4 l0_4.length).2]) rfl rfl rfl rfl rfl rfl ?h1_ ?ht_ (by exact hbu) (by rfl) (blw HB) HGu ?_; (case ht_ => kernel_rfl); (case h1_ => intro q_ hq_; simp only [List.mem_cons, List.not_mem_nil, or_false] at hq_; rcases hq_ with rfl | rfl <;> rfl); intro wu_2 hb2_ HB2_ hgr_; clear hqa_0 hqa_1 hqa_2 hqa_3 hqa_4 hqa_5 hqa_6; replace hba := blk_grown (by exact hba) hgr_ (fun e_ => by injection e_ with e_; exact HNu_a.symm e_); clear hqu_0 hqu_1; replace hbu := hb2_; replace HO := Kd.R_grown2 HO rfl hgr_ (fun k e_ => by injection e_ with e_; subst e_; exact Kd.R_ne HO hbu0_ (by decide)); replace HB := HB2_; clear hb2_ HB2_ hgr_; have hqa_0 : wu_2.cell? ⟨ga, 0, none⟩ = some (.int .i64 a0_0) := (blk_cell hba 0).trans rfl; have hqa_1 : wu_2.cell? ⟨ga, 1, none⟩ = some (.int .i64 a0_1) := (blk_cell hba 1).trans rfl; have hqa_2 : wu_2.cell? ⟨ga, 2, none⟩ = some (.string a0_2) := (blk_cell hba 2).trans rfl; have hqa_3 : wu_2.cell? ⟨ga, 3, none⟩ = some (.string a0_3) := (blk_cell hba 3).trans rfl; have hqa_4 : wu_2.cell? ⟨ga, 4, none⟩ = some (.slice A0_4 l0_4.length c0_4) := (blk_cell hba 4).trans rfl; have hqa_5 : wu_2.cell? ⟨ga, 5, none⟩ = some (.int .u64 a0_5) := (blk_cell hba 5).trans rfl; have hqa_6 : wu_2.cell? ⟨ga, 6, none⟩ = some (.int .i64 a0_6) := (blk_cell hba 6).trans rfl; have hqu_0 : wu_2.cell? ⟨gu, 0, none⟩ = some (.int .u64 (lensAt l0_4 l0_4.length).1) := (blk_cell hbu 0).trans rfl; have hqu_1 : wu_2.cell? ⟨gu, 1, none⟩ = some (.int .u64 (lensAt l0_4 l0_4.length).2) := (blk_cell hbu 1).trans rfl))
    try (simp only [Act.put, List.setIfInBounds_toArray, List.set_cons_zero, List.set_cons_succ])
    go_upto_region 14 with ((with_reducible refine gate_dst (N := 64) rfl ?_); refine Kd.R_append_rows (Kd.int .u64) (w0 := w) w.heap.size rfl (.tmp 62) (.tmp 63) 28 23 (.int .u64 0) 8 rfl Try.underlying28 (by kernel_rfl) rfl (by decide) (by omega) _ [hv, a0_5] [(lensAt l0_4 l0_4.length).1, (lensAt l0_4 l0_4.length).2] (some ⟨gu, 0, none⟩) 2 2 (fun _ => True) (fun _ => False) rfl rfl HO (blk_C (enc := Value.int .u64) (h1 := fun _ => rfl) [(lensAt l0_4 l0_4.length).1, (lensAt l0_4 l0_4.length).2] 0 hbu (by simp)) (fun _ _ h => h) (fun _ h => h.elim) (fun _ _ => trivial) HB HB.size (by simp) ?_; intro v1 w1 HO1 hb_ hg_ hat_; clear hqu_0 hqu_1 hqa_0 hqa_1 hqa_2 hqa_3 hqa_4 hqa_5 hqa_6; replace hba := blk_grown hba hg_ (Kd.R_ne HO hba (by decide)); clear HO HB hbu hg_ hat_; have HO := HO1; have HB := hb_; clear HO1 hb_; obtain ⟨Ao2, co2, eo_⟩ := Kd.R_slice HO; subst eo_; have hqa_0 : w1.cell? ⟨ga, 0, none⟩ = some (.int .i64 a0_0) := (blk_cell hba 0).trans rfl; have hqa_1 : w1.cell? ⟨ga, 1, none⟩ = some (.int .i64 a0_1) := (blk_cell hba 1).trans rfl; have hqa_2 : w1.cell? ⟨ga, 2, none⟩ = some (.string a0_2) := (blk_cell hba 2).trans rfl; have hqa_3 : w1.cell? ⟨ga, 3, none⟩ = some (.string a0_3) := (blk_cell hba 3).trans rfl; have hqa_4 : w1.cell? ⟨ga, 4, none⟩ = some (.slice A0_4 l0_4.length c0_4) := (blk_cell hba 4).trans rfl; have hqa_5 : w1.cell? ⟨ga, 5, none⟩ = some (.int .u64 a0_5) := (blk_cell hba 5).trans rfl; have hqa_6 : w1.cell? ⟨ga, 6, none⟩ = some (.int .i64 a0_6) := (blk_cell hba 6).trans rfl)
    have HO0 : ∃ (Ap : Option Addr) (cp : Nat), True := ⟨none, 0, trivial⟩; clear HO0; obtain ⟨T, hT⟩ : ∃ T, T = [a0_2, a0_3] ++ l0_4 := ⟨_, rfl⟩; have HTT := aA hT; have HRS := aA (show packWords T ([hv, a0_5] ++ [(lensAt l0_4 l0_4.length).1, (lensAt l0_4 l0_4.length).2]) T.length = some res from by have h_ := HRES.out; rw [← hT] at h_; unfold packStart at h_; rw [if_neg (by omega)] at h_; rw [Hhv.out, HN4.out]; exact h_); clear hT
    go_wp2_with (first
       | ((with_reducible refine gate_dst (N := 69) rfl ?_); refine Kd.R_lit Kd.string w.heap.size 9 ?hg (N := 69) ?hd (xs := [a0_2, a0_3]) (inner := [.string a0_2, .string a0_3]) (ok := fun _ => True) (okp := fun _ => False) ?hr ?hp (fun _ h_ => h_.elim) trivial HB HB.size (by simp) ?_; (case hd => rfl); (case hg => rfl); (case hr => first | (go_simp; done) | (go_simp; rfl)); (case hp => exact (Reps.one rfl (Reps.one rfl (Reps.none _ _)))); intro vs wS HS hb_ hg_ hat_; obtain ⟨As, cs, es_⟩ := Kd.R_slice HS; subst es_; clear hqa_0 hqa_1 hqa_2 hqa_3 hqa_4 hqa_5 hqa_6; replace hba := blk_grown hba hg_ (by simp); replace HO := Kd.R_grown2 HO rfl hg_ (by simp); replace HB := hb_; clear hb_ hg_ hat_; have hqa_0 : wS.cell? ⟨ga, 0, none⟩ = some (.int .i64 a0_0) := (blk_cell hba 0).trans rfl; have hqa_1 : wS.cell? ⟨ga, 1, none⟩ = some (.int .i64 a0_1) := (blk_cell hba 1).trans rfl; have hqa_2 : wS.cell? ⟨ga, 2, none⟩ = some (.string a0_2) := (blk_cell hba 2).trans rfl; have hqa_3 : wS.cell? ⟨ga, 3, none⟩ = some (.string a0_3) := (blk_cell hba 3).trans rfl; have hqa_4 : wS.cell? ⟨ga, 4, none⟩ = some (.slice A0_4 l0_4.length c0_4) := (blk_cell hba 4).trans rfl; have hqa_5 : wS.cell? ⟨ga, 5, none⟩ = some (.int .u64 a0_5) := (blk_cell hba 5).trans rfl; have hqa_6 : wS.cell? ⟨ga, 6, none⟩ = some (.int .i64 a0_6) := (blk_cell hba 6).trans rfl)
       | ((with_reducible refine gate_dst (N := 72) rfl ?_); refine Kd.event_run rfl (v := .slice (some ⟨wS.heap.size, 0, none⟩) 2 2) (w1 := wS.alloc (.cells #[.slice As ([a0_2, a0_3] : List ByteArray).length cs, .slice A0_4 l0_4.length c0_4] 22)) ?hr ?_; (case hr => first | (go_simp; done) | (go_simp; rfl)); have hbx := blk_new wS (.cells #[.slice As ([a0_2, a0_3] : List ByteArray).length cs, .slice A0_4 l0_4.length c0_4] 22); clear hqa_0 hqa_1 hqa_2 hqa_3 hqa_4 hqa_5 hqa_6; replace hba := blk_alloc hba (.cells #[.slice As ([a0_2, a0_3] : List ByteArray).length cs, .slice A0_4 l0_4.length c0_4] 22); replace HO := Kd.R_alloc HO (.cells #[.slice As ([a0_2, a0_3] : List ByteArray).length cs, .slice A0_4 l0_4.length c0_4] 22); replace HS := Kd.R_alloc HS (.cells #[.slice As ([a0_2, a0_3] : List ByteArray).length cs, .slice A0_4 l0_4.length c0_4] 22); replace HB := below_alloc HB (.cells #[.slice As ([a0_2, a0_3] : List ByteArray).length cs, .slice A0_4 l0_4.length c0_4] 22); generalize wS.heap.size = gx at hbx ⊢; generalize wS.alloc (.cells #[.slice As ([a0_2, a0_3] : List ByteArray).length cs, .slice A0_4 l0_4.length c0_4] 22) = wX at hbx hba HO HS HB ⊢; have hqa_0 : wX.cell? ⟨ga, 0, none⟩ = some (.int .i64 a0_0) := (blk_cell hba 0).trans rfl; have hqa_1 : wX.cell? ⟨ga, 1, none⟩ = some (.int .i64 a0_1) := (blk_cell hba 1).trans rfl; have hqa_2 : wX.cell? ⟨ga, 2, none⟩ = some (.string a0_2) := (blk_cell hba 2).trans rfl; have hqa_3 : wX.cell? ⟨ga, 3, none⟩ = some (.string a0_3) := (blk_cell hba 3).trans rfl; have hqa_4 : wX.cell? ⟨ga, 4, none⟩ = some (.slice A0_4 l0_4.length c0_4) := (blk_cell hba 4).trans rfl; have hqa_5 : wX.cell? ⟨ga, 5, none⟩ = some (.int .u64 a0_5) := (blk_cell hba 5).trans rfl; have hqa_6 : wX.cell? ⟨ga, 6, none⟩ = some (.int .i64 a0_6) := (blk_cell hba 6).trans rfl)
       | (go_at_call 26; refine (rec_concat_walk gx As A0_4 cs c0_4 [a0_2, a0_3] l0_4 _ hbx (Kd.R_reads' HS).2.2 (Kd.C_below HR.out HB) (by have h_ := HBD.out; simp only [List.length_cons, List.length_nil]; omega)).mono ?_; rintro e wT ⟨vt, rfl, HT, hb_⟩; obtain ⟨At, ct, et_⟩ := Kd.R_slice HT; replace HT := Kd.R_lower HT HB.size; rw [← HTT.out] at HT et_; subst et_; clear hqa_0 hqa_1 hqa_2 hqa_3 hqa_4 hqa_5 hqa_6 hba hbx HS; replace HO := Kd.R_below HO hb_; replace HB := below_step HB hb_; clear hb_))
    have hT18 : T.length ≤ 100 := (by rw [HTT.out, List.length_append, List.length_cons, List.length_cons, List.length_nil]; have h_ := HBD.out; omega); go_loopw [75, 8] (fun i s wr => ∃ (k : Nat) (out : List Int), k ≤ T.length ∧ i = .int .i64 k ∧ packWords T ([hv, a0_5] ++ [(lensAt l0_4 l0_4.length).1, (lensAt l0_4 l0_4.length).2]) k = some out ∧ Kd.R (Kd.int .u64) 23 wr w.heap.size (fun _ => True) s out ∧ Kd.R Kd.string 9 wr w.heap.size (fun _ => True) (.slice At T.length ct) T ∧ Below w.heap.size w wr) (fun i _ _ => T.length - (intOf i).toNat)
    case atStart => exact ⟨0, _, Nat.zero_le _, rfl, rfl, HO, HT, HB⟩
    case round =>
     clear HO HT HB; obtain ⟨k, out, hk, rfl, hpk, HO, HT, HB⟩ := hrel; have HPK := aA hpk; clear hpk; by_cases hlt : k < T.length
     ·obtain ⟨ys, hys⟩ := packWords_some HRS.out (k + 1) (by omega); obtain ⟨aw, hw_, hl_, hy_⟩ := packWords_step HPK.out hys; obtain ⟨ad, ea_, hx⟩ := Kd.at_string (Kd.R_reads' HT).2.2 (k : Int) (by omega) (by omega); subst ea_; rw [Int.toNat_natCast] at hx; obtain ⟨x, hxe⟩ : ∃ x, x = rdOf ByteArray.empty T k := ⟨_, rfl⟩; rw [← hxe] at hx hw_; have HW_ := aA hw_; have HLT := aA (show (out.length + aw.length) * 8 ≤ 140737488355328 by omega); have HYS := aA hys; have HY := aA hy_; clear hxe hw_ hl_ hys hy_; have hlt' : (k : Int) < (T.length : Int) := by omega
      go_wp2_with (first
       | (go_at_call 22; refine (rec_Words.calls (x.size + 2) x aw _ HW_.out).mono ?_; rintro e ww ⟨va, rfl, HA, hb_⟩; obtain ⟨Aw, cw, ew_⟩ := Kd.R_slice HA; replace HA := Kd.R_lower HA HB.size; subst ew_; clear hx; replace HO := Kd.R_below HO hb_; replace HT := Kd.R_below HT hb_; replace HB := below_step HB hb_; clear hb_)
       | ((with_reducible refine gate_dst (N := 82) rfl ?_); refine Kd.R_append_rows (Kd.int .u64) (w0 := w) w.heap.size rfl (.tmp 79) (.tmp 81) 28 23 (.int .u64 0) 8 rfl Try.underlying28 (by kernel_rfl) rfl (by decide) (by omega) _ out aw Aw aw.length cw (fun _ => True) (fun _ => False) rfl rfl HO (Kd.R_reads' HA).2.2 (fun _ _ h => h) (fun _ h => h.elim) (fun _ _ => trivial) HB HB.size (by have h_ := HLT.out; omega) ?_; intro v1 w1 HO1 hb_ hg_ hat_; have HT1 := Kd.R_mono (Kd.R_grown (Kd.R_apartR HT HO (by decide)) hg_ (fun _ h_ => h_.2)) (ok' := fun _ => True) (fun _ _ => trivial); clear HO HT HA HB hg_ hat_; have HO := HO1; have HT := HT1; have HB := hb_; clear HO1 HT1 hb_))
      go_roundw
      case rel => exact ⟨k + 1, _, by omega, by go_num, by rw [HYS.out, HY.out], HO, HT, HB⟩
      case measure => simp [intOf]; omega
     ·have hkl : k = T.length := by omega
      subst hkl; go_wp2; go_ret2
      have hr_ : out = res := by have h1_ := HPK.out; rw [HRS.out] at h1_; injection h1_ with h1_; exact h1_.symm
      subst hr_; exact ⟨_, rfl, HO, HB⟩
set_option maxHeartbeats 3200000 in
set_option maxRecDepth 100000 in
theorem rec_Pack_no (a0_0 : Int) (a0_1 : Int) (a0_2 : ByteArray) (a0_3 : ByteArray) (A0_4 : Option Addr) (c0_4 : Nat) (l0_4 : List ByteArray) (a0_5 : Int) (a0_6 : Int) (w : World) (hr0_4 : Kd.C Kd.string w A0_4 l0_4.length l0_4) (hc0_4 : l0_4.length ≤ c0_4) (hM : recMay a0_0 a0_1 a0_2 a0_3 l0_4 a0_6 = false) :
  Calls Try.prog 11 #[.agg #[.int .i64 a0_0, .int .i64 a0_1, .string a0_2, .string a0_3, .slice A0_4 l0_4.length c0_4, .int .u64 a0_5, .int .i64 a0_6]] w fun e w' => e = .returned (.tuple #[.slice none 0 0, .int .i64 1]) ∧ Below w.heap.size w w' := by
 have hu := Try.underlying27; have hu2 := Try.underlying25; have HR := aA hr0_4; have HMay := aA (show rec_May.f a0_0 a0_1 a0_2 a0_3 l0_4 a0_5 a0_6 = some false from congrArg some hM); have HB := Below.refl w.heap.size w; clear hr0_4 hM; go_enter Try.func11, Try.ntmps11
 go_wp2_with (first
  | ((with_reducible refine gate_dst (N := 1) rfl ?_); (with_reducible refine gate_ (.box 27 (.tmp 0)) rfl ?_); refine box_event (N := 1) rfl rfl (cs := #[.int .i64 a0_0, .int .i64 a0_1, .string a0_2, .string a0_3, .slice A0_4 l0_4.length c0_4, .int .u64 a0_5, .int .i64 a0_6]) (t := 27) (by first | (go_simp; done) | (go_simp; rfl)) ?_; intro ga hg_ wa_ hba hbl_; have HGa : w.heap.size ≤ ga := (by rw [hg_]; exact Nat.le_trans (by first | exact Nat.le_refl _ | exact HB.size) (Nat.le_refl _)); replace HB := below_step (blw HB) hbl_; clear hg_ hbl_; have hqa_0 : wa_.cell? ⟨ga, 0, none⟩ = some (.int .i64 a0_0) := (blk_cell hba 0).trans rfl; have hqa_1 : wa_.cell? ⟨ga, 1, none⟩ = some (.int .i64 a0_1) := (blk_cell hba 1).trans rfl; have hqa_2 : wa_.cell? ⟨ga, 2, none⟩ = some (.string a0_2) := (blk_cell hba 2).trans rfl; have hqa_3 : wa_.cell? ⟨ga, 3, none⟩ = some (.string a0_3) := (blk_cell hba 3).trans rfl; have hqa_4 : wa_.cell? ⟨ga, 4, none⟩ = some (.slice A0_4 l0_4.length c0_4) := (blk_cell hba 4).trans rfl; have hqa_5 : wa_.cell? ⟨ga, 5, none⟩ = some (.int .u64 a0_5) := (blk_cell hba 5).trans rfl; have hqa_6 : wa_.cell? ⟨ga, 6, none⟩ = some (.int .i64 a0_6) := (blk_cell hba 6).trans rfl)
  | ((with_reducible refine gate_dst (N := 13) rfl ?_); (with_reducible refine gate_callee (f := 16) rfl ?_); refine goesL_ (some 13) rfl rfl Try.func16 (by kernel_rfl) rfl #[.agg #[.int .i64 a0_0, .int .i64 a0_1, .string a0_2, .string a0_3, .slice A0_4 l0_4.length c0_4, .int .u64 a0_5, .int .i64 a0_6]] rfl (by (try simp only [List.map_toArray, List.map_cons, List.map_nil]); first | done | rfl | kernel_rfl) ?_; refine (rec_May.calls a0_0 a0_1 a0_2 a0_3 A0_4 c0_4 l0_4 a0_5 a0_6 false _ (Kd.C_below HR.out HB) hc0_4 HMay.out).mono ?_; rintro e wc2_ ⟨rfl, hb_⟩; clear hqa_0 hqa_1 hqa_2 hqa_3 hqa_4 hqa_5 hqa_6; replace hba := blk_below (by exact hba) hb_; have hqa_0 : wc2_.cell? ⟨ga, 0, none⟩ = some (.int .i64 a0_0) := (blk_cell hba 0).trans rfl; have hqa_1 : wc2_.cell? ⟨ga, 1, none⟩ = some (.int .i64 a0_1) := (blk_cell hba 1).trans rfl; have hqa_2 : wc2_.cell? ⟨ga, 2, none⟩ = some (.string a0_2) := (blk_cell hba 2).trans rfl; have hqa_3 : wc2_.cell? ⟨ga, 3, none⟩ = some (.string a0_3) := (blk_cell hba 3).trans rfl; have hqa_4 : wc2_.cell? ⟨ga, 4, none⟩ = some (.slice A0_4 l0_4.length c0_4) := (blk_cell hba 4).trans rfl; have hqa_5 : wc2_.cell? ⟨ga, 5, none⟩ = some (.int .u64 a0_5) := (blk_cell hba 5).trans rfl; have hqa_6 : wc2_.cell? ⟨ga, 6, none⟩ = some (.int .i64 a0_6) := (blk_cell hba 6).trans rfl; replace HB := below_step (blw HB) hb_; clear hb_; refine ⟨_, rfl, ?_⟩))
 go_ret2
 exact ⟨rfl, HB⟩
def rec_Pack.f (a0_0 : Int) (a0_1 : Int) (a0_2 : ByteArray) (a0_3 : ByteArray) (l0_4 : List ByteArray) (a0_5 : Int) (a0_6 : Int) : Option (List Int × Int) := if recMay a0_0 a0_1 a0_2 a0_3 l0_4 a0_6 = true then (packWords ([a0_2, a0_3] ++ l0_4) (packStart a0_0 a0_1 a0_2 a0_3 l0_4 a0_5 a0_6) ([a0_2, a0_3] ++ l0_4).length).bind fun ws => some (ws, 0) else some ([], 1)
theorem rec_Pack.calls (a0_0 : Int) (a0_1 : Int) (a0_2 : ByteArray) (a0_3 : ByteArray) (A0_4 : Option Addr) (c0_4 : Nat) (l0_4 : List ByteArray) (a0_5 : Int) (a0_6 : Int) (r1 : List Int) (r2 : Int) (w : World) (hr0_4 : Kd.C Kd.string w A0_4 l0_4.length l0_4) (hc0_4 : l0_4.length ≤ c0_4) (h : rec_Pack.f a0_0 a0_1 a0_2 a0_3 l0_4 a0_5 a0_6 = some (r1, r2)) :
  Calls Try.prog 11 #[.agg #[.int .i64 a0_0, .int .i64 a0_1, .string a0_2, .string a0_3, .slice A0_4 l0_4.length c0_4, .int .u64 a0_5, .int .i64 a0_6]] w fun e w' => ∃ v0_ : Value, e = .returned (.tuple #[v0_, .int .i64 r2]) ∧ Kd.R (Kd.int .u64) 23 w' w.heap.size (fun _ => True) v0_ r1 ∧ Below w.heap.size w w' := by
 unfold rec_Pack.f at h; split at h
 ·rename_i hM
  obtain ⟨ws, hW, h⟩ := Option.bind_eq_some_iff.1 h; simp only [Option.some.injEq, Prod.mk.injEq] at h; obtain ⟨rfl, rfl⟩ := h; exact rec_Pack_yes a0_0 a0_1 a0_2 a0_3 A0_4 c0_4 l0_4 a0_5 a0_6 w hr0_4 hc0_4 hM _ hW
 ·rename_i hM
  simp only [Option.some.injEq, Prod.mk.injEq] at h; obtain ⟨rfl, rfl⟩ := h; refine (rec_Pack_no a0_0 a0_1 a0_2 a0_3 A0_4 c0_4 l0_4 a0_5 a0_6 w hr0_4 hc0_4 (by simpa using hM)).mono ?_; rintro e w' ⟨he, hb⟩
  exact ⟨_, he, Kd.R_nil _ _ _ _ _, hb⟩

/-! ### slices_Equal_uint64_uint64: function 31 -/
def slices_Equal_uint64_uint64.l0 : Nat → List Int → List Int → Int → Int → Option (Bool)
 | 0, _, _, _, _ => none
 | k + 1, x0, x1, x12, x13 => if x13 < x12 then (if 0 ≤ x13 then (if x13 < (x0.length : Int) then (if x13 < (x1.length : Int) then (if (rd x0 x13) = (rd x1 x13) then (slices_Equal_uint64_uint64.l0 k x0 x1 x12 (wrap64 (x13 + 1))) else (some false)) else (none)) else (none)) else (none)) else (some true)
def slices_Equal_uint64_uint64.f (k : Nat) (l0 : List Int) (l1 : List Int) : Option (Bool) := if (l0.length : Int) = (l1.length : Int) then (slices_Equal_uint64_uint64.l0 k l0 l1 (l0.length : Int) 0) else (some false)
theorem slices_Equal_uint64_uint64.mono_l : ∀ k, (∀ y0 y1 y2 y3, LeO (slices_Equal_uint64_uint64.l0 k y0 y1 y2 y3) (slices_Equal_uint64_uint64.l0 (k + 1) y0 y1 y2 y3))
 | 0 => fun _ _ _ _ r h => by simp [slices_Equal_uint64_uint64.l0] at h
 | k + 1 => by
  have ih0 := slices_Equal_uint64_uint64.mono_l k
  ·intro y0 y1 y2 y3
   unfold slices_Equal_uint64_uint64.l0; repeat' first
   | (with_reducible exact ih0 _ _ _ _)
   | (with_reducible exact LeO.refl _)
   | (with_reducible exact LeO.none _)
   | (with_reducible refine LeO.ite ?_ ?_)
   | (with_reducible refine LeO.bind ?_ (fun _ => ?_))
   | exact ih0 _ _ _ _
   | exact LeO.none _
   | refine LeO.ite ?_ ?_
   | refine LeO.bind ?_ (fun _ => ?_)
theorem slices_Equal_uint64_uint64.mono : ∀ a0 a1 k, LeO (slices_Equal_uint64_uint64.f k a0 a1) (slices_Equal_uint64_uint64.f (k + 1) a0 a1) := by
 intro a0 a1 k
 have ih0 := slices_Equal_uint64_uint64.mono_l k; unfold slices_Equal_uint64_uint64.f
 repeat' first
   | (with_reducible exact ih0 _ _ _ _)
   | (with_reducible exact LeO.refl _)
   | (with_reducible exact LeO.none _)
   | (with_reducible refine LeO.ite ?_ ?_)
   | (with_reducible refine LeO.bind ?_ (fun _ => ?_))
   | exact ih0 _ _ _ _
   | exact LeO.none _
   | refine LeO.ite ?_ ?_
   | refine LeO.bind ?_ (fun _ => ?_)
set_option maxHeartbeats 8000000 in
set_option maxRecDepth 100000 in
theorem slices_Equal_uint64_uint64.calls (k : Nat) (A0 : Option Addr) (c0 : Nat) (l0 : List Int) (A1 : Option Addr) (c1 : Nat) (l1 : List Int) (r : Bool) (w : World) (hr0 : Kd.C (Kd.int .u64) w A0 l0.length l0) (hc0 : l0.length ≤ c0) (hr1 : Kd.C (Kd.int .u64) w A1 l1.length l1) (hc1 : l1.length ≤ c1) (h : slices_Equal_uint64_uint64.f k l0 l1 = some r) :
  Calls Try.prog 31 #[.slice A0 l0.length c0, .slice A1 l1.length c1] w fun e w' => e = .returned (.bool r) ∧ Drawn0 w w' := by
 have HR0 := aA hr0; have HC0 := aA hc0; clear hr0 hc0; have HR1 := aA hr1; have HC1 := aA hc1; clear hr1 hc1; have H : (if (l0.length : Int) = (l1.length : Int) then (slices_Equal_uint64_uint64.l0 k l0 l1 (l0.length : Int) 0) else (some false)) = some r := h; clear h; by_cases c3 : (l0.length : Int) = (l1.length : Int)
 ·rw [if_pos c3] at H; have c3b0 : ((l0.length : Int) == (l1.length : Int)) = true := beq_iff_eq.mpr c3; have c3b1 : ((l0.length : Int) != (l1.length : Int)) = false := bne_eq_false_iff_eq.mpr c3; have c3b2 : (l0.length == l1.length) = true := by first | simpa using c3 | (simp at c3 ⊢; omega)
  clear c3; have H' := aA H; clear H; go_enter Try.func31, Try.ntmps31; go_wp2; repeat (go_quiet (fail); try go_wp2)
  go_loopg [13] k (fun kq v13 w' => ∃ (x13_1 : Int), v13 = .int .i64 x13_1 ∧ Aside0 (slices_Equal_uint64_uint64.l0 kq l0 l1 (l0.length : Int) x13_1 = some r) ∧ Aside0 (kq ≤ k) ∧ Drawn0 w w')
  case atStart => exact ⟨(0), (by first | rfl | (simp; done) | (simp [*]; done)), H', ⟨Nat.le_refl _⟩, by repeat (first | exact Drawn0.refl _ | apply Drawn0.step)⟩
  case round =>
   clear H'; try clear c1
   try clear p2
   try clear c3
   try clear c3b0
   try clear c3b1
   try clear c3b2
   obtain ⟨x13_1, rfl, HA, HK1, ⟨m1, rfl⟩⟩ := hrel; cases gk with
   | zero => exact absurd HA.out (by simp [slices_Equal_uint64_uint64.l0])
   | succ k1 =>
    have H := HA.out; clear HA; simp only [slices_Equal_uint64_uint64.l0] at H; by_cases c4 : x13_1 < (l0.length : Int)
    ·rw [if_pos c4] at H; have c4b0 : decide (x13_1 < (l0.length : Int)) = true := decide_eq_true c4; clear c4; by_cases c5 : 0 ≤ x13_1
     rotate_left
     ·rw [if_neg c5] at H; exact absurd H (by simp)
     rw [if_pos c5] at H; have c5b0 : decide (0 ≤ x13_1) = true := decide_eq_true c5; clear c5; by_cases c6 : x13_1 < (l0.length : Int)
     rotate_left
     ·rw [if_neg c6] at H; exact absurd H (by simp)
     rw [if_pos c6] at H; have c6b0 : decide (x13_1 < (l0.length : Int)) = true := decide_eq_true c6; clear c6; by_cases c7 : x13_1 < (l1.length : Int)
     rotate_left
     ·rw [if_neg c7] at H; exact absurd H (by simp)
     rw [if_pos c7] at H; have c7b0 : decide (x13_1 < (l1.length : Int)) = true := decide_eq_true c7; clear c7; by_cases c8 : (rd l0 x13_1) = (rd l1 x13_1)
     ·rw [if_pos c8] at H; have c8b0 : ((rd l0 x13_1) == (rd l1 x13_1)) = true := beq_iff_eq.mpr c8; have c8b1 : ((rd l0 x13_1) != (rd l1 x13_1)) = false := bne_eq_false_iff_eq.mpr c8; clear c8; have H' := aA H; clear H; have p118 : 0 ≤ (x13_1 : Int) := of_decide_eq_true (by first | (with_reducible assumption) | assumption); have q118 : x13_1 < (l0.length : Int) := of_decide_eq_true (by first | (with_reducible assumption) | assumption); obtain ⟨ad118, e118, hx118_0⟩ := Kd.at_int HR0.out x13_1 p118 q118; cases e118
      replace p118 := eq_true p118; replace q118 := eq_true q118; have p119 : 0 ≤ (x13_1 : Int) := of_decide_eq_true (by first | (with_reducible assumption) | assumption); have q119 : x13_1 < (l1.length : Int) := of_decide_eq_true (by first | (with_reducible assumption) | assumption); obtain ⟨ad119, e119, hx119_0⟩ := Kd.at_int HR1.out x13_1 p119 q119; cases e119
      replace p119 := eq_true p119; replace q119 := eq_true q119; go_wp2; repeat (go_quiet (fail); try go_wp2)
      go_roundg k1
      case measure => have := HK1.out; omega
      case rel => exact ⟨(wrap64 (x13_1 + 1)), (by first | rfl | (simp; done) | (simp [*]; done)), H', ⟨by have := HK1.out; omega⟩, by repeat (first | exact Drawn0.refl _ | apply Drawn0.step)⟩
     ·rw [if_neg c8] at H; have c8b0 : ((rd l0 x13_1) == (rd l1 x13_1)) = false := beq_eq_false_iff_ne.mpr c8; have c8b1 : ((rd l0 x13_1) != (rd l1 x13_1)) = true := bne_iff_ne.mpr c8; obtain rfl := Option.some.inj H; have p118 : 0 ≤ (x13_1 : Int) := of_decide_eq_true (by first | (with_reducible assumption) | assumption); have q118 : x13_1 < (l0.length : Int) := of_decide_eq_true (by first | (with_reducible assumption) | assumption); obtain ⟨ad118, e118, hx118_0⟩ := Kd.at_int HR0.out x13_1 p118 q118; cases e118
      replace p118 := eq_true p118; replace q118 := eq_true q118; have p119 : 0 ≤ (x13_1 : Int) := of_decide_eq_true (by first | (with_reducible assumption) | assumption); have q119 : x13_1 < (l1.length : Int) := of_decide_eq_true (by first | (with_reducible assumption) | assumption); obtain ⟨ad119, e119, hx119_0⟩ := Kd.at_int HR1.out x13_1 p119 q119; cases e119
      replace p119 := eq_true p119; replace q119 := eq_true q119; go_wp2; repeat (go_quiet (fail); try go_wp2)
      go_ret
      exact ⟨by first | rfl | (simp; done) | (simp [*]; done), by repeat (first | exact Drawn0.refl _ | apply Drawn0.step)⟩
    ·rw [if_neg c4] at H; have c4b0 : decide (x13_1 < (l0.length : Int)) = false := decide_eq_false c4; clear c4; obtain rfl := Option.some.inj H; go_wp2; repeat (go_quiet (fail); try go_wp2)
     go_ret
     exact ⟨by first | rfl | (simp; done) | (simp [*]; done), by repeat (first | exact Drawn0.refl _ | apply Drawn0.step)⟩
 ·rw [if_neg c3] at H; have c3b0 : ((l0.length : Int) == (l1.length : Int)) = false := beq_eq_false_iff_ne.mpr c3; have c3b1 : ((l0.length : Int) != (l1.length : Int)) = true := bne_iff_ne.mpr c3; have c3b2 : (l0.length == l1.length) = false := by first | simpa using c3 | (simp at c3 ⊢; omega)
  obtain rfl := Option.some.inj H; go_enter Try.func31, Try.ntmps31; go_wp2; repeat (go_quiet (fail); try go_wp2)
  go_ret
  exact ⟨by first | rfl | (simp; done) | (simp [*]; done), by repeat (first | exact Drawn0.refl _ | apply Drawn0.step)⟩

end Go.Proofs.Ytdjkadfgmhmhcaa.PT
