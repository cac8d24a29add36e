-- Written by wip/hprint/hprint.py (a program of this session, over the print): not typed by hand
import Derived.Test.YtcjkjlopbjijaaaPCx0
namespace Go.Proofs.Ytcjkjlopbjijaaa.PC
open Go.RowKit Go.Proofs.YtcjkjlopbjijaaaW.PrintWords Go.Proofs.YtcjkjlopbjijaaaW.PrintLast Go.Proofs.YtcjkjlopbjijaaaW.PrintMore
attribute [local go_sem] max2_int min2_int max_two min_two max_three min_three max_four min_four   -- for this text's walks alone
open Go.Proofs.YtcjkjlopbjijaaaH
set_option linter.unusedVariables false
set_option linter.unusedSimpArgs false

set_option maxHeartbeats 1600000 in
set_option maxRecDepth 100000 in
theorem mem_Do_out (A0 : Option Addr) (c0 : Nat) (l0 : List Int) (a1_0 a1_1 a1_2 a1_3 : Int) (w : World) (hm : l0.length ≤ 9223372036854775807) (h1 : a1_1 < 0 ∨ (l0.length : Int) ≤ a1_1) :
  Calls Try.prog 15 #[.slice A0 l0.length c0, .agg #[.int .i64 a1_0, .int .i64 a1_1, .int .u64 a1_2, .int .u64 a1_3]] w fun e w' => e = .returned (.tuple #[.slice A0 l0.length c0, .int .u64 0, .bool false]) ∧ Below w.heap.size w w' := by
 have hu := Try.underlying25
 have HB := Below.refl w.heap.size w
 rcases h1 with h1 | h1
 ·
  go_enter Try.func15, Try.ntmps15
  go_wp2_with (first
  | ((with_reducible refine gate_ (.box 25 (.tmp 1)) rfl ?_); refine box_event (N := 3) rfl rfl (cs := #[.int .i64 a1_0, .int .i64 a1_1, .int .u64 a1_2, .int .u64 a1_3]) (t := 25) (by first | (go_simp; done) | (go_simp; rfl)) ?_; intro ga hg_ wa_ hba hbl_; have HGa : w.heap.size ≤ ga := (by rw [hg_]; exact Nat.le_trans (by first | exact Nat.le_refl _ | exact HB.size) (Nat.le_refl _)); replace HB := below_step (by repeat (first | exact HB | apply below_alloc | apply pw_below_drewN | apply below_drew1)) hbl_; clear hg_ hbl_; have hqa_0 : wa_.cell? ⟨ga, 0, none⟩ = some (.int .i64 a1_0) := (blk_cell hba 0).trans rfl; have hqa_1 : wa_.cell? ⟨ga, 1, none⟩ = some (.int .i64 a1_1) := (blk_cell hba 1).trans rfl; have hqa_2 : wa_.cell? ⟨ga, 2, none⟩ = some (.int .u64 a1_2) := (blk_cell hba 2).trans rfl; have hqa_3 : wa_.cell? ⟨ga, 3, none⟩ = some (.int .u64 a1_3) := (blk_cell hba 3).trans rfl))
  refine bodyPost_ret (v := .tuple #[.slice A0 l0.length c0, .int .u64 0, .bool false]) (by simp [results, Try.results15, go_sem]) rfl ?_
  exact ⟨rfl, HB⟩
 ·have h2 : ¬a1_1 < 0 := by omega
  go_enter Try.func15, Try.ntmps15
  go_wp2_with (first
  | ((with_reducible refine gate_ (.box 25 (.tmp 1)) rfl ?_); refine box_event (N := 3) rfl rfl (cs := #[.int .i64 a1_0, .int .i64 a1_1, .int .u64 a1_2, .int .u64 a1_3]) (t := 25) (by first | (go_simp; done) | (go_simp; rfl)) ?_; intro ga hg_ wa_ hba hbl_; have HGa : w.heap.size ≤ ga := (by rw [hg_]; exact Nat.le_trans (by first | exact Nat.le_refl _ | exact HB.size) (Nat.le_refl _)); replace HB := below_step (by repeat (first | exact HB | apply below_alloc | apply pw_below_drewN | apply below_drew1)) hbl_; clear hg_ hbl_; have hqa_0 : wa_.cell? ⟨ga, 0, none⟩ = some (.int .i64 a1_0) := (blk_cell hba 0).trans rfl; have hqa_1 : wa_.cell? ⟨ga, 1, none⟩ = some (.int .i64 a1_1) := (blk_cell hba 1).trans rfl; have hqa_2 : wa_.cell? ⟨ga, 2, none⟩ = some (.int .u64 a1_2) := (blk_cell hba 2).trans rfl; have hqa_3 : wa_.cell? ⟨ga, 3, none⟩ = some (.int .u64 a1_3) := (blk_cell hba 3).trans rfl))
  refine bodyPost_ret (v := .tuple #[.slice A0 l0.length c0, .int .u64 0, .bool false]) (by simp [results, Try.results15, go_sem]) rfl ?_
  exact ⟨rfl, HB⟩
set_option maxHeartbeats 1600000 in
set_option maxRecDepth 100000 in
theorem mem_Do_load (A0 : Option Addr) (c0 : Nat) (l0 : List Int) (i : Nat) (a1_2 a1_3 x : Int) (w : World) (hr : Kd.C (Kd.int .u64) w A0 l0.length l0) (hc : l0.length ≤ c0) (hi : i < l0.length) (hxe : rd l0 i = x) :
  Calls Try.prog 15 #[.slice A0 l0.length c0, .agg #[.int .i64 1, .int .i64 i, .int .u64 a1_2, .int .u64 a1_3]] w fun e w' => e = .returned (.tuple #[.slice A0 l0.length c0, .int .u64 x, .bool true]) ∧ Below w.heap.size w w' := by
 have hu := Try.underlying25
 have HB := Below.refl w.heap.size w
 have HR := aA hr
 obtain ⟨ad, rfl, hx⟩ := Kd.at_int HR.out (i : Int) (by omega) (by omega)
 rw [Int.toNat_natCast, hxe] at hx
 have HX := aA hx
 have hm := HR.out.2.1
 clear hr hx hxe
 go_enter Try.func15, Try.ntmps15
 go_wp2_with (first
  | ((with_reducible refine gate_ (.box 25 (.tmp 1)) rfl ?_); refine box_event (N := 3) rfl rfl (cs := #[.int .i64 1, .int .i64 i, .int .u64 a1_2, .int .u64 a1_3]) (t := 25) (by first | (go_simp; done) | (go_simp; rfl)) ?_; intro ga hg_ wa_ hba hbl_; have HGa : w.heap.size ≤ ga := (by rw [hg_]; exact Nat.le_trans (by first | exact Nat.le_refl _ | exact HB.size) (Nat.le_refl _)); replace HB := below_step (by repeat (first | exact HB | apply below_alloc | apply pw_below_drewN | apply below_drew1)) hbl_; clear hg_ hbl_; have hqa_0 : wa_.cell? ⟨ga, 0, none⟩ = some (.int .i64 1) := (blk_cell hba 0).trans rfl; have hqa_1 : wa_.cell? ⟨ga, 1, none⟩ = some (.int .i64 i) := (blk_cell hba 1).trans rfl; have hqa_2 : wa_.cell? ⟨ga, 2, none⟩ = some (.int .u64 a1_2) := (blk_cell hba 2).trans rfl; have hqa_3 : wa_.cell? ⟨ga, 3, none⟩ = some (.int .u64 a1_3) := (blk_cell hba 3).trans rfl; (try clear hx); have hx : wa_.cell? (ad.add i) = some (.int .u64 x) := (HB.cell (World.block_lt_of_cell? w _ HX.out)).trans HX.out))
 refine bodyPost_ret (v := .tuple #[.slice (some ad) l0.length c0, .int .u64 x, .bool true]) (by simp [results, Try.results15, go_sem]) rfl ?_
 exact ⟨rfl, HB⟩
set_option maxHeartbeats 1600000 in
set_option maxRecDepth 100000 in
theorem mem_Do_else (A0 : Option Addr) (c0 : Nat) (l0 : List Int) (i : Nat) (a1_0 : Int) (a1_2 a1_3 x : Int) (w : World) (hr : Kd.C (Kd.int .u64) w A0 l0.length l0) (hc : l0.length ≤ c0) (hi : i < l0.length) (hxe : rd l0 i = x) (h1 : ¬a1_0 = 1) (h2 : ¬a1_0 = 2) (h3 : ¬a1_0 = 3) :
  Calls Try.prog 15 #[.slice A0 l0.length c0, .agg #[.int .i64 a1_0, .int .i64 i, .int .u64 a1_2, .int .u64 a1_3]] w fun e w' => e = .returned (.tuple #[.slice A0 l0.length c0, .int .u64 0, .bool false]) ∧ Below w.heap.size w w' := by
 have hu := Try.underlying25
 have HB := Below.refl w.heap.size w
 have HR := aA hr
 obtain ⟨ad, rfl, hx⟩ := Kd.at_int HR.out (i : Int) (by omega) (by omega)
 rw [Int.toNat_natCast, hxe] at hx
 have HX := aA hx
 have hm := HR.out.2.1
 clear hr hx hxe
 go_enter Try.func15, Try.ntmps15
 go_wp2_with (first
  | ((with_reducible refine gate_ (.box 25 (.tmp 1)) rfl ?_); refine box_event (N := 3) rfl rfl (cs := #[.int .i64 a1_0, .int .i64 i, .int .u64 a1_2, .int .u64 a1_3]) (t := 25) (by first | (go_simp; done) | (go_simp; rfl)) ?_; intro ga hg_ wa_ hba hbl_; have HGa : w.heap.size ≤ ga := (by rw [hg_]; exact Nat.le_trans (by first | exact Nat.le_refl _ | exact HB.size) (Nat.le_refl _)); replace HB := below_step (by repeat (first | exact HB | apply below_alloc | apply pw_below_drewN | apply below_drew1)) hbl_; clear hg_ hbl_; have hqa_0 : wa_.cell? ⟨ga, 0, none⟩ = some (.int .i64 a1_0) := (blk_cell hba 0).trans rfl; have hqa_1 : wa_.cell? ⟨ga, 1, none⟩ = some (.int .i64 i) := (blk_cell hba 1).trans rfl; have hqa_2 : wa_.cell? ⟨ga, 2, none⟩ = some (.int .u64 a1_2) := (blk_cell hba 2).trans rfl; have hqa_3 : wa_.cell? ⟨ga, 3, none⟩ = some (.int .u64 a1_3) := (blk_cell hba 3).trans rfl; (try clear hx); have hx : wa_.cell? (ad.add i) = some (.int .u64 x) := (HB.cell (World.block_lt_of_cell? w _ HX.out)).trans HX.out))
 refine bodyPost_ret (v := .tuple #[.slice (some ad) l0.length c0, .int .u64 0, .bool false]) (by simp [results, Try.results15, go_sem]) rfl ?_
 exact ⟨rfl, HB⟩
set_option maxHeartbeats 1600000 in
set_option maxRecDepth 100000 in
theorem mem_Do_no (A0 : Option Addr) (c0 : Nat) (l0 : List Int) (i : Nat) (a1_2 a1_3 x : Int) (w : World) (hr : Kd.C (Kd.int .u64) w A0 l0.length l0) (hc : l0.length ≤ c0) (hi : i < l0.length) (hxe : rd l0 i = x) (hne : ¬x = a1_2) :
  Calls Try.prog 15 #[.slice A0 l0.length c0, .agg #[.int .i64 3, .int .i64 i, .int .u64 a1_2, .int .u64 a1_3]] w fun e w' => e = .returned (.tuple #[.slice A0 l0.length c0, .int .u64 x, .bool false]) ∧ Below w.heap.size w w' := by
 have hne1 : (x != a1_2) = true := by simpa using hne
 have hu := Try.underlying25
 have HB := Below.refl w.heap.size w
 have HR := aA hr
 obtain ⟨ad, rfl, hx⟩ := Kd.at_int HR.out (i : Int) (by omega) (by omega)
 rw [Int.toNat_natCast, hxe] at hx
 have HX := aA hx
 have hm := HR.out.2.1
 clear hr hx hxe
 go_enter Try.func15, Try.ntmps15
 go_wp2_with (first
  | ((with_reducible refine gate_ (.box 25 (.tmp 1)) rfl ?_); refine box_event (N := 3) rfl rfl (cs := #[.int .i64 3, .int .i64 i, .int .u64 a1_2, .int .u64 a1_3]) (t := 25) (by first | (go_simp; done) | (go_simp; rfl)) ?_; intro ga hg_ wa_ hba hbl_; have HGa : w.heap.size ≤ ga := (by rw [hg_]; exact Nat.le_trans (by first | exact Nat.le_refl _ | exact HB.size) (Nat.le_refl _)); replace HB := below_step (by repeat (first | exact HB | apply below_alloc | apply pw_below_drewN | apply below_drew1)) hbl_; clear hg_ hbl_; have hqa_0 : wa_.cell? ⟨ga, 0, none⟩ = some (.int .i64 3) := (blk_cell hba 0).trans rfl; have hqa_1 : wa_.cell? ⟨ga, 1, none⟩ = some (.int .i64 i) := (blk_cell hba 1).trans rfl; have hqa_2 : wa_.cell? ⟨ga, 2, none⟩ = some (.int .u64 a1_2) := (blk_cell hba 2).trans rfl; have hqa_3 : wa_.cell? ⟨ga, 3, none⟩ = some (.int .u64 a1_3) := (blk_cell hba 3).trans rfl; (try clear hx); have hx : wa_.cell? (ad.add i) = some (.int .u64 x) := (HB.cell (World.block_lt_of_cell? w _ HX.out)).trans HX.out))
 refine bodyPost_ret (v := .tuple #[.slice (some ad) l0.length c0, .int .u64 x, .bool false]) (by simp [results, Try.results15, go_sem]) rfl ?_
 exact ⟨rfl, HB⟩
set_option maxHeartbeats 1600000 in
set_option maxRecDepth 100000 in
theorem mem_Do_store (A0 : Option Addr) (c0 : Nat) (l0 : List Int) (i : Nat) (a1_2 a1_3 x : Int) (w : World) (hr : Kd.C (Kd.int .u64) w A0 l0.length l0) (hc : l0.length ≤ c0) (hi : i < l0.length) (hxe : rd l0 i = x) (hsz : l0.length * 8 ≤ 140737488351232) :
  Calls Try.prog 15 #[.slice A0 l0.length c0, .agg #[.int .i64 2, .int .i64 i, .int .u64 a1_2, .int .u64 a1_3]] w fun e w' => ∃ gm : Nat, e = .returned (.tuple #[.slice (some ⟨gm, 0, none⟩) l0.length l0.length, .int .u64 x, .bool true]) ∧ w.heap.size ≤ gm ∧ w'.heap[gm]? = some (.cells ((l0.set i (a1_3)).map (Value.int .u64)).toArray 23 (0, 0)) ∧ Below w.heap.size w w' := by
 have hu := Try.underlying25
 have HB := Below.refl w.heap.size w
 have HR := aA hr
 obtain ⟨ad, rfl, hx⟩ := Kd.at_int HR.out (i : Int) (by omega) (by omega)
 rw [Int.toNat_natCast, hxe] at hx
 have HX := aA hx
 have hm := HR.out.2.1
 clear hr hx hxe
 go_enter Try.func15, Try.ntmps15
 go_wp2_with (first
  | ((with_reducible refine gate_ (.box 25 (.tmp 1)) rfl ?_); refine box_event (N := 3) rfl rfl (cs := #[.int .i64 2, .int .i64 i, .int .u64 a1_2, .int .u64 a1_3]) (t := 25) (by first | (go_simp; done) | (go_simp; rfl)) ?_; intro ga hg_ wa_ hba hbl_; have HGa : w.heap.size ≤ ga := (by rw [hg_]; exact Nat.le_trans (by first | exact Nat.le_refl _ | exact HB.size) (Nat.le_refl _)); replace HB := below_step (by repeat (first | exact HB | apply below_alloc | apply pw_below_drewN | apply below_drew1)) hbl_; clear hg_ hbl_; have hqa_0 : wa_.cell? ⟨ga, 0, none⟩ = some (.int .i64 2) := (blk_cell hba 0).trans rfl; have hqa_1 : wa_.cell? ⟨ga, 1, none⟩ = some (.int .i64 i) := (blk_cell hba 1).trans rfl; have hqa_2 : wa_.cell? ⟨ga, 2, none⟩ = some (.int .u64 a1_2) := (blk_cell hba 2).trans rfl; have hqa_3 : wa_.cell? ⟨ga, 3, none⟩ = some (.int .u64 a1_3) := (blk_cell hba 3).trans rfl; (try clear hx); have hx : wa_.cell? (ad.add i) = some (.int .u64 x) := (HB.cell (World.block_lt_of_cell? w _ HX.out)).trans HX.out)
  | ((with_reducible refine gate_ (.makeSlice 22 (.tmp 42) (.tmp 42)) rfl ?_); refine blk_make rfl (N := 43) rfl (t := 22) (e := 23) rfl l0.length rfl rfl Try.underlying22 ((Value.int .u64) 0) 8 (by kernel_rfl) rfl (by decide) (by omega) ?_; intro gm hg_ wm_ hbm hbl_; rw [show List.replicate l0.length ((Value.int .u64) 0) = (List.replicate l0.length 0).map ((Value.int .u64)) from (List.map_replicate).symm] at hbm; have HGm : w.heap.size ≤ gm := (by rw [hg_]; exact HB.size); have HNm_a : gm ≠ ga := (by rw [hg_]; exact Nat.ne_of_gt (blk_lt (by exact hba))); clear hqa_0 hqa_1 hqa_2 hqa_3; replace hba := blk_below (by exact hba) hbl_; have hqa_0 : wm_.cell? ⟨ga, 0, none⟩ = some (.int .i64 2) := (blk_cell hba 0).trans rfl; have hqa_1 : wm_.cell? ⟨ga, 1, none⟩ = some (.int .i64 i) := (blk_cell hba 1).trans rfl; have hqa_2 : wm_.cell? ⟨ga, 2, none⟩ = some (.int .u64 a1_2) := (blk_cell hba 2).trans rfl; have hqa_3 : wm_.cell? ⟨ga, 3, none⟩ = some (.int .u64 a1_3) := (blk_cell hba 3).trans rfl; replace HB := below_step (by repeat (first | exact HB | apply below_alloc | apply pw_below_drewN | apply below_drew1)) hbl_; clear hg_ hbl_; (try clear hx); have hx : wm_.cell? (ad.add i) = some (.int .u64 x) := (HB.cell (World.block_lt_of_cell? w _ HX.out)).trans HX.out)
  | ((with_reducible refine gate_ (.call { callee := .builtin .copy, args := #[.tmp 44, .tmp 45], argTypes := #[22, 22] }) rfl ?_); refine blk_copy (w0 := w) (base := w.heap.size) (enc := (Value.int .u64)) (h1 := fun _ => rfl) rfl rfl Try.underlying22 (by kernel_rfl) (n := l0.length) l0 rfl rfl (by exact hbm) rfl (by simp) (Kd.C_below HR.out (by repeat (first | exact HB | apply below_alloc | apply pw_below_drewN | apply below_drew1))) (0 : Int) (by repeat (first | exact HB | apply below_alloc | apply pw_below_drewN | apply below_drew1)) HGm ?_; intro wm_3 hb2_ HB2_ hgr_; clear hqa_0 hqa_1 hqa_2 hqa_3; replace hba := blk_grown (by exact hba) hgr_ (fun e_ => by injection e_ with e_; exact HNm_a.symm e_); replace hbm := hb2_; replace HB := HB2_; clear hb2_ HB2_ hgr_; have hqa_0 : wm_3.cell? ⟨ga, 0, none⟩ = some (.int .i64 2) := (blk_cell hba 0).trans rfl; have hqa_1 : wm_3.cell? ⟨ga, 1, none⟩ = some (.int .i64 i) := (blk_cell hba 1).trans rfl; have hqa_2 : wm_3.cell? ⟨ga, 2, none⟩ = some (.int .u64 a1_2) := (blk_cell hba 2).trans rfl; have hqa_3 : wm_3.cell? ⟨ga, 3, none⟩ = some (.int .u64 a1_3) := (blk_cell hba 3).trans rfl; (try clear hx); have hx : wm_3.cell? (ad.add i) = some (.int .u64 x) := (HB.cell (World.block_lt_of_cell? w _ HX.out)).trans HX.out)
  | ((with_reducible refine gate_ (.store 23 (.tmp 52) (.tmp 51)) rfl ?_); refine blk_store (w0 := w) (base := w.heap.size) (u := (Value.int .u64) (a1_3)) (j := i) rfl rfl rfl rfl rfl rfl rfl ?ht_ (by exact hbm) (by simp; omega) (by repeat (first | exact HB | apply below_alloc | apply pw_below_drewN | apply below_drew1)) HGm ?_; (case ht_ => kernel_rfl); intro wm_4 hb2_ HB2_ hgr_; rw [map_setIf] at hb2_; clear hqa_0 hqa_1 hqa_2 hqa_3; replace hba := blk_grown (by exact hba) hgr_ (fun e_ => by injection e_ with e_; exact HNm_a.symm e_); replace hbm := hb2_; replace HB := HB2_; clear hb2_ HB2_ hgr_; have hqa_0 : wm_4.cell? ⟨ga, 0, none⟩ = some (.int .i64 2) := (blk_cell hba 0).trans rfl; have hqa_1 : wm_4.cell? ⟨ga, 1, none⟩ = some (.int .i64 i) := (blk_cell hba 1).trans rfl; have hqa_2 : wm_4.cell? ⟨ga, 2, none⟩ = some (.int .u64 a1_2) := (blk_cell hba 2).trans rfl; have hqa_3 : wm_4.cell? ⟨ga, 3, none⟩ = some (.int .u64 a1_3) := (blk_cell hba 3).trans rfl; (try clear hx); have hx : wm_4.cell? (ad.add i) = some (.int .u64 x) := (HB.cell (World.block_lt_of_cell? w _ HX.out)).trans HX.out))
 refine bodyPost_ret (v := .tuple #[.slice (some ⟨gm, 0, none⟩) l0.length l0.length, .int .u64 x, .bool true]) (by simp [results, Try.results15, go_sem]) rfl ?_
 exact ⟨gm, rfl, HGm, hbm, HB⟩
set_option maxHeartbeats 1600000 in
set_option maxRecDepth 100000 in
theorem mem_Do_cas (A0 : Option Addr) (c0 : Nat) (l0 : List Int) (i : Nat) (a1_2 a1_3 x : Int) (w : World) (hr : Kd.C (Kd.int .u64) w A0 l0.length l0) (hc : l0.length ≤ c0) (hi : i < l0.length) (hxe : rd l0 i = x) (hsz : l0.length * 8 ≤ 140737488351232) (he : x = a1_2) :
  Calls Try.prog 15 #[.slice A0 l0.length c0, .agg #[.int .i64 3, .int .i64 i, .int .u64 a1_2, .int .u64 a1_3]] w fun e w' => ∃ gm : Nat, e = .returned (.tuple #[.slice (some ⟨gm, 0, none⟩) l0.length l0.length, .int .u64 x, .bool true]) ∧ w.heap.size ≤ gm ∧ w'.heap[gm]? = some (.cells ((l0.set i (a1_3)).map (Value.int .u64)).toArray 23 (0, 0)) ∧ Below w.heap.size w w' := by
 have hu := Try.underlying25
 have HB := Below.refl w.heap.size w
 have he1 : (x != a1_2) = false := by simpa using he
 clear he
 have HR := aA hr
 obtain ⟨ad, rfl, hx⟩ := Kd.at_int HR.out (i : Int) (by omega) (by omega)
 rw [Int.toNat_natCast, hxe] at hx
 have HX := aA hx
 have hm := HR.out.2.1
 clear hr hx hxe
 go_enter Try.func15, Try.ntmps15
 go_wp2_with (first
  | ((with_reducible refine gate_ (.box 25 (.tmp 1)) rfl ?_); refine box_event (N := 3) rfl rfl (cs := #[.int .i64 3, .int .i64 i, .int .u64 a1_2, .int .u64 a1_3]) (t := 25) (by first | (go_simp; done) | (go_simp; rfl)) ?_; intro ga hg_ wa_ hba hbl_; have HGa : w.heap.size ≤ ga := (by rw [hg_]; exact Nat.le_trans (by first | exact Nat.le_refl _ | exact HB.size) (Nat.le_refl _)); replace HB := below_step (by repeat (first | exact HB | apply below_alloc | apply pw_below_drewN | apply below_drew1)) hbl_; clear hg_ hbl_; have hqa_0 : wa_.cell? ⟨ga, 0, none⟩ = some (.int .i64 3) := (blk_cell hba 0).trans rfl; have hqa_1 : wa_.cell? ⟨ga, 1, none⟩ = some (.int .i64 i) := (blk_cell hba 1).trans rfl; have hqa_2 : wa_.cell? ⟨ga, 2, none⟩ = some (.int .u64 a1_2) := (blk_cell hba 2).trans rfl; have hqa_3 : wa_.cell? ⟨ga, 3, none⟩ = some (.int .u64 a1_3) := (blk_cell hba 3).trans rfl; (try clear hx); have hx : wa_.cell? (ad.add i) = some (.int .u64 x) := (HB.cell (World.block_lt_of_cell? w _ HX.out)).trans HX.out)
  | ((with_reducible refine gate_ (.makeSlice 22 (.tmp 42) (.tmp 42)) rfl ?_); refine blk_make rfl (N := 43) rfl (t := 22) (e := 23) rfl l0.length rfl rfl Try.underlying22 ((Value.int .u64) 0) 8 (by kernel_rfl) rfl (by decide) (by omega) ?_; intro gm hg_ wm_ hbm hbl_; rw [show List.replicate l0.length ((Value.int .u64) 0) = (List.replicate l0.length 0).map ((Value.int .u64)) from (List.map_replicate).symm] at hbm; have HGm : w.heap.size ≤ gm := (by rw [hg_]; exact HB.size); have HNm_a : gm ≠ ga := (by rw [hg_]; exact Nat.ne_of_gt (blk_lt (by exact hba))); clear hqa_0 hqa_1 hqa_2 hqa_3; replace hba := blk_below (by exact hba) hbl_; have hqa_0 : wm_.cell? ⟨ga, 0, none⟩ = some (.int .i64 3) := (blk_cell hba 0).trans rfl; have hqa_1 : wm_.cell? ⟨ga, 1, none⟩ = some (.int .i64 i) := (blk_cell hba 1).trans rfl; have hqa_2 : wm_.cell? ⟨ga, 2, none⟩ = some (.int .u64 a1_2) := (blk_cell hba 2).trans rfl; have hqa_3 : wm_.cell? ⟨ga, 3, none⟩ = some (.int .u64 a1_3) := (blk_cell hba 3).trans rfl; replace HB := below_step (by repeat (first | exact HB | apply below_alloc | apply pw_below_drewN | apply below_drew1)) hbl_; clear hg_ hbl_; (try clear hx); have hx : wm_.cell? (ad.add i) = some (.int .u64 x) := (HB.cell (World.block_lt_of_cell? w _ HX.out)).trans HX.out)
  | ((with_reducible refine gate_ (.call { callee := .builtin .copy, args := #[.tmp 44, .tmp 45], argTypes := #[22, 22] }) rfl ?_); refine blk_copy (w0 := w) (base := w.heap.size) (enc := (Value.int .u64)) (h1 := fun _ => rfl) rfl rfl Try.underlying22 (by kernel_rfl) (n := l0.length) l0 rfl rfl (by exact hbm) rfl (by simp) (Kd.C_below HR.out (by repeat (first | exact HB | apply below_alloc | apply pw_below_drewN | apply below_drew1))) (0 : Int) (by repeat (first | exact HB | apply below_alloc | apply pw_below_drewN | apply below_drew1)) HGm ?_; intro wm_3 hb2_ HB2_ hgr_; clear hqa_0 hqa_1 hqa_2 hqa_3; replace hba := blk_grown (by exact hba) hgr_ (fun e_ => by injection e_ with e_; exact HNm_a.symm e_); replace hbm := hb2_; replace HB := HB2_; clear hb2_ HB2_ hgr_; have hqa_0 : wm_3.cell? ⟨ga, 0, none⟩ = some (.int .i64 3) := (blk_cell hba 0).trans rfl; have hqa_1 : wm_3.cell? ⟨ga, 1, none⟩ = some (.int .i64 i) := (blk_cell hba 1).trans rfl; have hqa_2 : wm_3.cell? ⟨ga, 2, none⟩ = some (.int .u64 a1_2) := (blk_cell hba 2).trans rfl; have hqa_3 : wm_3.cell? ⟨ga, 3, none⟩ = some (.int .u64 a1_3) := (blk_cell hba 3).trans rfl; (try clear hx); have hx : wm_3.cell? (ad.add i) = some (.int .u64 x) := (HB.cell (World.block_lt_of_cell? w _ HX.out)).trans HX.out)
  | ((with_reducible refine gate_ (.store 23 (.tmp 52) (.tmp 51)) rfl ?_); refine blk_store (w0 := w) (base := w.heap.size) (u := (Value.int .u64) (a1_3)) (j := i) rfl rfl rfl rfl rfl rfl rfl ?ht_ (by exact hbm) (by simp; omega) (by repeat (first | exact HB | apply below_alloc | apply pw_below_drewN | apply below_drew1)) HGm ?_; (case ht_ => kernel_rfl); intro wm_4 hb2_ HB2_ hgr_; rw [map_setIf] at hb2_; clear hqa_0 hqa_1 hqa_2 hqa_3; replace hba := blk_grown (by exact hba) hgr_ (fun e_ => by injection e_ with e_; exact HNm_a.symm e_); replace hbm := hb2_; replace HB := HB2_; clear hb2_ HB2_ hgr_; have hqa_0 : wm_4.cell? ⟨ga, 0, none⟩ = some (.int .i64 3) := (blk_cell hba 0).trans rfl; have hqa_1 : wm_4.cell? ⟨ga, 1, none⟩ = some (.int .i64 i) := (blk_cell hba 1).trans rfl; have hqa_2 : wm_4.cell? ⟨ga, 2, none⟩ = some (.int .u64 a1_2) := (blk_cell hba 2).trans rfl; have hqa_3 : wm_4.cell? ⟨ga, 3, none⟩ = some (.int .u64 a1_3) := (blk_cell hba 3).trans rfl; (try clear hx); have hx : wm_4.cell? (ad.add i) = some (.int .u64 x) := (HB.cell (World.block_lt_of_cell? w _ HX.out)).trans HX.out))
 refine bodyPost_ret (v := .tuple #[.slice (some ⟨gm, 0, none⟩) l0.length l0.length, .int .u64 x, .bool true]) (by simp [results, Try.results15, go_sem]) rfl ?_
 exact ⟨gm, rfl, HGm, hbm, HB⟩
def mem_Do.f (l0 : List Int) (a1_0 a1_1 a1_2 a1_3 : Int) : Option (List Int × Int × Bool) :=
 if a1_1 < 0 ∨ (l0.length : Int) ≤ a1_1 then some (l0, 0, false) else if a1_0 = 1 then some (l0, rd l0 a1_1, true) else if a1_0 = 3 ∧ ¬rd l0 a1_1 = a1_2 then some (l0, rd l0 a1_1, false)
 else if a1_0 = 2 ∨ a1_0 = 3 then (if l0.length * 8 ≤ 140737488351232 then some (l0.set a1_1.toNat a1_3, rd l0 a1_1, true) else none) else some (l0, 0, false)
theorem mem_Do.calls (P0_ : Nat → Prop) (A0 : Option Addr) (c0 : Nat) (l0 : List Int) (a1_0 : Int) (a1_1 : Int) (a1_2 : Int) (a1_3 : Int) (r1 : List Int) (r2 : Int) (r3 : Bool) (w : World) (hs0 : Kd.V (Kd.int .u64) 23 w w.heap.size (fun k_ => P0_ k_) (.slice A0 l0.length c0) l0) (h : mem_Do.f l0 a1_0 a1_1 a1_2 a1_3 = some (r1, r2, r3)) :
  Calls Try.prog 15 #[.slice A0 l0.length c0, .agg #[.int .i64 a1_0, .int .i64 a1_1, .int .u64 a1_2, .int .u64 a1_3]] w fun e w' => ∃ v1_ : Value, e = .returned (.tuple #[v1_, .int .u64 r2, .bool r3]) ∧ Kd.V (Kd.int .u64) 23 w' w.heap.size (fun k_ => (P0_ k_ ∨ w.heap.size ≤ k_)) v1_ r1 ∧ Below w.heap.size w w' := by
 have hC : Kd.C (Kd.int .u64) w A0 l0.length l0 := (Kd.V_reads' hs0).2.2
 have hcc : l0.length ≤ c0 := (Kd.V_reads' hs0).2.1
 unfold mem_Do.f at h
 have hsame : ∀ (h b) (e : Ending) (w' : World), (e = .returned (.tuple #[.slice A0 l0.length c0, .int .u64 h, .bool b]) ∧ Below w.heap.size w w') → ∃ v1_ : Value, e = .returned (.tuple #[v1_, .int .u64 h, .bool b]) ∧ Kd.V (Kd.int .u64) 23 w' w.heap.size (fun k_ => (P0_ k_ ∨ w.heap.size ≤ k_)) v1_ l0 ∧ Below w.heap.size w w' :=
  fun h b e w' hh => ⟨_, hh.1, V_below hs0 hh.2 (fun _ h_ => .inl h_), hh.2⟩
 have hnew : ∀ (i : Nat) (x h : Int) (e : Ending) (w' : World), (∃ gm : Nat, e = .returned (.tuple #[.slice (some ⟨gm, 0, none⟩) l0.length l0.length, .int .u64 h, .bool true]) ∧ w.heap.size ≤ gm ∧ w'.heap[gm]? = some (.cells ((l0.set i x).map (Value.int .u64)).toArray 23 (0, 0)) ∧ Below w.heap.size w w') → ∃ v1_ : Value, e = .returned (.tuple #[v1_, .int .u64 h, .bool true]) ∧ Kd.V (Kd.int .u64) 23 w' w.heap.size (fun k_ => (P0_ k_ ∨ w.heap.size ≤ k_)) v1_ (l0.set i x) ∧ Below w.heap.size w w' := by
  rintro i x h e w' ⟨gm, he, hge, hblk, hb⟩
  refine ⟨_, he, ?_, hb⟩
  have hv : Kd.V (Kd.int .u64) 23 w' w.heap.size (fun k_ => (P0_ k_ ∨ w.heap.size ≤ k_)) (.slice (some ⟨gm, 0, none⟩) (l0.set i x).length l0.length) (l0.set i x) := blk_V (enc := Value.int .u64) (h1 := fun _ => rfl) _ 0 hblk (by rw [List.length_set]; exact hC.2.1) (.inr hge) (by rw [List.length_set]; exact Nat.le_refl _)
  rw [List.length_set] at hv
  exact hv
 split at h
 ·rename_i h1
  injection h with h; injection h with e1 e2; injection e2 with e2 e3
  subst e1 e2 e3
  exact (mem_Do_out A0 c0 l0 a1_0 a1_1 a1_2 a1_3 w hC.2.1 h1).mono (hsame _ _)
 ·rename_i h1
  obtain ⟨i, rfl⟩ : ∃ i : Nat, a1_1 = i := ⟨a1_1.toNat, by omega⟩
  have hi : i < l0.length := by omega
  split at h
  ·rename_i hk
   injection h with h; injection h with e1 e2; injection e2 with e2 e3
   subst e1 e2 e3 hk
   exact (mem_Do_load A0 c0 l0 i a1_2 a1_3 _ w hC hcc hi rfl).mono (hsame _ _)
  ·rename_i hk1
   split at h
   ·rename_i hk
    injection h with h; injection h with e1 e2; injection e2 with e2 e3
    obtain ⟨hk, hne⟩ := hk
    subst e1 e2 e3 hk
    exact (mem_Do_no A0 c0 l0 i a1_2 a1_3 _ w hC hcc hi rfl hne).mono (hsame _ _)
   ·rename_i hk3
    split at h
    ·rename_i hk
     split at h
     ·rename_i hsz
      injection h with h; injection h with e1 e2; injection e2 with e2 e3
      rcases hk with hk | hk
      ·subst e1 e2 e3 hk
       exact (mem_Do_store A0 c0 l0 i a1_2 a1_3 _ w hC hcc hi rfl hsz).mono (hnew _ _ _)
      ·subst e1 e2 e3 hk
       exact (mem_Do_cas A0 c0 l0 i a1_2 a1_3 _ w hC hcc hi rfl hsz (Classical.not_not.mp fun hn => hk3 ⟨rfl, hn⟩)).mono (hnew _ _ _)
     ·cases h
    ·rename_i hk
     injection h with h; injection h with e1 e2; injection e2 with e2 e3
     subst e1 e2 e3
     exact (mem_Do_else A0 c0 l0 i a1_0 a1_2 a1_3 _ w hC hcc hi rfl hk1 (fun h_ => hk (.inl h_)) (fun h_ => hk (.inr h_))).mono (hsame _ _)

/-! ### mem_Told: function 18 -/
def mem_Told.f (a0 : Int) (a1 : Int) (a2 : Int) : Option (Int) := some (Go.bits .or .u64 (Go.bits .or .u64 (((wrap64 (a0 + 1)) % 4294967296) * 4294967296) (IntKind.u64.wrap ((IntKind.u64.wrap (IntKind.u16.wrap (a1))) * 65536))) (IntKind.u64.wrap (IntKind.u16.wrap (a2))))
set_option maxHeartbeats 8000000 in
set_option maxRecDepth 100000 in
theorem mem_Told.calls (a0 : Int) (a1 : Int) (a2 : Int) (r : Int) (w : World) (h : mem_Told.f a0 a1 a2 = some r) :
  Calls Try.prog 18 #[.int .i64 a0, .int .i64 a1, .int .i64 a2] w fun e w' => e = .returned (.int .u64 r) ∧ Drawn0 w w' := by
 have H : (some (Go.bits .or .u64 (Go.bits .or .u64 (((wrap64 (a0 + 1)) % 4294967296) * 4294967296) (IntKind.u64.wrap ((IntKind.u64.wrap (IntKind.u16.wrap (a1))) * 65536))) (IntKind.u64.wrap (IntKind.u16.wrap (a2))))) = some r := h
 clear h
 obtain rfl := Option.some.inj H
 go_enter Try.func18, Try.ntmps18
 go_wp2
 go_ret
 exact ⟨by first | rfl | (simp; done) | (simp [*]; done), by repeat (first | exact Drawn0.refl _ | apply Drawn0.step)⟩

/-! ### mem_Call: function 20 -/
def mem_Call.f (a0 : Int) : Option (Int) := some (wrap64 ((wrap64 (a0 / 4294967296)) - 1))
set_option maxHeartbeats 8000000 in
set_option maxRecDepth 100000 in
theorem mem_Call.calls (a0 : Int) (r : Int) (w : World) (h : mem_Call.f a0 = some r) :
  Calls Try.prog 20 #[.int .u64 a0] w fun e w' => e = .returned (.int .i64 r) ∧ Drawn0 w w' := by
 have H : (some (wrap64 ((wrap64 (a0 / 4294967296)) - 1))) = some r := h
 clear h
 obtain rfl := Option.some.inj H
 go_enter Try.func20, Try.ntmps20
 go_wp2
 go_ret
 exact ⟨by first | rfl | (simp; done) | (simp [*]; done), by repeat (first | exact Drawn0.refl _ | apply Drawn0.step)⟩

/-! ### mem_May: function 26 -/
def mem_May.f (a0_0 : Int) (a0_1 : Int) : Option (Bool) := if a0_0 > 0 then (if a0_0 ≤ 4 then (if a0_1 > 0 then (some (decide (a0_1 ≤ 4))) else (some false)) else (some false)) else (some false)
set_option maxHeartbeats 8000000 in
set_option maxRecDepth 100000 in
theorem mem_May.calls (a0_0 : Int) (a0_1 : Int) (r : Bool) (w : World) (h : mem_May.f a0_0 a0_1 = some r) :
  Calls Try.prog 26 #[.agg #[.int .i64 a0_0, .int .i64 a0_1]] w fun e w' => e = .returned (.bool r) ∧ Below w.heap.size w w' := by
 have hu38 := Try.underlying38
 have HB := aA (Below.refl w.heap.size w)
 have H : (if a0_0 > 0 then (if a0_0 ≤ 4 then (if a0_1 > 0 then (some (decide (a0_1 ≤ 4))) else (some false)) else (some false)) else (some false)) = some r := h
 clear h
 by_cases c2 : a0_0 > 0
 ·rw [if_pos c2] at H
  have c2b0 : decide (0 < a0_0) = true := decide_eq_true c2
  clear c2
  by_cases c3 : a0_0 ≤ 4
  ·rw [if_pos c3] at H
   have c3b0 : decide (a0_0 ≤ 4) = true := decide_eq_true c3
   clear c3
   by_cases c4 : a0_1 > 0
   ·rw [if_pos c4] at H
    have c4b0 : decide (0 < a0_1) = true := decide_eq_true c4
    clear c4
    obtain rfl := Option.some.inj H
    go_enter Try.func26, Try.ntmps26
    go_wp2_with (first | ((with_reducible refine gate_dst (N := 1) rfl ?_); refine box_event ?hg (N := 1) ?hd (cs := #[.int .i64 a0_0, .int .i64 a0_1]) (t := 38) ?hr ?_; (case hd => rfl); (case hg => rfl); (case hr => first | (go_simp; done) | (go_simp; rfl)); intro gb101 hg w5 hbox hb; have n0_ := aA (below_step (blw HB.out) hb); have n1_ := aA (hbox); have n2_ := aA ((by rw [hg]; exact (below_size (blw HB.out)) : w.heap.size ≤ gb101)); have n3_ := aA ((by rw [hg]; exact (below_size (blw HB.out)) : w.heap.size ≤ gb101)); clear HB; have HB := n0_; have BK101 := n1_; have GW101 := n2_; have GE101 := n3_; clear n0_ n1_ n2_ n3_ hb hbox hg; have hcz6_0 : w5.cell? ⟨gb101, 0, none⟩ = some (.int .i64 a0_0) := (blk_cell BK101.out 0).trans rfl; have hcz6_1 : w5.cell? ⟨gb101, 1, none⟩ = some (.int .i64 a0_1) := (blk_cell BK101.out 1).trans rfl; have hfz6_0 := blk_frozen BK101.out 0; have hfz6_1 := blk_frozen BK101.out 1))
    go_ret
    exact ⟨by first | rfl | (simp [errW_none, errW_some] <;> rfl) | (simp [*, errW_none, errW_some] <;> rfl), by repeat (first | (with_reducible first | exact HB.out | apply below_alloc | apply pw_below_drewN | apply below_drew1 | refine below_set ?_ GE101.out) | exact HB.out)⟩
   ·rw [if_neg c4] at H
    have c4b0 : decide (0 < a0_1) = false := decide_eq_false c4
    clear c4
    obtain rfl := Option.some.inj H
    go_enter Try.func26, Try.ntmps26
    go_wp2_with (first | ((with_reducible refine gate_dst (N := 1) rfl ?_); refine box_event ?hg (N := 1) ?hd (cs := #[.int .i64 a0_0, .int .i64 a0_1]) (t := 38) ?hr ?_; (case hd => rfl); (case hg => rfl); (case hr => first | (go_simp; done) | (go_simp; rfl)); intro gb101 hg w7 hbox hb; have n0_ := aA (below_step (blw HB.out) hb); have n1_ := aA (hbox); have n2_ := aA ((by rw [hg]; exact (below_size (blw HB.out)) : w.heap.size ≤ gb101)); have n3_ := aA ((by rw [hg]; exact (below_size (blw HB.out)) : w.heap.size ≤ gb101)); clear HB; have HB := n0_; have BK101 := n1_; have GW101 := n2_; have GE101 := n3_; clear n0_ n1_ n2_ n3_ hb hbox hg; have hcz8_0 : w7.cell? ⟨gb101, 0, none⟩ = some (.int .i64 a0_0) := (blk_cell BK101.out 0).trans rfl; have hcz8_1 : w7.cell? ⟨gb101, 1, none⟩ = some (.int .i64 a0_1) := (blk_cell BK101.out 1).trans rfl; have hfz8_0 := blk_frozen BK101.out 0; have hfz8_1 := blk_frozen BK101.out 1))
    go_ret
    exact ⟨by first | rfl | (simp [errW_none, errW_some] <;> rfl) | (simp [*, errW_none, errW_some] <;> rfl), by repeat (first | (with_reducible first | exact HB.out | apply below_alloc | apply pw_below_drewN | apply below_drew1 | refine below_set ?_ GE101.out) | exact HB.out)⟩
  ·rw [if_neg c3] at H
   have c3b0 : decide (a0_0 ≤ 4) = false := decide_eq_false c3
   clear c3
   obtain rfl := Option.some.inj H
   go_enter Try.func26, Try.ntmps26
   go_wp2_with (first | ((with_reducible refine gate_dst (N := 1) rfl ?_); refine box_event ?hg (N := 1) ?hd (cs := #[.int .i64 a0_0, .int .i64 a0_1]) (t := 38) ?hr ?_; (case hd => rfl); (case hg => rfl); (case hr => first | (go_simp; done) | (go_simp; rfl)); intro gb101 hg w9 hbox hb; have n0_ := aA (below_step (blw HB.out) hb); have n1_ := aA (hbox); have n2_ := aA ((by rw [hg]; exact (below_size (blw HB.out)) : w.heap.size ≤ gb101)); have n3_ := aA ((by rw [hg]; exact (below_size (blw HB.out)) : w.heap.size ≤ gb101)); clear HB; have HB := n0_; have BK101 := n1_; have GW101 := n2_; have GE101 := n3_; clear n0_ n1_ n2_ n3_ hb hbox hg; have hcz10_0 : w9.cell? ⟨gb101, 0, none⟩ = some (.int .i64 a0_0) := (blk_cell BK101.out 0).trans rfl; have hcz10_1 : w9.cell? ⟨gb101, 1, none⟩ = some (.int .i64 a0_1) := (blk_cell BK101.out 1).trans rfl; have hfz10_0 := blk_frozen BK101.out 0; have hfz10_1 := blk_frozen BK101.out 1))
   go_ret
   exact ⟨by first | rfl | (simp [errW_none, errW_some] <;> rfl) | (simp [*, errW_none, errW_some] <;> rfl), by repeat (first | (with_reducible first | exact HB.out | apply below_alloc | apply pw_below_drewN | apply below_drew1 | refine below_set ?_ GE101.out) | exact HB.out)⟩
 ·rw [if_neg c2] at H
  have c2b0 : decide (0 < a0_0) = false := decide_eq_false c2
  clear c2
  obtain rfl := Option.some.inj H
  go_enter Try.func26, Try.ntmps26
  go_wp2_with (first | ((with_reducible refine gate_dst (N := 1) rfl ?_); refine box_event ?hg (N := 1) ?hd (cs := #[.int .i64 a0_0, .int .i64 a0_1]) (t := 38) ?hr ?_; (case hd => rfl); (case hg => rfl); (case hr => first | (go_simp; done) | (go_simp; rfl)); intro gb101 hg w11 hbox hb; have n0_ := aA (below_step (blw HB.out) hb); have n1_ := aA (hbox); have n2_ := aA ((by rw [hg]; exact (below_size (blw HB.out)) : w.heap.size ≤ gb101)); have n3_ := aA ((by rw [hg]; exact (below_size (blw HB.out)) : w.heap.size ≤ gb101)); clear HB; have HB := n0_; have BK101 := n1_; have GW101 := n2_; have GE101 := n3_; clear n0_ n1_ n2_ n3_ hb hbox hg; have hcz12_0 : w11.cell? ⟨gb101, 0, none⟩ = some (.int .i64 a0_0) := (blk_cell BK101.out 0).trans rfl; have hcz12_1 : w11.cell? ⟨gb101, 1, none⟩ = some (.int .i64 a0_1) := (blk_cell BK101.out 1).trans rfl; have hfz12_0 := blk_frozen BK101.out 0; have hfz12_1 := blk_frozen BK101.out 1))
  go_ret
  exact ⟨by first | rfl | (simp [errW_none, errW_some] <;> rfl) | (simp [*, errW_none, errW_some] <;> rfl), by repeat (first | (with_reducible first | exact HB.out | apply below_alloc | apply pw_below_drewN | apply below_drew1 | refine below_set ?_ GE101.out) | exact HB.out)⟩

/-! ### mem_cell: function 57 -/
def mem_cell.f (a0_0 : Int) (a0_1 : Int) (a1 : Int) : Option (Int) := (mem_May.f a0_0 a0_1).bind fun t103 => (if t103 = true then (some a1) else (some (-1)))
set_option maxHeartbeats 8000000 in
set_option maxRecDepth 100000 in
theorem mem_cell.calls (a0_0 : Int) (a0_1 : Int) (a1 : Int) (r : Int) (w : World) (h : mem_cell.f a0_0 a0_1 a1 = some r) :
  Calls Try.prog 57 #[.agg #[.int .i64 a0_0, .int .i64 a0_1], .int .i64 a1] w fun e w' => e = .returned (.int .i64 r) ∧ Below w.heap.size w w' := by
 have hu38 := Try.underlying38
 have HB := aA (Below.refl w.heap.size w)
 have H : ((mem_May.f a0_0 a0_1).bind fun t103 => (if t103 = true then (some a1) else (some (-1)))) = some r := h
 clear h
 replace H := Option.bind_eq_some_iff.mp H
 obtain ⟨t103, A30, H⟩ := H
 replace H : (if t103 = true then (some a1) else (some (-1))) = some r := H
 have A3 := aA A30
 clear A30
 by_cases c4 : t103 = true
 ·subst c4
  have H1 : (some a1) = some r := by rw [if_pos rfl] at H; exact H
  clear H
  have H := H1
  clear H1
  obtain rfl := Option.some.inj H
  go_enter Try.func57, Try.ntmps57
  go_wp2_with (first | ((with_reducible refine gate_dst (N := 2) rfl ?_); refine box_event ?hg (N := 2) ?hd (cs := #[.int .i64 a0_0, .int .i64 a0_1]) (t := 38) ?hr ?_; (case hd => rfl); (case hg => rfl); (case hr => first | (go_simp; done) | (go_simp; rfl)); intro gb102 hg w5 hbox hb; have n0_ := aA (below_step (blw HB.out) hb); have n1_ := aA (hbox); have n2_ := aA ((by rw [hg]; exact (below_size (blw HB.out)) : w.heap.size ≤ gb102)); have n3_ := aA ((by rw [hg]; exact (below_size (blw HB.out)) : w.heap.size ≤ gb102)); clear HB; have HB := n0_; have BK102 := n1_; have GW102 := n2_; have GE102 := n3_; clear n0_ n1_ n2_ n3_ hb hbox hg; have hcz6_0 : w5.cell? ⟨gb102, 0, none⟩ = some (.int .i64 a0_0) := (blk_cell BK102.out 0).trans rfl; have hcz6_1 : w5.cell? ⟨gb102, 1, none⟩ = some (.int .i64 a0_1) := (blk_cell BK102.out 1).trans rfl; have hfz6_0 := blk_frozen BK102.out 0; have hfz6_1 := blk_frozen BK102.out 1) | ((with_reducible refine gate_callee (f := 26) rfl ?_); refine goesL_ (some 6) rfl rfl Try.func26 (by kernel_rfl) rfl #[.agg #[.int .i64 a0_0, .int .i64 a0_1]] rfl (by (try simp only [List.map_toArray, List.map_cons, List.map_nil]); first | done | rfl | (simp only [List.length_drop, List.length_take]; rfl)) ?_; (with_reducible refine (mem_May.calls a0_0 a0_1 true _ A3.out).mono ?_); rintro e w7 ⟨rfl, hb⟩; refine ⟨_, rfl, ?_⟩; have n0_ := aA (blk_below (g := gb102) (o := .cells #[.int .i64 a0_0, .int .i64 a0_1] 38 (0, 0)) (bku BK102.out) hb); have n1_ := aA (below_step (bls HB.out) hb); clear BK102 HB; have BK102 := n0_; have HB := n1_; clear n0_ n1_; (try clear hb); (try clear hb2); (try clear hk); (try clear hi)))
  go_ret
  exact ⟨by first | rfl | (simp [errW_none, errW_some] <;> rfl) | (simp [*, errW_none, errW_some] <;> rfl), by repeat (first | (with_reducible first | exact HB.out | apply below_alloc | apply pw_below_drewN | apply below_drew1 | refine below_set ?_ GE102.out) | exact HB.out)⟩
 ·replace c4 := Bool.eq_false_iff.mpr c4
  subst c4
  have H1 : (some (-1)) = some r := by rw [if_neg (show ¬ (false = true) by decide)] at H; exact H
  clear H
  have H := H1
  clear H1
  obtain rfl := Option.some.inj H
  go_enter Try.func57, Try.ntmps57
  go_wp2_with (first | ((with_reducible refine gate_dst (N := 2) rfl ?_); refine box_event ?hg (N := 2) ?hd (cs := #[.int .i64 a0_0, .int .i64 a0_1]) (t := 38) ?hr ?_; (case hd => rfl); (case hg => rfl); (case hr => first | (go_simp; done) | (go_simp; rfl)); intro gb102 hg w8 hbox hb; have n0_ := aA (below_step (blw HB.out) hb); have n1_ := aA (hbox); have n2_ := aA ((by rw [hg]; exact (below_size (blw HB.out)) : w.heap.size ≤ gb102)); have n3_ := aA ((by rw [hg]; exact (below_size (blw HB.out)) : w.heap.size ≤ gb102)); clear HB; have HB := n0_; have BK102 := n1_; have GW102 := n2_; have GE102 := n3_; clear n0_ n1_ n2_ n3_ hb hbox hg; have hcz9_0 : w8.cell? ⟨gb102, 0, none⟩ = some (.int .i64 a0_0) := (blk_cell BK102.out 0).trans rfl; have hcz9_1 : w8.cell? ⟨gb102, 1, none⟩ = some (.int .i64 a0_1) := (blk_cell BK102.out 1).trans rfl; have hfz9_0 := blk_frozen BK102.out 0; have hfz9_1 := blk_frozen BK102.out 1) | ((with_reducible refine gate_callee (f := 26) rfl ?_); refine goesL_ (some 6) rfl rfl Try.func26 (by kernel_rfl) rfl #[.agg #[.int .i64 a0_0, .int .i64 a0_1]] rfl (by (try simp only [List.map_toArray, List.map_cons, List.map_nil]); first | done | rfl | (simp only [List.length_drop, List.length_take]; rfl)) ?_; (with_reducible refine (mem_May.calls a0_0 a0_1 false _ A3.out).mono ?_); rintro e w10 ⟨rfl, hb⟩; refine ⟨_, rfl, ?_⟩; have n0_ := aA (blk_below (g := gb102) (o := .cells #[.int .i64 a0_0, .int .i64 a0_1] 38 (0, 0)) (bku BK102.out) hb); have n1_ := aA (below_step (bls HB.out) hb); clear BK102 HB; have BK102 := n0_; have HB := n1_; clear n0_ n1_; (try clear hb); (try clear hb2); (try clear hk); (try clear hi)))
  go_ret
  exact ⟨by first | rfl | (simp [errW_none, errW_some] <;> rfl) | (simp [*, errW_none, errW_some] <;> rfl), by repeat (first | (with_reducible first | exact HB.out | apply below_alloc | apply pw_below_drewN | apply below_drew1 | refine below_set ?_ GE102.out) | exact HB.out)⟩

/-! ### mem_Tail: function 34 -/
def mem_Tail.f (a0_0 : Int) (a0_1 : Int) : Option (Int) := (mem_cell.f a0_0 a0_1 (wrap64 (2 + (wrap64 (2 * a0_0))))).bind fun t105 => (some t105)
set_option maxHeartbeats 8000000 in
set_option maxRecDepth 100000 in
theorem mem_Tail.calls (a0_0 : Int) (a0_1 : Int) (r : Int) (w : World) (h : mem_Tail.f a0_0 a0_1 = some r) :
  Calls Try.prog 34 #[.agg #[.int .i64 a0_0, .int .i64 a0_1]] w fun e w' => e = .returned (.int .i64 r) ∧ Below w.heap.size w w' := by
 have hu38 := Try.underlying38
 have HB := aA (Below.refl w.heap.size w)
 have H : ((mem_cell.f a0_0 a0_1 (wrap64 (2 + (wrap64 (2 * a0_0))))).bind fun t105 => (some t105)) = some r := h
 clear h
 replace H := Option.bind_eq_some_iff.mp H
 obtain ⟨t105, A20, H⟩ := H
 replace H : (some t105) = some r := H
 have A2 := aA A20
 clear A20
 obtain rfl := Option.some.inj H
 go_enter Try.func34, Try.ntmps34
 go_wp2_with (first | ((with_reducible refine gate_dst (N := 1) rfl ?_); refine box_event ?hg (N := 1) ?hd (cs := #[.int .i64 a0_0, .int .i64 a0_1]) (t := 38) ?hr ?_; (case hd => rfl); (case hg => rfl); (case hr => first | (go_simp; done) | (go_simp; rfl)); intro gb104 hg w3 hbox hb; have n0_ := aA (below_step (blw HB.out) hb); have n1_ := aA (hbox); have n2_ := aA ((by rw [hg]; exact (below_size (blw HB.out)) : w.heap.size ≤ gb104)); have n3_ := aA ((by rw [hg]; exact (below_size (blw HB.out)) : w.heap.size ≤ gb104)); clear HB; have HB := n0_; have BK104 := n1_; have GW104 := n2_; have GE104 := n3_; clear n0_ n1_ n2_ n3_ hb hbox hg; have hcz4_0 : w3.cell? ⟨gb104, 0, none⟩ = some (.int .i64 a0_0) := (blk_cell BK104.out 0).trans rfl; have hcz4_1 : w3.cell? ⟨gb104, 1, none⟩ = some (.int .i64 a0_1) := (blk_cell BK104.out 1).trans rfl; have hfz4_0 := blk_frozen BK104.out 0; have hfz4_1 := blk_frozen BK104.out 1) | ((with_reducible refine gate_callee (f := 57) rfl ?_); refine goesL_ (some 8) rfl rfl Try.func57 (by kernel_rfl) rfl #[.agg #[.int .i64 a0_0, .int .i64 a0_1], .int .i64 (wrap64 (2 + (wrap64 (2 * a0_0))))] rfl (by (try simp only [List.map_toArray, List.map_cons, List.map_nil]); first | done | rfl | (simp only [List.length_drop, List.length_take]; rfl)) ?_; (with_reducible refine (mem_cell.calls a0_0 a0_1 (wrap64 (2 + (wrap64 (2 * a0_0)))) t105 _ A2.out).mono ?_); rintro e w5 ⟨rfl, hb⟩; refine ⟨_, rfl, ?_⟩; have n0_ := aA (blk_below (g := gb104) (o := .cells #[.int .i64 a0_0, .int .i64 a0_1] 38 (0, 0)) (bku BK104.out) hb); have n1_ := aA (below_step (bls HB.out) hb); clear BK104 HB; have BK104 := n0_; have HB := n1_; clear n0_ n1_; (try clear hb); (try clear hb2); (try clear hk); (try clear hi)))
 go_ret
 exact ⟨by first | rfl | (simp [errW_none, errW_some] <;> rfl) | (simp [*, errW_none, errW_some] <;> rfl), by repeat (first | (with_reducible first | exact HB.out | apply below_alloc | apply pw_below_drewN | apply below_drew1 | refine below_set ?_ GE104.out) | exact HB.out)⟩

/-! ### mem_Size: function 28 -/
def mem_Size.f (a0_0 : Int) (a0_1 : Int) : Option (Int) := (mem_May.f a0_0 a0_1).bind fun t107 => (if t107 = true then ((mem_Tail.f a0_0 a0_1).bind fun t108 => (if 0 ≤ a0_1 then (some (wrap64 ((wrap64 (t108 + 1)) + (shl .i64 2 a0_1)))) else (none))) else (some 0))
def mem_Size.T3 : Bool × List (List Nat × List Nat) := (true, [([], []), ([0], [0]), ([1], [1]), ([], []), ([3], [3]), ([4], [4]), ([2, 5], [2, 5]), ([6, 1, 0, 1, 2, 3, 4, 5, 6], [6])])
def mem_Size.B3 : List Nat := [0, 1, 3, 0, 8, 24, 63, 127]
theorem mem_Size.tab3 : rtab .any (opsOf Try.f28 3) = mem_Size.T3 := by kernel_rfl
theorem mem_Size.bits3 : waitsOk mem_Size.T3.2 mem_Size.B3 = true := by kernel_rfl
set_option maxHeartbeats 8000000 in
set_option maxRecDepth 100000 in
theorem mem_Size.calls (a0_0 : Int) (a0_1 : Int) (r : Int) (w : World) (h : mem_Size.f a0_0 a0_1 = some r) :
  Calls Try.prog 28 #[.agg #[.int .i64 a0_0, .int .i64 a0_1]] w fun e w' => e = .returned (.int .i64 r) ∧ Below w.heap.size w w' := by
 have hu38 := Try.underlying38
 have HB := aA (Below.refl w.heap.size w)
 have H : ((mem_May.f a0_0 a0_1).bind fun t107 => (if t107 = true then ((mem_Tail.f a0_0 a0_1).bind fun t108 => (if 0 ≤ a0_1 then (some (wrap64 ((wrap64 (t108 + 1)) + (shl .i64 2 a0_1)))) else (none))) else (some 0))) = some r := h
 clear h
 replace H := Option.bind_eq_some_iff.mp H
 obtain ⟨t107, A20, H⟩ := H
 replace H : (if t107 = true then ((mem_Tail.f a0_0 a0_1).bind fun t108 => (if 0 ≤ a0_1 then (some (wrap64 ((wrap64 (t108 + 1)) + (shl .i64 2 a0_1)))) else (none))) else (some 0)) = some r := H
 have A2 := aA A20
 clear A20
 by_cases c3 : t107 = true
 ·subst c3
  have H1 : ((mem_Tail.f a0_0 a0_1).bind fun t108 => (if 0 ≤ a0_1 then (some (wrap64 ((wrap64 (t108 + 1)) + (shl .i64 2 a0_1)))) else (none))) = some r := by rw [if_pos rfl] at H; exact H
  clear H
  have H := H1
  clear H1
  replace H := Option.bind_eq_some_iff.mp H
  obtain ⟨t108, A40, H⟩ := H
  replace H : (if 0 ≤ a0_1 then (some (wrap64 ((wrap64 (t108 + 1)) + (shl .i64 2 a0_1)))) else (none)) = some r := H
  have A4 := aA A40
  clear A40
  by_cases c5 : 0 ≤ a0_1
  ·rw [if_pos c5] at H
   have c5b0 := eq_true c5
   have c5b1 : decide (0 ≤ a0_1) = true := decide_eq_true c5
   clear c5
   obtain ⟨ji6, hji6⟩ : ∃ j_ : Int, (shl .i64 2 a0_1) = j_ := ⟨_, rfl⟩
   replace H : (some (wrap64 ((wrap64 (t108 + 1)) + (ji6)))) = some r := by first | (rw [hji6] at H; exact H) | (simp only [hji6] at H ⊢; exact H)
   (try rw [hji6] at A2)
   (try rw [hji6] at A4)
   have hji6_ : (IntKind.i64.wrap (2 * 2 ^ min a0_1.toNat 64)) = ji6 := hji6
   have hji6z : a0_1 ≤ 64 → (IntKind.i64.wrap (2 * 2 ^ a0_1.toNat)) = ji6 := shl_small hji6
   have hji6y : (wrap64 (2 * 2 ^ min a0_1.toNat 64)) = ji6 := (i64_w _).symm.trans hji6_
   have hji6x : a0_1 ≤ 64 → (wrap64 (2 * 2 ^ a0_1.toNat)) = ji6 := fun h_ => (i64_w _).symm.trans (hji6z h_)
   obtain rfl := Option.some.inj H
   go_enter Try.func28, Try.ntmps28
   try go_wp2_with (first | ((with_reducible refine gate_dst (N := 1) rfl ?_); refine box_event ?hg (N := 1) ?hd (cs := #[.int .i64 a0_0, .int .i64 a0_1]) (t := 38) ?hr ?_; (case hd => rfl); (case hg => rfl); (case hr => first | (go_simp; done) | (go_simp; rfl)); intro gb106 hg w7 hbox hb; have n0_ := aA (below_step (blw HB.out) hb); have n1_ := aA (hbox); have n2_ := aA ((by rw [hg]; exact (below_size (blw HB.out)) : w.heap.size ≤ gb106)); have n3_ := aA ((by rw [hg]; exact (below_size (blw HB.out)) : w.heap.size ≤ gb106)); clear HB; have HB := n0_; have BK106 := n1_; have GW106 := n2_; have GE106 := n3_; clear n0_ n1_ n2_ n3_ hb hbox hg; have hcz8_0 : w7.cell? ⟨gb106, 0, none⟩ = some (.int .i64 a0_0) := (blk_cell BK106.out 0).trans rfl; have hcz8_1 : w7.cell? ⟨gb106, 1, none⟩ = some (.int .i64 a0_1) := (blk_cell BK106.out 1).trans rfl; have hfz8_0 := blk_frozen BK106.out 0; have hfz8_1 := blk_frozen BK106.out 1) | ((with_reducible refine gate_callee (f := 26) rfl ?_); refine goesL_ (some 4) rfl rfl Try.func26 (by kernel_rfl) rfl #[.agg #[.int .i64 a0_0, .int .i64 a0_1]] rfl (by (try simp only [List.map_toArray, List.map_cons, List.map_nil]); first | done | rfl | (simp only [List.length_drop, List.length_take]; rfl)) ?_; (with_reducible refine (mem_May.calls a0_0 a0_1 true _ A2.out).mono ?_); rintro e w9 ⟨rfl, hb⟩; refine ⟨_, rfl, ?_⟩; have n0_ := aA (blk_below (g := gb106) (o := .cells #[.int .i64 a0_0, .int .i64 a0_1] 38 (0, 0)) (bku BK106.out) hb); have n1_ := aA (below_step (bls HB.out) hb); clear BK106 HB; have BK106 := n0_; have HB := n1_; clear n0_ n1_; (try clear hb); (try clear hb2); (try clear hk); (try clear hi)))
   have n0_ := aA (blk_drew BK106.out)
   have n1_ := aA (below_drew1 HB.out)
   clear BK106
   clear HB
   have BK106 := n0_
   have HB := n1_
   clear n0_ n1_
   refine start_ (n := 8) (S := fun w' => w'.cell? ⟨gb106, 0, none⟩ = some (.int .i64 a0_0) ∧ w'.cell? ⟨gb106, 1, none⟩ = some (.int .i64 a0_1)) (ds := []) #[false, false, false, false, false, false, false, false] (by kernel_rfl) rfl rfl ⟨(blk_cell BK106.out 0).trans rfl, (blk_cell BK106.out 1).trans rfl⟩ (fun hHeld => ?_); refine with_tabW mem_Size.tab3 mem_Size.bits3 (fun HT_ HW_ => ?_)
   generalize w9.drew = w10 at BK106 HB hHeld ⊢
   refine pure_ (i := 3) (N := some 9) (v := ?_) (a' := ?_) #[false, false, false, true, false, false, false, false] rfl rfl (any_of HT_.out (by kernel_rfl)) (fun _ _ _ h => h) (Or.inl ⟨by rfl, ?_⟩) ?_ ?_
   rotate_left
   ·intro w'
    go_simp
    with_reducible rfl
   rotate_left
   ·simp only [Act.put, List.setIfInBounds_toArray, List.set_cons_zero, List.set_cons_succ, i64_w, i32_w]
    rfl
   refine take_ (i := 0) (N := some 6) (v := ?_) (a' := ?_) #[true, false, false, true, false, false, false, false] rfl rfl (take_ofW HT_.out HW_.out (by kernel_rfl)) (fun _ _ _ h => h) (Or.inl ⟨by rfl, ?_⟩) hHeld ?_ ?_
   rotate_left
   ·rintro w' ⟨s0, s1⟩
    go_simp
    with_reducible rfl
   rotate_left
   ·simp only [Act.put, List.setIfInBounds_toArray, List.set_cons_zero, List.set_cons_succ, i64_w, i32_w]
    rfl
   refine take_ (i := 4) (N := some 10) (v := ?_) (a' := ?_) #[true, false, false, true, true, false, false, false] rfl rfl (take_ofW HT_.out HW_.out (by kernel_rfl)) (fun _ _ _ h => h) (Or.inl ⟨by rfl, ?_⟩) hHeld ?_ ?_
   rotate_left
   ·rintro w' ⟨s0, s1⟩
    go_simp
    with_reducible rfl
   rotate_left
   ·simp only [Act.put, List.setIfInBounds_toArray, List.set_cons_zero, List.set_cons_succ, i64_w, i32_w]
    rfl
   refine pure_ (i := 5) (N := some 11) (v := ?_) (a' := ?_) #[true, false, false, true, true, true, false, false] rfl rfl (any_of HT_.out (by kernel_rfl)) (fun _ _ _ h => h) (Or.inl ⟨by rfl, ?_⟩) ?_ ?_
   rotate_left
   ·intro w'
    go_simp
    with_reducible rfl
   rotate_left
   ·simp only [Act.put, List.setIfInBounds_toArray, List.set_cons_zero, List.set_cons_succ, i64_w, i32_w]
    rfl
   refine one_ (i := 1) (N := some 7) #[true, true, false, true, true, true, false, false] rfl rfl (one_of HT_.out (by kernel_rfl)) (by decide) (fun K hK => ?_)
   refine goes_ Try.func34 (by kernel_rfl) rfl #[.agg #[.int .i64 a0_0, .int .i64 a0_1]] (by rfl) rfl rfl (by (try simp only [List.map_toArray, List.map_cons, List.map_nil]); first | done | rfl | (simp only [List.length_drop, List.length_take]; rfl)) ?_
   with_reducible refine (mem_Tail.calls a0_0 a0_1 t108 _ A4.out).mono ?_
   rintro e w11 ⟨rfl, hb⟩
   refine ⟨_, rfl, ?_⟩
   have n0_ := aA (blk_below (g := gb106) (o := .cells #[.int .i64 a0_0, .int .i64 a0_1] 38 (0, 0)) (bku BK106.out) hb)
   have n1_ := aA (below_step (bls HB.out) hb)
   clear BK106
   clear HB
   have BK106 := n0_
   have HB := n1_
   clear n0_ n1_
   (try clear hb)
   (try clear hb2)
   (try clear hk)
   (try clear hi)
   refine hK.out _ _ ⟨(blk_cell BK106.out 0).trans rfl, (blk_cell BK106.out 1).trans rfl⟩ (fun hHeld => ?_)
   clear hK K
   refine norm_ (a' := ?_) ?_ ?_
   rotate_left
   ·show Act.put _ (some 7) _ = _
    simp only [Act.put, List.setIfInBounds_toArray, List.set_cons_zero, List.set_cons_succ, i64_w, i32_w]
    rfl
   refine pure_ (i := 2) (N := some 8) (v := ?_) (a' := ?_) #[true, true, true, true, true, true, false, false] rfl rfl (any_of HT_.out (by kernel_rfl)) (fun _ _ _ h => h) (Or.inl ⟨by rfl, ?_⟩) ?_ ?_
   rotate_left
   ·intro w'
    go_simp
    with_reducible rfl
   rotate_left
   ·simp only [Act.put, List.setIfInBounds_toArray, List.set_cons_zero, List.set_cons_succ, i64_w, i32_w]
    rfl
   refine pure_ (i := 6) (N := some 12) (v := ?_) (a' := ?_) #[true, true, true, true, true, true, true, false] rfl rfl (any_of HT_.out (by kernel_rfl)) (fun _ _ _ h => h) (Or.inl ⟨by rfl, ?_⟩) ?_ ?_
   rotate_left
   ·intro w'
    go_simp
    with_reducible rfl
   rotate_left
   ·simp only [Act.put, List.setIfInBounds_toArray, List.set_cons_zero, List.set_cons_succ, i64_w, i32_w]
    rfl
   refine pure_ (i := 7) (N := some 2) (v := ?_) (a' := ?_) #[true, true, true, true, true, true, true, true] rfl rfl (any_of HT_.out (by kernel_rfl)) (fun _ _ _ h => h) (Or.inl ⟨by rfl, ?_⟩) ?_ ?_
   rotate_left
   ·intro w'
    go_simp
    with_reducible rfl
   rotate_left
   ·simp only [Act.put, List.setIfInBounds_toArray, List.set_cons_zero, List.set_cons_succ, i64_w, i32_w]
    rfl
   refine done_ (done_of HT_.out (by kernel_rfl)) ?_
   try go_wp2
   go_ret
   exact ⟨by first | rfl | (simp [errW_none, errW_some] <;> rfl) | (simp only [← hji6]; first | rfl | (simp [errW_none, errW_some] <;> rfl)) | (simp [*, errW_none, errW_some] <;> rfl), by repeat (first | (with_reducible first | exact HB.out | apply below_alloc | apply pw_below_drewN | apply below_drew1 | refine below_set ?_ GE106.out) | exact HB.out)⟩
  ·rw [if_neg c5] at H
   exact absurd H (by simp)
 ·replace c3 := Bool.eq_false_iff.mpr c3
  subst c3
  have H1 : (some 0) = some r := by rw [if_neg (show ¬ (false = true) by decide)] at H; exact H
  clear H
  have H := H1
  clear H1
  obtain rfl := Option.some.inj H
  go_enter Try.func28, Try.ntmps28
  go_wp2_with (first | ((with_reducible refine gate_dst (N := 1) rfl ?_); refine box_event ?hg (N := 1) ?hd (cs := #[.int .i64 a0_0, .int .i64 a0_1]) (t := 38) ?hr ?_; (case hd => rfl); (case hg => rfl); (case hr => first | (go_simp; done) | (go_simp; rfl)); intro gb106 hg w12 hbox hb; have n0_ := aA (below_step (blw HB.out) hb); have n1_ := aA (hbox); have n2_ := aA ((by rw [hg]; exact (below_size (blw HB.out)) : w.heap.size ≤ gb106)); have n3_ := aA ((by rw [hg]; exact (below_size (blw HB.out)) : w.heap.size ≤ gb106)); clear HB; have HB := n0_; have BK106 := n1_; have GW106 := n2_; have GE106 := n3_; clear n0_ n1_ n2_ n3_ hb hbox hg; have hcz13_0 : w12.cell? ⟨gb106, 0, none⟩ = some (.int .i64 a0_0) := (blk_cell BK106.out 0).trans rfl; have hcz13_1 : w12.cell? ⟨gb106, 1, none⟩ = some (.int .i64 a0_1) := (blk_cell BK106.out 1).trans rfl; have hfz13_0 := blk_frozen BK106.out 0; have hfz13_1 := blk_frozen BK106.out 1) | ((with_reducible refine gate_callee (f := 26) rfl ?_); refine goesL_ (some 4) rfl rfl Try.func26 (by kernel_rfl) rfl #[.agg #[.int .i64 a0_0, .int .i64 a0_1]] rfl (by (try simp only [List.map_toArray, List.map_cons, List.map_nil]); first | done | rfl | (simp only [List.length_drop, List.length_take]; rfl)) ?_; (with_reducible refine (mem_May.calls a0_0 a0_1 false _ A2.out).mono ?_); rintro e w14 ⟨rfl, hb⟩; refine ⟨_, rfl, ?_⟩; have n0_ := aA (blk_below (g := gb106) (o := .cells #[.int .i64 a0_0, .int .i64 a0_1] 38 (0, 0)) (bku BK106.out) hb); have n1_ := aA (below_step (bls HB.out) hb); clear BK106 HB; have BK106 := n0_; have HB := n1_; clear n0_ n1_; (try clear hb); (try clear hb2); (try clear hk); (try clear hi)))
  go_ret
  exact ⟨by first | rfl | (simp [errW_none, errW_some] <;> rfl) | (simp [*, errW_none, errW_some] <;> rfl), by repeat (first | (with_reducible first | exact HB.out | apply below_alloc | apply pw_below_drewN | apply below_drew1 | refine below_set ?_ GE106.out) | exact HB.out)⟩

/-! ### mem_Seq: function 39 -/
def mem_Seq.f (a0_0 : Int) (a0_1 : Int) (a1 : Int) : Option (Int) := (mem_May.f a0_0 a0_1).bind fun t110 => (if t110 = true then ((mem_Tail.f a0_0 a0_1).bind fun t111 => (if 0 ≤ a0_1 then (some (wrap64 ((wrap64 (t111 + 1)) + (wrap64 ((wrap64 (Go.bits .and .u64 a1 (IntKind.u64.wrap ((shl .u64 1 a0_1) - 1)))) * 2))))) else (none))) else (some (-1)))
def mem_Seq.T3 : Bool × List (List Nat × List Nat) := (true, [([], []), ([0], [0]), ([1], [1]), ([], []), ([], []), ([4], [4]), ([5], [5]), ([6], [6]), ([3, 7], [3, 7]), ([8], [8]), ([9], [9]), ([2, 10], [2, 10]), ([11, 1, 0, 1, 2, 3, 4, 5, 6, 7, 8, 9, 10, 11], [11])])
def mem_Seq.B3 : List Nat := [0, 1, 3, 0, 0, 16, 48, 112, 248, 504, 1016, 2047, 4095]
theorem mem_Seq.tab3 : rtab .any (opsOf Try.f39 3) = mem_Seq.T3 := by kernel_rfl
theorem mem_Seq.bits3 : waitsOk mem_Seq.T3.2 mem_Seq.B3 = true := by kernel_rfl
set_option maxHeartbeats 8000000 in
set_option maxRecDepth 100000 in
theorem mem_Seq.calls (a0_0 : Int) (a0_1 : Int) (a1 : Int) (r : Int) (w : World) (h : mem_Seq.f a0_0 a0_1 a1 = some r) :
  Calls Try.prog 39 #[.agg #[.int .i64 a0_0, .int .i64 a0_1], .int .u64 a1] w fun e w' => e = .returned (.int .i64 r) ∧ Below w.heap.size w w' := by
 have hu38 := Try.underlying38
 have HB := aA (Below.refl w.heap.size w)
 have H : ((mem_May.f a0_0 a0_1).bind fun t110 => (if t110 = true then ((mem_Tail.f a0_0 a0_1).bind fun t111 => (if 0 ≤ a0_1 then (some (wrap64 ((wrap64 (t111 + 1)) + (wrap64 ((wrap64 (Go.bits .and .u64 a1 (IntKind.u64.wrap ((shl .u64 1 a0_1) - 1)))) * 2))))) else (none))) else (some (-1)))) = some r := h
 clear h
 replace H := Option.bind_eq_some_iff.mp H
 obtain ⟨t110, A30, H⟩ := H
 replace H : (if t110 = true then ((mem_Tail.f a0_0 a0_1).bind fun t111 => (if 0 ≤ a0_1 then (some (wrap64 ((wrap64 (t111 + 1)) + (wrap64 ((wrap64 (Go.bits .and .u64 a1 (IntKind.u64.wrap ((shl .u64 1 a0_1) - 1)))) * 2))))) else (none))) else (some (-1))) = some r := H
 have A3 := aA A30
 clear A30
 by_cases c4 : t110 = true
 ·subst c4
  have H1 : ((mem_Tail.f a0_0 a0_1).bind fun t111 => (if 0 ≤ a0_1 then (some (wrap64 ((wrap64 (t111 + 1)) + (wrap64 ((wrap64 (Go.bits .and .u64 a1 (IntKind.u64.wrap ((shl .u64 1 a0_1) - 1)))) * 2))))) else (none))) = some r := by rw [if_pos rfl] at H; exact H
  clear H
  have H := H1
  clear H1
  replace H := Option.bind_eq_some_iff.mp H
  obtain ⟨t111, A50, H⟩ := H
  replace H : (if 0 ≤ a0_1 then (some (wrap64 ((wrap64 (t111 + 1)) + (wrap64 ((wrap64 (Go.bits .and .u64 a1 (IntKind.u64.wrap ((shl .u64 1 a0_1) - 1)))) * 2))))) else (none)) = some r := H
  have A5 := aA A50
  clear A50
  by_cases c6 : 0 ≤ a0_1
  ·rw [if_pos c6] at H
   have c6b0 := eq_true c6
   have c6b1 : decide (0 ≤ a0_1) = true := decide_eq_true c6
   clear c6
   obtain ⟨ji7, hji7⟩ : ∃ j_ : Int, (shl .u64 1 a0_1) = j_ := ⟨_, rfl⟩
   replace H : (some (wrap64 ((wrap64 (t111 + 1)) + (wrap64 ((wrap64 (Go.bits .and .u64 a1 (IntKind.u64.wrap ((ji7) - 1)))) * 2))))) = some r := by first | (rw [hji7] at H; exact H) | (simp only [hji7] at H ⊢; exact H)
   (try rw [hji7] at A3)
   (try rw [hji7] at A5)
   have hji7_ : (IntKind.u64.wrap (1 * 2 ^ min a0_1.toNat 64)) = ji7 := hji7
   have hji7z : a0_1 ≤ 64 → (IntKind.u64.wrap (1 * 2 ^ a0_1.toNat)) = ji7 := shl_small hji7
   have hji7u : (IntKind.u64.wrap (2 ^ min a0_1.toNat 64)) = ji7 := by have h_ := hji7_; rw [Int.one_mul] at h_; exact h_
   have hji7v : a0_1 ≤ 64 → (IntKind.u64.wrap (2 ^ a0_1.toNat)) = ji7 := fun hle_ => by have h_ := hji7z hle_; rw [Int.one_mul] at h_; exact h_
   obtain rfl := Option.some.inj H
   go_enter Try.func39, Try.ntmps39
   try go_wp2_with (first | ((with_reducible refine gate_dst (N := 2) rfl ?_); refine box_event ?hg (N := 2) ?hd (cs := #[.int .i64 a0_0, .int .i64 a0_1]) (t := 38) ?hr ?_; (case hd => rfl); (case hg => rfl); (case hr => first | (go_simp; done) | (go_simp; rfl)); intro gb109 hg w8 hbox hb; have n0_ := aA (below_step (blw HB.out) hb); have n1_ := aA (hbox); have n2_ := aA ((by rw [hg]; exact (below_size (blw HB.out)) : w.heap.size ≤ gb109)); have n3_ := aA ((by rw [hg]; exact (below_size (blw HB.out)) : w.heap.size ≤ gb109)); clear HB; have HB := n0_; have BK109 := n1_; have GW109 := n2_; have GE109 := n3_; clear n0_ n1_ n2_ n3_ hb hbox hg; have hcz9_0 : w8.cell? ⟨gb109, 0, none⟩ = some (.int .i64 a0_0) := (blk_cell BK109.out 0).trans rfl; have hcz9_1 : w8.cell? ⟨gb109, 1, none⟩ = some (.int .i64 a0_1) := (blk_cell BK109.out 1).trans rfl; have hfz9_0 := blk_frozen BK109.out 0; have hfz9_1 := blk_frozen BK109.out 1) | ((with_reducible refine gate_callee (f := 26) rfl ?_); refine goesL_ (some 6) rfl rfl Try.func26 (by kernel_rfl) rfl #[.agg #[.int .i64 a0_0, .int .i64 a0_1]] rfl (by (try simp only [List.map_toArray, List.map_cons, List.map_nil]); first | done | rfl | (simp only [List.length_drop, List.length_take]; rfl)) ?_; (with_reducible refine (mem_May.calls a0_0 a0_1 true _ A3.out).mono ?_); rintro e w10 ⟨rfl, hb⟩; refine ⟨_, rfl, ?_⟩; have n0_ := aA (blk_below (g := gb109) (o := .cells #[.int .i64 a0_0, .int .i64 a0_1] 38 (0, 0)) (bku BK109.out) hb); have n1_ := aA (below_step (bls HB.out) hb); clear BK109 HB; have BK109 := n0_; have HB := n1_; clear n0_ n1_; (try clear hb); (try clear hb2); (try clear hk); (try clear hi)))
   have n0_ := aA (blk_drew BK109.out)
   have n1_ := aA (below_drew1 HB.out)
   clear BK109
   clear HB
   have BK109 := n0_
   have HB := n1_
   clear n0_ n1_
   refine start_ (n := 13) (S := fun w' => w'.cell? ⟨gb109, 0, none⟩ = some (.int .i64 a0_0) ∧ w'.cell? ⟨gb109, 1, none⟩ = some (.int .i64 a0_1)) (ds := []) #[false, false, false, false, false, false, false, false, false, false, false, false, false] (by kernel_rfl) rfl rfl ⟨(blk_cell BK109.out 0).trans rfl, (blk_cell BK109.out 1).trans rfl⟩ (fun hHeld => ?_); refine with_tabW mem_Seq.tab3 mem_Seq.bits3 (fun HT_ HW_ => ?_)
   generalize w10.drew = w11 at BK109 HB hHeld ⊢
   refine pure_ (i := 3) (N := some 11) (v := ?_) (a' := ?_) #[false, false, false, true, false, false, false, false, false, false, false, false, false] rfl rfl (any_of HT_.out (by kernel_rfl)) (fun _ _ _ h => h) (Or.inl ⟨by rfl, ?_⟩) ?_ ?_
   rotate_left
   ·intro w'
    go_simp
    with_reducible rfl
   rotate_left
   ·simp only [Act.put, List.setIfInBounds_toArray, List.set_cons_zero, List.set_cons_succ, i64_w, i32_w]
    rfl
   refine pure_ (i := 4) (N := some 12) (v := ?_) (a' := ?_) #[false, false, false, true, true, false, false, false, false, false, false, false, false] rfl rfl (any_of HT_.out (by kernel_rfl)) (fun _ _ _ h => h) (Or.inl ⟨by rfl, ?_⟩) ?_ ?_
   rotate_left
   ·intro w'
    go_simp
    with_reducible rfl
   rotate_left
   ·simp only [Act.put, List.setIfInBounds_toArray, List.set_cons_zero, List.set_cons_succ, i64_w, i32_w]
    rfl
   refine take_ (i := 0) (N := some 8) (v := ?_) (a' := ?_) #[true, false, false, true, true, false, false, false, false, false, false, false, false] rfl rfl (take_ofW HT_.out HW_.out (by kernel_rfl)) (fun _ _ _ h => h) (Or.inl ⟨by rfl, ?_⟩) hHeld ?_ ?_
   rotate_left
   ·rintro w' ⟨s0, s1⟩
    go_simp
    with_reducible rfl
   rotate_left
   ·simp only [Act.put, List.setIfInBounds_toArray, List.set_cons_zero, List.set_cons_succ, i64_w, i32_w]
    rfl
   refine take_ (i := 5) (N := some 13) (v := ?_) (a' := ?_) #[true, false, false, true, true, true, false, false, false, false, false, false, false] rfl rfl (take_ofW HT_.out HW_.out (by kernel_rfl)) (fun _ _ _ h => h) (Or.inl ⟨by rfl, ?_⟩) hHeld ?_ ?_
   rotate_left
   ·rintro w' ⟨s0, s1⟩
    go_simp
    with_reducible rfl
   rotate_left
   ·simp only [Act.put, List.setIfInBounds_toArray, List.set_cons_zero, List.set_cons_succ, i64_w, i32_w]
    rfl
   refine pure_ (i := 6) (N := some 14) (v := ?_) (a' := ?_) #[true, false, false, true, true, true, true, false, false, false, false, false, false] rfl rfl (any_of HT_.out (by kernel_rfl)) (fun _ _ _ h => h) (Or.inl ⟨by rfl, ?_⟩) ?_ ?_
   rotate_left
   ·intro w'
    go_simp
    with_reducible rfl
   rotate_left
   ·simp only [Act.put, List.setIfInBounds_toArray, List.set_cons_zero, List.set_cons_succ, i64_w, i32_w]
    rfl
   refine pure_ (i := 7) (N := some 15) (v := ?_) (a' := ?_) #[true, false, false, true, true, true, true, true, false, false, false, false, false] rfl rfl (any_of HT_.out (by kernel_rfl)) (fun _ _ _ h => h) (Or.inl ⟨by rfl, ?_⟩) ?_ ?_
   rotate_left
   ·intro w'
    go_simp
    with_reducible rfl
   rotate_left
   ·simp only [Act.put, List.setIfInBounds_toArray, List.set_cons_zero, List.set_cons_succ, i64_w, i32_w]
    rfl
   refine pure_ (i := 8) (N := some 16) (v := ?_) (a' := ?_) #[true, false, false, true, true, true, true, true, true, false, false, false, false] rfl rfl (any_of HT_.out (by kernel_rfl)) (fun _ _ _ h => h) (Or.inl ⟨by rfl, ?_⟩) ?_ ?_
   rotate_left
   ·intro w'
    go_simp
    with_reducible rfl
   rotate_left
   ·simp only [Act.put, List.setIfInBounds_toArray, List.set_cons_zero, List.set_cons_succ, i64_w, i32_w]
    rfl
   refine pure_ (i := 9) (N := some 17) (v := ?_) (a' := ?_) #[true, false, false, true, true, true, true, true, true, true, false, false, false] rfl rfl (any_of HT_.out (by kernel_rfl)) (fun _ _ _ h => h) (Or.inl ⟨by rfl, ?_⟩) ?_ ?_
   rotate_left
   ·intro w'
    go_simp
    with_reducible rfl
   rotate_left
   ·simp only [Act.put, List.setIfInBounds_toArray, List.set_cons_zero, List.set_cons_succ, i64_w, i32_w]
    rfl
   refine pure_ (i := 10) (N := some 18) (v := ?_) (a' := ?_) #[true, false, false, true, true, true, true, true, true, true, true, false, false] rfl rfl (any_of HT_.out (by kernel_rfl)) (fun _ _ _ h => h) (Or.inl ⟨by rfl, ?_⟩) ?_ ?_
   rotate_left
   ·intro w'
    go_simp
    with_reducible rfl
   rotate_left
   ·simp only [Act.put, List.setIfInBounds_toArray, List.set_cons_zero, List.set_cons_succ, i64_w, i32_w]
    rfl
   refine one_ (i := 1) (N := some 9) #[true, true, false, true, true, true, true, true, true, true, true, false, false] rfl rfl (one_of HT_.out (by kernel_rfl)) (by decide) (fun K hK => ?_)
   refine goes_ Try.func34 (by kernel_rfl) rfl #[.agg #[.int .i64 a0_0, .int .i64 a0_1]] (by rfl) rfl rfl (by (try simp only [List.map_toArray, List.map_cons, List.map_nil]); first | done | rfl | (simp only [List.length_drop, List.length_take]; rfl)) ?_
   with_reducible refine (mem_Tail.calls a0_0 a0_1 t111 _ A5.out).mono ?_
   rintro e w12 ⟨rfl, hb⟩
   refine ⟨_, rfl, ?_⟩
   have n0_ := aA (blk_below (g := gb109) (o := .cells #[.int .i64 a0_0, .int .i64 a0_1] 38 (0, 0)) (bku BK109.out) hb)
   have n1_ := aA (below_step (bls HB.out) hb)
   clear BK109
   clear HB
   have BK109 := n0_
   have HB := n1_
   clear n0_ n1_
   (try clear hb)
   (try clear hb2)
   (try clear hk)
   (try clear hi)
   refine hK.out _ _ ⟨(blk_cell BK109.out 0).trans rfl, (blk_cell BK109.out 1).trans rfl⟩ (fun hHeld => ?_)
   clear hK K
   refine norm_ (a' := ?_) ?_ ?_
   rotate_left
   ·show Act.put _ (some 9) _ = _
    simp only [Act.put, List.setIfInBounds_toArray, List.set_cons_zero, List.set_cons_succ, i64_w, i32_w]
    rfl
   refine pure_ (i := 2) (N := some 10) (v := ?_) (a' := ?_) #[true, true, true, true, true, true, true, true, true, true, true, false, false] rfl rfl (any_of HT_.out (by kernel_rfl)) (fun _ _ _ h => h) (Or.inl ⟨by rfl, ?_⟩) ?_ ?_
   rotate_left
   ·intro w'
    go_simp
    with_reducible rfl
   rotate_left
   ·simp only [Act.put, List.setIfInBounds_toArray, List.set_cons_zero, List.set_cons_succ, i64_w, i32_w]
    rfl
   refine pure_ (i := 11) (N := some 19) (v := ?_) (a' := ?_) #[true, true, true, true, true, true, true, true, true, true, true, true, false] rfl rfl (any_of HT_.out (by kernel_rfl)) (fun _ _ _ h => h) (Or.inl ⟨by rfl, ?_⟩) ?_ ?_
   rotate_left
   ·intro w'
    go_simp
    with_reducible rfl
   rotate_left
   ·simp only [Act.put, List.setIfInBounds_toArray, List.set_cons_zero, List.set_cons_succ, i64_w, i32_w]
    rfl
   refine pure_ (i := 12) (N := some 4) (v := ?_) (a' := ?_) #[true, true, true, true, true, true, true, true, true, true, true, true, true] rfl rfl (any_of HT_.out (by kernel_rfl)) (fun _ _ _ h => h) (Or.inl ⟨by rfl, ?_⟩) ?_ ?_
   rotate_left
   ·intro w'
    go_simp
    with_reducible rfl
   rotate_left
   ·simp only [Act.put, List.setIfInBounds_toArray, List.set_cons_zero, List.set_cons_succ, i64_w, i32_w]
    rfl
   refine done_ (done_of HT_.out (by kernel_rfl)) ?_
   try go_wp2
   go_ret
   exact ⟨by first | rfl | (simp [errW_none, errW_some] <;> rfl) | (simp only [← hji7]; first | rfl | (simp [errW_none, errW_some] <;> rfl)) | (simp [*, errW_none, errW_some] <;> rfl), by repeat (first | (with_reducible first | exact HB.out | apply below_alloc | apply pw_below_drewN | apply below_drew1 | refine below_set ?_ GE109.out) | exact HB.out)⟩
  ·rw [if_neg c6] at H
   exact absurd H (by simp)
 ·replace c4 := Bool.eq_false_iff.mpr c4
  subst c4
  have H1 : (some (-1)) = some r := by rw [if_neg (show ¬ (false = true) by decide)] at H; exact H
  clear H
  have H := H1
  clear H1
  obtain rfl := Option.some.inj H
  go_enter Try.func39, Try.ntmps39
  go_wp2_with (first | ((with_reducible refine gate_dst (N := 2) rfl ?_); refine box_event ?hg (N := 2) ?hd (cs := #[.int .i64 a0_0, .int .i64 a0_1]) (t := 38) ?hr ?_; (case hd => rfl); (case hg => rfl); (case hr => first | (go_simp; done) | (go_simp; rfl)); intro gb109 hg w13 hbox hb; have n0_ := aA (below_step (blw HB.out) hb); have n1_ := aA (hbox); have n2_ := aA ((by rw [hg]; exact (below_size (blw HB.out)) : w.heap.size ≤ gb109)); have n3_ := aA ((by rw [hg]; exact (below_size (blw HB.out)) : w.heap.size ≤ gb109)); clear HB; have HB := n0_; have BK109 := n1_; have GW109 := n2_; have GE109 := n3_; clear n0_ n1_ n2_ n3_ hb hbox hg; have hcz14_0 : w13.cell? ⟨gb109, 0, none⟩ = some (.int .i64 a0_0) := (blk_cell BK109.out 0).trans rfl; have hcz14_1 : w13.cell? ⟨gb109, 1, none⟩ = some (.int .i64 a0_1) := (blk_cell BK109.out 1).trans rfl; have hfz14_0 := blk_frozen BK109.out 0; have hfz14_1 := blk_frozen BK109.out 1) | ((with_reducible refine gate_callee (f := 26) rfl ?_); refine goesL_ (some 6) rfl rfl Try.func26 (by kernel_rfl) rfl #[.agg #[.int .i64 a0_0, .int .i64 a0_1]] rfl (by (try simp only [List.map_toArray, List.map_cons, List.map_nil]); first | done | rfl | (simp only [List.length_drop, List.length_take]; rfl)) ?_; (with_reducible refine (mem_May.calls a0_0 a0_1 false _ A3.out).mono ?_); rintro e w15 ⟨rfl, hb⟩; refine ⟨_, rfl, ?_⟩; have n0_ := aA (blk_below (g := gb109) (o := .cells #[.int .i64 a0_0, .int .i64 a0_1] 38 (0, 0)) (bku BK109.out) hb); have n1_ := aA (below_step (bls HB.out) hb); clear BK109 HB; have BK109 := n0_; have HB := n1_; clear n0_ n1_; (try clear hb); (try clear hb2); (try clear hk); (try clear hi)))
  go_ret
  exact ⟨by first | rfl | (simp [errW_none, errW_some] <;> rfl) | (simp [*, errW_none, errW_some] <;> rfl), by repeat (first | (with_reducible first | exact HB.out | apply below_alloc | apply pw_below_drewN | apply below_drew1 | refine below_set ?_ GE109.out) | exact HB.out)⟩

/-! ### mem_New: function 36 -/
def mem_New.l0 : Nat → List Int → Int → Int → Int → Option (List Int)
 | 0, _, _, _, _ => none
 | k + 1, x3, x4, x113000, x113001 => (mem_May.f x113000 x113001).bind fun t117 => (if t117 = true then (if 0 ≤ x113001 then (if x4 < (shl .u64 1 x113001) then ((mem_Seq.f x113000 x113001 x4).bind fun t118 => (if 0 ≤ t118 then (if t118 < (x3.length : Int) then (mem_New.l0 k (x3.set (t118 : Int).toNat x4) (IntKind.u64.wrap (x4 + 1)) x113000 x113001) else (none)) else (none))) else (some x3)) else (none)) else (some x3))
def mem_New.f (k : Nat) (a0_0 : Int) (a0_1 : Int) : Option (List Int) := (mem_Size.f a0_0 a0_1).bind fun t113 => (if 0 ≤ t113 then (if (t113 : Int).toNat ≤ 35184372088832 then (mem_New.l0 k (List.replicate (t113 : Int).toNat 0) 0 a0_0 a0_1) else (none)) else (none))
theorem mem_New.mono_l : ∀ k, (∀ y0 y1 y2 y3, LeO (mem_New.l0 k y0 y1 y2 y3) (mem_New.l0 (k + 1) y0 y1 y2 y3))
 | 0 => fun _ _ _ _ r h => by simp [mem_New.l0] at h
 | k + 1 => by
  have ih0 := mem_New.mono_l k
  ·intro y0 y1 y2 y3
   unfold mem_New.l0
   repeat' first
   | (with_reducible exact ih0 _ _ _ _)
   | (with_reducible exact LeO.refl _)
   | (with_reducible exact LeO.none _)
   | (with_reducible refine LeO.ite ?_ ?_)
   | (with_reducible refine LeO.bind ?_ (fun _ => ?_))
   | exact ih0 _ _ _ _
   | exact LeO.none _
   | refine LeO.ite ?_ ?_
   | refine LeO.bind ?_ (fun _ => ?_)
theorem mem_New.mono : ∀ a0 a1 k, LeO (mem_New.f k a0 a1) (mem_New.f (k + 1) a0 a1) := by
 intro a0 a1 k
 have ih0 := mem_New.mono_l k
 unfold mem_New.f
 repeat' first
   | (with_reducible exact ih0 _ _ _ _)
   | (with_reducible exact LeO.refl _)
   | (with_reducible exact LeO.none _)
   | (with_reducible refine LeO.ite ?_ ?_)
   | (with_reducible refine LeO.bind ?_ (fun _ => ?_))
   | exact ih0 _ _ _ _
   | exact LeO.none _
   | refine LeO.ite ?_ ?_
   | refine LeO.bind ?_ (fun _ => ?_)
set_option maxHeartbeats 8000000 in
set_option maxRecDepth 100000 in
theorem mem_New.calls (k : Nat) (a0_0 : Int) (a0_1 : Int) (r : List Int) (w : World) (h : mem_New.f k a0_0 a0_1 = some r) :
  Calls Try.prog 36 #[.agg #[.int .i64 a0_0, .int .i64 a0_1]] w fun e w' => ∃ v0_ : Value, e = .returned (v0_) ∧ Kd.R (Kd.int .u64) 23 w' w.heap.size (fun _ => True) v0_ r ∧ Below w.heap.size w w' := by
 have hu38 := Try.underlying38
 have HB := aA (Below.refl w.heap.size w)
 have H : ((mem_Size.f a0_0 a0_1).bind fun t113 => (if 0 ≤ t113 then (if (t113 : Int).toNat ≤ 35184372088832 then (mem_New.l0 k (List.replicate (t113 : Int).toNat 0) 0 a0_0 a0_1) else (none)) else (none))) = some r := h
 clear h
 replace H := Option.bind_eq_some_iff.mp H
 obtain ⟨t113, A20, H⟩ := H
 replace H : (if 0 ≤ t113 then (if (t113 : Int).toNat ≤ 35184372088832 then (mem_New.l0 k (List.replicate (t113 : Int).toNat 0) 0 a0_0 a0_1) else (none)) else (none)) = some r := H
 have A2 := aA A20
 clear A20
 by_cases c3 : 0 ≤ t113
 ·rw [if_pos c3] at H
  have c3b0 := eq_true c3
  have c3b1 : decide (0 ≤ t113) = true := decide_eq_true c3
  clear c3
  by_cases c4 : (t113 : Int).toNat ≤ 35184372088832
  ·rw [if_pos c4] at H
   have c4b0 := eq_true c4
   have c4b1 : decide ((t113 : Int).toNat ≤ 35184372088832) = true := decide_eq_true c4
   clear c4
   obtain ⟨y114, hy114⟩ : ∃ y_ : List Int, y_ = (List.replicate (t113 : Int).toNat 0) := ⟨_, rfl⟩
   replace H : (mem_New.l0 k y114 0 a0_0 a0_1) = some r := by first | (rw [hy114]; with_reducible exact H) | (have H2_ := (Option.bind_some _ _).symm.trans H; rw [hy114]; with_reducible exact H2_) | (have H2_ := (Option.bind_some _ _).symm.trans H; with_reducible exact H2_) | with_reducible exact H | (rw [hy114]; exact H) | exact H
   have Ny114 := aA hy114
   clear hy114
   have H' := aA H
   clear H
   go_enter Try.func36, Try.ntmps36
   go_wp2_with (first | ((with_reducible refine gate_dst (N := 1) rfl ?_); refine box_event ?hg (N := 1) ?hd (cs := #[.int .i64 a0_0, .int .i64 a0_1]) (t := 38) ?hr ?_; (case hd => rfl); (case hg => rfl); (case hr => first | (go_simp; done) | (go_simp; rfl)); intro gb112 hg w5 hbox hb; have n0_ := aA (below_step (blw HB.out) hb); have n1_ := aA (hbox); have n2_ := aA ((by rw [hg]; exact (below_size (blw HB.out)) : w.heap.size ≤ gb112)); have n3_ := aA ((by rw [hg]; exact (below_size (blw HB.out)) : w.heap.size ≤ gb112)); clear HB; have HB := n0_; have BK112 := n1_; have GW112 := n2_; have GE112 := n3_; clear n0_ n1_ n2_ n3_ hb hbox hg; have hcz6_0 : w5.cell? ⟨gb112, 0, none⟩ = some (.int .i64 a0_0) := (blk_cell BK112.out 0).trans rfl; have hcz6_1 : w5.cell? ⟨gb112, 1, none⟩ = some (.int .i64 a0_1) := (blk_cell BK112.out 1).trans rfl; have hfz6_0 := blk_frozen BK112.out 0; have hfz6_1 := blk_frozen BK112.out 1) | ((with_reducible refine gate_callee (f := 28) rfl ?_); refine goesL_ (some 6) rfl rfl Try.func28 (by kernel_rfl) rfl #[.agg #[.int .i64 a0_0, .int .i64 a0_1]] rfl (by (try simp only [List.map_toArray, List.map_cons, List.map_nil]); first | done | rfl | (simp only [List.length_drop, List.length_take]; rfl)) ?_; (with_reducible refine (mem_Size.calls a0_0 a0_1 t113 _ A2.out).mono ?_); rintro e w7 ⟨rfl, hb⟩; refine ⟨_, rfl, ?_⟩; have n0_ := aA (blk_below (g := gb112) (o := .cells #[.int .i64 a0_0, .int .i64 a0_1] 38 (0, 0)) (bku BK112.out) hb); have n1_ := aA (below_step (bls HB.out) hb); clear BK112 HB; have BK112 := n0_; have HB := n1_; clear n0_ n1_; (try clear hb); (try clear hb2); (try clear hk); (try clear hi)) | ((with_reducible refine gate_dst (N := 7) rfl ?_); refine Kd.R_make (Kd.int .u64) _ 23 rfl (N := 7) rfl 22 _ _ rfl t113 rfl rfl Try.underlying22 (.int .u64 0) 8 info23 rfl (by decide) (by omega) 0 (ok := fun _ => True) (okp := fun _ => True) rfl (fun _ hk => hk) trivial (of_decide_eq_true (by first | (with_reducible assumption) | assumption)) (Nat.le_trans (Nat.mul_le_mul_right _ (of_decide_eq_true (by first | (with_reducible assumption) | assumption) : t113.toNat ≤ 35184372088832)) (by omega)) (Below.refl _ _) (Nat.le_refl _) ?_; intro v115 w8 ho9 hb hg_ hnew_; clear hg_ hnew_; (first | rw [← Ny114.out] at ho9 | (simp only [Int.reduceToNat] at ho9; rw [← Ny114.out] at ho9)); have n0_ := aA (Kd.R_lower ho9 (below_size (bls HB.out))); have n1_ := aA (blk_below (g := gb112) (o := .cells #[.int .i64 a0_0, .int .i64 a0_1] 38 (0, 0)) (bku BK112.out) hb); have n2_ := aA (below_step (bls HB.out) hb); clear BK112 HB; have HO116 := n0_; have BK112 := n1_; have HB := n2_; clear n0_ n1_ n2_ hb ho9))
   go_loopg [4] k (fun kq v4 w' => ∃ (x3_1 : List Int) (x4_1 : Int), v4 = .int .u64 x4_1 ∧ Aside0 (mem_New.l0 kq x3_1 x4_1 a0_0 a0_1 = some r) ∧ Aside0 (kq ≤ k) ∧ Aside0 (Kd.R (Kd.int .u64) 23 w' w.heap.size (fun _ => True) v115 x3_1) ∧ Aside0 (w'.heap[gb112]? = some (.cells #[.int .i64 a0_0, .int .i64 a0_1] 38 (0, 0))) ∧ Aside0 (Below w.heap.size w w'))
   case atStart => exact ⟨(y114), (0), (by first | rfl | (simp; done) | (simp [*]; done)), H', ⟨Nat.le_refl _⟩, ⟨by (with_reducible repeat (first | apply Kd.R_alloc | apply Kd.R_drewN | apply Kd.R_drew)); exact HO116.out⟩, ⟨by refine bku ?_; exact BK112.out⟩, ⟨by repeat (first | (with_reducible first | exact HB.out | apply below_alloc | apply pw_below_drewN | apply below_drew1 | refine below_set ?_ GE112.out) | exact HB.out)⟩⟩
   case round =>
    clear H'
    try clear c2
    try clear p2
    try clear c3
    try clear c3b0
    try clear c3b1
    try clear c4
    try clear c4b0
    try clear c4b1
    try clear hcz6_0
    try clear hcz6_1
    try clear hfz6_0
    try clear hfz6_1
    obtain ⟨x3_1, x4_1, rfl, HA, HK1, HO_3, BK112, HB⟩ := hrel
    cases gk with
    | zero => exact absurd HA.out (by simp [mem_New.l0])
    | succ k1 =>
     have H := HA.out
     clear HA
     simp only [mem_New.l0] at H
     replace H := Option.bind_eq_some_iff.mp H
     obtain ⟨t117, A100, H⟩ := H
     replace H : (if t117 = true then (if 0 ≤ a0_1 then (if x4_1 < (shl .u64 1 a0_1) then ((mem_Seq.f a0_0 a0_1 x4_1).bind fun t118 => (if 0 ≤ t118 then (if t118 < (x3_1.length : Int) then (mem_New.l0 k1 (x3_1.set (t118 : Int).toNat x4_1) (IntKind.u64.wrap (x4_1 + 1)) a0_0 a0_1) else (none)) else (none))) else (some x3_1)) else (none)) else (some x3_1)) = some r := H
     have A10 := aA A100
     clear A100
     by_cases c11 : t117 = true
     ·subst c11
      have H1 : (if 0 ≤ a0_1 then (if x4_1 < (shl .u64 1 a0_1) then ((mem_Seq.f a0_0 a0_1 x4_1).bind fun t118 => (if 0 ≤ t118 then (if t118 < (x3_1.length : Int) then (mem_New.l0 k1 (x3_1.set (t118 : Int).toNat x4_1) (IntKind.u64.wrap (x4_1 + 1)) a0_0 a0_1) else (none)) else (none))) else (some x3_1)) else (none)) = some r := by rw [if_pos rfl] at H; exact H
      clear H
      have H := H1
      clear H1
      by_cases c12 : 0 ≤ a0_1
      ·rw [if_pos c12] at H
       have c12b0 := eq_true c12
       have c12b1 : decide (0 ≤ a0_1) = true := decide_eq_true c12
       clear c12
       obtain ⟨ji13, hji13⟩ : ∃ j_ : Int, (shl .u64 1 a0_1) = j_ := ⟨_, rfl⟩
       replace H : (if x4_1 < (ji13) then ((mem_Seq.f a0_0 a0_1 x4_1).bind fun t118 => (if 0 ≤ t118 then (if t118 < (x3_1.length : Int) then (mem_New.l0 k1 (x3_1.set (t118 : Int).toNat x4_1) (IntKind.u64.wrap (x4_1 + 1)) a0_0 a0_1) else (none)) else (none))) else (some x3_1)) = some r := by first | (rw [hji13] at H; exact H) | (simp only [hji13] at H ⊢; exact H)
       (try rw [hji13] at A10)
       have hji13_ : (IntKind.u64.wrap (1 * 2 ^ min a0_1.toNat 64)) = ji13 := hji13
       have hji13z : a0_1 ≤ 64 → (IntKind.u64.wrap (1 * 2 ^ a0_1.toNat)) = ji13 := shl_small hji13
       have hji13u : (IntKind.u64.wrap (2 ^ min a0_1.toNat 64)) = ji13 := by have h_ := hji13_; rw [Int.one_mul] at h_; exact h_
       have hji13v : a0_1 ≤ 64 → (IntKind.u64.wrap (2 ^ a0_1.toNat)) = ji13 := fun hle_ => by have h_ := hji13z hle_; rw [Int.one_mul] at h_; exact h_
       by_cases c14 : x4_1 < (ji13)
       ·rw [if_pos c14] at H
        have c14b0 : decide (x4_1 < (ji13)) = true := decide_eq_true c14
        clear c14
        replace H := Option.bind_eq_some_iff.mp H
        obtain ⟨t118, A150, H⟩ := H
        replace H : (if 0 ≤ t118 then (if t118 < (x3_1.length : Int) then (mem_New.l0 k1 (x3_1.set (t118 : Int).toNat x4_1) (IntKind.u64.wrap (x4_1 + 1)) a0_0 a0_1) else (none)) else (none)) = some r := H
        have A15 := aA A150
        clear A150
        by_cases c16 : 0 ≤ t118
        ·rw [if_pos c16] at H
         have c16b0 : decide (0 ≤ t118) = true := decide_eq_true c16
         clear c16
         by_cases c17 : t118 < (x3_1.length : Int)
         ·rw [if_pos c17] at H
          have c17b0 : decide (t118 < (x3_1.length : Int)) = true := decide_eq_true c17
          clear c17
          obtain ⟨y119, hy119⟩ : ∃ y_ : List Int, y_ = (x3_1.set (t118 : Int).toNat x4_1) := ⟨_, rfl⟩
          replace H : (mem_New.l0 k1 y119 (IntKind.u64.wrap (x4_1 + 1)) a0_0 a0_1) = some r := by first | (rw [hy119]; with_reducible exact H) | (have H2_ := (Option.bind_some _ _).symm.trans H; rw [hy119]; with_reducible exact H2_) | (have H2_ := (Option.bind_some _ _).symm.trans H; with_reducible exact H2_) | with_reducible exact H | (rw [hy119]; exact H) | exact H
          have Ny119 := aA hy119
          clear hy119
          have H' := aA H
          clear H
          have hcz19_0 : wr.cell? ⟨gb112, 0, none⟩ = some (.int .i64 a0_0) := (blk_cell BK112.out 0).trans rfl
          have hcz19_1 : wr.cell? ⟨gb112, 1, none⟩ = some (.int .i64 a0_1) := (blk_cell BK112.out 1).trans rfl
          have hfz19_0 := blk_frozen BK112.out 0
          have hfz19_1 := blk_frozen BK112.out 1
          go_wp2_with (first | ((with_reducible refine gate_callee (f := 26) rfl ?_); refine goesL_ (some 9) rfl rfl Try.func26 (by kernel_rfl) rfl #[.agg #[.int .i64 a0_0, .int .i64 a0_1]] rfl (by (try simp only [List.map_toArray, List.map_cons, List.map_nil]); first | done | rfl | (simp only [List.length_drop, List.length_take]; rfl)) ?_; (with_reducible refine (mem_May.calls a0_0 a0_1 true _ A10.out).mono ?_); rintro e w20 ⟨rfl, hb⟩; refine ⟨_, rfl, ?_⟩; have n0_ := aA (Kd.R_below (rlu HO_3.out) hb); have n1_ := aA (blk_below (g := gb112) (o := .cells #[.int .i64 a0_0, .int .i64 a0_1] 38 (0, 0)) (bku BK112.out) hb); have n2_ := aA (below_step (bls HB.out) hb); clear HO_3 BK112 HB; have HO_3 := n0_; have BK112 := n1_; have HB := n2_; clear n0_ n1_ n2_; (try clear hb); (try clear hb2); (try clear hk); (try clear hi); have hcz21_0 : w20.cell? ⟨gb112, 0, none⟩ = some (.int .i64 a0_0) := (blk_cell BK112.out 0).trans rfl; have hcz21_1 : w20.cell? ⟨gb112, 1, none⟩ = some (.int .i64 a0_1) := (blk_cell BK112.out 1).trans rfl; have hfz21_0 := blk_frozen BK112.out 0; have hfz21_1 := blk_frozen BK112.out 1) | ((with_reducible refine gate_callee (f := 39) rfl ?_); refine goesL_ (some 22) rfl rfl Try.func39 (by kernel_rfl) rfl #[.agg #[.int .i64 a0_0, .int .i64 a0_1], .int .u64 x4_1] rfl (by (try simp only [List.map_toArray, List.map_cons, List.map_nil]); first | done | rfl | (simp only [List.length_drop, List.length_take]; rfl)) ?_; (with_reducible refine (mem_Seq.calls a0_0 a0_1 x4_1 t118 _ A15.out).mono ?_); rintro e w22 ⟨rfl, hb⟩; refine ⟨_, rfl, ?_⟩; have n0_ := aA (Kd.R_below (rlu HO_3.out) hb); have n1_ := aA (blk_below (g := gb112) (o := .cells #[.int .i64 a0_0, .int .i64 a0_1] 38 (0, 0)) (bku BK112.out) hb); have n2_ := aA (below_step (bls HB.out) hb); clear HO_3 BK112 HB; have HO_3 := n0_; have BK112 := n1_; have HB := n2_; clear n0_ n1_ n2_; (try clear hb); (try clear hb2); (try clear hk); (try clear hi); have p18 : 0 ≤ (t118 : Int) := of_decide_eq_true (by first | (with_reducible assumption) | assumption); have q18 : (t118 : Int) < ((x3_1.length : Int) : Int) := of_decide_eq_true (by first | (with_reducible assumption) | assumption); obtain ⟨go18, co18, eo18, gb18, gl18, cl18, HG18⟩ := Kd.R_form HO_3.out (by omega); (first | cases eo18 | (injection eo18 with ea_ en_ ec_; (first | subst ea_ | (injection ea_ with ea_; subst ea_)); subst ec_; clear en_)); have GB18 := aA gb18; have GG18 := aA HG18; clear gb18 gl18 HG18; obtain ⟨hx18_0, hf18_0⟩ := Kd.R_celln 0 HO_3.out (t118 : Int) p18 q18; replace p18 := eq_true p18; replace q18 := eq_true q18; obtain ⟨hy23_, hz23_⟩ := Kd.R_celln 0 HO_3.out (t118 : Int) (of_decide_eq_true (by first | (with_reducible assumption) | assumption)) (of_decide_eq_true (by first | (with_reducible assumption) | assumption)); have HP23 := Kd.R_putg HO_3.out (t118 : Int) x4_1) | ((with_reducible refine gate_store (t := 23) (p := 24) rfl ?_); refine store_event (t := 23) (p := 24) (v := ?vo_w24) (w1 := (w22.setCell ⟨go18, (t118 : Int).toNat, none⟩ (.int .u64 x4_1))) ?hg ?ho ?hn ?hr ?_; (case ho => rfl); (case hg => rfl); (case hn => rfl); (case hr => first | (go_simp; done) | (go_simp; rfl)); intro w24 hw; have hg : w22.grownBy w24 (some go18) := (by rw [hw]; exact HP23.2); have hp_ : Kd.R (Kd.int .u64) 23 w24 w.heap.size (fun _ => True) (.slice (some ⟨go18, 0, none⟩) x3_1.length co18) y119 := (by rw [hw, Ny119.out]; exact HP23.1); clear HP23; have n0_ := aA (hp_); have n1_ := aA (blk_grown (g := gb112) (o := .cells #[.int .i64 a0_0, .int .i64 a0_1] 38 (0, 0)) (bku BK112.out) hg (Kd.R_ne HO_3.out BK112.out (by decide))); have n2_ := aA ((by rw [hw]; exact below_set (HB.out) GB18.out : Below w.heap.size w w24)); clear HO_3 BK112 HB; have HO_3 := n0_; have BK112 := n1_; have HB := n2_; clear n0_ n1_ n2_ hg hw hp_))
          go_roundg k1
          case measure => have := HK1.out; omega
          case rel => exact ⟨(y119), (IntKind.u64.wrap (x4_1 + 1)), (by first | rfl | (simp; done) | (simp [*]; done)), H', ⟨by have := HK1.out; omega⟩, ⟨by (with_reducible repeat (first | apply Kd.R_alloc | apply Kd.R_drewN | apply Kd.R_drew)); exact HO_3.out⟩, ⟨by refine bku ?_; exact BK112.out⟩, ⟨by repeat (first | (with_reducible first | exact HB.out | apply below_alloc | apply pw_below_drewN | apply below_drew1 | refine below_set ?_ GE112.out) | exact HB.out)⟩⟩
         ·rw [if_neg c17] at H
          exact absurd H (by simp)
        ·rw [if_neg c16] at H
         exact absurd H (by simp)
       ·rw [if_neg c14] at H
        have c14b0 : decide (x4_1 < (ji13)) = false := decide_eq_false c14
        clear c14
        obtain rfl := Option.some.inj H
        have hcz25_0 : wr.cell? ⟨gb112, 0, none⟩ = some (.int .i64 a0_0) := (blk_cell BK112.out 0).trans rfl
        have hcz25_1 : wr.cell? ⟨gb112, 1, none⟩ = some (.int .i64 a0_1) := (blk_cell BK112.out 1).trans rfl
        have hfz25_0 := blk_frozen BK112.out 0
        have hfz25_1 := blk_frozen BK112.out 1
        go_wp2_with (first | ((with_reducible refine gate_callee (f := 26) rfl ?_); refine goesL_ (some 9) rfl rfl Try.func26 (by kernel_rfl) rfl #[.agg #[.int .i64 a0_0, .int .i64 a0_1]] rfl (by (try simp only [List.map_toArray, List.map_cons, List.map_nil]); first | done | rfl | (simp only [List.length_drop, List.length_take]; rfl)) ?_; (with_reducible refine (mem_May.calls a0_0 a0_1 true _ A10.out).mono ?_); rintro e w26 ⟨rfl, hb⟩; refine ⟨_, rfl, ?_⟩; have n0_ := aA (Kd.R_below (rlu HO_3.out) hb); have n1_ := aA (blk_below (g := gb112) (o := .cells #[.int .i64 a0_0, .int .i64 a0_1] 38 (0, 0)) (bku BK112.out) hb); have n2_ := aA (below_step (bls HB.out) hb); clear HO_3 BK112 HB; have HO_3 := n0_; have BK112 := n1_; have HB := n2_; clear n0_ n1_ n2_; (try clear hb); (try clear hb2); (try clear hk); (try clear hi); have hcz27_0 : w26.cell? ⟨gb112, 0, none⟩ = some (.int .i64 a0_0) := (blk_cell BK112.out 0).trans rfl; have hcz27_1 : w26.cell? ⟨gb112, 1, none⟩ = some (.int .i64 a0_1) := (blk_cell BK112.out 1).trans rfl; have hfz27_0 := blk_frozen BK112.out 0; have hfz27_1 := blk_frozen BK112.out 1))
        go_ret
        exact ⟨_, by first | rfl | (simp [errW_none, errW_some] <;> rfl) | (simp only [← hji13]; first | rfl | (simp [errW_none, errW_some] <;> rfl)) | (simp [*, errW_none, errW_some] <;> rfl), by (with_reducible repeat (first | apply Kd.R_alloc | apply Kd.R_drewN | apply Kd.R_drew)); exact HO_3.out, by repeat (first | (with_reducible first | exact HB.out | apply below_alloc | apply pw_below_drewN | apply below_drew1 | refine below_set ?_ GE112.out) | exact HB.out)⟩
      ·rw [if_neg c12] at H
       exact absurd H (by simp)
     ·replace c11 := Bool.eq_false_iff.mpr c11
      subst c11
      have H1 : (some x3_1) = some r := by rw [if_neg (show ¬ (false = true) by decide)] at H; exact H
      clear H
      have H := H1
      clear H1
      obtain rfl := Option.some.inj H
      have hcz28_0 : wr.cell? ⟨gb112, 0, none⟩ = some (.int .i64 a0_0) := (blk_cell BK112.out 0).trans rfl
      have hcz28_1 : wr.cell? ⟨gb112, 1, none⟩ = some (.int .i64 a0_1) := (blk_cell BK112.out 1).trans rfl
      have hfz28_0 := blk_frozen BK112.out 0
      have hfz28_1 := blk_frozen BK112.out 1
      go_wp2_with (first | ((with_reducible refine gate_callee (f := 26) rfl ?_); refine goesL_ (some 9) rfl rfl Try.func26 (by kernel_rfl) rfl #[.agg #[.int .i64 a0_0, .int .i64 a0_1]] rfl (by (try simp only [List.map_toArray, List.map_cons, List.map_nil]); first | done | rfl | (simp only [List.length_drop, List.length_take]; rfl)) ?_; (with_reducible refine (mem_May.calls a0_0 a0_1 false _ A10.out).mono ?_); rintro e w29 ⟨rfl, hb⟩; refine ⟨_, rfl, ?_⟩; have n0_ := aA (Kd.R_below (rlu HO_3.out) hb); have n1_ := aA (blk_below (g := gb112) (o := .cells #[.int .i64 a0_0, .int .i64 a0_1] 38 (0, 0)) (bku BK112.out) hb); have n2_ := aA (below_step (bls HB.out) hb); clear HO_3 BK112 HB; have HO_3 := n0_; have BK112 := n1_; have HB := n2_; clear n0_ n1_ n2_; (try clear hb); (try clear hb2); (try clear hk); (try clear hi)))
      go_ret
      exact ⟨_, by first | rfl | (simp [errW_none, errW_some] <;> rfl) | (simp [*, errW_none, errW_some] <;> rfl), by (with_reducible repeat (first | apply Kd.R_alloc | apply Kd.R_drewN | apply Kd.R_drew)); exact HO_3.out, by repeat (first | (with_reducible first | exact HB.out | apply below_alloc | apply pw_below_drewN | apply below_drew1 | refine below_set ?_ GE112.out) | exact HB.out)⟩
  ·rw [if_neg c4] at H
   exact absurd H (by simp)
 ·rw [if_neg c3] at H
  exact absurd H (by simp)

end Go.Proofs.Ytcjkjlopbjijaaa.PC
