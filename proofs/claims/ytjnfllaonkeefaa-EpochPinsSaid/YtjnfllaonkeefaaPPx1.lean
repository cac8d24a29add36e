-- Written by wip/hprint/hprint.py (a program of this session, over the print): not typed by hand
import Derived.Test.YtjnfllaonkeefaaPPx0
namespace Go.Proofs.Ytjnfllaonkeefaa.PP
open Go.RowKit Go.Proofs.YtjnfllaonkeefaaW.PrintWords Go.Proofs.YtjnfllaonkeefaaW.PrintLast Go.Proofs.YtjnfllaonkeefaaW.PrintMore
attribute [local go_sem] max2_int min2_int max_two min_two max_three min_three max_four min_four   -- for this text's walks alone
open Go.Proofs.YtjnfllaonkeefaaH
set_option linter.unusedVariables false
set_option linter.unusedSimpArgs false

def epoch_New.f (a0 : Int) : Option (Int × List Int × (List (S64))) := if 0 ≤ (mx 0 (mn a0 4)) then (if (mx 0 (mn a0 4) : Int).toNat ≤ 35184372088832 then (some (0, (List.replicate (mx 0 (mn a0 4) : Int).toNat 0), ([] : List (S64)))) else (none)) else (none)
set_option maxHeartbeats 8000000 in
set_option maxRecDepth 100000 in
theorem epoch_New.calls0 (a0 : Int) (r1 : Int) (r2 : List Int) (r3 : List (S64)) (w : World) (h : epoch_New.f a0 = some (r1, r2, r3)) :
  Calls Try.prog 9 #[.int .i64 a0] w fun e w' => ∃ v1_ v2_ : Value, e = .returned (.agg #[.int .u64 r1, v1_, v2_]) ∧ Kd.R (Kd.int .u64) 22 w' w.heap.size (fun _ => True) v1_ r2 ∧ Kd.S k64 64 w' w.heap.size (fun k_ => some k_ ≠ (v1_ : Value).ownBlock) v2_ r3 ∧ Below w.heap.size w w' := by
 have hu26 := Try.underlying26
 have HB := aA (Below.refl w.heap.size w)
 have H : (if 0 ≤ (mx 0 (mn a0 4)) then (if (mx 0 (mn a0 4) : Int).toNat ≤ 35184372088832 then (some (0, (List.replicate (mx 0 (mn a0 4) : Int).toNat 0), ([] : List (S64)))) else (none)) else (none)) = some (r1, r2, r3) := h
 clear h
 obtain ⟨ji2, hji2⟩ : ∃ j_ : Int, (mn a0 4) = j_ := ⟨_, rfl⟩
 replace H : (if 0 ≤ (mx 0 (ji2)) then (if (mx 0 (ji2) : Int).toNat ≤ 35184372088832 then (some (0, (List.replicate (mx 0 (ji2) : Int).toNat 0), ([] : List (S64)))) else (none)) else (none)) = some (r1, r2, r3) := by first | (rw [hji2] at H; exact H) | (simp only [hji2] at H ⊢; exact H)
 (try (have hji2h : ji2 ≤ 4 := by (rw [← hji2]; unfold mn; (repeat' split) <;> omega)))
 (try (have hji2g : ji2 ≤ 64 := by omega))
 have hji2_ : (if 4 < a0 then 4 else a0) = ji2 := hji2
 obtain ⟨ji3, hji3⟩ : ∃ j_ : Int, (mx 0 (ji2)) = j_ := ⟨_, rfl⟩
 replace H : (if 0 ≤ (ji3) then (if (ji3 : Int).toNat ≤ 35184372088832 then (some (0, (List.replicate (ji3 : Int).toNat 0), ([] : List (S64)))) else (none)) else (none)) = some (r1, r2, r3) := by first | (rw [hji3] at H; exact H) | (simp only [hji3] at H ⊢; exact H)
 have hji3_ : (if 0 < (ji2) then (ji2) else 0) = ji3 := hji3
 by_cases c4 : 0 ≤ (ji3)
 ·rw [if_pos c4] at H
  have c4b0 := eq_true c4
  have c4b1 : decide (0 ≤ (ji3)) = true := decide_eq_true c4
  clear c4
  by_cases c5 : (ji3 : Int).toNat ≤ 35184372088832
  ·rw [if_pos c5] at H
   have c5b0 := eq_true c5
   have c5b1 : decide ((ji3 : Int).toNat ≤ 35184372088832) = true := decide_eq_true c5
   clear c5
   obtain ⟨y102, hy102⟩ : ∃ y_ : List Int, y_ = (List.replicate (ji3 : Int).toNat 0) := ⟨_, rfl⟩
   replace H : (some (0, y102, ([] : List (S64)))) = some (r1, r2, r3) := by first | (rw [hy102]; with_reducible exact H) | (have H2_ := (Option.bind_some _ _).symm.trans H; rw [hy102]; with_reducible exact H2_) | (have H2_ := (Option.bind_some _ _).symm.trans H; with_reducible exact H2_) | with_reducible exact H | (rw [hy102]; exact H) | exact H
   have Ny102 := aA hy102
   clear hy102
   simp only [Option.some.injEq, Prod.mk.injEq] at H
   obtain ⟨rfl, rfl, rfl⟩ := H
   go_enter Try.func9, Try.ntmps9
   go_wp2_with (first | ((with_reducible refine gate_dst (N := 2) rfl ?_); refine box_event ?hg (N := 2) ?hd (cs := #[.int .u64 0, .slice none 0 0, .slice none 0 0]) (t := 26) ?hr ?_; (case hd => rfl); (case hg => rfl); (case hr => first | (go_simp; done) | (go_simp; rfl)); intro gb101 hg w6 hbox hb; have n0_ := aA (below_step (blw HB.out) hb); have n1_ := aA (hbox); have n2_ := aA ((by rw [hg]; exact (below_size (blw HB.out)) : w.heap.size ≤ gb101)); have n3_ := aA ((by rw [hg]; exact (below_size (blw HB.out)) : w.heap.size ≤ gb101)); clear HB; have HB := n0_; have BK101 := n1_; have GW101 := n2_; have GE101 := n3_; clear n0_ n1_ n2_ n3_ hb hbox hg) | ((with_reducible refine gate_dst (N := 6) rfl ?_); refine Kd.R_make (Kd.int .u64) _ 22 rfl (N := 6) rfl 23 _ _ rfl ji3 rfl rfl Try.underlying23 (.int .u64 0) 8 info22 rfl (by decide) (by omega) 0 (ok := fun _ => True) (okp := fun _ => True) rfl (fun _ hk => hk) trivial (of_decide_eq_true (by first | (with_reducible assumption) | assumption)) (Nat.le_trans (Nat.mul_le_mul_right _ (of_decide_eq_true (by first | (with_reducible assumption) | assumption) : ji3.toNat ≤ 35184372088832)) (by omega)) (Below.refl _ _) (Nat.le_refl _) ?_; intro v103 w7 ho8 hb hg_ hnew_; clear hg_ hnew_; (first | rw [← Ny102.out] at ho8 | (simp only [Int.reduceToNat] at ho8; rw [← Ny102.out] at ho8)); have n0_ := aA (Kd.R_lower ho8 (below_size (bls HB.out))); have n1_ := aA (blk_below (g := gb101) (o := .cells #[.int .u64 0, .slice none 0 0, .slice none 0 0] 26 (0, 0)) (bku BK101.out) hb); have n2_ := aA (below_step (bls HB.out) hb); clear BK101 HB; have HO104 := n0_; have BK101 := n1_; have HB := n2_; clear n0_ n1_ n2_ hb ho8; obtain ⟨Ao9, co9, eo9⟩ := Kd.R_slice HO104.out; subst eo9; have hcz10_0 : w7.cell? ⟨gb101, 0, none⟩ = some (.int .u64 0) := (blk_cell BK101.out 0).trans rfl; have hcz10_1 : w7.cell? ⟨gb101, 1, none⟩ = some (.slice none 0 0) := (blk_cell BK101.out 1).trans rfl; have hcz10_2 : w7.cell? ⟨gb101, 2, none⟩ = some (.slice none 0 0) := (blk_cell BK101.out 2).trans rfl; have hfz10_0 := blk_frozen BK101.out 0; have hfz10_1 := blk_frozen BK101.out 1; have hfz10_2 := blk_frozen BK101.out 2))
   refine bodyPost_ret (results_cell_row rfl _ _ gb101 26 #[.int .u64 0, .slice Ao9 y102.length co9, .slice none 0 0] (0, 0) _ rfl (by refine bku ?_; refine blk_put (cs := #[.int .u64 0, .slice Ao9 y102.length co9, .slice none 0 0]) ?_ 2 _ rfl; refine bku ?_; refine blk_put (cs := #[.int .u64 0, .slice none 0 0, .slice none 0 0]) ?_ 1 _ rfl; refine bku ?_; refine blk_put (cs := #[.int .u64 0, .slice none 0 0, .slice none 0 0]) ?_ 0 _ rfl; refine bku ?_; exact BK101.out) Try.underlying26 rfl (by kernel_rfl)) rfl ?_
   exact ⟨_, _, by first | rfl | (simp [errW_none, errW_some] <;> rfl) | (simp only [← hji2, ← hji3]; first | rfl | (simp [errW_none, errW_some] <;> rfl)) | (simp [*, errW_none, errW_some] <;> rfl), by (with_reducible repeat (first | apply Kd.R_alloc | apply Kd.R_drewN | apply Kd.R_drew)); exact Kd.R_mono (Kd.R_far (p := ⟨gb101, 2, none⟩) (Kd.R_far (p := ⟨gb101, 1, none⟩) (Kd.R_far (p := ⟨gb101, 0, none⟩) (Kd.R_types HO104.out BK101.out (by decide)) (fun _ hk => hk.2) (.int .u64 0)) (fun _ hk => hk.2) (.slice Ao9 y102.length co9)) (fun _ hk => hk.2) (.slice none 0 0)) (fun _ hk => trivial), by first | exact Kd.S_nil _ _ _ _ _ | exact Kd.N_nil _ _ _ _ _ | exact Kd.V_nil _ _ _ _ _ | exact Kd.Q_nil _ _ _ _ _ | exact Kd.R_nil _ _ _ _ _, by repeat (first | (with_reducible first | exact HB.out | apply below_alloc | apply pw_below_drewN | apply below_drew1 | refine below_set ?_ GE101.out) | exact HB.out)⟩
  ·rw [if_neg c5] at H
   exact absurd H (by simp)
 ·rw [if_neg c4] at H
  exact absurd H (by simp)



theorem epoch_New.calls (a0 : Int) (r1 : Int) (r2 : List Int) (r3 : List (S64)) (w : World) (h : epoch_New.f a0 = some (r1, r2, r3)) :
  Calls Try.prog 9 #[.int .i64 a0] w fun e w' => ∃ v1_ v2_ : Value, e = .returned (.agg #[.int .u64 r1, v1_, v2_]) ∧ Kd.V (Kd.int .u64) 22 w' w.heap.size (fun k_ => (w.heap.size ≤ k_)) v1_ r2 ∧ Kd.V k64 64 w' w.heap.size (fun k_ => (w.heap.size ≤ k_)) v2_ r3 ∧ Below w.heap.size w w' := by
 refine (epoch_New.calls0 a0 r1 r2 r3 w h).mono ?_
 rintro e w' ⟨v1, v2, he, h1, h2, hb⟩
 have hr3 : r3 = [] := by
  unfold epoch_New.f at h
  split at h
  ·split at h
   ·simp only [Option.some.injEq, Prod.mk.injEq] at h
    exact h.2.2.symm
   ·cases h
  ·cases h
 subst hr3
 refine ⟨v1, v2, he, Kd.V_mono (Kd.R_V (Kd.R_tight rfl h1)) (fun k_ hk_ => Kd.R_base h1 k_ hk_.symm), ?_, hb⟩
 obtain ⟨A, c, e_⟩ := Kd.V_slice (Kd.S_V (base' := 0) h2)
 exact ⟨A, c, e_, Nat.zero_le _, fun W' _ => ⟨rfl, Nat.zero_le _, fun hp => absurd hp (Nat.lt_irrefl _)⟩⟩

-- NOT PRINTED: function 32 (slices_IndexFunc_uint64_uint64)

-- NOT PRINTED: function 30 (slices_ContainsFunc_uint64_uint64)

theorem take_all_succ {l : List Int} {p : Int → Bool} {k : Nat} (h : k < l.length) : (l.take (k + 1)).all p = ((l.take k).all p && p (l.getD k 0)) := by
 rw [List.take_add_one, List.all_append, List.getElem?_eq_getElem h, List.getD_eq_getElem?_getD, List.getElem?_eq_getElem h]
 simp
theorem rd_mem {l : List Int} {k : Nat} (h : k < l.length) : rd l k ∈ l := by
 unfold rd
 rw [Int.toNat_natCast, List.getD_eq_getElem?_getD, List.getElem?_eq_getElem h]
 exact List.getElem_mem h
/-- Does this pin let the epoch move? -/
def pinMay (now p : Int) : Bool := p == 0 || IntKind.u64.wrap (p - 1) == now
def epoch_May.f (a0_0 : Int) (l0_1 : List Int) (l0_2 : List S64) : Option Bool := some (l0_1.all (pinMay a0_0))
set_option maxHeartbeats 800000 in
set_option maxRecDepth 100000 in
theorem epoch_May.calls (a0_0 : Int) (A0_1 : Option Addr) (c0_1 : Nat) (l0_1 : List Int) (A0_2 : Option Addr) (c0_2 : Nat) (l0_2 : List S64) (r : Bool) (w : World) (hr0_1 : Kd.C (Kd.int .u64) w A0_1 l0_1.length l0_1) (hc0_1 : l0_1.length ≤ c0_1) (hr0_2 : Kd.C k64 w A0_2 l0_2.length l0_2) (hc0_2 : l0_2.length ≤ c0_2) (h : epoch_May.f a0_0 l0_1 l0_2 = some r) :
  Calls Try.prog 23 #[.agg #[.int .u64 a0_0, .slice A0_1 l0_1.length c0_1, .slice A0_2 l0_2.length c0_2]] w fun e w' => e = .returned (.bool r) ∧ Below w.heap.size w w' := by
 have hu := Try.underlying26
 have HR := aA hr0_1
 have HC := aA hc0_1
 clear hr0_1 hc0_1 hr0_2 hc0_2
 have hmf : ∀ (fn : Fn) (first cap : Array Value) (w : World), (Instr.makeFunc fn first cap).run Try.prog w = .ok (.func fn first cap) w := fun _ _ _ _ => rfl
 go_enter Try.func23, Try.ntmps23
 go_wp2_with (first | ((with_reducible refine gate_dst (N := 1) rfl ?_); refine box_event (N := 1) rfl rfl (cs := #[.int .u64 a0_0, .slice A0_1 l0_1.length c0_1, .slice A0_2 l0_2.length c0_2]) (t := 26) (by first | (go_simp; done) | (go_simp; rfl)) ?_; intro g hg w1 hb HB; have HG := Nat.le_of_eq hg.symm; clear hg; have hq0 : w1.cell? ⟨g, 0, none⟩ = some (.int .u64 a0_0) := (blk_cell hb 0).trans rfl; have hq1 : w1.cell? ⟨g, 1, none⟩ = some (.slice A0_1 l0_1.length c0_1) := (blk_cell hb 1).trans rfl))
 go_wp2
 go_loop [8] (fun i => ∃ k : Nat, k ≤ l0_1.length ∧ i = .int .i64 k ∧ (l0_1.take k).all (pinMay a0_0) = true) (fun i => l0_1.length - (intOf i).toNat)
 case atStart => exact ⟨0, Nat.zero_le _, rfl, rfl⟩
 case round =>
  obtain ⟨k, hk, rfl, hall⟩ := hrel
  have Hall := aA hall
  clear hall
  by_cases hlt : k < l0_1.length
  ·obtain ⟨ad, rfl, hx⟩ := Kd.at_int HR.out (k : Int) (by omega) (by omega)
   replace hx := (HB.cell (World.block_lt_of_cell? w _ hx)).trans hx
   rw [Int.toNat_natCast] at hx
   have hm := HR.out.2.1
   obtain ⟨x, hxe⟩ : ∃ x, x = rd l0_1 k := ⟨_, rfl⟩
   rw [← hxe] at hx
   have Hx := aA hxe
   clear hxe
   by_cases hp : x = 0
   ·have hp1 : (x != 0) = false := by simpa using hp
    have hp0 := aA hp
    clear hp
    go_wp2
    go_round
    case rel => exact ⟨k + 1, by omega, by go_num, by rw [take_all_succ hlt, Hall.out]; rw [show l0_1.getD k 0 = x from Hx.out.symm, hp0.out]; rfl⟩
    case measure => simp [intOf]; omega
   ·have hp1 : (x != 0) = true := by simpa using hp
    by_cases hn : IntKind.u64.wrap (x - 1) = a0_0
    ·have hn1 : (IntKind.u64.wrap (x - 1) != a0_0) = false := by simpa using hn
     have hn0 := aA hn
     clear hn
     go_wp2
     go_round
     case rel => exact ⟨k + 1, by omega, by go_num, by rw [take_all_succ hlt, Hall.out]; rw [show l0_1.getD k 0 = x from Hx.out.symm]; simp [pinMay, hn0.out]⟩
     case measure => simp [intOf]; omega
    ·have hn1 : (IntKind.u64.wrap (x - 1) != a0_0) = true := by simpa using hn
     have hf : l0_1.all (pinMay a0_0) = false := by
      rw [List.all_eq_false]
      exact ⟨x, by rw [Hx.out]; exact rd_mem hlt, by simp [pinMay, hp, hn]⟩
     have Hf := aA hf
     clear hf hp hn
     go_wp2
     go_ret
     refine ⟨?_, HB⟩
     have h2 := Option.some.inj h
     rw [Hf.out] at h2
     rw [← h2]; rfl
  ·have hall : l0_1.all (pinMay a0_0) = true := by rw [← Hall.out, List.take_of_length_le (by omega)]
   have Hf := aA hall
   clear hall
   go_wp2
   go_ret
   refine ⟨?_, HB⟩
   have h2 := Option.some.inj h
   rw [Hf.out] at h2
   rw [← h2]; rfl

end Go.Proofs.Ytjnfllaonkeefaa.PP
