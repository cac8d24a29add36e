-- Written by wip/hprint/hprint.py (a program of this session, over the print): not typed by hand
import Derived.Test.YtjnfllaonkeefaaPEx0
namespace Go.Proofs.Ytjnfllaonkeefaa.PE
open Go.RowKit Go.Proofs.YtjnfllaonkeefaaW.PrintWords Go.Proofs.YtjnfllaonkeefaaW.PrintLast Go.Proofs.YtjnfllaonkeefaaW.PrintMore
attribute [local go_sem] max2_int min2_int max_two min_two max_three min_three max_four min_four   -- for this text's walks alone
open Go.Proofs.YtjnfllaonkeefaaH
set_option linter.unusedVariables false
set_option linter.unusedSimpArgs false

def Clip.f (l0 : List S64) : Option (List S64) := some l0
set_option maxHeartbeats 800000 in
set_option maxRecDepth 100000 in
theorem Clip.calls (P0_ : Nat → Prop) (A0 : Option Addr) (c0 : Nat) (l0 : List S64) (r : List S64) (w : World) (hs0 : Kd.V k64 64 w w.heap.size (fun k_ => P0_ k_) (.slice A0 l0.length c0) l0) (h : Clip.f l0 = some r) :
  Calls Try.prog 25 #[.slice A0 l0.length c0] w fun e w' => ∃ v0_ : Value, e = .returned v0_ ∧ Kd.V k64 64 w' w.heap.size (fun k_ => (P0_ k_ ∨ w.heap.size ≤ k_)) v0_ r ∧ Below w.heap.size w w' := by
 obtain rfl := Option.some.inj h
 obtain ⟨A, c, hv, hc, hF⟩ := hs0
 injection hv with h1 h2 h3
 subst h1 h3
 have hm := Kd.F_max hF
 have HF := aA hF
 clear h hF
 go_enter Try.func25, Try.ntmps25
 go_wp2
 go_outline
 go_show
 go_ret
 exact ⟨_, rfl, ⟨_, _, rfl, Nat.le_refl _, Kd.F_mono HF.out (fun _ h => .inl h)⟩, Below.refl _ _⟩

theorem Clip.same (A : Option Addr) (n c : Nat) (w : World) (hn : n ≤ c) (hm : n ≤ 9223372036854775807) : Calls Try.prog 25 #[.slice A n c] w fun e w' => e = .returned (.slice A n n) ∧ w' = w := by
 go_enter Try.func25, Try.ntmps25
 go_wp2
 go_ret
 exact ⟨rfl, rfl⟩
set_option maxHeartbeats 3200000 in
set_option maxRecDepth 100000 in
theorem epoch_Retire_some (a0_0 : Int) (P0_1_ : Nat → Prop) (A0_1 : Option Addr) (c0_1 : Nat) (l0_1 : List Int) (P0_2_ : Nat → Prop) (A0_2 : Option Addr) (c0_2 : Nat) (l0_2 : List S64) (P1_0_ : Nat → Prop) (A1_0 : Option Addr) (c1_0 : Nat) (l1_0 : List Int) (P1_1_ : Nat → Prop) (A1_1 : Option Addr) (c1_1 : Nat) (l1_1 : List Int) (w : World) (hs0_1 : Kd.V (Kd.int .u64) 22 w w.heap.size (fun k_ => P0_1_ k_) (.slice A0_1 l0_1.length c0_1) l0_1) (hs0_2 : Kd.V k64 64 w w.heap.size (fun k_ => P0_2_ k_) (.slice A0_2 l0_2.length c0_2) l0_2) (hs1_0 : Kd.V (Kd.int .u64) 22 w w.heap.size (fun k_ => P1_0_ k_) (.slice A1_0 l1_0.length c1_0) l1_0) (hs1_1 : Kd.V (Kd.int .u64) 22 w w.heap.size (fun k_ => P1_1_ k_) (.slice A1_1 l1_1.length c1_1) l1_1) (hlim : (l0_2.length + 1) * 56 ≤ 140737488355328) (hne : 0 < l1_0.length ∨ 0 < l1_1.length) :
  Calls Try.prog 8 #[.agg #[.int .u64 a0_0, .slice A0_1 l0_1.length c0_1, .slice A0_2 l0_2.length c0_2], .agg #[.slice A1_0 l1_0.length c1_0, .slice A1_1 l1_1.length c1_1]] w fun e w' => ∃ v1_ v2_ : Value, e = .returned (.agg #[.int .u64 a0_0, v1_, v2_]) ∧ Kd.V (Kd.int .u64) 22 w' w.heap.size (fun k_ => ((P0_1_ k_ ∨ P0_2_ k_ ∨ P1_0_ k_ ∨ P1_1_ k_) ∨ w.heap.size ≤ k_)) v1_ l0_1 ∧ Kd.V k64 64 w' w.heap.size (fun k_ => ((P0_1_ k_ ∨ P0_2_ k_ ∨ P1_0_ k_ ∨ P1_1_ k_) ∨ w.heap.size ≤ k_)) v2_ (l0_2 ++ [(⟨a0_0, ⟨l1_0, l1_1⟩⟩ : S64)]) ∧ Below w.heap.size w w' := by
 have hu := Try.underlying26
 have hu2 := Try.underlying30
 have HB := Below.refl w.heap.size w
 have F01 := aA (Kd.V_F hs0_1)
 have F02 := aA (Kd.V_F hs0_2)
 have F10 := aA (Kd.V_F hs1_0)
 have F11 := aA (Kd.V_F hs1_1)
 have hc2 := (Kd.V_at hs0_2).2.1
 have hc10 := (Kd.V_at hs1_0).2.1
 have hc11 := (Kd.V_at hs1_1).2.1
 have hc01 := (Kd.V_at hs0_1).2.1
 have hm2 := Kd.F_max F02.out
 have hm10 := Kd.F_max F10.out
 have hm11 := Kd.F_max F11.out
 have HL := aA hlim
 have HA := aA (show A0_2 = none → l0_2.length = 0 from fun hA => (Nat.eq_zero_or_pos _).resolve_right (fun hp => by obtain ⟨ad, e_, _⟩ := (Kd.F_now F02.out).2.2 hp; rw [hA] at e_; cases e_))
 have HI := aA (show (Try.prog.info? 64).map (fun i => (i.zero, i.size, i.bytes)) = some (some (.agg #[(.int .u64 0), (.slice none 0 0), (.slice none 0 0)]), 3, 56) from by kernel_rfl)
 clear hs0_1 hs0_2 hs1_0 hs1_1 hlim
 rcases Nat.eq_zero_or_pos l1_0.length with h1 | h1
 ·have h2 : 0 < l1_1.length := by omega
  clear hne
  go_enter Try.func8, Try.ntmps8
  go_wp2_with (first
  | ((with_reducible refine gate_dst (N := 2) rfl ?_); (with_reducible refine gate_ (.box 26 (.tmp 0)) rfl ?_); refine box_event (N := 2) rfl rfl (cs := #[.int .u64 a0_0, .slice A0_1 l0_1.length c0_1, .slice A0_2 l0_2.length c0_2]) (t := 26) (by first | (go_simp; done) | (go_simp; rfl)) ?_; intro ga hg_ wa_ hba hbl_; have HGa : w.heap.size ≤ ga := (by rw [hg_]; exact Nat.le_trans (by first | exact Nat.le_refl _ | exact HB.size) (Nat.le_refl _)); replace HB := below_step (by repeat (first | exact HB | apply below_alloc | apply pw_below_drewN | apply below_drew1)) hbl_; clear hg_ hbl_; have hqa_0 : wa_.cell? ⟨ga, 0, none⟩ = some (.int .u64 a0_0) := (blk_cell hba 0).trans rfl; have hqa_1 : wa_.cell? ⟨ga, 1, none⟩ = some (.slice A0_1 l0_1.length c0_1) := (blk_cell hba 1).trans rfl; have hqa_2 : wa_.cell? ⟨ga, 2, none⟩ = some (.slice A0_2 l0_2.length c0_2) := (blk_cell hba 2).trans rfl)
  | ((with_reducible refine gate_dst (N := 3) rfl ?_); (with_reducible refine gate_ (.box 30 (.tmp 1)) rfl ?_); refine box_event (N := 3) rfl rfl (cs := #[.slice A1_0 l1_0.length c1_0, .slice A1_1 l1_1.length c1_1]) (t := 30) (by first | (go_simp; done) | (go_simp; rfl)) ?_; intro gq hg_ wq_ hbq hbl_; have HGq : w.heap.size ≤ gq := (by rw [hg_]; exact Nat.le_trans (by first | exact Nat.le_refl _ | exact HB.size) (Nat.le_refl _)); have HNq_a : gq ≠ ga := (by rw [hg_]; exact Nat.ne_of_gt (blk_lt (by exact hba))); clear hqa_0 hqa_1 hqa_2; replace hba := blk_below (by exact hba) hbl_; have hqa_0 : wq_.cell? ⟨ga, 0, none⟩ = some (.int .u64 a0_0) := (blk_cell hba 0).trans rfl; have hqa_1 : wq_.cell? ⟨ga, 1, none⟩ = some (.slice A0_1 l0_1.length c0_1) := (blk_cell hba 1).trans rfl; have hqa_2 : wq_.cell? ⟨ga, 2, none⟩ = some (.slice A0_2 l0_2.length c0_2) := (blk_cell hba 2).trans rfl; replace HB := below_step (by repeat (first | exact HB | apply below_alloc | apply pw_below_drewN | apply below_drew1)) hbl_; clear hg_ hbl_; have hqq_0 : wq_.cell? ⟨gq, 0, none⟩ = some (.slice A1_0 l1_0.length c1_0) := (blk_cell hbq 0).trans rfl; have hqq_1 : wq_.cell? ⟨gq, 1, none⟩ = some (.slice A1_1 l1_1.length c1_1) := (blk_cell hbq 1).trans rfl)
  | ((with_reducible refine gate_dst (N := 4) rfl ?_); (with_reducible refine gate_ (.alloc 26) rfl ?_); refine box_event (N := 4) rfl rfl (cs := #[.int .u64 0, .slice none 0 0, .slice none 0 0]) (t := 26) (by first | (go_simp; done) | (go_simp; rfl)) ?_; intro go hg_ wo_ hbo hbl_; have HGo : w.heap.size ≤ go := (by rw [hg_]; exact Nat.le_trans (by first | exact Nat.le_refl _ | exact HB.size) (Nat.le_refl _)); have HNo_a : go ≠ ga := (by rw [hg_]; exact Nat.ne_of_gt (blk_lt (by exact hba))); have HNo_q : go ≠ gq := (by rw [hg_]; exact Nat.ne_of_gt (blk_lt (by exact hbq))); clear hqa_0 hqa_1 hqa_2; replace hba := blk_below (by exact hba) hbl_; have hqa_0 : wo_.cell? ⟨ga, 0, none⟩ = some (.int .u64 a0_0) := (blk_cell hba 0).trans rfl; have hqa_1 : wo_.cell? ⟨ga, 1, none⟩ = some (.slice A0_1 l0_1.length c0_1) := (blk_cell hba 1).trans rfl; have hqa_2 : wo_.cell? ⟨ga, 2, none⟩ = some (.slice A0_2 l0_2.length c0_2) := (blk_cell hba 2).trans rfl; clear hqq_0 hqq_1; replace hbq := blk_below (by exact hbq) hbl_; have hqq_0 : wo_.cell? ⟨gq, 0, none⟩ = some (.slice A1_0 l1_0.length c1_0) := (blk_cell hbq 0).trans rfl; have hqq_1 : wo_.cell? ⟨gq, 1, none⟩ = some (.slice A1_1 l1_1.length c1_1) := (blk_cell hbq 1).trans rfl; replace HB := below_step (by repeat (first | exact HB | apply below_alloc | apply pw_below_drewN | apply below_drew1)) hbl_; clear hg_ hbl_; have hqo_0 : wo_.cell? ⟨go, 0, none⟩ = some (.int .u64 0) := (blk_cell hbo 0).trans rfl; have hqo_1 : wo_.cell? ⟨go, 1, none⟩ = some (.slice none 0 0) := (blk_cell hbo 1).trans rfl; have hqo_2 : wo_.cell? ⟨go, 2, none⟩ = some (.slice none 0 0) := (blk_cell hbo 2).trans rfl))
  refine start_ (n := 11) (S := fun w' => w'.cell? ⟨ga, 0, none⟩ = some (.int .u64 a0_0) ∧ w'.cell? ⟨ga, 2, none⟩ = some (.slice A0_2 l0_2.length c0_2) ∧ w'.cell? ⟨gq, 0, none⟩ = some (.slice A1_0 l1_0.length c1_0) ∧ w'.cell? ⟨gq, 1, none⟩ = some (.slice A1_1 l1_1.length c1_1)) (ds := [10]) #[false, false, false, false, false, false, false, false, false, false, false] (by kernel_rfl) rfl rfl ⟨(blk_cell (blk_drew hba) 0).trans rfl, (blk_cell (blk_drew hba) 2).trans rfl, (blk_cell (blk_drew hbq) 0).trans rfl, (blk_cell (blk_drew hbq) 1).trans rfl⟩ (fun hHeld => ?_)
  have HB1 := below_drew1 HB
  replace hba := blk_drew hba
  replace hbq := blk_drew hbq
  replace hbo := blk_drew hbo
  clear HB
  generalize wo_.drew = wd at hba hbq hbo HB1 hHeld ⊢
  refine pure_ (i := 0) (N := some 15) (v := ?_) (a' := ?_) #[true, false, false, false, false, false, false, false, false, false, false] rfl rfl (by kernel_rfl) (fun _ _ _ h => h) (Or.inl ⟨by rfl, ?_⟩) ?_ ?_
  rotate_left
  ·intro w'
   go_simp
   with_reducible rfl
  rotate_left
  ·simp only [Act.put, List.setIfInBounds_toArray, List.set_cons_zero, List.set_cons_succ, i64_w, i32_w]
   rfl
  refine pure_ (i := 3) (N := some 18) (v := ?_) (a' := ?_) #[true, false, false, true, false, false, false, false, false, false, false] rfl rfl (by kernel_rfl) (fun _ _ _ h => h) (Or.inl ⟨by rfl, ?_⟩) ?_ ?_
  rotate_left
  ·intro w'
   go_simp
   with_reducible rfl
  rotate_left
  ·simp only [Act.put, List.setIfInBounds_toArray, List.set_cons_zero, List.set_cons_succ, i64_w, i32_w]
   rfl
  refine take_ (i := 1) (N := some 16) (v := ?_) (a' := ?_) #[true, true, false, true, false, false, false, false, false, false, false] rfl rfl (by kernel_rfl) (fun _ _ _ h => h) (Or.inl ⟨by rfl, ?_⟩) hHeld ?_ ?_
  rotate_left
  ·rintro w' ⟨s0, s1, s2, s3⟩
   go_simp
   with_reducible rfl
  rotate_left
  ·simp only [Act.put, List.setIfInBounds_toArray, List.set_cons_zero, List.set_cons_succ, i64_w, i32_w]
   rfl
  refine take_ (i := 4) (N := some 19) (v := ?_) (a' := ?_) #[true, true, false, true, true, false, false, false, false, false, false] rfl rfl (by kernel_rfl) (fun _ _ _ h => h) (Or.inl ⟨by rfl, ?_⟩) hHeld ?_ ?_
  rotate_left
  ·rintro w' ⟨s0, s1, s2, s3⟩
   go_simp
   with_reducible rfl
  rotate_left
  ·simp only [Act.put, List.setIfInBounds_toArray, List.set_cons_zero, List.set_cons_succ, i64_w, i32_w]
   rfl
  refine take_ (i := 5) (N := some 20) (v := ?_) (a' := ?_) #[true, true, false, true, true, true, false, false, false, false, false] rfl rfl (by kernel_rfl) (fun _ _ _ h => h) (Or.inl ⟨by rfl, ?_⟩) hHeld ?_ ?_
  rotate_left
  ·rintro w' ⟨s0, s1, s2, s3⟩
   go_simp
   with_reducible rfl
  rotate_left
  ·simp only [Act.put, List.setIfInBounds_toArray, List.set_cons_zero, List.set_cons_succ, i64_w, i32_w]
   rfl
  refine pure_ (i := 6) (N := some 21) (v := ?_) (a' := ?_) #[true, true, false, true, true, true, true, false, false, false, false] rfl rfl (by kernel_rfl) (fun _ _ _ h => h) (Or.inl ⟨by rfl, ?_⟩) ?_ ?_
  rotate_left
  ·intro w'
   go_simp
   with_reducible rfl
  rotate_left
  ·simp only [Act.put, List.setIfInBounds_toArray, List.set_cons_zero, List.set_cons_succ, i64_w, i32_w]
   rfl
  refine two_ (i := 2) (j := 7) (Ni := some 17) (Nj := some 22) #[true, true, true, true, true, true, true, false, false, false, false] #[true, true, false, true, true, true, true, true, false, false, false] rfl rfl rfl rfl (by kernel_rfl) (by decide) (by decide) (fun K hK => ?_) (fun K hK => ?_)
  ·skip
   refine goes_ Try.func25 (by kernel_rfl) rfl #[.slice A0_2 l0_2.length c0_2] (by rfl) rfl rfl (by first | rfl | kernel_rfl | simp [Act.eval]) ?_
   refine (Clip.same A0_2 l0_2.length c0_2 _ hc2 hm2).mono ?_
   rintro e w' ⟨rfl, rfl⟩
   refine ⟨_, rfl, ?_⟩
   refine hK.out _ _ ⟨(blk_cell hba 0).trans rfl, (blk_cell hba 2).trans rfl, (blk_cell hbq 0).trans rfl, (blk_cell hbq 1).trans rfl⟩ (fun hHeld => ?_)
   clear hK K
   refine norm_ (a' := ?_) ?_ ?_
   rotate_left
   ·show Act.put _ (some 17) _ = _
    simp only [Act.put, List.setIfInBounds_toArray, List.set_cons_zero, List.set_cons_succ, i64_w, i32_w]
    rfl
   refine one_ (i := 7) (N := some 22) #[true, true, true, true, true, true, true, true, false, false, false] rfl rfl (by kernel_rfl) (by decide) (fun K hK => ?_)
   refine Kd.N_lit_step k64 w.heap.size 64 ?hg (N' := 22) ?hd (xs := [(⟨a0_0, ⟨l1_0, l1_1⟩⟩ : S64)]) (inner := [.int .u64 a0_0, .slice A1_0 l1_0.length c1_0, .slice A1_1 l1_1.length c1_1]) (w0 := w) (ok := (fun k_ => ((P0_1_ k_ ∨ P0_2_ k_ ∨ P1_0_ k_ ∨ P1_1_ k_) ∨ w.heap.size ≤ k_) ∧ k_ ≠ ga ∧ k_ ≠ go)) (okp := (fun k_ => (P1_0_ k_ ∨ P1_1_ k_) ∧ k_ < w.heap.size)) ?hr ?hp (fun k_ hk => ⟨.inl (.inr (.inr hk.1)), by have := hk.2; omega, by have := hk.2; omega⟩) ⟨.inr HB1.size, by have := blk_lt hba; omega, by have := blk_lt hbo; omega⟩ HB1 HB1.size (by simp) ?_
   case hg => rfl
   case hd => rfl
   case hr => first | (go_simp; done) | (go_simp; rfl)
   case hp => exact Reps.c3 (k64_mkF _ (fun k_ => (P1_0_ k_ ∨ P1_1_ k_) ∧ k_ < w.heap.size) (⟨a0_0, ⟨l1_0, l1_1⟩⟩ : S64) hc10 (Kd.F_mono (Kd.F_below (Kd.F_bound F10.out) HB1) (fun _ h_ => ⟨Or.inl h_.1, h_.2⟩)) hc11 (Kd.F_mono (Kd.F_below (Kd.F_bound F11.out) HB1) (fun _ h_ => ⟨Or.inr h_.1, h_.2⟩))) (Reps.none _ _)
   intro vl wl HN hb hg_ hat_
   obtain ⟨Al, cl, el⟩ := Kd.N_slice HN
   subst el
   have HBl := hb
   have hbal := blk_grown hba hg_ (by simp)
   have hbql := blk_grown hbq hg_ (by simp)
   have hbol := blk_grown hbo hg_ (by simp)
   clear hba hbq hbo hb hg_ hat_ HB1
   have hba := hbal
   clear hbal
   have hbq := hbql
   clear hbql
   have hbo := hbol
   clear hbol
   have HB1 := HBl
   clear HBl
   refine hK.out _ _ ⟨(blk_cell hba 0).trans rfl, (blk_cell hba 2).trans rfl, (blk_cell hbq 0).trans rfl, (blk_cell hbq 1).trans rfl⟩ (fun hHeld => ?_)
   clear hK K
   refine norm_ (a' := ?_) ?_ ?_
   rotate_left
   ·show Act.put _ (some 22) _ = _
    simp only [Act.put, List.setIfInBounds_toArray, List.set_cons_zero, List.set_cons_succ, i64_w, i32_w]
    rfl
   refine one_ (i := 8) (N := some 23) #[true, true, true, true, true, true, true, true, true, false, false] rfl rfl (by kernel_rfl) (by decide) (fun K hK => ?_)
   refine V_append_full_step k64 (by rfl) (.tmp 17) (.tmp 22) 24 64 (.agg #[(.int .u64 0), (.slice none 0 0), (.slice none 0 0)]) 56 rfl Try.underlying24 HI.out rfl (by decide) (by omega) A0_2 l0_2.length l0_2.length l0_2 [(⟨a0_0, ⟨l1_0, l1_1⟩⟩ : S64)] Al 1 cl (fun k_ => ((P0_1_ k_ ∨ P0_2_ k_ ∨ P1_0_ k_ ∨ P1_1_ k_) ∨ w.heap.size ≤ k_) ∧ k_ ≠ ga ∧ k_ ≠ go) (fun k_ => P0_2_ k_ ∧ k_ < w.heap.size) (fun k_ => ((P0_1_ k_ ∨ P0_2_ k_ ∨ P1_0_ k_ ∨ P1_1_ k_) ∨ w.heap.size ≤ k_) ∧ k_ ≠ ga ∧ k_ ≠ go) (by rfl) (by rfl) rfl HA.out (Kd.F_below (Kd.F_bound F02.out) HB1) (Kd.N_F HN) (by omega) (fun k_ h_ => ⟨.inl (.inr (.inl h_.1)), by have := h_.2; omega, by have := h_.2; omega⟩) (fun k_ h_ => h_) (fun k_ h_ => ⟨.inr (Nat.le_trans HB1.size h_), by have := blk_lt hba; omega, by have := blk_lt hbo; omega⟩) HL.out ?_
   intro v1 w1 HN1 hg1 hat1
   replace hba := blk_grown hba hg1 (by simp)
   replace hbq := blk_grown hbq hg1 (by simp)
   replace hbo := blk_grown hbo hg1 (by simp)
   have HB2 := pw_below_grown HB1 none HB1.size hg1 (by simp)
   clear HB1
   have HB1 := HB2
   clear HB2
   obtain ⟨Av, cv, ev⟩ := Kd.N_slice HN1
   subst ev
   refine hK.out _ _ ⟨(blk_cell hba 0).trans rfl, (blk_cell hba 2).trans rfl, (blk_cell hbq 0).trans rfl, (blk_cell hbq 1).trans rfl⟩ (fun hHeld => ?_)
   clear hK K
   refine norm_ (a' := ?_) ?_ ?_
   rotate_left
   ·show Act.put _ (some 23) _ = _
    simp only [Act.put, List.setIfInBounds_toArray, List.set_cons_zero, List.set_cons_succ, i64_w, i32_w]
    rfl
   refine pure_ (i := 9) (N := some 24) (v := ?_) (a' := ?_) #[true, true, true, true, true, true, true, true, true, true, false] rfl rfl (by kernel_rfl) (fun _ _ _ h => h) (Or.inl ⟨by rfl, ?_⟩) ?_ ?_
   rotate_left
   ·intro w'
    go_simp
    with_reducible rfl
   rotate_left
   ·simp only [Act.put, List.setIfInBounds_toArray, List.set_cons_zero, List.set_cons_succ, i64_w, i32_w]
    rfl
   refine last_ (i := 10) (N := none) #[true, true, true, true, true, true, true, true, true, true, true] rfl rfl (by kernel_rfl) (by decide) (fun K hK => ?_)
   have hs_ := (blk_cell hba 2).trans rfl
   have hfs_ := blk_frozen hba 2
   refine skip_ (w1 := ?_) (by rfl) rfl ?_ ?_
   rotate_left
   ·go_simp
    rfl
   refine hK.out _ _ ?_
   clear hK K
   refine done_ (by kernel_rfl) ?_
   have HV := Kd.N_V (base' := w.heap.size) HN1
   rw [show (l0_2 ++ [(⟨a0_0, ⟨l1_0, l1_1⟩⟩ : S64)]).length = l0_2.length + 1 from by simp] at HV
   have HVs := Kd.V_far HV (p := ⟨ga, 2, none⟩) (fun k_ hk_ => hk_.2.1) (.slice Av (l0_2.length + 1) cv)
   have HB := below_set (j := 2) (v := .slice Av (l0_2.length + 1) cv) HB1 HGa
   have hbas := blk_set hba 2 (.slice Av (l0_2.length + 1) cv)
   have hbos := blk_far hbo (p := ⟨ga, 2, none⟩) HNo_a (.slice Av (l0_2.length + 1) cv)
   simp only [List.setIfInBounds_toArray, List.set_cons_zero, List.set_cons_succ] at hbas
   clear HV HN HN1 hba hbq hbo HB1 hHeld hg1 hat1 hs_ hfs_
   have HV := HVs
   have hba := hbas
   have hbo := hbos
   clear HVs hbas hbos
   generalize w1.setCell ⟨ga, 2, none⟩ (.slice Av (l0_2.length + 1) cv) = ws at HV HB hba hbo ⊢
   have hqa_0 : ws.cell? ⟨ga, 0, none⟩ = some (.int .u64 a0_0) := (blk_cell hba 0).trans rfl
   have hqa_1 : ws.cell? ⟨ga, 1, none⟩ = some (.slice A0_1 l0_1.length c0_1) := (blk_cell hba 1).trans rfl
   have hqa_2 : ws.cell? ⟨ga, 2, none⟩ = some (.slice Av (l0_2.length + 1) cv) := (blk_cell hba 2).trans rfl
   have hqo_0 : ws.cell? ⟨go, 0, none⟩ = some (.int .u64 0) := (blk_cell hbo 0).trans rfl
   have hqo_1 : ws.cell? ⟨go, 1, none⟩ = some (.slice none 0 0) := (blk_cell hbo 1).trans rfl
   have hqo_2 : ws.cell? ⟨go, 2, none⟩ = some (.slice none 0 0) := (blk_cell hbo 2).trans rfl
   go_wp2_with (first
  | ((with_reducible refine gate_ (.store 26 (.tmp 4) (.tmp 25)) rfl ?_); refine blk_store_all (w0 := w) (base := w.heap.size) (u := .agg #[.int .u64 a0_0, .slice A0_1 l0_1.length c0_1, .slice Av (l0_2.length + 1) cv]) (seg := [.int .u64 a0_0, .slice A0_1 l0_1.length c0_1, .slice Av (l0_2.length + 1) cv]) rfl rfl rfl rfl rfl rfl ?h1_ ?ht_ (by exact hbo) (by rfl) (by repeat (first | exact HB | apply below_alloc | apply pw_below_drewN | apply below_drew1)) HGo ?_; (case ht_ => kernel_rfl); (case h1_ => intro q_ hq_; simp only [List.mem_cons, List.not_mem_nil, or_false] at hq_; rcases hq_ with rfl | rfl | rfl <;> rfl); intro wo_1 hb2_ HB2_ hgr_; clear hqa_0 hqa_1 hqa_2; replace hba := blk_grown (by exact hba) hgr_ (fun e_ => by injection e_ with e_; exact HNo_a.symm e_); clear hqo_0 hqo_1 hqo_2; replace hbo := hb2_; replace HV := Kd.V_grown HV hgr_ (fun k_ hk_ e_ => hk_.2.2 (by injection e_)); replace HB := HB2_; clear hb2_ HB2_ hgr_; have hqa_0 : wo_1.cell? ⟨ga, 0, none⟩ = some (.int .u64 a0_0) := (blk_cell hba 0).trans rfl; have hqa_1 : wo_1.cell? ⟨ga, 1, none⟩ = some (.slice A0_1 l0_1.length c0_1) := (blk_cell hba 1).trans rfl; have hqa_2 : wo_1.cell? ⟨ga, 2, none⟩ = some (.slice Av (l0_2.length + 1) cv) := (blk_cell hba 2).trans rfl; have hqo_0 : wo_1.cell? ⟨go, 0, none⟩ = some (.int .u64 a0_0) := (blk_cell hbo 0).trans rfl; have hqo_1 : wo_1.cell? ⟨go, 1, none⟩ = some (.slice A0_1 l0_1.length c0_1) := (blk_cell hbo 1).trans rfl; have hqo_2 : wo_1.cell? ⟨go, 2, none⟩ = some (.slice Av (l0_2.length + 1) cv) := (blk_cell hbo 2).trans rfl))
   refine bodyPost_ret (v := .agg #[.int .u64 a0_0, .slice A0_1 l0_1.length c0_1, .slice Av (l0_2.length + 1) cv]) (by simp [results, Try.results8, go_sem, hqo_0, hqo_1, hqo_2]) rfl ?_
   exact ⟨_, _, rfl, Kd.V_mk hc01 (Kd.F_mono (Kd.F_below F01.out HB) (fun _ h_ => .inl (.inl h_))), Kd.V_mono HV (fun _ h_ => h_.1), HB⟩
  ·skip
   refine Kd.N_lit_step k64 w.heap.size 64 ?hg (N' := 22) ?hd (xs := [(⟨a0_0, ⟨l1_0, l1_1⟩⟩ : S64)]) (inner := [.int .u64 a0_0, .slice A1_0 l1_0.length c1_0, .slice A1_1 l1_1.length c1_1]) (w0 := w) (ok := (fun k_ => ((P0_1_ k_ ∨ P0_2_ k_ ∨ P1_0_ k_ ∨ P1_1_ k_) ∨ w.heap.size ≤ k_) ∧ k_ ≠ ga ∧ k_ ≠ go)) (okp := (fun k_ => (P1_0_ k_ ∨ P1_1_ k_) ∧ k_ < w.heap.size)) ?hr ?hp (fun k_ hk => ⟨.inl (.inr (.inr hk.1)), by have := hk.2; omega, by have := hk.2; omega⟩) ⟨.inr HB1.size, by have := blk_lt hba; omega, by have := blk_lt hbo; omega⟩ HB1 HB1.size (by simp) ?_
   case hg => rfl
   case hd => rfl
   case hr => first | (go_simp; done) | (go_simp; rfl)
   case hp => exact Reps.c3 (k64_mkF _ (fun k_ => (P1_0_ k_ ∨ P1_1_ k_) ∧ k_ < w.heap.size) (⟨a0_0, ⟨l1_0, l1_1⟩⟩ : S64) hc10 (Kd.F_mono (Kd.F_below (Kd.F_bound F10.out) HB1) (fun _ h_ => ⟨Or.inl h_.1, h_.2⟩)) hc11 (Kd.F_mono (Kd.F_below (Kd.F_bound F11.out) HB1) (fun _ h_ => ⟨Or.inr h_.1, h_.2⟩))) (Reps.none _ _)
   intro vl wl HN hb hg_ hat_
   obtain ⟨Al, cl, el⟩ := Kd.N_slice HN
   subst el
   have HBl := hb
   have hbal := blk_grown hba hg_ (by simp)
   have hbql := blk_grown hbq hg_ (by simp)
   have hbol := blk_grown hbo hg_ (by simp)
   clear hba hbq hbo hb hg_ hat_ HB1
   have hba := hbal
   clear hbal
   have hbq := hbql
   clear hbql
   have hbo := hbol
   clear hbol
   have HB1 := HBl
   clear HBl
   refine hK.out _ _ ⟨(blk_cell hba 0).trans rfl, (blk_cell hba 2).trans rfl, (blk_cell hbq 0).trans rfl, (blk_cell hbq 1).trans rfl⟩ (fun hHeld => ?_)
   clear hK K
   refine norm_ (a' := ?_) ?_ ?_
   rotate_left
   ·show Act.put _ (some 22) _ = _
    simp only [Act.put, List.setIfInBounds_toArray, List.set_cons_zero, List.set_cons_succ, i64_w, i32_w]
    rfl
   refine one_ (i := 2) (N := some 17) #[true, true, true, true, true, true, true, true, false, false, false] rfl rfl (by kernel_rfl) (by decide) (fun K hK => ?_)
   refine goes_ Try.func25 (by kernel_rfl) rfl #[.slice A0_2 l0_2.length c0_2] (by rfl) rfl rfl (by first | rfl | kernel_rfl | simp [Act.eval]) ?_
   refine (Clip.same A0_2 l0_2.length c0_2 _ hc2 hm2).mono ?_
   rintro e w' ⟨rfl, rfl⟩
   refine ⟨_, rfl, ?_⟩
   refine hK.out _ _ ⟨(blk_cell hba 0).trans rfl, (blk_cell hba 2).trans rfl, (blk_cell hbq 0).trans rfl, (blk_cell hbq 1).trans rfl⟩ (fun hHeld => ?_)
   clear hK K
   refine norm_ (a' := ?_) ?_ ?_
   rotate_left
   ·show Act.put _ (some 17) _ = _
    simp only [Act.put, List.setIfInBounds_toArray, List.set_cons_zero, List.set_cons_succ, i64_w, i32_w]
    rfl
   refine one_ (i := 8) (N := some 23) #[true, true, true, true, true, true, true, true, true, false, false] rfl rfl (by kernel_rfl) (by decide) (fun K hK => ?_)
   refine V_append_full_step k64 (by rfl) (.tmp 17) (.tmp 22) 24 64 (.agg #[(.int .u64 0), (.slice none 0 0), (.slice none 0 0)]) 56 rfl Try.underlying24 HI.out rfl (by decide) (by omega) A0_2 l0_2.length l0_2.length l0_2 [(⟨a0_0, ⟨l1_0, l1_1⟩⟩ : S64)] Al 1 cl (fun k_ => ((P0_1_ k_ ∨ P0_2_ k_ ∨ P1_0_ k_ ∨ P1_1_ k_) ∨ w.heap.size ≤ k_) ∧ k_ ≠ ga ∧ k_ ≠ go) (fun k_ => P0_2_ k_ ∧ k_ < w.heap.size) (fun k_ => ((P0_1_ k_ ∨ P0_2_ k_ ∨ P1_0_ k_ ∨ P1_1_ k_) ∨ w.heap.size ≤ k_) ∧ k_ ≠ ga ∧ k_ ≠ go) (by rfl) (by rfl) rfl HA.out (Kd.F_below (Kd.F_bound F02.out) HB1) (Kd.N_F HN) (by omega) (fun k_ h_ => ⟨.inl (.inr (.inl h_.1)), by have := h_.2; omega, by have := h_.2; omega⟩) (fun k_ h_ => h_) (fun k_ h_ => ⟨.inr (Nat.le_trans HB1.size h_), by have := blk_lt hba; omega, by have := blk_lt hbo; omega⟩) HL.out ?_
   intro v1 w1 HN1 hg1 hat1
   replace hba := blk_grown hba hg1 (by simp)
   replace hbq := blk_grown hbq hg1 (by simp)
   replace hbo := blk_grown hbo hg1 (by simp)
   have HB2 := pw_below_grown HB1 none HB1.size hg1 (by simp)
   clear HB1
   have HB1 := HB2
   clear HB2
   obtain ⟨Av, cv, ev⟩ := Kd.N_slice HN1
   subst ev
   refine hK.out _ _ ⟨(blk_cell hba 0).trans rfl, (blk_cell hba 2).trans rfl, (blk_cell hbq 0).trans rfl, (blk_cell hbq 1).trans rfl⟩ (fun hHeld => ?_)
   clear hK K
   refine norm_ (a' := ?_) ?_ ?_
   rotate_left
   ·show Act.put _ (some 23) _ = _
    simp only [Act.put, List.setIfInBounds_toArray, List.set_cons_zero, List.set_cons_succ, i64_w, i32_w]
    rfl
   refine pure_ (i := 9) (N := some 24) (v := ?_) (a' := ?_) #[true, true, true, true, true, true, true, true, true, true, false] rfl rfl (by kernel_rfl) (fun _ _ _ h => h) (Or.inl ⟨by rfl, ?_⟩) ?_ ?_
   rotate_left
   ·intro w'
    go_simp
    with_reducible rfl
   rotate_left
   ·simp only [Act.put, List.setIfInBounds_toArray, List.set_cons_zero, List.set_cons_succ, i64_w, i32_w]
    rfl
   refine last_ (i := 10) (N := none) #[true, true, true, true, true, true, true, true, true, true, true] rfl rfl (by kernel_rfl) (by decide) (fun K hK => ?_)
   have hs_ := (blk_cell hba 2).trans rfl
   have hfs_ := blk_frozen hba 2
   refine skip_ (w1 := ?_) (by rfl) rfl ?_ ?_
   rotate_left
   ·go_simp
    rfl
   refine hK.out _ _ ?_
   clear hK K
   refine done_ (by kernel_rfl) ?_
   have HV := Kd.N_V (base' := w.heap.size) HN1
   rw [show (l0_2 ++ [(⟨a0_0, ⟨l1_0, l1_1⟩⟩ : S64)]).length = l0_2.length + 1 from by simp] at HV
   have HVs := Kd.V_far HV (p := ⟨ga, 2, none⟩) (fun k_ hk_ => hk_.2.1) (.slice Av (l0_2.length + 1) cv)
   have HB := below_set (j := 2) (v := .slice Av (l0_2.length + 1) cv) HB1 HGa
   have hbas := blk_set hba 2 (.slice Av (l0_2.length + 1) cv)
   have hbos := blk_far hbo (p := ⟨ga, 2, none⟩) HNo_a (.slice Av (l0_2.length + 1) cv)
   simp only [List.setIfInBounds_toArray, List.set_cons_zero, List.set_cons_succ] at hbas
   clear HV HN HN1 hba hbq hbo HB1 hHeld hg1 hat1 hs_ hfs_
   have HV := HVs
   have hba := hbas
   have hbo := hbos
   clear HVs hbas hbos
   generalize w1.setCell ⟨ga, 2, none⟩ (.slice Av (l0_2.length + 1) cv) = ws at HV HB hba hbo ⊢
   have hqa_0 : ws.cell? ⟨ga, 0, none⟩ = some (.int .u64 a0_0) := (blk_cell hba 0).trans rfl
   have hqa_1 : ws.cell? ⟨ga, 1, none⟩ = some (.slice A0_1 l0_1.length c0_1) := (blk_cell hba 1).trans rfl
   have hqa_2 : ws.cell? ⟨ga, 2, none⟩ = some (.slice Av (l0_2.length + 1) cv) := (blk_cell hba 2).trans rfl
   have hqo_0 : ws.cell? ⟨go, 0, none⟩ = some (.int .u64 0) := (blk_cell hbo 0).trans rfl
   have hqo_1 : ws.cell? ⟨go, 1, none⟩ = some (.slice none 0 0) := (blk_cell hbo 1).trans rfl
   have hqo_2 : ws.cell? ⟨go, 2, none⟩ = some (.slice none 0 0) := (blk_cell hbo 2).trans rfl
   go_wp2_with (first
  | ((with_reducible refine gate_ (.store 26 (.tmp 4) (.tmp 25)) rfl ?_); refine blk_store_all (w0 := w) (base := w.heap.size) (u := .agg #[.int .u64 a0_0, .slice A0_1 l0_1.length c0_1, .slice Av (l0_2.length + 1) cv]) (seg := [.int .u64 a0_0, .slice A0_1 l0_1.length c0_1, .slice Av (l0_2.length + 1) cv]) rfl rfl rfl rfl rfl rfl ?h1_ ?ht_ (by exact hbo) (by rfl) (by repeat (first | exact HB | apply below_alloc | apply pw_below_drewN | apply below_drew1)) HGo ?_; (case ht_ => kernel_rfl); (case h1_ => intro q_ hq_; simp only [List.mem_cons, List.not_mem_nil, or_false] at hq_; rcases hq_ with rfl | rfl | rfl <;> rfl); intro wo_1 hb2_ HB2_ hgr_; clear hqa_0 hqa_1 hqa_2; replace hba := blk_grown (by exact hba) hgr_ (fun e_ => by injection e_ with e_; exact HNo_a.symm e_); clear hqo_0 hqo_1 hqo_2; replace hbo := hb2_; replace HV := Kd.V_grown HV hgr_ (fun k_ hk_ e_ => hk_.2.2 (by injection e_)); replace HB := HB2_; clear hb2_ HB2_ hgr_; have hqa_0 : wo_1.cell? ⟨ga, 0, none⟩ = some (.int .u64 a0_0) := (blk_cell hba 0).trans rfl; have hqa_1 : wo_1.cell? ⟨ga, 1, none⟩ = some (.slice A0_1 l0_1.length c0_1) := (blk_cell hba 1).trans rfl; have hqa_2 : wo_1.cell? ⟨ga, 2, none⟩ = some (.slice Av (l0_2.length + 1) cv) := (blk_cell hba 2).trans rfl; have hqo_0 : wo_1.cell? ⟨go, 0, none⟩ = some (.int .u64 a0_0) := (blk_cell hbo 0).trans rfl; have hqo_1 : wo_1.cell? ⟨go, 1, none⟩ = some (.slice A0_1 l0_1.length c0_1) := (blk_cell hbo 1).trans rfl; have hqo_2 : wo_1.cell? ⟨go, 2, none⟩ = some (.slice Av (l0_2.length + 1) cv) := (blk_cell hbo 2).trans rfl))
   refine bodyPost_ret (v := .agg #[.int .u64 a0_0, .slice A0_1 l0_1.length c0_1, .slice Av (l0_2.length + 1) cv]) (by simp [results, Try.results8, go_sem, hqo_0, hqo_1, hqo_2]) rfl ?_
   exact ⟨_, _, rfl, Kd.V_mk hc01 (Kd.F_mono (Kd.F_below F01.out HB) (fun _ h_ => .inl (.inl h_))), Kd.V_mono HV (fun _ h_ => h_.1), HB⟩
 ·clear hne
  go_enter Try.func8, Try.ntmps8
  go_wp2_with (first
  | ((with_reducible refine gate_dst (N := 2) rfl ?_); (with_reducible refine gate_ (.box 26 (.tmp 0)) rfl ?_); refine box_event (N := 2) rfl rfl (cs := #[.int .u64 a0_0, .slice A0_1 l0_1.length c0_1, .slice A0_2 l0_2.length c0_2]) (t := 26) (by first | (go_simp; done) | (go_simp; rfl)) ?_; intro ga hg_ wa_ hba hbl_; have HGa : w.heap.size ≤ ga := (by rw [hg_]; exact Nat.le_trans (by first | exact Nat.le_refl _ | exact HB.size) (Nat.le_refl _)); replace HB := below_step (by repeat (first | exact HB | apply below_alloc | apply pw_below_drewN | apply below_drew1)) hbl_; clear hg_ hbl_; have hqa_0 : wa_.cell? ⟨ga, 0, none⟩ = some (.int .u64 a0_0) := (blk_cell hba 0).trans rfl; have hqa_1 : wa_.cell? ⟨ga, 1, none⟩ = some (.slice A0_1 l0_1.length c0_1) := (blk_cell hba 1).trans rfl; have hqa_2 : wa_.cell? ⟨ga, 2, none⟩ = some (.slice A0_2 l0_2.length c0_2) := (blk_cell hba 2).trans rfl)
  | ((with_reducible refine gate_dst (N := 3) rfl ?_); (with_reducible refine gate_ (.box 30 (.tmp 1)) rfl ?_); refine box_event (N := 3) rfl rfl (cs := #[.slice A1_0 l1_0.length c1_0, .slice A1_1 l1_1.length c1_1]) (t := 30) (by first | (go_simp; done) | (go_simp; rfl)) ?_; intro gq hg_ wq_ hbq hbl_; have HGq : w.heap.size ≤ gq := (by rw [hg_]; exact Nat.le_trans (by first | exact Nat.le_refl _ | exact HB.size) (Nat.le_refl _)); have HNq_a : gq ≠ ga := (by rw [hg_]; exact Nat.ne_of_gt (blk_lt (by exact hba))); clear hqa_0 hqa_1 hqa_2; replace hba := blk_below (by exact hba) hbl_; have hqa_0 : wq_.cell? ⟨ga, 0, none⟩ = some (.int .u64 a0_0) := (blk_cell hba 0).trans rfl; have hqa_1 : wq_.cell? ⟨ga, 1, none⟩ = some (.slice A0_1 l0_1.length c0_1) := (blk_cell hba 1).trans rfl; have hqa_2 : wq_.cell? ⟨ga, 2, none⟩ = some (.slice A0_2 l0_2.length c0_2) := (blk_cell hba 2).trans rfl; replace HB := below_step (by repeat (first | exact HB | apply below_alloc | apply pw_below_drewN | apply below_drew1)) hbl_; clear hg_ hbl_; have hqq_0 : wq_.cell? ⟨gq, 0, none⟩ = some (.slice A1_0 l1_0.length c1_0) := (blk_cell hbq 0).trans rfl; have hqq_1 : wq_.cell? ⟨gq, 1, none⟩ = some (.slice A1_1 l1_1.length c1_1) := (blk_cell hbq 1).trans rfl)
  | ((with_reducible refine gate_dst (N := 4) rfl ?_); (with_reducible refine gate_ (.alloc 26) rfl ?_); refine box_event (N := 4) rfl rfl (cs := #[.int .u64 0, .slice none 0 0, .slice none 0 0]) (t := 26) (by first | (go_simp; done) | (go_simp; rfl)) ?_; intro go hg_ wo_ hbo hbl_; have HGo : w.heap.size ≤ go := (by rw [hg_]; exact Nat.le_trans (by first | exact Nat.le_refl _ | exact HB.size) (Nat.le_refl _)); have HNo_a : go ≠ ga := (by rw [hg_]; exact Nat.ne_of_gt (blk_lt (by exact hba))); have HNo_q : go ≠ gq := (by rw [hg_]; exact Nat.ne_of_gt (blk_lt (by exact hbq))); clear hqa_0 hqa_1 hqa_2; replace hba := blk_below (by exact hba) hbl_; have hqa_0 : wo_.cell? ⟨ga, 0, none⟩ = some (.int .u64 a0_0) := (blk_cell hba 0).trans rfl; have hqa_1 : wo_.cell? ⟨ga, 1, none⟩ = some (.slice A0_1 l0_1.length c0_1) := (blk_cell hba 1).trans rfl; have hqa_2 : wo_.cell? ⟨ga, 2, none⟩ = some (.slice A0_2 l0_2.length c0_2) := (blk_cell hba 2).trans rfl; clear hqq_0 hqq_1; replace hbq := blk_below (by exact hbq) hbl_; have hqq_0 : wo_.cell? ⟨gq, 0, none⟩ = some (.slice A1_0 l1_0.length c1_0) := (blk_cell hbq 0).trans rfl; have hqq_1 : wo_.cell? ⟨gq, 1, none⟩ = some (.slice A1_1 l1_1.length c1_1) := (blk_cell hbq 1).trans rfl; replace HB := below_step (by repeat (first | exact HB | apply below_alloc | apply pw_below_drewN | apply below_drew1)) hbl_; clear hg_ hbl_; have hqo_0 : wo_.cell? ⟨go, 0, none⟩ = some (.int .u64 0) := (blk_cell hbo 0).trans rfl; have hqo_1 : wo_.cell? ⟨go, 1, none⟩ = some (.slice none 0 0) := (blk_cell hbo 1).trans rfl; have hqo_2 : wo_.cell? ⟨go, 2, none⟩ = some (.slice none 0 0) := (blk_cell hbo 2).trans rfl))
  refine start_ (n := 11) (S := fun w' => w'.cell? ⟨ga, 0, none⟩ = some (.int .u64 a0_0) ∧ w'.cell? ⟨ga, 2, none⟩ = some (.slice A0_2 l0_2.length c0_2) ∧ w'.cell? ⟨gq, 0, none⟩ = some (.slice A1_0 l1_0.length c1_0) ∧ w'.cell? ⟨gq, 1, none⟩ = some (.slice A1_1 l1_1.length c1_1)) (ds := [10]) #[false, false, false, false, false, false, false, false, false, false, false] (by kernel_rfl) rfl rfl ⟨(blk_cell (blk_drew hba) 0).trans rfl, (blk_cell (blk_drew hba) 2).trans rfl, (blk_cell (blk_drew hbq) 0).trans rfl, (blk_cell (blk_drew hbq) 1).trans rfl⟩ (fun hHeld => ?_)
  have HB1 := below_drew1 HB
  replace hba := blk_drew hba
  replace hbq := blk_drew hbq
  replace hbo := blk_drew hbo
  clear HB
  generalize wo_.drew = wd at hba hbq hbo HB1 hHeld ⊢
  refine pure_ (i := 0) (N := some 15) (v := ?_) (a' := ?_) #[true, false, false, false, false, false, false, false, false, false, false] rfl rfl (by kernel_rfl) (fun _ _ _ h => h) (Or.inl ⟨by rfl, ?_⟩) ?_ ?_
  rotate_left
  ·intro w'
   go_simp
   with_reducible rfl
  rotate_left
  ·simp only [Act.put, List.setIfInBounds_toArray, List.set_cons_zero, List.set_cons_succ, i64_w, i32_w]
   rfl
  refine pure_ (i := 3) (N := some 18) (v := ?_) (a' := ?_) #[true, false, false, true, false, false, false, false, false, false, false] rfl rfl (by kernel_rfl) (fun _ _ _ h => h) (Or.inl ⟨by rfl, ?_⟩) ?_ ?_
  rotate_left
  ·intro w'
   go_simp
   with_reducible rfl
  rotate_left
  ·simp only [Act.put, List.setIfInBounds_toArray, List.set_cons_zero, List.set_cons_succ, i64_w, i32_w]
   rfl
  refine take_ (i := 1) (N := some 16) (v := ?_) (a' := ?_) #[true, true, false, true, false, false, false, false, false, false, false] rfl rfl (by kernel_rfl) (fun _ _ _ h => h) (Or.inl ⟨by rfl, ?_⟩) hHeld ?_ ?_
  rotate_left
  ·rintro w' ⟨s0, s1, s2, s3⟩
   go_simp
   with_reducible rfl
  rotate_left
  ·simp only [Act.put, List.setIfInBounds_toArray, List.set_cons_zero, List.set_cons_succ, i64_w, i32_w]
   rfl
  refine take_ (i := 4) (N := some 19) (v := ?_) (a' := ?_) #[true, true, false, true, true, false, false, false, false, false, false] rfl rfl (by kernel_rfl) (fun _ _ _ h => h) (Or.inl ⟨by rfl, ?_⟩) hHeld ?_ ?_
  rotate_left
  ·rintro w' ⟨s0, s1, s2, s3⟩
   go_simp
   with_reducible rfl
  rotate_left
  ·simp only [Act.put, List.setIfInBounds_toArray, List.set_cons_zero, List.set_cons_succ, i64_w, i32_w]
   rfl
  refine take_ (i := 5) (N := some 20) (v := ?_) (a' := ?_) #[true, true, false, true, true, true, false, false, false, false, false] rfl rfl (by kernel_rfl) (fun _ _ _ h => h) (Or.inl ⟨by rfl, ?_⟩) hHeld ?_ ?_
  rotate_left
  ·rintro w' ⟨s0, s1, s2, s3⟩
   go_simp
   with_reducible rfl
  rotate_left
  ·simp only [Act.put, List.setIfInBounds_toArray, List.set_cons_zero, List.set_cons_succ, i64_w, i32_w]
   rfl
  refine pure_ (i := 6) (N := some 21) (v := ?_) (a' := ?_) #[true, true, false, true, true, true, true, false, false, false, false] rfl rfl (by kernel_rfl) (fun _ _ _ h => h) (Or.inl ⟨by rfl, ?_⟩) ?_ ?_
  rotate_left
  ·intro w'
   go_simp
   with_reducible rfl
  rotate_left
  ·simp only [Act.put, List.setIfInBounds_toArray, List.set_cons_zero, List.set_cons_succ, i64_w, i32_w]
   rfl
  refine two_ (i := 2) (j := 7) (Ni := some 17) (Nj := some 22) #[true, true, true, true, true, true, true, false, false, false, false] #[true, true, false, true, true, true, true, true, false, false, false] rfl rfl rfl rfl (by kernel_rfl) (by decide) (by decide) (fun K hK => ?_) (fun K hK => ?_)
  ·skip
   refine goes_ Try.func25 (by kernel_rfl) rfl #[.slice A0_2 l0_2.length c0_2] (by rfl) rfl rfl (by first | rfl | kernel_rfl | simp [Act.eval]) ?_
   refine (Clip.same A0_2 l0_2.length c0_2 _ hc2 hm2).mono ?_
   rintro e w' ⟨rfl, rfl⟩
   refine ⟨_, rfl, ?_⟩
   refine hK.out _ _ ⟨(blk_cell hba 0).trans rfl, (blk_cell hba 2).trans rfl, (blk_cell hbq 0).trans rfl, (blk_cell hbq 1).trans rfl⟩ (fun hHeld => ?_)
   clear hK K
   refine norm_ (a' := ?_) ?_ ?_
   rotate_left
   ·show Act.put _ (some 17) _ = _
    simp only [Act.put, List.setIfInBounds_toArray, List.set_cons_zero, List.set_cons_succ, i64_w, i32_w]
    rfl
   refine one_ (i := 7) (N := some 22) #[true, true, true, true, true, true, true, true, false, false, false] rfl rfl (by kernel_rfl) (by decide) (fun K hK => ?_)
   refine Kd.N_lit_step k64 w.heap.size 64 ?hg (N' := 22) ?hd (xs := [(⟨a0_0, ⟨l1_0, l1_1⟩⟩ : S64)]) (inner := [.int .u64 a0_0, .slice A1_0 l1_0.length c1_0, .slice A1_1 l1_1.length c1_1]) (w0 := w) (ok := (fun k_ => ((P0_1_ k_ ∨ P0_2_ k_ ∨ P1_0_ k_ ∨ P1_1_ k_) ∨ w.heap.size ≤ k_) ∧ k_ ≠ ga ∧ k_ ≠ go)) (okp := (fun k_ => (P1_0_ k_ ∨ P1_1_ k_) ∧ k_ < w.heap.size)) ?hr ?hp (fun k_ hk => ⟨.inl (.inr (.inr hk.1)), by have := hk.2; omega, by have := hk.2; omega⟩) ⟨.inr HB1.size, by have := blk_lt hba; omega, by have := blk_lt hbo; omega⟩ HB1 HB1.size (by simp) ?_
   case hg => rfl
   case hd => rfl
   case hr => first | (go_simp; done) | (go_simp; rfl)
   case hp => exact Reps.c3 (k64_mkF _ (fun k_ => (P1_0_ k_ ∨ P1_1_ k_) ∧ k_ < w.heap.size) (⟨a0_0, ⟨l1_0, l1_1⟩⟩ : S64) hc10 (Kd.F_mono (Kd.F_below (Kd.F_bound F10.out) HB1) (fun _ h_ => ⟨Or.inl h_.1, h_.2⟩)) hc11 (Kd.F_mono (Kd.F_below (Kd.F_bound F11.out) HB1) (fun _ h_ => ⟨Or.inr h_.1, h_.2⟩))) (Reps.none _ _)
   intro vl wl HN hb hg_ hat_
   obtain ⟨Al, cl, el⟩ := Kd.N_slice HN
   subst el
   have HBl := hb
   have hbal := blk_grown hba hg_ (by simp)
   have hbql := blk_grown hbq hg_ (by simp)
   have hbol := blk_grown hbo hg_ (by simp)
   clear hba hbq hbo hb hg_ hat_ HB1
   have hba := hbal
   clear hbal
   have hbq := hbql
   clear hbql
   have hbo := hbol
   clear hbol
   have HB1 := HBl
   clear HBl
   refine hK.out _ _ ⟨(blk_cell hba 0).trans rfl, (blk_cell hba 2).trans rfl, (blk_cell hbq 0).trans rfl, (blk_cell hbq 1).trans rfl⟩ (fun hHeld => ?_)
   clear hK K
   refine norm_ (a' := ?_) ?_ ?_
   rotate_left
   ·show Act.put _ (some 22) _ = _
    simp only [Act.put, List.setIfInBounds_toArray, List.set_cons_zero, List.set_cons_succ, i64_w, i32_w]
    rfl
   refine one_ (i := 8) (N := some 23) #[true, true, true, true, true, true, true, true, true, false, false] rfl rfl (by kernel_rfl) (by decide) (fun K hK => ?_)
   refine V_append_full_step k64 (by rfl) (.tmp 17) (.tmp 22) 24 64 (.agg #[(.int .u64 0), (.slice none 0 0), (.slice none 0 0)]) 56 rfl Try.underlying24 HI.out rfl (by decide) (by omega) A0_2 l0_2.length l0_2.length l0_2 [(⟨a0_0, ⟨l1_0, l1_1⟩⟩ : S64)] Al 1 cl (fun k_ => ((P0_1_ k_ ∨ P0_2_ k_ ∨ P1_0_ k_ ∨ P1_1_ k_) ∨ w.heap.size ≤ k_) ∧ k_ ≠ ga ∧ k_ ≠ go) (fun k_ => P0_2_ k_ ∧ k_ < w.heap.size) (fun k_ => ((P0_1_ k_ ∨ P0_2_ k_ ∨ P1_0_ k_ ∨ P1_1_ k_) ∨ w.heap.size ≤ k_) ∧ k_ ≠ ga ∧ k_ ≠ go) (by rfl) (by rfl) rfl HA.out (Kd.F_below (Kd.F_bound F02.out) HB1) (Kd.N_F HN) (by omega) (fun k_ h_ => ⟨.inl (.inr (.inl h_.1)), by have := h_.2; omega, by have := h_.2; omega⟩) (fun k_ h_ => h_) (fun k_ h_ => ⟨.inr (Nat.le_trans HB1.size h_), by have := blk_lt hba; omega, by have := blk_lt hbo; omega⟩) HL.out ?_
   intro v1 w1 HN1 hg1 hat1
   replace hba := blk_grown hba hg1 (by simp)
   replace hbq := blk_grown hbq hg1 (by simp)
   replace hbo := blk_grown hbo hg1 (by simp)
   have HB2 := pw_below_grown HB1 none HB1.size hg1 (by simp)
   clear HB1
   have HB1 := HB2
   clear HB2
   obtain ⟨Av, cv, ev⟩ := Kd.N_slice HN1
   subst ev
   refine hK.out _ _ ⟨(blk_cell hba 0).trans rfl, (blk_cell hba 2).trans rfl, (blk_cell hbq 0).trans rfl, (blk_cell hbq 1).trans rfl⟩ (fun hHeld => ?_)
   clear hK K
   refine norm_ (a' := ?_) ?_ ?_
   rotate_left
   ·show Act.put _ (some 23) _ = _
    simp only [Act.put, List.setIfInBounds_toArray, List.set_cons_zero, List.set_cons_succ, i64_w, i32_w]
    rfl
   refine pure_ (i := 9) (N := some 24) (v := ?_) (a' := ?_) #[true, true, true, true, true, true, true, true, true, true, false] rfl rfl (by kernel_rfl) (fun _ _ _ h => h) (Or.inl ⟨by rfl, ?_⟩) ?_ ?_
   rotate_left
   ·intro w'
    go_simp
    with_reducible rfl
   rotate_left
   ·simp only [Act.put, List.setIfInBounds_toArray, List.set_cons_zero, List.set_cons_succ, i64_w, i32_w]
    rfl
   refine last_ (i := 10) (N := none) #[true, true, true, true, true, true, true, true, true, true, true] rfl rfl (by kernel_rfl) (by decide) (fun K hK => ?_)
   have hs_ := (blk_cell hba 2).trans rfl
   have hfs_ := blk_frozen hba 2
   refine skip_ (w1 := ?_) (by rfl) rfl ?_ ?_
   rotate_left
   ·go_simp
    rfl
   refine hK.out _ _ ?_
   clear hK K
   refine done_ (by kernel_rfl) ?_
   have HV := Kd.N_V (base' := w.heap.size) HN1
   rw [show (l0_2 ++ [(⟨a0_0, ⟨l1_0, l1_1⟩⟩ : S64)]).length = l0_2.length + 1 from by simp] at HV
   have HVs := Kd.V_far HV (p := ⟨ga, 2, none⟩) (fun k_ hk_ => hk_.2.1) (.slice Av (l0_2.length + 1) cv)
   have HB := below_set (j := 2) (v := .slice Av (l0_2.length + 1) cv) HB1 HGa
   have hbas := blk_set hba 2 (.slice Av (l0_2.length + 1) cv)
   have hbos := blk_far hbo (p := ⟨ga, 2, none⟩) HNo_a (.slice Av (l0_2.length + 1) cv)
   simp only [List.setIfInBounds_toArray, List.set_cons_zero, List.set_cons_succ] at hbas
   clear HV HN HN1 hba hbq hbo HB1 hHeld hg1 hat1 hs_ hfs_
   have HV := HVs
   have hba := hbas
   have hbo := hbos
   clear HVs hbas hbos
   generalize w1.setCell ⟨ga, 2, none⟩ (.slice Av (l0_2.length + 1) cv) = ws at HV HB hba hbo ⊢
   have hqa_0 : ws.cell? ⟨ga, 0, none⟩ = some (.int .u64 a0_0) := (blk_cell hba 0).trans rfl
   have hqa_1 : ws.cell? ⟨ga, 1, none⟩ = some (.slice A0_1 l0_1.length c0_1) := (blk_cell hba 1).trans rfl
   have hqa_2 : ws.cell? ⟨ga, 2, none⟩ = some (.slice Av (l0_2.length + 1) cv) := (blk_cell hba 2).trans rfl
   have hqo_0 : ws.cell? ⟨go, 0, none⟩ = some (.int .u64 0) := (blk_cell hbo 0).trans rfl
   have hqo_1 : ws.cell? ⟨go, 1, none⟩ = some (.slice none 0 0) := (blk_cell hbo 1).trans rfl
   have hqo_2 : ws.cell? ⟨go, 2, none⟩ = some (.slice none 0 0) := (blk_cell hbo 2).trans rfl
   go_wp2_with (first
  | ((with_reducible refine gate_ (.store 26 (.tmp 4) (.tmp 25)) rfl ?_); refine blk_store_all (w0 := w) (base := w.heap.size) (u := .agg #[.int .u64 a0_0, .slice A0_1 l0_1.length c0_1, .slice Av (l0_2.length + 1) cv]) (seg := [.int .u64 a0_0, .slice A0_1 l0_1.length c0_1, .slice Av (l0_2.length + 1) cv]) rfl rfl rfl rfl rfl rfl ?h1_ ?ht_ (by exact hbo) (by rfl) (by repeat (first | exact HB | apply below_alloc | apply pw_below_drewN | apply below_drew1)) HGo ?_; (case ht_ => kernel_rfl); (case h1_ => intro q_ hq_; simp only [List.mem_cons, List.not_mem_nil, or_false] at hq_; rcases hq_ with rfl | rfl | rfl <;> rfl); intro wo_1 hb2_ HB2_ hgr_; clear hqa_0 hqa_1 hqa_2; replace hba := blk_grown (by exact hba) hgr_ (fun e_ => by injection e_ with e_; exact HNo_a.symm e_); clear hqo_0 hqo_1 hqo_2; replace hbo := hb2_; replace HV := Kd.V_grown HV hgr_ (fun k_ hk_ e_ => hk_.2.2 (by injection e_)); replace HB := HB2_; clear hb2_ HB2_ hgr_; have hqa_0 : wo_1.cell? ⟨ga, 0, none⟩ = some (.int .u64 a0_0) := (blk_cell hba 0).trans rfl; have hqa_1 : wo_1.cell? ⟨ga, 1, none⟩ = some (.slice A0_1 l0_1.length c0_1) := (blk_cell hba 1).trans rfl; have hqa_2 : wo_1.cell? ⟨ga, 2, none⟩ = some (.slice Av (l0_2.length + 1) cv) := (blk_cell hba 2).trans rfl; have hqo_0 : wo_1.cell? ⟨go, 0, none⟩ = some (.int .u64 a0_0) := (blk_cell hbo 0).trans rfl; have hqo_1 : wo_1.cell? ⟨go, 1, none⟩ = some (.slice A0_1 l0_1.length c0_1) := (blk_cell hbo 1).trans rfl; have hqo_2 : wo_1.cell? ⟨go, 2, none⟩ = some (.slice Av (l0_2.length + 1) cv) := (blk_cell hbo 2).trans rfl))
   refine bodyPost_ret (v := .agg #[.int .u64 a0_0, .slice A0_1 l0_1.length c0_1, .slice Av (l0_2.length + 1) cv]) (by simp [results, Try.results8, go_sem, hqo_0, hqo_1, hqo_2]) rfl ?_
   exact ⟨_, _, rfl, Kd.V_mk hc01 (Kd.F_mono (Kd.F_below F01.out HB) (fun _ h_ => .inl (.inl h_))), Kd.V_mono HV (fun _ h_ => h_.1), HB⟩
  ·skip
   refine Kd.N_lit_step k64 w.heap.size 64 ?hg (N' := 22) ?hd (xs := [(⟨a0_0, ⟨l1_0, l1_1⟩⟩ : S64)]) (inner := [.int .u64 a0_0, .slice A1_0 l1_0.length c1_0, .slice A1_1 l1_1.length c1_1]) (w0 := w) (ok := (fun k_ => ((P0_1_ k_ ∨ P0_2_ k_ ∨ P1_0_ k_ ∨ P1_1_ k_) ∨ w.heap.size ≤ k_) ∧ k_ ≠ ga ∧ k_ ≠ go)) (okp := (fun k_ => (P1_0_ k_ ∨ P1_1_ k_) ∧ k_ < w.heap.size)) ?hr ?hp (fun k_ hk => ⟨.inl (.inr (.inr hk.1)), by have := hk.2; omega, by have := hk.2; omega⟩) ⟨.inr HB1.size, by have := blk_lt hba; omega, by have := blk_lt hbo; omega⟩ HB1 HB1.size (by simp) ?_
   case hg => rfl
   case hd => rfl
   case hr => first | (go_simp; done) | (go_simp; rfl)
   case hp => exact Reps.c3 (k64_mkF _ (fun k_ => (P1_0_ k_ ∨ P1_1_ k_) ∧ k_ < w.heap.size) (⟨a0_0, ⟨l1_0, l1_1⟩⟩ : S64) hc10 (Kd.F_mono (Kd.F_below (Kd.F_bound F10.out) HB1) (fun _ h_ => ⟨Or.inl h_.1, h_.2⟩)) hc11 (Kd.F_mono (Kd.F_below (Kd.F_bound F11.out) HB1) (fun _ h_ => ⟨Or.inr h_.1, h_.2⟩))) (Reps.none _ _)
   intro vl wl HN hb hg_ hat_
   obtain ⟨Al, cl, el⟩ := Kd.N_slice HN
   subst el
   have HBl := hb
   have hbal := blk_grown hba hg_ (by simp)
   have hbql := blk_grown hbq hg_ (by simp)
   have hbol := blk_grown hbo hg_ (by simp)
   clear hba hbq hbo hb hg_ hat_ HB1
   have hba := hbal
   clear hbal
   have hbq := hbql
   clear hbql
   have hbo := hbol
   clear hbol
   have HB1 := HBl
   clear HBl
   refine hK.out _ _ ⟨(blk_cell hba 0).trans rfl, (blk_cell hba 2).trans rfl, (blk_cell hbq 0).trans rfl, (blk_cell hbq 1).trans rfl⟩ (fun hHeld => ?_)
   clear hK K
   refine norm_ (a' := ?_) ?_ ?_
   rotate_left
   ·show Act.put _ (some 22) _ = _
    simp only [Act.put, List.setIfInBounds_toArray, List.set_cons_zero, List.set_cons_succ, i64_w, i32_w]
    rfl
   refine one_ (i := 2) (N := some 17) #[true, true, true, true, true, true, true, true, false, false, false] rfl rfl (by kernel_rfl) (by decide) (fun K hK => ?_)
   refine goes_ Try.func25 (by kernel_rfl) rfl #[.slice A0_2 l0_2.length c0_2] (by rfl) rfl rfl (by first | rfl | kernel_rfl | simp [Act.eval]) ?_
   refine (Clip.same A0_2 l0_2.length c0_2 _ hc2 hm2).mono ?_
   rintro e w' ⟨rfl, rfl⟩
   refine ⟨_, rfl, ?_⟩
   refine hK.out _ _ ⟨(blk_cell hba 0).trans rfl, (blk_cell hba 2).trans rfl, (blk_cell hbq 0).trans rfl, (blk_cell hbq 1).trans rfl⟩ (fun hHeld => ?_)
   clear hK K
   refine norm_ (a' := ?_) ?_ ?_
   rotate_left
   ·show Act.put _ (some 17) _ = _
    simp only [Act.put, List.setIfInBounds_toArray, List.set_cons_zero, List.set_cons_succ, i64_w, i32_w]
    rfl
   refine one_ (i := 8) (N := some 23) #[true, true, true, true, true, true, true, true, true, false, false] rfl rfl (by kernel_rfl) (by decide) (fun K hK => ?_)
   refine V_append_full_step k64 (by rfl) (.tmp 17) (.tmp 22) 24 64 (.agg #[(.int .u64 0), (.slice none 0 0), (.slice none 0 0)]) 56 rfl Try.underlying24 HI.out rfl (by decide) (by omega) A0_2 l0_2.length l0_2.length l0_2 [(⟨a0_0, ⟨l1_0, l1_1⟩⟩ : S64)] Al 1 cl (fun k_ => ((P0_1_ k_ ∨ P0_2_ k_ ∨ P1_0_ k_ ∨ P1_1_ k_) ∨ w.heap.size ≤ k_) ∧ k_ ≠ ga ∧ k_ ≠ go) (fun k_ => P0_2_ k_ ∧ k_ < w.heap.size) (fun k_ => ((P0_1_ k_ ∨ P0_2_ k_ ∨ P1_0_ k_ ∨ P1_1_ k_) ∨ w.heap.size ≤ k_) ∧ k_ ≠ ga ∧ k_ ≠ go) (by rfl) (by rfl) rfl HA.out (Kd.F_below (Kd.F_bound F02.out) HB1) (Kd.N_F HN) (by omega) (fun k_ h_ => ⟨.inl (.inr (.inl h_.1)), by have := h_.2; omega, by have := h_.2; omega⟩) (fun k_ h_ => h_) (fun k_ h_ => ⟨.inr (Nat.le_trans HB1.size h_), by have := blk_lt hba; omega, by have := blk_lt hbo; omega⟩) HL.out ?_
   intro v1 w1 HN1 hg1 hat1
   replace hba := blk_grown hba hg1 (by simp)
   replace hbq := blk_grown hbq hg1 (by simp)
   replace hbo := blk_grown hbo hg1 (by simp)
   have HB2 := pw_below_grown HB1 none HB1.size hg1 (by simp)
   clear HB1
   have HB1 := HB2
   clear HB2
   obtain ⟨Av, cv, ev⟩ := Kd.N_slice HN1
   subst ev
   refine hK.out _ _ ⟨(blk_cell hba 0).trans rfl, (blk_cell hba 2).trans rfl, (blk_cell hbq 0).trans rfl, (blk_cell hbq 1).trans rfl⟩ (fun hHeld => ?_)
   clear hK K
   refine norm_ (a' := ?_) ?_ ?_
   rotate_left
   ·show Act.put _ (some 23) _ = _
    simp only [Act.put, List.setIfInBounds_toArray, List.set_cons_zero, List.set_cons_succ, i64_w, i32_w]
    rfl
   refine pure_ (i := 9) (N := some 24) (v := ?_) (a' := ?_) #[true, true, true, true, true, true, true, true, true, true, false] rfl rfl (by kernel_rfl) (fun _ _ _ h => h) (Or.inl ⟨by rfl, ?_⟩) ?_ ?_
   rotate_left
   ·intro w'
    go_simp
    with_reducible rfl
   rotate_left
   ·simp only [Act.put, List.setIfInBounds_toArray, List.set_cons_zero, List.set_cons_succ, i64_w, i32_w]
    rfl
   refine last_ (i := 10) (N := none) #[true, true, true, true, true, true, true, true, true, true, true] rfl rfl (by kernel_rfl) (by decide) (fun K hK => ?_)
   have hs_ := (blk_cell hba 2).trans rfl
   have hfs_ := blk_frozen hba 2
   refine skip_ (w1 := ?_) (by rfl) rfl ?_ ?_
   rotate_left
   ·go_simp
    rfl
   refine hK.out _ _ ?_
   clear hK K
   refine done_ (by kernel_rfl) ?_
   have HV := Kd.N_V (base' := w.heap.size) HN1
   rw [show (l0_2 ++ [(⟨a0_0, ⟨l1_0, l1_1⟩⟩ : S64)]).length = l0_2.length + 1 from by simp] at HV
   have HVs := Kd.V_far HV (p := ⟨ga, 2, none⟩) (fun k_ hk_ => hk_.2.1) (.slice Av (l0_2.length + 1) cv)
   have HB := below_set (j := 2) (v := .slice Av (l0_2.length + 1) cv) HB1 HGa
   have hbas := blk_set hba 2 (.slice Av (l0_2.length + 1) cv)
   have hbos := blk_far hbo (p := ⟨ga, 2, none⟩) HNo_a (.slice Av (l0_2.length + 1) cv)
   simp only [List.setIfInBounds_toArray, List.set_cons_zero, List.set_cons_succ] at hbas
   clear HV HN HN1 hba hbq hbo HB1 hHeld hg1 hat1 hs_ hfs_
   have HV := HVs
   have hba := hbas
   have hbo := hbos
   clear HVs hbas hbos
   generalize w1.setCell ⟨ga, 2, none⟩ (.slice Av (l0_2.length + 1) cv) = ws at HV HB hba hbo ⊢
   have hqa_0 : ws.cell? ⟨ga, 0, none⟩ = some (.int .u64 a0_0) := (blk_cell hba 0).trans rfl
   have hqa_1 : ws.cell? ⟨ga, 1, none⟩ = some (.slice A0_1 l0_1.length c0_1) := (blk_cell hba 1).trans rfl
   have hqa_2 : ws.cell? ⟨ga, 2, none⟩ = some (.slice Av (l0_2.length + 1) cv) := (blk_cell hba 2).trans rfl
   have hqo_0 : ws.cell? ⟨go, 0, none⟩ = some (.int .u64 0) := (blk_cell hbo 0).trans rfl
   have hqo_1 : ws.cell? ⟨go, 1, none⟩ = some (.slice none 0 0) := (blk_cell hbo 1).trans rfl
   have hqo_2 : ws.cell? ⟨go, 2, none⟩ = some (.slice none 0 0) := (blk_cell hbo 2).trans rfl
   go_wp2_with (first
  | ((with_reducible refine gate_ (.store 26 (.tmp 4) (.tmp 25)) rfl ?_); refine blk_store_all (w0 := w) (base := w.heap.size) (u := .agg #[.int .u64 a0_0, .slice A0_1 l0_1.length c0_1, .slice Av (l0_2.length + 1) cv]) (seg := [.int .u64 a0_0, .slice A0_1 l0_1.length c0_1, .slice Av (l0_2.length + 1) cv]) rfl rfl rfl rfl rfl rfl ?h1_ ?ht_ (by exact hbo) (by rfl) (by repeat (first | exact HB | apply below_alloc | apply pw_below_drewN | apply below_drew1)) HGo ?_; (case ht_ => kernel_rfl); (case h1_ => intro q_ hq_; simp only [List.mem_cons, List.not_mem_nil, or_false] at hq_; rcases hq_ with rfl | rfl | rfl <;> rfl); intro wo_1 hb2_ HB2_ hgr_; clear hqa_0 hqa_1 hqa_2; replace hba := blk_grown (by exact hba) hgr_ (fun e_ => by injection e_ with e_; exact HNo_a.symm e_); clear hqo_0 hqo_1 hqo_2; replace hbo := hb2_; replace HV := Kd.V_grown HV hgr_ (fun k_ hk_ e_ => hk_.2.2 (by injection e_)); replace HB := HB2_; clear hb2_ HB2_ hgr_; have hqa_0 : wo_1.cell? ⟨ga, 0, none⟩ = some (.int .u64 a0_0) := (blk_cell hba 0).trans rfl; have hqa_1 : wo_1.cell? ⟨ga, 1, none⟩ = some (.slice A0_1 l0_1.length c0_1) := (blk_cell hba 1).trans rfl; have hqa_2 : wo_1.cell? ⟨ga, 2, none⟩ = some (.slice Av (l0_2.length + 1) cv) := (blk_cell hba 2).trans rfl; have hqo_0 : wo_1.cell? ⟨go, 0, none⟩ = some (.int .u64 a0_0) := (blk_cell hbo 0).trans rfl; have hqo_1 : wo_1.cell? ⟨go, 1, none⟩ = some (.slice A0_1 l0_1.length c0_1) := (blk_cell hbo 1).trans rfl; have hqo_2 : wo_1.cell? ⟨go, 2, none⟩ = some (.slice Av (l0_2.length + 1) cv) := (blk_cell hbo 2).trans rfl))
   refine bodyPost_ret (v := .agg #[.int .u64 a0_0, .slice A0_1 l0_1.length c0_1, .slice Av (l0_2.length + 1) cv]) (by simp [results, Try.results8, go_sem, hqo_0, hqo_1, hqo_2]) rfl ?_
   exact ⟨_, _, rfl, Kd.V_mk hc01 (Kd.F_mono (Kd.F_below F01.out HB) (fun _ h_ => .inl (.inl h_))), Kd.V_mono HV (fun _ h_ => h_.1), HB⟩
set_option maxHeartbeats 3200000 in
set_option maxRecDepth 100000 in
theorem epoch_Retire_none (a0_0 : Int) (P0_1_ : Nat → Prop) (A0_1 : Option Addr) (c0_1 : Nat) (l0_1 : List Int) (P0_2_ : Nat → Prop) (A0_2 : Option Addr) (c0_2 : Nat) (l0_2 : List S64) (P1_0_ : Nat → Prop) (A1_0 : Option Addr) (c1_0 : Nat) (l1_0 : List Int) (P1_1_ : Nat → Prop) (A1_1 : Option Addr) (c1_1 : Nat) (l1_1 : List Int) (w : World) (hs0_1 : Kd.V (Kd.int .u64) 22 w w.heap.size (fun k_ => P0_1_ k_) (.slice A0_1 l0_1.length c0_1) l0_1) (hs0_2 : Kd.V k64 64 w w.heap.size (fun k_ => P0_2_ k_) (.slice A0_2 l0_2.length c0_2) l0_2) (hs1_0 : Kd.V (Kd.int .u64) 22 w w.heap.size (fun k_ => P1_0_ k_) (.slice A1_0 l1_0.length c1_0) l1_0) (hs1_1 : Kd.V (Kd.int .u64) 22 w w.heap.size (fun k_ => P1_1_ k_) (.slice A1_1 l1_1.length c1_1) l1_1) (h1 : l1_0.length = 0) (h2 : l1_1.length = 0) :
  Calls Try.prog 8 #[.agg #[.int .u64 a0_0, .slice A0_1 l0_1.length c0_1, .slice A0_2 l0_2.length c0_2], .agg #[.slice A1_0 l1_0.length c1_0, .slice A1_1 l1_1.length c1_1]] w fun e w' => ∃ v1_ v2_ : Value, e = .returned (.agg #[.int .u64 a0_0, v1_, v2_]) ∧ Kd.V (Kd.int .u64) 22 w' w.heap.size (fun k_ => ((P0_1_ k_ ∨ P0_2_ k_ ∨ P1_0_ k_ ∨ P1_1_ k_) ∨ w.heap.size ≤ k_)) v1_ l0_1 ∧ Kd.V k64 64 w' w.heap.size (fun k_ => ((P0_1_ k_ ∨ P0_2_ k_ ∨ P1_0_ k_ ∨ P1_1_ k_) ∨ w.heap.size ≤ k_)) v2_ l0_2 ∧ Below w.heap.size w w' := by
 have hu := Try.underlying26
 have hu2 := Try.underlying30
 have HB := Below.refl w.heap.size w
 have H01 := aA hs0_1
 have H02 := aA hs0_2
 have hc2 := (Kd.V_at hs0_2).2.1
 clear hs0_1 hs0_2 hs1_0 hs1_1
 go_enter Try.func8, Try.ntmps8
 go_wp2_with (first
  | ((with_reducible refine gate_dst (N := 2) rfl ?_); (with_reducible refine gate_ (.box 26 (.tmp 0)) rfl ?_); refine box_event (N := 2) rfl rfl (cs := #[.int .u64 a0_0, .slice A0_1 l0_1.length c0_1, .slice A0_2 l0_2.length c0_2]) (t := 26) (by first | (go_simp; done) | (go_simp; rfl)) ?_; intro ga hg_ wa_ hba hbl_; have HGa : w.heap.size ≤ ga := (by rw [hg_]; exact Nat.le_trans (by first | exact Nat.le_refl _ | exact HB.size) (Nat.le_refl _)); replace HB := below_step (by repeat (first | exact HB | apply below_alloc | apply pw_below_drewN | apply below_drew1)) hbl_; clear hg_ hbl_; have hqa_0 : wa_.cell? ⟨ga, 0, none⟩ = some (.int .u64 a0_0) := (blk_cell hba 0).trans rfl; have hqa_1 : wa_.cell? ⟨ga, 1, none⟩ = some (.slice A0_1 l0_1.length c0_1) := (blk_cell hba 1).trans rfl; have hqa_2 : wa_.cell? ⟨ga, 2, none⟩ = some (.slice A0_2 l0_2.length c0_2) := (blk_cell hba 2).trans rfl)
  | ((with_reducible refine gate_dst (N := 3) rfl ?_); (with_reducible refine gate_ (.box 30 (.tmp 1)) rfl ?_); refine box_event (N := 3) rfl rfl (cs := #[.slice A1_0 l1_0.length c1_0, .slice A1_1 l1_1.length c1_1]) (t := 30) (by first | (go_simp; done) | (go_simp; rfl)) ?_; intro gq hg_ wq_ hbq hbl_; have HGq : w.heap.size ≤ gq := (by rw [hg_]; exact Nat.le_trans (by first | exact Nat.le_refl _ | exact HB.size) (Nat.le_refl _)); have HNq_a : gq ≠ ga := (by rw [hg_]; exact Nat.ne_of_gt (blk_lt (by exact hba))); clear hqa_0 hqa_1 hqa_2; replace hba := blk_below (by exact hba) hbl_; have hqa_0 : wq_.cell? ⟨ga, 0, none⟩ = some (.int .u64 a0_0) := (blk_cell hba 0).trans rfl; have hqa_1 : wq_.cell? ⟨ga, 1, none⟩ = some (.slice A0_1 l0_1.length c0_1) := (blk_cell hba 1).trans rfl; have hqa_2 : wq_.cell? ⟨ga, 2, none⟩ = some (.slice A0_2 l0_2.length c0_2) := (blk_cell hba 2).trans rfl; replace HB := below_step (by repeat (first | exact HB | apply below_alloc | apply pw_below_drewN | apply below_drew1)) hbl_; clear hg_ hbl_; have hqq_0 : wq_.cell? ⟨gq, 0, none⟩ = some (.slice A1_0 l1_0.length c1_0) := (blk_cell hbq 0).trans rfl; have hqq_1 : wq_.cell? ⟨gq, 1, none⟩ = some (.slice A1_1 l1_1.length c1_1) := (blk_cell hbq 1).trans rfl)
  | ((with_reducible refine gate_dst (N := 4) rfl ?_); (with_reducible refine gate_ (.alloc 26) rfl ?_); refine box_event (N := 4) rfl rfl (cs := #[.int .u64 0, .slice none 0 0, .slice none 0 0]) (t := 26) (by first | (go_simp; done) | (go_simp; rfl)) ?_; intro go hg_ wo_ hbo hbl_; have HGo : w.heap.size ≤ go := (by rw [hg_]; exact Nat.le_trans (by first | exact Nat.le_refl _ | exact HB.size) (Nat.le_refl _)); have HNo_a : go ≠ ga := (by rw [hg_]; exact Nat.ne_of_gt (blk_lt (by exact hba))); have HNo_q : go ≠ gq := (by rw [hg_]; exact Nat.ne_of_gt (blk_lt (by exact hbq))); clear hqa_0 hqa_1 hqa_2; replace hba := blk_below (by exact hba) hbl_; have hqa_0 : wo_.cell? ⟨ga, 0, none⟩ = some (.int .u64 a0_0) := (blk_cell hba 0).trans rfl; have hqa_1 : wo_.cell? ⟨ga, 1, none⟩ = some (.slice A0_1 l0_1.length c0_1) := (blk_cell hba 1).trans rfl; have hqa_2 : wo_.cell? ⟨ga, 2, none⟩ = some (.slice A0_2 l0_2.length c0_2) := (blk_cell hba 2).trans rfl; clear hqq_0 hqq_1; replace hbq := blk_below (by exact hbq) hbl_; have hqq_0 : wo_.cell? ⟨gq, 0, none⟩ = some (.slice A1_0 l1_0.length c1_0) := (blk_cell hbq 0).trans rfl; have hqq_1 : wo_.cell? ⟨gq, 1, none⟩ = some (.slice A1_1 l1_1.length c1_1) := (blk_cell hbq 1).trans rfl; replace HB := below_step (by repeat (first | exact HB | apply below_alloc | apply pw_below_drewN | apply below_drew1)) hbl_; clear hg_ hbl_; have hqo_0 : wo_.cell? ⟨go, 0, none⟩ = some (.int .u64 0) := (blk_cell hbo 0).trans rfl; have hqo_1 : wo_.cell? ⟨go, 1, none⟩ = some (.slice none 0 0) := (blk_cell hbo 1).trans rfl; have hqo_2 : wo_.cell? ⟨go, 2, none⟩ = some (.slice none 0 0) := (blk_cell hbo 2).trans rfl)
  | ((with_reducible refine gate_ (.store 26 (.tmp 4) (.tmp 25)) rfl ?_); refine blk_store_all (w0 := w) (base := w.heap.size) (u := .agg #[.int .u64 a0_0, .slice A0_1 l0_1.length c0_1, .slice A0_2 l0_2.length c0_2]) (seg := [.int .u64 a0_0, .slice A0_1 l0_1.length c0_1, .slice A0_2 l0_2.length c0_2]) rfl rfl rfl rfl rfl rfl ?h1_ ?ht_ (by exact hbo) (by rfl) (by repeat (first | exact HB | apply below_alloc | apply pw_below_drewN | apply below_drew1)) HGo ?_; (case ht_ => kernel_rfl); (case h1_ => intro q_ hq_; simp only [List.mem_cons, List.not_mem_nil, or_false] at hq_; rcases hq_ with rfl | rfl | rfl <;> rfl); intro wo_4 hb2_ HB2_ hgr_; clear hqa_0 hqa_1 hqa_2; replace hba := blk_grown (by exact hba) hgr_ (fun e_ => by injection e_ with e_; exact HNo_a.symm e_); clear hqq_0 hqq_1; replace hbq := blk_grown (by exact hbq) hgr_ (fun e_ => by injection e_ with e_; exact HNo_q.symm e_); clear hqo_0 hqo_1 hqo_2; replace hbo := hb2_; replace HB := HB2_; clear hb2_ HB2_ hgr_; have hqa_0 : wo_4.cell? ⟨ga, 0, none⟩ = some (.int .u64 a0_0) := (blk_cell hba 0).trans rfl; have hqa_1 : wo_4.cell? ⟨ga, 1, none⟩ = some (.slice A0_1 l0_1.length c0_1) := (blk_cell hba 1).trans rfl; have hqa_2 : wo_4.cell? ⟨ga, 2, none⟩ = some (.slice A0_2 l0_2.length c0_2) := (blk_cell hba 2).trans rfl; have hqq_0 : wo_4.cell? ⟨gq, 0, none⟩ = some (.slice A1_0 l1_0.length c1_0) := (blk_cell hbq 0).trans rfl; have hqq_1 : wo_4.cell? ⟨gq, 1, none⟩ = some (.slice A1_1 l1_1.length c1_1) := (blk_cell hbq 1).trans rfl; have hqo_0 : wo_4.cell? ⟨go, 0, none⟩ = some (.int .u64 a0_0) := (blk_cell hbo 0).trans rfl; have hqo_1 : wo_4.cell? ⟨go, 1, none⟩ = some (.slice A0_1 l0_1.length c0_1) := (blk_cell hbo 1).trans rfl; have hqo_2 : wo_4.cell? ⟨go, 2, none⟩ = some (.slice A0_2 l0_2.length c0_2) := (blk_cell hbo 2).trans rfl))
 refine bodyPost_ret (v := .agg #[.int .u64 a0_0, .slice A0_1 l0_1.length c0_1, .slice A0_2 l0_2.length c0_2]) (by simp [results, Try.results8, go_sem, hqo_0, hqo_1, hqo_2]) rfl ?_
 exact ⟨_, _, rfl, V_below H01.out HB (fun _ h_ => .inl (.inl h_)), V_below H02.out HB (fun _ h_ => .inl (.inr (.inl h_))), HB⟩
def epoch_Retire.f (a0_0 : Int) (l0_1 : List Int) (l0_2 : List S64) (l1_0 : List Int) (l1_1 : List Int) : Option (Int × List Int × List S64) :=
 if l1_0.length = 0 ∧ l1_1.length = 0 then some (a0_0, l0_1, l0_2) else if (l0_2.length + 1) * 56 ≤ 140737488355328 then some (a0_0, l0_1, l0_2 ++ [(⟨a0_0, ⟨l1_0, l1_1⟩⟩ : S64)]) else none
theorem epoch_Retire.calls (a0_0 : Int) (P0_1_ : Nat → Prop) (A0_1 : Option Addr) (c0_1 : Nat) (l0_1 : List Int) (P0_2_ : Nat → Prop) (A0_2 : Option Addr) (c0_2 : Nat) (l0_2 : List S64) (P1_0_ : Nat → Prop) (A1_0 : Option Addr) (c1_0 : Nat) (l1_0 : List Int) (P1_1_ : Nat → Prop) (A1_1 : Option Addr) (c1_1 : Nat) (l1_1 : List Int) (r1 : Int) (r2 : List Int) (r3 : List S64) (w : World) (hs0_1 : Kd.V (Kd.int .u64) 22 w w.heap.size (fun k_ => P0_1_ k_) (.slice A0_1 l0_1.length c0_1) l0_1) (hs0_2 : Kd.V k64 64 w w.heap.size (fun k_ => P0_2_ k_) (.slice A0_2 l0_2.length c0_2) l0_2) (hs1_0 : Kd.V (Kd.int .u64) 22 w w.heap.size (fun k_ => P1_0_ k_) (.slice A1_0 l1_0.length c1_0) l1_0) (hs1_1 : Kd.V (Kd.int .u64) 22 w w.heap.size (fun k_ => P1_1_ k_) (.slice A1_1 l1_1.length c1_1) l1_1) (h : epoch_Retire.f a0_0 l0_1 l0_2 l1_0 l1_1 = some (r1, r2, r3)) :
  Calls Try.prog 8 #[.agg #[.int .u64 a0_0, .slice A0_1 l0_1.length c0_1, .slice A0_2 l0_2.length c0_2], .agg #[.slice A1_0 l1_0.length c1_0, .slice A1_1 l1_1.length c1_1]] w fun e w' => ∃ v1_ v2_ : Value, e = .returned (.agg #[.int .u64 r1, v1_, v2_]) ∧ Kd.V (Kd.int .u64) 22 w' w.heap.size (fun k_ => ((P0_1_ k_ ∨ P0_2_ k_ ∨ P1_0_ k_ ∨ P1_1_ k_) ∨ w.heap.size ≤ k_)) v1_ r2 ∧ Kd.V k64 64 w' w.heap.size (fun k_ => ((P0_1_ k_ ∨ P0_2_ k_ ∨ P1_0_ k_ ∨ P1_1_ k_) ∨ w.heap.size ≤ k_)) v2_ r3 ∧ Below w.heap.size w w' := by
 unfold epoch_Retire.f at h
 split at h
 ·rename_i h1
  injection h with h; injection h with e1 e2; injection e2 with e2 e3
  subst e1 e2 e3
  exact epoch_Retire_none a0_0 P0_1_ A0_1 c0_1 l0_1 P0_2_ A0_2 c0_2 l0_2 P1_0_ A1_0 c1_0 l1_0 P1_1_ A1_1 c1_1 l1_1 w hs0_1 hs0_2 hs1_0 hs1_1 h1.1 h1.2
 ·rename_i h1
  split at h
  ·rename_i h2
   injection h with h; injection h with e1 e2; injection e2 with e2 e3
   subst e1 e2 e3
   exact epoch_Retire_some a0_0 P0_1_ A0_1 c0_1 l0_1 P0_2_ A0_2 c0_2 l0_2 P1_0_ A1_0 c1_0 l1_0 P1_1_ A1_1 c1_1 l1_1 w hs0_1 hs0_2 hs1_0 hs1_1 h2 (by omega)
  ·cases h

def epoch_New.f (a0 : Int) : Option (Int × List Int × (List (S64))) := if 0 ≤ (mx 0 (mn a0 4)) then (if (mx 0 (mn a0 4) : Int).toNat ≤ 35184372088832 then (some (0, (List.replicate (mx 0 (mn a0 4) : Int).toNat 0), ([] : List (S64)))) else (none)) else (none)
set_option maxHeartbeats 8000000 in
set_option maxRecDepth 100000 in
theorem epoch_New.calls0 (a0 : Int) (r1 : Int) (r2 : List Int) (r3 : List (S64)) (w : World) (h : epoch_New.f a0 = some (r1, r2, r3)) :
  Calls Try.prog 9 #[.int .i64 a0] w fun e w' => ∃ v1_ v2_ : Value, e = .returned (.agg #[.int .u64 r1, v1_, v2_]) ∧ Kd.R (Kd.int .u64) 22 w' w.heap.size (fun _ => True) v1_ r2 ∧ Kd.S k64 64 w' w.heap.size (fun k_ => some k_ ≠ (v1_ : Value).ownBlock) v2_ r3 ∧ Below w.heap.size w w' := by
 have hu26 := Try.underlying26
 have HB := aA (Below.refl w.heap.size w)
 have H : (if 0 ≤ (mx 0 (mn a0 4)) then (if (mx 0 (mn a0 4) : Int).toNat ≤ 35184372088832 then (some (0, (List.replicate (mx 0 (mn a0 4) : Int).toNat 0), ([] : List (S64)))) else (none)) else (none)) = some (r1, r2, r3) := h
 clear h
 obtain ⟨ji2, hji2⟩ : ∃ j_ : Int, (mn a0 4) = j_ := ⟨_, rfl⟩
 replace H : (if 0 ≤ (mx 0 (ji2)) then (if (mx 0 (ji2) : Int).toNat ≤ 35184372088832 then (some (0, (List.replicate (mx 0 (ji2) : Int).toNat 0), ([] : List (S64)))) else (none)) else (none)) = some (r1, r2, r3) := by first | (rw [hji2] at H; exact H) | (simp only [hji2] at H ⊢; exact H)
 (try (have hji2h : ji2 ≤ 4 := by (rw [← hji2]; unfold mn; (repeat' split) <;> omega)))
 (try (have hji2g : ji2 ≤ 64 := by omega))
 have hji2_ : (if 4 < a0 then 4 else a0) = ji2 := hji2
 obtain ⟨ji3, hji3⟩ : ∃ j_ : Int, (mx 0 (ji2)) = j_ := ⟨_, rfl⟩
 replace H : (if 0 ≤ (ji3) then (if (ji3 : Int).toNat ≤ 35184372088832 then (some (0, (List.replicate (ji3 : Int).toNat 0), ([] : List (S64)))) else (none)) else (none)) = some (r1, r2, r3) := by first | (rw [hji3] at H; exact H) | (simp only [hji3] at H ⊢; exact H)
 have hji3_ : (if 0 < (ji2) then (ji2) else 0) = ji3 := hji3
 by_cases c4 : 0 ≤ (ji3)
 ·rw [if_pos c4] at H
  have c4b0 := eq_true c4
  have c4b1 : decide (0 ≤ (ji3)) = true := decide_eq_true c4
  clear c4
  by_cases c5 : (ji3 : Int).toNat ≤ 35184372088832
  ·rw [if_pos c5] at H
   have c5b0 := eq_true c5
   have c5b1 : decide ((ji3 : Int).toNat ≤ 35184372088832) = true := decide_eq_true c5
   clear c5
   obtain ⟨y102, hy102⟩ : ∃ y_ : List Int, y_ = (List.replicate (ji3 : Int).toNat 0) := ⟨_, rfl⟩
   replace H : (some (0, y102, ([] : List (S64)))) = some (r1, r2, r3) := by first | (rw [hy102]; with_reducible exact H) | (have H2_ := (Option.bind_some _ _).symm.trans H; rw [hy102]; with_reducible exact H2_) | (have H2_ := (Option.bind_some _ _).symm.trans H; with_reducible exact H2_) | with_reducible exact H | (rw [hy102]; exact H) | exact H
   have Ny102 := aA hy102
   clear hy102
   simp only [Option.some.injEq, Prod.mk.injEq] at H
   obtain ⟨rfl, rfl, rfl⟩ := H
   go_enter Try.func9, Try.ntmps9
   go_wp2_with (first | ((with_reducible refine gate_dst (N := 2) rfl ?_); refine box_event ?hg (N := 2) ?hd (cs := #[.int .u64 0, .slice none 0 0, .slice none 0 0]) (t := 26) ?hr ?_; (case hd => rfl); (case hg => rfl); (case hr => first | (go_simp; done) | (go_simp; rfl)); intro gb101 hg w6 hbox hb; have n0_ := aA (below_step (blw HB.out) hb); have n1_ := aA (hbox); have n2_ := aA ((by rw [hg]; exact (below_size (blw HB.out)) : w.heap.size ≤ gb101)); have n3_ := aA ((by rw [hg]; exact (below_size (blw HB.out)) : w.heap.size ≤ gb101)); clear HB; have HB := n0_; have BK101 := n1_; have GW101 := n2_; have GE101 := n3_; clear n0_ n1_ n2_ n3_ hb hbox hg) | ((with_reducible refine gate_dst (N := 6) rfl ?_); refine Kd.R_make (Kd.int .u64) _ 22 rfl (N := 6) rfl 23 _ _ rfl ji3 rfl rfl Try.underlying23 (.int .u64 0) 8 info22 rfl (by decide) (by omega) 0 (ok := fun _ => True) (okp := fun _ => True) rfl (fun _ hk => hk) trivial (of_decide_eq_true (by first | (with_reducible assumption) | assumption)) (Nat.le_trans (Nat.mul_le_mul_right _ (of_decide_eq_true (by first | (with_reducible assumption) | assumption) : ji3.toNat ≤ 35184372088832)) (by omega)) (Below.refl _ _) (Nat.le_refl _) ?_; intro v103 w7 ho8 hb hg_ hnew_; clear hg_ hnew_; (first | rw [← Ny102.out] at ho8 | (simp only [Int.reduceToNat] at ho8; rw [← Ny102.out] at ho8)); have n0_ := aA (Kd.R_lower ho8 (below_size (bls HB.out))); have n1_ := aA (blk_below (g := gb101) (o := .cells #[.int .u64 0, .slice none 0 0, .slice none 0 0] 26 (0, 0)) (bku BK101.out) hb); have n2_ := aA (below_step (bls HB.out) hb); clear BK101 HB; have HO104 := n0_; have BK101 := n1_; have HB := n2_; clear n0_ n1_ n2_ hb ho8; obtain ⟨Ao9, co9, eo9⟩ := Kd.R_slice HO104.out; subst eo9; have hcz10_0 : w7.cell? ⟨gb101, 0, none⟩ = some (.int .u64 0) := (blk_cell BK101.out 0).trans rfl; have hcz10_1 : w7.cell? ⟨gb101, 1, none⟩ = some (.slice none 0 0) := (blk_cell BK101.out 1).trans rfl; have hcz10_2 : w7.cell? ⟨gb101, 2, none⟩ = some (.slice none 0 0) := (blk_cell BK101.out 2).trans rfl; have hfz10_0 := blk_frozen BK101.out 0; have hfz10_1 := blk_frozen BK101.out 1; have hfz10_2 := blk_frozen BK101.out 2))
   refine bodyPost_ret (results_cell_row rfl _ _ gb101 26 #[.int .u64 0, .slice Ao9 y102.length co9, .slice none 0 0] (0, 0) _ rfl (by refine bku ?_; refine blk_put (cs := #[.int .u64 0, .slice Ao9 y102.length co9, .slice none 0 0]) ?_ 2 _ rfl; refine bku ?_; refine blk_put (cs := #[.int .u64 0, .slice none 0 0, .slice none 0 0]) ?_ 1 _ rfl; refine bku ?_; refine blk_put (cs := #[.int .u64 0, .slice none 0 0, .slice none 0 0]) ?_ 0 _ rfl; refine bku ?_; exact BK101.out) Try.underlying26 rfl (by kernel_rfl)) rfl ?_
   exact ⟨_, _, by first | rfl | (simp [errW_none, errW_some] <;> rfl) | (simp only [← hji2, ← hji3]; first | rfl | (simp [errW_none, errW_some] <;> rfl)) | (simp [*, errW_none, errW_some] <;> rfl), by (with_reducible repeat (first | apply Kd.R_alloc | apply Kd.R_drewN | apply Kd.R_drew)); exact Kd.R_mono (Kd.R_far (p := ⟨gb101, 2, none⟩) (Kd.R_far (p := ⟨gb101, 1, none⟩) (Kd.R_far (p := ⟨gb101, 0, none⟩) (Kd.R_types HO104.out BK101.out (by decide)) (fun _ hk => hk.2) (.int .u64 0)) (fun _ hk => hk.2) (.slice Ao9 y102.length co9)) (fun _ hk => hk.2) (.slice none 0 0)) (fun _ hk => trivial), by first | exact Kd.S_nil _ _ _ _ _ | exact Kd.N_nil _ _ _ _ _ | exact Kd.V_nil _ _ _ _ _ | exact Kd.Q_nil _ _ _ _ _ | exact Kd.R_nil _ _ _ _ _, by repeat (first | (with_reducible first | exact HB.out | apply below_alloc | apply pw_below_drewN | apply below_drew1 | refine below_set ?_ GE101.out) | exact HB.out)⟩
  ·rw [if_neg c5] at H
   exact absurd H (by simp)
 ·rw [if_neg c4] at H
  exact absurd H (by simp)



theorem epoch_New.calls (a0 : Int) (r1 : Int) (r2 : List Int) (r3 : List (S64)) (w : World) (h : epoch_New.f a0 = some (r1, r2, r3)) :
  Calls Try.prog 9 #[.int .i64 a0] w fun e w' => ∃ v1_ v2_ : Value, e = .returned (.agg #[.int .u64 r1, v1_, v2_]) ∧ Kd.V (Kd.int .u64) 22 w' w.heap.size (fun k_ => (w.heap.size ≤ k_)) v1_ r2 ∧ Kd.V k64 64 w' w.heap.size (fun k_ => (w.heap.size ≤ k_)) v2_ r3 ∧ Below w.heap.size w w' := by
 refine (epoch_New.calls0 a0 r1 r2 r3 w h).mono ?_
 rintro e w' ⟨v1, v2, he, h1, h2, hb⟩
 have hr3 : r3 = [] := by
  unfold epoch_New.f at h
  split at h
  ·split at h
   ·simp only [Option.some.injEq, Prod.mk.injEq] at h
    exact h.2.2.symm
   ·cases h
  ·cases h
 subst hr3
 refine ⟨v1, v2, he, Kd.V_mono (Kd.R_V (Kd.R_tight rfl h1)) (fun k_ hk_ => Kd.R_base h1 k_ hk_.symm), ?_, hb⟩
 obtain ⟨A, c, e_⟩ := Kd.V_slice (Kd.S_V (base' := 0) h2)
 exact ⟨A, c, e_, Nat.zero_le _, fun W' _ => ⟨rfl, Nat.zero_le _, fun hp => absurd hp (Nat.lt_irrefl _)⟩⟩

-- NOT PRINTED: function 32 (slices_IndexFunc_uint64_uint64)

-- NOT PRINTED: function 30 (slices_ContainsFunc_uint64_uint64)

theorem take_all_succ {l : List Int} {p : Int → Bool} {k : Nat} (h : k < l.length) : (l.take (k + 1)).all p = ((l.take k).all p && p (l.getD k 0)) := by
 rw [List.take_add_one, List.all_append, List.getElem?_eq_getElem h, List.getD_eq_getElem?_getD, List.getElem?_eq_getElem h]
 simp
theorem rd_mem {l : List Int} {k : Nat} (h : k < l.length) : rd l k ∈ l := by
 unfold rd
 rw [Int.toNat_natCast, List.getD_eq_getElem?_getD, List.getElem?_eq_getElem h]
 exact List.getElem_mem h
/-- Does this pin let the epoch move? -/
def pinMay (now p : Int) : Bool := p == 0 || IntKind.u64.wrap (p - 1) == now
def epoch_May.f (a0_0 : Int) (l0_1 : List Int) (l0_2 : List S64) : Option Bool := some (l0_1.all (pinMay a0_0))
set_option maxHeartbeats 800000 in
set_option maxRecDepth 100000 in
theorem epoch_May.calls (a0_0 : Int) (A0_1 : Option Addr) (c0_1 : Nat) (l0_1 : List Int) (A0_2 : Option Addr) (c0_2 : Nat) (l0_2 : List S64) (r : Bool) (w : World) (hr0_1 : Kd.C (Kd.int .u64) w A0_1 l0_1.length l0_1) (hc0_1 : l0_1.length ≤ c0_1) (hr0_2 : Kd.C k64 w A0_2 l0_2.length l0_2) (hc0_2 : l0_2.length ≤ c0_2) (h : epoch_May.f a0_0 l0_1 l0_2 = some r) :
  Calls Try.prog 23 #[.agg #[.int .u64 a0_0, .slice A0_1 l0_1.length c0_1, .slice A0_2 l0_2.length c0_2]] w fun e w' => e = .returned (.bool r) ∧ Below w.heap.size w w' := by
 have hu := Try.underlying26
 have HR := aA hr0_1
 have HC := aA hc0_1
 clear hr0_1 hc0_1 hr0_2 hc0_2
 have hmf : ∀ (fn : Fn) (first cap : Array Value) (w : World), (Instr.makeFunc fn first cap).run Try.prog w = .ok (.func fn first cap) w := fun _ _ _ _ => rfl
 go_enter Try.func23, Try.ntmps23
 go_wp2_with (first | ((with_reducible refine gate_dst (N := 1) rfl ?_); refine box_event (N := 1) rfl rfl (cs := #[.int .u64 a0_0, .slice A0_1 l0_1.length c0_1, .slice A0_2 l0_2.length c0_2]) (t := 26) (by first | (go_simp; done) | (go_simp; rfl)) ?_; intro g hg w1 hb HB; have HG := Nat.le_of_eq hg.symm; clear hg; have hq0 : w1.cell? ⟨g, 0, none⟩ = some (.int .u64 a0_0) := (blk_cell hb 0).trans rfl; have hq1 : w1.cell? ⟨g, 1, none⟩ = some (.slice A0_1 l0_1.length c0_1) := (blk_cell hb 1).trans rfl))
 go_wp2
 go_loop [8] (fun i => ∃ k : Nat, k ≤ l0_1.length ∧ i = .int .i64 k ∧ (l0_1.take k).all (pinMay a0_0) = true) (fun i => l0_1.length - (intOf i).toNat)
 case atStart => exact ⟨0, Nat.zero_le _, rfl, rfl⟩
 case round =>
  obtain ⟨k, hk, rfl, hall⟩ := hrel
  have Hall := aA hall
  clear hall
  by_cases hlt : k < l0_1.length
  ·obtain ⟨ad, rfl, hx⟩ := Kd.at_int HR.out (k : Int) (by omega) (by omega)
   replace hx := (HB.cell (World.block_lt_of_cell? w _ hx)).trans hx
   rw [Int.toNat_natCast] at hx
   have hm := HR.out.2.1
   obtain ⟨x, hxe⟩ : ∃ x, x = rd l0_1 k := ⟨_, rfl⟩
   rw [← hxe] at hx
   have Hx := aA hxe
   clear hxe
   by_cases hp : x = 0
   ·have hp1 : (x != 0) = false := by simpa using hp
    have hp0 := aA hp
    clear hp
    go_wp2
    go_round
    case rel => exact ⟨k + 1, by omega, by go_num, by rw [take_all_succ hlt, Hall.out]; rw [show l0_1.getD k 0 = x from Hx.out.symm, hp0.out]; rfl⟩
    case measure => simp [intOf]; omega
   ·have hp1 : (x != 0) = true := by simpa using hp
    by_cases hn : IntKind.u64.wrap (x - 1) = a0_0
    ·have hn1 : (IntKind.u64.wrap (x - 1) != a0_0) = false := by simpa using hn
     have hn0 := aA hn
     clear hn
     go_wp2
     go_round
     case rel => exact ⟨k + 1, by omega, by go_num, by rw [take_all_succ hlt, Hall.out]; rw [show l0_1.getD k 0 = x from Hx.out.symm]; simp [pinMay, hn0.out]⟩
     case measure => simp [intOf]; omega
    ·have hn1 : (IntKind.u64.wrap (x - 1) != a0_0) = true := by simpa using hn
     have hf : l0_1.all (pinMay a0_0) = false := by
      rw [List.all_eq_false]
      exact ⟨x, by rw [Hx.out]; exact rd_mem hlt, by simp [pinMay, hp, hn]⟩
     have Hf := aA hf
     clear hf hp hn
     go_wp2
     go_ret
     refine ⟨?_, HB⟩
     have h2 := Option.some.inj h
     rw [Hf.out] at h2
     rw [← h2]; rfl
  ·have hall : l0_1.all (pinMay a0_0) = true := by rw [← Hall.out, List.take_of_length_le (by omega)]
   have Hf := aA hall
   clear hall
   go_wp2
   go_ret
   refine ⟨?_, HB⟩
   have h2 := Option.some.inj h
   rw [Hf.out] at h2
   rw [← h2]; rfl

end Go.Proofs.Ytjnfllaonkeefaa.PE
