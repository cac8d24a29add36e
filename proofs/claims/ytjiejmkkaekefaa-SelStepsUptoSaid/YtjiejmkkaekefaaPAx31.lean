-- Cut out of texts of wip/hprint/hprint.py
import Derived.Test.YtjiejmkkaekefaaPAx0
import Derived.Test.YtjiejmkkaekefaaPAx15
namespace Go.Proofs.Ytjiejmkkaekefaa.PA
open Go.RowKit Go.Proofs.YtjiejmkkaekefaaW.PrintWords Go.Proofs.YtjiejmkkaekefaaW.PrintLast Go.Proofs.YtjiejmkkaekefaaW.PrintMore
attribute [local go_sem] max2_int min2_int max_two min_two max_three min_three max_four min_four   -- for this text's walks alone
open Go.Proofs.YtjiejmkkaekefaaH
set_option linter.unusedVariables false
set_option linter.unusedSimpArgs false
/-! ### treillagelaw09_its: function 14 -/
mutual
def treillagelaw09_its.l0 : Nat → List (List (S46)) → List (List (S61)) → Int → Option ((List (List (S61))))
 | 0, _, _, _ => none
 | k + 1, x0, x3, x4 => if x4 < (x0.length : Int) then (treillagelaw09_its.l1 k x0 x3 x4 (([] : List (S61))) 0) else (some x3)
def treillagelaw09_its.l1 : Nat → List (List (S46)) → List (List (S61)) → Int → List (S61) → Int → Option ((List (List (S61))))
 | 0, _, _, _, _, _ => none
 | k + 1, x0, x3, x4, x5, x6 => if 0 ≤ x4 then (if x4 < (x0.length : Int) then (if x6 < ((rd_L6 x0 x4).length : Int) then (if 0 ≤ x6 then (treillagelaw09_its.l2 k x0 x3 x4 x5 x6 0 ([] : List (S62)) ((rd_T46 (rd_L6 x0 x4) x6).f1)) else (none)) else (if x3.length < 5864062014805 then (treillagelaw09_its.l0 k x0 (x3 ++ [x5]) (wrap64 (x4 + 1))) else (none))) else (none)) else (none)
def treillagelaw09_its.l2 : Nat → List (List (S46)) → List (List (S61)) → Int → List (S61) → Int → Int → List (S62) → Bool → Option ((List (List (S61))))
 | 0, _, _, _, _, _, _, _, _ => none
 | k + 1, x0, x3, x4, x5, x6, x8, x470000, x470001 => if 0 ≤ x4 then (if x4 < (x0.length : Int) then (if 0 ≤ x6 then (if x6 < ((rd_L6 x0 x4).length : Int) then (if x8 < (((rd_T46 (rd_L6 x0 x4) x6).f0).length : Int) then (if 0 ≤ x8 then (if x470000.length < 3518437208883 then (treillagelaw09_its.l2 k x0 x3 x4 x5 x6 (wrap64 (x8 + 1)) (x470000 ++ [(⟨(rd_T48 ((rd_T46 (rd_L6 x0 x4) x6).f0) x8).f0, (rd_T48 ((rd_T46 (rd_L6 x0 x4) x6).f0) x8).f1, (rd_T48 ((rd_T46 (rd_L6 x0 x4) x6).f0) x8).f2⟩ : S62)]) x470001) else (none)) else (none)) else (if x5.length < 4398046511104 then (treillagelaw09_its.l1 k x0 x3 x4 (x5 ++ [(⟨x470000, x470001⟩ : S61)]) (wrap64 (x6 + 1))) else (none))) else (none)) else (none)) else (none)) else (none)
end
def treillagelaw09_its.f (k : Nat) (l0 : List (List (S46))) : Option ((List (List (S61)))) := treillagelaw09_its.l0 k l0 (([] : List (List (S61)))) 0
theorem treillagelaw09_its.mono_l : ∀ k, (∀ y0 y1 y2, LeO (treillagelaw09_its.l0 k y0 y1 y2) (treillagelaw09_its.l0 (k + 1) y0 y1 y2)) ∧ (∀ y0 y1 y2 y3 y4, LeO (treillagelaw09_its.l1 k y0 y1 y2 y3 y4) (treillagelaw09_its.l1 (k + 1) y0 y1 y2 y3 y4)) ∧ (∀ y0 y1 y2 y3 y4 y5 y6 y7, LeO (treillagelaw09_its.l2 k y0 y1 y2 y3 y4 y5 y6 y7) (treillagelaw09_its.l2 (k + 1) y0 y1 y2 y3 y4 y5 y6 y7))
 | 0 => ⟨fun _ _ _ r h => by simp [treillagelaw09_its.l0] at h, fun _ _ _ _ _ r h => by simp [treillagelaw09_its.l1] at h, fun _ _ _ _ _ _ _ _ r h => by simp [treillagelaw09_its.l2] at h⟩
 | k + 1 => by
  obtain ⟨ih0, ih1, ih2⟩ := treillagelaw09_its.mono_l k; refine ⟨?_, ?_, ?_⟩
  ·intro y0 y1 y2
   unfold treillagelaw09_its.l0; repeat' first
   | (with_reducible exact ih0 _ _ _)
   | (with_reducible exact ih1 _ _ _ _ _)
   | (with_reducible exact ih2 _ _ _ _ _ _ _ _)
   | (with_reducible exact LeO.refl _)
   | (with_reducible exact LeO.none _)
   | (with_reducible refine LeO.ite ?_ ?_)
   | (with_reducible refine LeO.exB (fun _ => ?_))
   | (with_reducible refine LeO.bind ?_ (fun _ => ?_))
   | exact ih0 _ _ _
   | exact ih1 _ _ _ _ _
   | exact ih2 _ _ _ _ _ _ _ _
   | exact LeO.none _
   | refine LeO.ite ?_ ?_
   | refine LeO.bind ?_ (fun _ => ?_)
  ·intro y0 y1 y2 y3 y4
   unfold treillagelaw09_its.l1; repeat' first
   | (with_reducible exact ih0 _ _ _)
   | (with_reducible exact ih1 _ _ _ _ _)
   | (with_reducible exact ih2 _ _ _ _ _ _ _ _)
   | (with_reducible exact LeO.refl _)
   | (with_reducible exact LeO.none _)
   | (with_reducible refine LeO.ite ?_ ?_)
   | (with_reducible refine LeO.exB (fun _ => ?_))
   | (with_reducible refine LeO.bind ?_ (fun _ => ?_))
   | exact ih0 _ _ _
   | exact ih1 _ _ _ _ _
   | exact ih2 _ _ _ _ _ _ _ _
   | exact LeO.none _
   | refine LeO.ite ?_ ?_
   | refine LeO.bind ?_ (fun _ => ?_)
  ·intro y0 y1 y2 y3 y4 y5 y6 y7
   unfold treillagelaw09_its.l2; repeat' first
   | (with_reducible exact ih0 _ _ _)
   | (with_reducible exact ih1 _ _ _ _ _)
   | (with_reducible exact ih2 _ _ _ _ _ _ _ _)
   | (with_reducible exact LeO.refl _)
   | (with_reducible exact LeO.none _)
   | (with_reducible refine LeO.ite ?_ ?_)
   | (with_reducible refine LeO.exB (fun _ => ?_))
   | (with_reducible refine LeO.bind ?_ (fun _ => ?_))
   | exact ih0 _ _ _
   | exact ih1 _ _ _ _ _
   | exact ih2 _ _ _ _ _ _ _ _
   | exact LeO.none _
   | refine LeO.ite ?_ ?_
   | refine LeO.bind ?_ (fun _ => ?_)
theorem treillagelaw09_its.mono : ∀ a0 k, LeO (treillagelaw09_its.f k a0) (treillagelaw09_its.f (k + 1) a0) := by
 intro a0 k
 obtain ⟨ih0, ih1, ih2⟩ := treillagelaw09_its.mono_l k; unfold treillagelaw09_its.f
 repeat' first
   | (with_reducible exact ih0 _ _ _)
   | (with_reducible exact ih1 _ _ _ _ _)
   | (with_reducible exact ih2 _ _ _ _ _ _ _ _)
   | (with_reducible exact LeO.refl _)
   | (with_reducible exact LeO.none _)
   | (with_reducible refine LeO.ite ?_ ?_)
   | (with_reducible refine LeO.exB (fun _ => ?_))
   | (with_reducible refine LeO.bind ?_ (fun _ => ?_))
   | exact ih0 _ _ _
   | exact ih1 _ _ _ _ _
   | exact ih2 _ _ _ _ _ _ _ _
   | exact LeO.none _
   | refine LeO.ite ?_ ?_
   | refine LeO.bind ?_ (fun _ => ?_)
def treillagelaw09_its.T13 : Bool × List (List Nat × List Nat) := (true, [([], []), ([0], [0]), ([], []), ([], []), ([2, 3], [2, 3]), ([4], [4]), ([], []), ([5, 6], [5, 6]), ([7], [7]), ([8], [8]), ([], []), ([9, 10], [9, 10]), ([11], [11]), ([12], [12]), ([1, 13], [1, 13]), ([0, 1, 2, 3, 4, 5, 6, 7, 8, 9, 10, 11, 12, 13, 14], []), ([15, 14, 14, 0, 1, 2, 3, 4, 5, 6, 7, 8, 9, 10, 11, 12, 13, 14], [14, 15])])
def treillagelaw09_its.B13 : List Nat := [0, 1, 0, 0, 12, 28, 0, 124, 252, 508, 0, 2044, 4092, 8188, 16383, 32767, 65535]
theorem treillagelaw09_its.tab13 : rtab .any (opsOf Try.f14 13) = treillagelaw09_its.T13 := by kernel_rfl
theorem treillagelaw09_its.bits13 : waitsOk treillagelaw09_its.T13.2 treillagelaw09_its.B13 = true := by kernel_rfl
set_option maxHeartbeats 8000000 in
set_option maxRecDepth 100000 in
theorem treillagelaw09_its.calls (k : Nat) (A0 : Option Addr) (c0 : Nat) (l0 : List (List (S46))) (r : List (List (S61))) (w : World) (hr0 : Kd.C (Kd.slice 46 k46) w A0 l0.length l0) (hc0 : l0.length ≤ c0) (h : treillagelaw09_its.f k l0 = some r) :
  Calls Try.prog 14 #[.slice A0 l0.length c0] w fun e w' => ∃ v0_ : Value, e = .returned (v0_) ∧ Kd.R (Kd.slice 61 k61) 56 w' w.heap.size (fun _ => True) v0_ r ∧ Below w.heap.size w w' := by
 have hu61 := Try.underlying61; have hu48 := Try.underlying48; have HR0 := aA hr0; have HC0 := aA hc0; clear hr0 hc0; have HB := aA (Below.refl w.heap.size w); have H : (treillagelaw09_its.l0 k l0 (([] : List (List (S61)))) 0) = some r := h; clear h; obtain ⟨Ju, hy457⟩ : ∃ y_ : List (List (S61)), y_ = (([] : List (List (S61)))) := ⟨_, rfl⟩; replace H : (treillagelaw09_its.l0 k l0 Ju 0) = some r := by first | (rw [hy457]; with_reducible exact H) | (have H2_ := (Option.bind_some _ _).symm.trans H; rw [hy457]; with_reducible exact H2_) | (have H2_ := (Option.bind_some _ _).symm.trans H; with_reducible exact H2_) | with_reducible exact H | (rw [hy457]; exact H) | exact H
 have Ny457 := aA hy457; clear hy457; have H' := aA H; clear H; go_enter Try.func14, Try.ntmps14; go_wp2_with (first | ((with_reducible refine gate_dst (N := 9) rfl ?_); refine Kd.R_lit (Kd.slice 61 k61) _ 56 ?hg (N := 9) ?hd (xs := ([] : List (List (S61)))) (inner := []) (ok := fun _ => True) (okp := fun _ => True) ?hr ?hp (fun _ hk => hk) trivial (Below.refl _ _) (Nat.le_refl _) (by simp) ?_; (case hd => rfl); (case hg => rfl); (case hr => first | (go_simp; done) | (go_simp; rfl)); (case hp => exact (Reps.none _ _)); intro v458 w2 ho3 hb hg_ hnew_; clear hg_ hnew_; (first | rw [← Ny457.out] at ho3 | (simp only [Int.reduceToNat] at ho3; rw [← Ny457.out] at ho3)); have n0_ := aA (Kd.R_lower ho3 (below_size (blw HB.out))); have n1_ := aA (below_step (blw HB.out) hb); clear HB; have HO459 := n0_; have HB := n1_; clear n0_ n1_ hb ho3))
 go_loopg [3, 4] k (fun kq v3 v4 w' => ∃ (Jj : List (List (S61))) (Ja : Int), v4 = .int .i64 Ja ∧ Aside0 (treillagelaw09_its.l0 kq l0 Jj Ja = some r) ∧ Aside0 (kq ≤ k) ∧ Aside0 (Kd.R (Kd.slice 61 k61) 56 w' w.heap.size (fun _ => True) v3 Jj) ∧ Aside0 (Below w.heap.size w w'))
 case atStart => exact ⟨(Ju), (0), (by first | rfl | (simp; done) | (simp [*]; done)), H', ⟨Nat.le_refl _⟩, ⟨by (with_reducible repeat (first | apply Kd.R_alloc | apply Kd.R_drewN | apply Kd.R_drew)); exact HO459.out⟩, ⟨by repeat (first | (with_reducible first | exact HB.out | apply below_alloc | apply pw_below_drewN | apply below_drew1) | exact HB.out)⟩⟩
 case round =>
  clear H'; try clear c1
  try clear p2
  obtain ⟨Jj, Ja, rfl, HA, HK1, Jg, HB⟩ := hrel; cases gk with
  | zero => exact absurd HA.out (by simp [treillagelaw09_its.l0])
  | succ k1 =>
   have H := HA.out; clear HA; simp only [treillagelaw09_its.l0] at H; by_cases c4 : Ja < (l0.length : Int)
   ·rw [if_pos c4] at H; have c4b0 : decide (Ja < (l0.length : Int)) = true := decide_eq_true c4; clear c4; obtain ⟨Jv, hy460⟩ : ∃ y_ : List (S61), y_ = (([] : List (S61))) := ⟨_, rfl⟩; replace H : (treillagelaw09_its.l1 k1 l0 Jj Ja Jv 0) = some r := by first | (rw [hy460]; with_reducible exact H) | (have H2_ := (Option.bind_some _ _).symm.trans H; rw [hy460]; with_reducible exact H2_) | (have H2_ := (Option.bind_some _ _).symm.trans H; with_reducible exact H2_) | with_reducible exact H | (rw [hy460]; exact H) | exact H
    have Ny460 := aA hy460; clear hy460; have H' := aA H; clear H; go_wp2_with (first | ((with_reducible refine gate_dst (N := 16) rfl ?_); refine Kd.S_lit k61 _ 61 ?hg (N := 16) ?hd (xs := ([] : List (S61))) (inner := []) (ok := fun _ => True) (okp := fun _ => True) ?hr ?hp (fun _ hk => hk) trivial (Below.refl _ _) (Nat.le_refl _) (by simp) ?_; (case hd => rfl); (case hg => rfl); (case hr => first | (go_simp; done) | (go_simp; rfl)); (case hp => exact (Reps.none _ _)); intro v461 w5 ho6 hb hg_ hnew_; clear hg_ hnew_; (first | rw [← Ny460.out] at ho6 | (simp only [Int.reduceToNat] at ho6; rw [← Ny460.out] at ho6)); have n0_ := aA (Kd.R_elder' (rlu Jg.out) (Kd.S_base ho6) hb); have n1_ := aA (Kd.S_lower ho6 (below_size (blw HB.out))); have n2_ := aA (below_step (blw HB.out) hb); clear Jg HB; have Jg := n0_; have HO462 := n1_; have HB := n2_; clear n0_ n1_ n2_ hb ho6))
    go_loopg [5, 6] k1 (fun kq v5 v6 w' => ∃ (Jk : List (S61)) (Jb : Int), v6 = .int .i64 Jb ∧ Aside0 (treillagelaw09_its.l1 kq l0 Jj Ja Jk Jb = some r) ∧ Aside0 (kq ≤ k1) ∧ Aside0 (Kd.R (Kd.slice 61 k61) 56 w' w.heap.size (fun k_ => some k_ ≠ (v5 : Value).ownBlock) u3 Jj) ∧ Aside0 (Kd.S k61 61 w' w.heap.size (fun _ => True) v5 Jk) ∧ Aside0 (Below w.heap.size w w'))
    case atStart => exact ⟨(Jv), (0), (by first | rfl | (simp; done) | (simp [*]; done)), H', ⟨Nat.le_refl _⟩, ⟨by (with_reducible repeat (first | apply Kd.R_alloc | apply Kd.R_drewN | apply Kd.R_drew)); exact Kd.R_mono Jg.out (fun _ hk => hk.2)⟩, ⟨by (with_reducible repeat (first | apply Kd.S_alloc | apply Kd.S_drewN | apply Kd.S_drew)); exact HO462.out⟩, ⟨by repeat (first | (with_reducible first | exact HB.out | apply below_alloc | apply pw_below_drewN | apply below_drew1) | exact HB.out)⟩⟩
    case round =>
     clear H'; try clear c1
     try clear p2
     try clear c4
     try clear c4b0
     try clear p2
     obtain ⟨Jk, Jb, rfl, HA, HK2, Jg, Ji, HB⟩ := hrel; cases gk with
     | zero => exact absurd HA.out (by simp [treillagelaw09_its.l1])
     | succ k2 =>
      have H := HA.out; clear HA; simp only [treillagelaw09_its.l1] at H; by_cases c7 : 0 ≤ Ja
      rotate_left
      ·rw [if_neg c7] at H; exact absurd H (by simp)
      rw [if_pos c7] at H; have c7b0 : decide (0 ≤ Ja) = true := decide_eq_true c7; clear c7; by_cases c8 : Ja < (l0.length : Int)
      rotate_left
      ·rw [if_neg c8] at H; exact absurd H (by simp)
      rw [if_pos c8] at H; have c8b0 : decide (Ja < (l0.length : Int)) = true := decide_eq_true c8; clear c8; by_cases c9 : Jb < ((rd_L6 l0 Ja).length : Int)
      ·rw [if_pos c9] at H; have c9b0 : decide (Jb < ((rd_L6 l0 Ja).length : Int)) = true := decide_eq_true c9; clear c9; by_cases c10 : 0 ≤ Jb
       rotate_left
       ·rw [if_neg c10] at H; exact absurd H (by simp)
       rw [if_pos c10] at H; have c10b0 : decide (0 ≤ Jb) = true := decide_eq_true c10; clear c10; have H' := aA H; clear H; have p463 : 0 ≤ (Ja : Int) := of_decide_eq_true (by first | (with_reducible assumption) | assumption); have q463 : Ja < (l0.length : Int) := of_decide_eq_true (by first | (with_reducible assumption) | assumption); obtain ⟨ad463, A463_0, c463_0, e463, hx463_0, hl463_0, hi463_0⟩ := at_L6 HR0.out Ja p463 q463; cases e463
       replace hx463_0 := (HB.out.cell (World.block_lt_of_cell? w _ hx463_0)).trans hx463_0; have HR463_0 := aA hi463_0; have HC463_0 := aA hl463_0; clear hi463_0 hl463_0; replace p463 := eq_true p463; replace q463 := eq_true q463; have p467 : 0 ≤ (Ja : Int) := of_decide_eq_true (by first | (with_reducible assumption) | assumption); have q467 : Ja < (l0.length : Int) := of_decide_eq_true (by first | (with_reducible assumption) | assumption); obtain ⟨ad467, A467_0, c467_0, e467, hx467_0, hl467_0, hi467_0⟩ := at_L6 HR0.out Ja p467 q467; obtain rfl : ad463 = ad467 := (by injection e467); replace hx467_0 := (HB.out.cell (World.block_lt_of_cell? w _ hx467_0)).trans hx467_0; have HR467_0 := aA hi467_0; have HC467_0 := aA hl467_0; clear hi467_0 hl467_0; replace p467 := eq_true p467; replace q467 := eq_true q467; have ea_ := Option.some.inj (hx463_0.symm.trans hx467_0); injection ea_ with ea_ en_ ec_; subst ea_; subst ec_; clear en_; have p468 : 0 ≤ (Jb : Int) := of_decide_eq_true (by first | (with_reducible assumption) | assumption); have q468 : Jb < ((rd_L6 l0 Ja).length : Int) := of_decide_eq_true (by first | (with_reducible assumption) | assumption); obtain ⟨ad468, A468_0, c468_0, e468, hx468_0, hx468_1, hl468_0, hi468_0⟩ := at_T46 HR467_0.out Jb p468 q468; cases e468
       replace hx468_0 := (HB.out.cell (World.block_lt_of_cell? w _ hx468_0)).trans hx468_0; replace hx468_1 := (HB.out.cell (World.block_lt_of_cell? w _ hx468_1)).trans hx468_1; have HR468_0 := aA hi468_0; have HC468_0 := aA hl468_0; clear hi468_0 hl468_0; replace p468 := eq_true p468; replace q468 := eq_true q468; go_wp2_with (first | ((with_reducible refine gate_dst (N := 7) rfl ?_); refine box_event ?hg (N := 7) ?hd (cs := #[.slice none 0 0, .bool false]) (t := 61) ?hr ?_; (case hd => rfl); (case hg => rfl); (case hr => first | (go_simp; done) | (go_simp; rfl)); intro Jc hg w11 hbox hb; have n0_ := aA (Kd.R_below (Kd.R_elderB (rlu Jg.out) Jc (Nat.le_of_eq hg.symm)) hb); have n1_ := aA (Kd.S_below (Kd.S_elderB (by (with_reducible repeat (first | apply Kd.S_alloc | apply Kd.S_drewN | apply Kd.S_drew)); exact Ji.out) Jc (Nat.le_of_eq hg.symm)) hb); have n2_ := aA (below_step (blw HB.out) hb); have n3_ := aA (hbox); have n4_ := aA ((by rw [hg]; exact (below_size (blw HB.out)) : w.heap.size ≤ Jc)); have n5_ := aA ((by rw [hg]; exact (below_size (blw HB.out)) : w.heap.size ≤ Jc)); clear Jg Ji HB; have Jg := n0_; have Ji := n1_; have HB := n2_; have Jd := n3_; have GW469 := n4_; have Jp := n5_; clear n0_ n1_ n2_ n3_ n4_ n5_ hb hbox hg; have hcz12_0 : w11.cell? ⟨Jc, 0, none⟩ = some (.slice none 0 0) := (blk_cell Jd.out 0).trans rfl; have hcz12_1 : w11.cell? ⟨Jc, 1, none⟩ = some (.bool false) := (blk_cell Jd.out 1).trans rfl; have hfz12_0 := blk_frozen Jd.out 0; have hfz12_1 := blk_frozen Jd.out 1))
       go_loopg [8] k2 (fun kq v8 w' => ∃ (Je : Int) (Jf : List (S62)) (u470000 : Value), v8 = .int .i64 Je ∧ Aside0 (treillagelaw09_its.l2 kq l0 Jj Ja Jk Jb Je Jf ((rd_T46 (rd_L6 l0 Ja) Jb).f1) = some r) ∧ Aside0 (kq ≤ k2) ∧ Aside0 (Kd.R (Kd.slice 61 k61) 56 w' w.heap.size (fun k_ => some k_ ≠ (u5 : Value).ownBlock ∧ some k_ ≠ (u470000 : Value).ownBlock ∧ k_ ≠ Jc) u3 Jj) ∧ Aside0 (Kd.S k61 61 w' w.heap.size (fun k_ => some k_ ≠ (u470000 : Value).ownBlock ∧ k_ ≠ Jc) u5 Jk) ∧ Aside0 (Kd.R k62 62 w' w.heap.size (fun _ => True) u470000 Jf) ∧ Aside0 (w'.heap[Jc]? = some (.cells #[u470000, .bool ((rd_T46 (rd_L6 l0 Ja) Jb).f1)] 61 (0, 0))) ∧ Aside0 (Below w.heap.size w w'))
       case atStart => exact ⟨(0), (([] : List (S62))), (.slice none 0 0), (by first | rfl | (simp; done) | (simp [*]; done)), H', ⟨Nat.le_refl _⟩, ⟨by (with_reducible repeat (first | apply Kd.R_alloc | apply Kd.R_drewN | apply Kd.R_drew)); exact Kd.R_mono (Kd.R_far (p := ⟨Jc, 1, none⟩) (Kd.R_far (p := ⟨Jc, 0, none⟩) (Kd.R_mono Jg.out (fun k_ hk => (⟨hk, hk.2⟩ : _ ∧ k_ ≠ Jc))) (fun _ hk => hk.2) (.slice none 0 0)) (fun _ hk => hk.2) (.bool ((rd_T46 (rd_L6 l0 Ja) Jb).f1))) (fun _ hk => ⟨hk.1.1, ⟨(by simp [Value.ownBlock]), hk.1.2⟩⟩)⟩, ⟨by (with_reducible repeat (first | apply Kd.S_alloc | apply Kd.S_drewN | apply Kd.S_drew)); exact Kd.S_mono (Kd.S_far (p := ⟨Jc, 1, none⟩) (Kd.S_far (p := ⟨Jc, 0, none⟩) (Kd.S_mono Ji.out (fun k_ hk => (⟨hk, hk.2⟩ : _ ∧ k_ ≠ Jc))) (fun _ hk => hk.2) (.slice none 0 0)) (fun _ hk => hk.2) (.bool ((rd_T46 (rd_L6 l0 Ja) Jb).f1))) (fun _ hk => ⟨(by simp [Value.ownBlock]), hk.1.2⟩)⟩, ⟨by first | exact Kd.R_nil _ _ _ _ _ | exact Kd.N_nil _ _ _ _ _ | exact Kd.V_nil _ _ _ _ _ | exact Kd.Q_nil _ _ _ _ _ | exact Kd.S_nil _ _ _ _ _⟩, ⟨by (with_reducible repeat (first | refine blk_drewN ?_ _ | refine blk_drew ?_ | refine blk_alloc ?_ _)); refine blk_put (cs := #[.slice none 0 0, .bool false]) ?_ 1 _ rfl; (with_reducible repeat (first | refine blk_drewN ?_ _ | refine blk_drew ?_ | refine blk_alloc ?_ _)); refine blk_put (cs := #[.slice none 0 0, .bool false]) ?_ 0 _ rfl; (with_reducible repeat (first | refine blk_drewN ?_ _ | refine blk_drew ?_ | refine blk_alloc ?_ _)); exact Jd.out⟩, ⟨by repeat (first | (with_reducible first | exact HB.out | apply below_alloc | apply pw_below_drewN | apply below_drew1 | refine below_set ?_ Jp.out) | exact HB.out)⟩⟩
       case round =>
        clear H'; try clear c1
        try clear p2
        try clear c4
        try clear c4b0
        try clear p4
        try clear q4
        try clear hx4
        try clear c7
        try clear c7b0
        try clear c8
        try clear c8b0
        try clear c9
        try clear c9b0
        try clear c10
        try clear c10b0
        try clear hcz12_0
        try clear hcz12_1
        try clear hfz12_0
        try clear hfz12_1
        try clear hx463_0
        try clear hx467_0
        try clear hx468_0
        try clear hx468_1
        try clear p2
        try clear p463
        try clear p467
        try clear p468
        try clear q463
        try clear q467
        try clear q468
        obtain ⟨Je, Jf, u470000, rfl, HA, HK3, Jg, Ji, Jh, Jd, HB⟩ := hrel; cases gk with
        | zero => exact absurd HA.out (by simp [treillagelaw09_its.l2])
        | succ k3 =>
         have H := HA.out; clear HA; simp only [treillagelaw09_its.l2] at H; by_cases c13 : 0 ≤ Ja
         rotate_left
         ·rw [if_neg c13] at H; exact absurd H (by simp)
         rw [if_pos c13] at H; have c13b0 : decide (0 ≤ Ja) = true := decide_eq_true c13; clear c13; by_cases c14 : Ja < (l0.length : Int)
         rotate_left
         ·rw [if_neg c14] at H; exact absurd H (by simp)
         rw [if_pos c14] at H; have c14b0 : decide (Ja < (l0.length : Int)) = true := decide_eq_true c14; clear c14; by_cases c15 : 0 ≤ Jb
         rotate_left
         ·rw [if_neg c15] at H; exact absurd H (by simp)
         rw [if_pos c15] at H; have c15b0 : decide (0 ≤ Jb) = true := decide_eq_true c15; clear c15; by_cases c16 : Jb < ((rd_L6 l0 Ja).length : Int)
         rotate_left
         ·rw [if_neg c16] at H; exact absurd H (by simp)
         rw [if_pos c16] at H; have c16b0 : decide (Jb < ((rd_L6 l0 Ja).length : Int)) = true := decide_eq_true c16; clear c16; by_cases c17 : Je < (((rd_T46 (rd_L6 l0 Ja) Jb).f0).length : Int)
         ·rw [if_pos c17] at H; have c17b0 : decide (Je < (((rd_T46 (rd_L6 l0 Ja) Jb).f0).length : Int)) = true := decide_eq_true c17; clear c17; by_cases c18 : 0 ≤ Je
          rotate_left
          ·rw [if_neg c18] at H; exact absurd H (by simp)
          rw [if_pos c18] at H; have c18b0 : decide (0 ≤ Je) = true := decide_eq_true c18; clear c18; by_cases c19 : Jf.length < 3518437208883
          rotate_left
          ·rw [if_neg c19] at H; exact absurd H (by simp)
          rw [if_pos c19] at H; have LMc19 := aA c19; clear c19; obtain ⟨Jm, hy475⟩ : ∃ y_ : List (S62), y_ = (Jf ++ [(⟨(rd_T48 ((rd_T46 (rd_L6 l0 Ja) Jb).f0) Je).f0, (rd_T48 ((rd_T46 (rd_L6 l0 Ja) Jb).f0) Je).f1, (rd_T48 ((rd_T46 (rd_L6 l0 Ja) Jb).f0) Je).f2⟩ : S62)]) := ⟨_, rfl⟩; replace H : (treillagelaw09_its.l2 k3 l0 Jj Ja Jk Jb (wrap64 (Je + 1)) Jm ((rd_T46 (rd_L6 l0 Ja) Jb).f1)) = some r := by first | (rw [hy475]; with_reducible exact H) | (have H2_ := (Option.bind_some _ _).symm.trans H; rw [hy475]; with_reducible exact H2_) | (have H2_ := (Option.bind_some _ _).symm.trans H; with_reducible exact H2_) | with_reducible exact H | (rw [hy475]; exact H) | exact H
          have Ny475 := aA hy475; clear hy475; have H' := aA H; clear H; have p470 : 0 ≤ (Ja : Int) := of_decide_eq_true (by first | (with_reducible assumption) | assumption); have q470 : Ja < (l0.length : Int) := of_decide_eq_true (by first | (with_reducible assumption) | assumption); obtain ⟨ad470, A470_0, c470_0, e470, hx470_0, hl470_0, hi470_0⟩ := at_L6 HR0.out Ja p470 q470; obtain rfl : ad463 = ad470 := (by injection e470); replace hx470_0 := (HB.out.cell (World.block_lt_of_cell? w _ hx470_0)).trans hx470_0; have HR470_0 := aA hi470_0; have HC470_0 := aA hl470_0; clear hi470_0 hl470_0; replace p470 := eq_true p470; replace q470 := eq_true q470; have p471 : 0 ≤ (Jb : Int) := of_decide_eq_true (by first | (with_reducible assumption) | assumption); have q471 : Jb < ((rd_L6 l0 Ja).length : Int) := of_decide_eq_true (by first | (with_reducible assumption) | assumption); obtain ⟨ad471, A471_0, c471_0, e471, hx471_0, hx471_1, hl471_0, hi471_0⟩ := at_T46 HR470_0.out Jb p471 q471; cases e471
          replace hx471_0 := (HB.out.cell (World.block_lt_of_cell? w _ hx471_0)).trans hx471_0; replace hx471_1 := (HB.out.cell (World.block_lt_of_cell? w _ hx471_1)).trans hx471_1; have HR471_0 := aA hi471_0; have HC471_0 := aA hl471_0; clear hi471_0 hl471_0; replace p471 := eq_true p471; replace q471 := eq_true q471; try go_wp2
          have n0_ := aA (Kd.R_drew Jg.out); have n1_ := aA (Kd.S_drew Ji.out); have n2_ := aA (Kd.R_drew Jh.out); have n3_ := aA (blk_drew Jd.out); have n4_ := aA (below_drew1 HB.out); clear Jg; clear Ji; clear Jh; clear Jd; clear HB; have Jg := n0_; have Ji := n1_; have Jh := n2_; have Jd := n3_; have HB := n4_; clear n0_ n1_ n2_ n3_ n4_; have p472 : 0 ≤ (Ja : Int) := of_decide_eq_true (by first | (with_reducible assumption) | assumption); have q472 : Ja < (l0.length : Int) := of_decide_eq_true (by first | (with_reducible assumption) | assumption); obtain ⟨ad472, A472_0, c472_0, e472, hx472_0, hl472_0, hi472_0⟩ := at_L6 HR0.out Ja p472 q472; have hw472_0 := hx472_0; obtain rfl : ad463 = ad472 := (by injection e472); replace hx472_0 := (HB.out.cell (World.block_lt_of_cell? w _ hx472_0)).trans hx472_0; have HR472_0 := aA hi472_0; have HC472_0 := aA hl472_0; clear hi472_0 hl472_0; replace p472 := eq_true p472; replace q472 := eq_true q472; have p473 : 0 ≤ (Jb : Int) := of_decide_eq_true (by first | (with_reducible assumption) | assumption); have q473 : Jb < ((rd_L6 l0 Ja).length : Int) := of_decide_eq_true (by first | (with_reducible assumption) | assumption); obtain ⟨ad473, A473_0, c473_0, e473, hx473_0, hx473_1, hl473_0, hi473_0⟩ := at_T46 HR472_0.out Jb p473 q473; have hw473_1 := hx473_1; have hw473_0 := hx473_0; cases e473
          replace hx473_0 := (HB.out.cell (World.block_lt_of_cell? w _ hx473_0)).trans hx473_0; replace hx473_1 := (HB.out.cell (World.block_lt_of_cell? w _ hx473_1)).trans hx473_1; have HR473_0 := aA hi473_0; have HC473_0 := aA hl473_0; clear hi473_0 hl473_0; replace p473 := eq_true p473; replace q473 := eq_true q473; have p474 : 0 ≤ (Je : Int) := of_decide_eq_true (by first | (with_reducible assumption) | assumption); have q474 : Je < (((rd_T46 (rd_L6 l0 Ja) Jb).f0).length : Int) := of_decide_eq_true (by first | (with_reducible assumption) | assumption); obtain ⟨ad474, e474, hx474_0, hx474_1, hx474_2⟩ := at_T48 HR473_0.out Je p474 q474; have hw474_2 := hx474_2; have hw474_1 := hx474_1; have hw474_0 := hx474_0; cases e474
          replace hx474_0 := (HB.out.cell (World.block_lt_of_cell? w _ hx474_0)).trans hx474_0; replace hx474_1 := (HB.out.cell (World.block_lt_of_cell? w _ hx474_1)).trans hx474_1; replace hx474_2 := (HB.out.cell (World.block_lt_of_cell? w _ hx474_2)).trans hx474_2; replace p474 := eq_true p474; replace q474 := eq_true q474; refine start_ (n := 17) (S := fun w' => w'.cell? ⟨Jc, 0, none⟩ = some (u470000) ∧ w'.cell? ⟨Jc, 1, none⟩ = some (.bool ((rd_T46 (rd_L6 l0 Ja) Jb).f1)) ∧ w'.cell? (ad463.add (Ja).toNat) = some (.slice (some ad473) (rd_L6 l0 Ja).length c472_0) ∧ w'.cell? (ad473.add ((Jb).toNat * 2)) = some (.slice (some ad474) ((rd_T46 (rd_L6 l0 Ja) Jb).f0).length c473_0) ∧ w'.cell? ⟨(ad473.add ((Jb).toNat * 2)).block, (ad473.add ((Jb).toNat * 2)).off + 1, none⟩ = some (.bool ((rd_T46 (rd_L6 l0 Ja) Jb).f1)) ∧ w'.cell? (ad474.add ((Je).toNat * 3)) = some (.int .i64 ((rd_T48 ((rd_T46 (rd_L6 l0 Ja) Jb).f0) Je).f0)) ∧ w'.cell? ⟨(ad474.add ((Je).toNat * 3)).block, (ad474.add ((Je).toNat * 3)).off + 1, none⟩ = some (.string ((rd_T48 ((rd_T46 (rd_L6 l0 Ja) Jb).f0) Je).f1)) ∧ w'.cell? ⟨(ad474.add ((Je).toNat * 3)).block, (ad474.add ((Je).toNat * 3)).off + 2, none⟩ = some (.string ((rd_T48 ((rd_T46 (rd_L6 l0 Ja) Jb).f0) Je).f2))) (ds := [16]) #[false, false, false, false, false, false, false, false, false, false, false, false, false, false, false, false, false] (by kernel_rfl) rfl rfl ⟨(blk_cell Jd.out 0).trans rfl, (blk_cell Jd.out 1).trans rfl, ((HB.out.cell (World.block_lt_of_cell? w _ hw472_0)).trans hw472_0), ((HB.out.cell (World.block_lt_of_cell? w _ hw473_0)).trans hw473_0), ((HB.out.cell (World.block_lt_of_cell? w _ hw473_1)).trans hw473_1), ((HB.out.cell (World.block_lt_of_cell? w _ hw474_0)).trans hw474_0), ((HB.out.cell (World.block_lt_of_cell? w _ hw474_1)).trans hw474_1), ((HB.out.cell (World.block_lt_of_cell? w _ hw474_2)).trans hw474_2)⟩ (fun hHeld => ?_); refine with_tabW treillagelaw09_its.tab13 treillagelaw09_its.bits13 (fun HT_ HW_ => ?_); generalize wr.drew = w20 at Jg Ji Jh Jd HB HR472_0 HR473_0 hx472_0 hx473_0 hx473_1 hx474_0 hx474_1 hx474_2 hHeld ⊢; refine pure_ (i := 0) (N := some 48) (v := ?_) (a' := ?_) #[true, false, false, false, false, false, false, false, false, false, false, false, false, false, false, false, false] rfl rfl (any_of HT_.out (by kernel_rfl)) (fun _ _ _ h => h) (Or.inl ⟨by rfl, ?_⟩) ?_ ?_; rotate_left
          ·intro w'
           go_simp
           with_reducible rfl
          rotate_left
          ·simp only [Act.put, List.setIfInBounds_toArray, List.set_cons_zero, List.set_cons_succ, i64_w, i32_w]; rfl
          refine pure_ (i := 2) (N := some 50) (v := ?_) (a' := ?_) #[true, false, true, false, false, false, false, false, false, false, false, false, false, false, false, false, false] rfl rfl (any_of HT_.out (by kernel_rfl)) (fun _ _ _ h => h) (Or.inl ⟨by rfl, ?_⟩) ?_ ?_; rotate_left
          ·intro w'
           go_simp
           with_reducible rfl
          rotate_left
          ·simp only [Act.put, List.setIfInBounds_toArray, List.set_cons_zero, List.set_cons_succ, i64_w, i32_w]; rfl
          refine pure_ (i := 3) (N := some 51) (v := ?_) (a' := ?_) #[true, false, true, true, false, false, false, false, false, false, false, false, false, false, false, false, false] rfl rfl (any_of HT_.out (by kernel_rfl)) (fun _ _ _ h => h) (Or.inl ⟨by rfl, ?_⟩) ?_ ?_; rotate_left
          ·intro w'
           go_simp
           with_reducible rfl
          rotate_left
          ·simp only [Act.put, List.setIfInBounds_toArray, List.set_cons_zero, List.set_cons_succ, i64_w, i32_w]; rfl
          refine pure_ (i := 4) (N := some 52) (v := ?_) (a' := ?_) #[true, false, true, true, true, false, false, false, false, false, false, false, false, false, false, false, false] rfl rfl (any_of HT_.out (by kernel_rfl)) (fun _ _ _ h => h) (Or.inl ⟨by rfl, ?_⟩) ?_ ?_; rotate_left
          ·intro w'
           go_simp
           with_reducible rfl
          rotate_left
          ·simp only [Act.put, List.setIfInBounds_toArray, List.set_cons_zero, List.set_cons_succ, i64_w, i32_w]; rfl
          refine pure_ (i := 6) (N := some 54) (v := ?_) (a' := ?_) #[true, false, true, true, true, false, true, false, false, false, false, false, false, false, false, false, false] rfl rfl (any_of HT_.out (by kernel_rfl)) (fun _ _ _ h => h) (Or.inl ⟨by rfl, ?_⟩) ?_ ?_; rotate_left
          ·intro w'
           go_simp
           with_reducible rfl
          rotate_left
          ·simp only [Act.put, List.setIfInBounds_toArray, List.set_cons_zero, List.set_cons_succ, i64_w, i32_w]; rfl
          refine pure_ (i := 10) (N := some 58) (v := ?_) (a' := ?_) #[true, false, true, true, true, false, true, false, false, false, true, false, false, false, false, false, false] rfl rfl (any_of HT_.out (by kernel_rfl)) (fun _ _ _ h => h) (Or.inl ⟨by rfl, ?_⟩) ?_ ?_; rotate_left
          ·intro w'
           go_simp
           with_reducible rfl
          rotate_left
          ·simp only [Act.put, List.setIfInBounds_toArray, List.set_cons_zero, List.set_cons_succ, i64_w, i32_w]; rfl
          refine take_ (i := 1) (N := some 49) (v := ?_) (a' := ?_) #[true, true, true, true, true, false, true, false, false, false, true, false, false, false, false, false, false] rfl rfl (take_ofW HT_.out HW_.out (by kernel_rfl)) (fun _ _ _ h => h) (Or.inl ⟨by rfl, ?_⟩) hHeld ?_ ?_; rotate_left
          ·rintro w' ⟨s0, s1, s2, s3, s4, s5, s6, s7⟩
           go_simp
           with_reducible rfl
          rotate_left
          ·simp only [Act.put, List.setIfInBounds_toArray, List.set_cons_zero, List.set_cons_succ, i64_w, i32_w]; rfl
          refine take_ (i := 5) (N := some 53) (v := ?_) (a' := ?_) #[true, true, true, true, true, true, true, false, false, false, true, false, false, false, false, false, false] rfl rfl (take_ofW HT_.out HW_.out (by kernel_rfl)) (fun _ _ _ h => h) (Or.inl ⟨by rfl, ?_⟩) hHeld ?_ ?_; rotate_left
          ·rintro w' ⟨s0, s1, s2, s3, s4, s5, s6, s7⟩
           go_simp
           with_reducible rfl
          rotate_left
          ·simp only [Act.put, List.setIfInBounds_toArray, List.set_cons_zero, List.set_cons_succ, i64_w, i32_w]; rfl
          refine pure_ (i := 7) (N := some 55) (v := ?_) (a' := ?_) #[true, true, true, true, true, true, true, true, false, false, true, false, false, false, false, false, false] rfl rfl (any_of HT_.out (by kernel_rfl)) (fun _ _ _ h => h) (Or.inl ⟨by rfl, ?_⟩) ?_ ?_; rotate_left
          ·intro w'
           go_simp
           with_reducible rfl
          rotate_left
          ·simp only [Act.put, List.setIfInBounds_toArray, List.set_cons_zero, List.set_cons_succ, i64_w, i32_w]; rfl
          refine pure_ (i := 8) (N := some 56) (v := ?_) (a' := ?_) #[true, true, true, true, true, true, true, true, true, false, true, false, false, false, false, false, false] rfl rfl (any_of HT_.out (by kernel_rfl)) (fun _ _ _ h => h) (Or.inl ⟨by rfl, ?_⟩) ?_ ?_; rotate_left
          ·intro w'
           go_simp
           with_reducible rfl
          rotate_left
          ·simp only [Act.put, List.setIfInBounds_toArray, List.set_cons_zero, List.set_cons_succ, i64_w, i32_w]; rfl
          refine take_ (i := 9) (N := some 57) (v := ?_) (a' := ?_) #[true, true, true, true, true, true, true, true, true, true, true, false, false, false, false, false, false] rfl rfl (take_ofW HT_.out HW_.out (by kernel_rfl)) (fun _ _ _ h => h) (Or.inl ⟨by rfl, ?_⟩) hHeld ?_ ?_; rotate_left
          ·rintro w' ⟨s0, s1, s2, s3, s4, s5, s6, s7⟩
           go_simp
           with_reducible rfl
          rotate_left
          ·simp only [Act.put, List.setIfInBounds_toArray, List.set_cons_zero, List.set_cons_succ, i64_w, i32_w]; rfl
          refine pure_ (i := 11) (N := some 59) (v := ?_) (a' := ?_) #[true, true, true, true, true, true, true, true, true, true, true, true, false, false, false, false, false] rfl rfl (any_of HT_.out (by kernel_rfl)) (fun _ _ _ h => h) (Or.inl ⟨by rfl, ?_⟩) ?_ ?_; rotate_left
          ·intro w'
           go_simp
           with_reducible rfl
          rotate_left
          ·simp only [Act.put, List.setIfInBounds_toArray, List.set_cons_zero, List.set_cons_succ, i64_w, i32_w]; rfl
          refine take_ (i := 12) (N := some 60) (v := ?_) (a' := ?_) #[true, true, true, true, true, true, true, true, true, true, true, true, true, false, false, false, false] rfl rfl (take_ofW HT_.out HW_.out (by kernel_rfl)) (fun _ _ _ h => h) (Or.inl ⟨by rfl, ?_⟩) hHeld ?_ ?_; rotate_left
          ·rintro w' ⟨s0, s1, s2, s3, s4, s5, s6, s7⟩
           go_simp
           with_reducible rfl
          rotate_left
          ·simp only [Act.put, List.setIfInBounds_toArray, List.set_cons_zero, List.set_cons_succ, i64_w, i32_w]; rfl
          refine one_ (i := 13) (N := some 61) #[true, true, true, true, true, true, true, true, true, true, true, true, true, true, false, false, false] rfl rfl (one_of HT_.out (by kernel_rfl)) (by decide) (fun K hK => ?_); refine value_ (w1 := ?_) (v := ?_) (by rfl) rfl ?_ ?_; rotate_left 2
          ·go_simp
           constructor
           ·rfl
           ·rfl
          refine hK.out _ _ ⟨(blk_cell (blk_alloc Jd.out _) 0).trans rfl, (blk_cell (blk_alloc Jd.out _) 1).trans rfl, (World.cell?_alloc_lt _ _ _ (World.block_lt_of_cell? _ _ (((HB.out.cell (World.block_lt_of_cell? w _ hw472_0)).trans hw472_0)))).trans (((HB.out.cell (World.block_lt_of_cell? w _ hw472_0)).trans hw472_0)), (World.cell?_alloc_lt _ _ _ (World.block_lt_of_cell? _ _ (((HB.out.cell (World.block_lt_of_cell? w _ hw473_0)).trans hw473_0)))).trans (((HB.out.cell (World.block_lt_of_cell? w _ hw473_0)).trans hw473_0)), (World.cell?_alloc_lt _ _ _ (World.block_lt_of_cell? _ _ (((HB.out.cell (World.block_lt_of_cell? w _ hw473_1)).trans hw473_1)))).trans (((HB.out.cell (World.block_lt_of_cell? w _ hw473_1)).trans hw473_1)), (World.cell?_alloc_lt _ _ _ (World.block_lt_of_cell? _ _ (((HB.out.cell (World.block_lt_of_cell? w _ hw474_0)).trans hw474_0)))).trans (((HB.out.cell (World.block_lt_of_cell? w _ hw474_0)).trans hw474_0)), (World.cell?_alloc_lt _ _ _ (World.block_lt_of_cell? _ _ (((HB.out.cell (World.block_lt_of_cell? w _ hw474_1)).trans hw474_1)))).trans (((HB.out.cell (World.block_lt_of_cell? w _ hw474_1)).trans hw474_1)), (World.cell?_alloc_lt _ _ _ (World.block_lt_of_cell? _ _ (((HB.out.cell (World.block_lt_of_cell? w _ hw474_2)).trans hw474_2)))).trans (((HB.out.cell (World.block_lt_of_cell? w _ hw474_2)).trans hw474_2))⟩ (fun hHeld => ?_); clear hK K; refine norm_ (a' := ?_) ?_ ?_; rotate_left
          ·show Act.put _ (some 61) _ = _
           simp only [Act.put, List.setIfInBounds_toArray, List.set_cons_zero, List.set_cons_succ, i64_w, i32_w]; rfl
          refine one_ (i := 14) (N := some 62) #[true, true, true, true, true, true, true, true, true, true, true, true, true, true, true, false, false] rfl rfl (one_of HT_.out (by kernel_rfl)) (by decide) (fun K hK => ?_); refine Kd.R_append_step k62 (w0 := w) w.heap.size (by rfl) (.tmp 49) (.tmp 61) 59 62 (.agg #[(.int .i64 0), (.string ⟨#[]⟩), (.string ⟨#[]⟩)]) 40 rfl Try.underlying59 info62 rfl (by decide) (by omega) u470000 Jf (⟨(rd_T48 ((rd_T46 (rd_L6 l0 Ja) Jb).f0) Je).f0, (rd_T48 ((rd_T46 (rd_L6 l0 Ja) Jb).f0) Je).f1, (rd_T48 ((rd_T46 (rd_L6 l0 Ja) Jb).f0) Je).f2⟩ : S62) [.int .i64 ((rd_T48 ((rd_T46 (rd_L6 l0 Ja) Jb).f0) Je).f0), .string ((rd_T48 ((rd_T46 (rd_L6 l0 Ja) Jb).f0) Je).f1), .string ((rd_T48 ((rd_T46 (rd_L6 l0 Ja) Jb).f0) Je).f2)] (fun _ => True) (fun _ => False) rfl rfl ?aP (fun _ hk => hk.elim) ?aF ?aO ?aB ?aS ?aL ?_; (case aP => exact k62_mkM _ _ _ (⟨(rd_T48 ((rd_T46 (rd_L6 l0 Ja) Jb).f0) Je).f0, (rd_T48 ((rd_T46 (rd_L6 l0 Ja) Jb).f0) Je).f1, (rd_T48 ((rd_T46 (rd_L6 l0 Ja) Jb).f0) Je).f2⟩ : S62))
          (case aB => exact (bls HB.out))
          (case aF => exact (fun _ _ => trivial))
          (case aO => exact (rlu Jh.out))
          (case aS => exact (below_size (bls HB.out)))
          (case aL => have := LMc19.out; omega)
          intro v476 w21 ho hb hg hat
          rw [← Ny475.out] at ho; have n0_ := aA (Kd.R_after (ok := (fun k_ => some k_ ≠ (u5 : Value).ownBlock ∧ k_ ≠ Jc)) (rlu (Kd.R_mono Jg.out (fun _ hk => ⟨⟨hk.1, hk.2.2⟩, hk.2.1⟩))) hg hat); have n1_ := aA (Kd.S_after (ok := (fun k_ => k_ ≠ Jc)) (by (with_reducible repeat (first | apply Kd.S_alloc | apply Kd.S_drewN | apply Kd.S_drew)); exact Kd.S_mono Ji.out (fun _ hk => ⟨hk.2, hk.1⟩)) hg hat); have n2_ := aA (blk_grown (g := Jc) (o := .cells #[u470000, .bool ((rd_T46 (rd_L6 l0 Ja) Jb).f1)] 61 (0, 0)) (bku Jd.out) hg (Kd.R_ne Jh.out Jd.out (by decide))); have n3_ := aA (hb); have n4_ := aA (ho); clear Jg; clear Ji; clear Jd; clear HB; clear Jh; have Jg := n0_; have Ji := n1_; have Jd := n2_; have HB := n3_; have Jt := n4_; clear n0_ n1_ n2_ n3_ n4_; clear ho hb hg hat; obtain ⟨Jq, Jr, eo22⟩ := Kd.R_slice Jt.out; (first | subst eo22 | (injection eo22 with f1_ f2_ f3_; have f4_ := f1_.symm; have f5_ := f3_.symm; clear f1_ f2_ f3_; subst f4_; subst f5_))
          refine hK.out _ _ ⟨(blk_cell Jd.out 0).trans rfl, (blk_cell Jd.out 1).trans rfl, ((HB.out.cell (World.block_lt_of_cell? w _ hw472_0)).trans hw472_0), ((HB.out.cell (World.block_lt_of_cell? w _ hw473_0)).trans hw473_0), ((HB.out.cell (World.block_lt_of_cell? w _ hw473_1)).trans hw473_1), ((HB.out.cell (World.block_lt_of_cell? w _ hw474_0)).trans hw474_0), ((HB.out.cell (World.block_lt_of_cell? w _ hw474_1)).trans hw474_1), ((HB.out.cell (World.block_lt_of_cell? w _ hw474_2)).trans hw474_2)⟩ (fun hHeld => ?_); clear hK K; refine norm_ (a' := ?_) ?_ ?_; rotate_left
          ·show Act.put _ (some 62) _ = _
           simp only [Act.put, List.setIfInBounds_toArray, List.set_cons_zero, List.set_cons_succ, i64_w, i32_w]; rfl
          refine pure_ (i := 15) (N := some 63) (v := ?_) (a' := ?_) #[true, true, true, true, true, true, true, true, true, true, true, true, true, true, true, true, false] rfl rfl (any_of HT_.out (by kernel_rfl)) (fun _ _ _ h => h) (Or.inl ⟨by rfl, ?_⟩) ?_ ?_; rotate_left
          ·intro w'
           go_simp
           with_reducible rfl
          rotate_left
          ·simp only [Act.put, List.setIfInBounds_toArray, List.set_cons_zero, List.set_cons_succ, i64_w, i32_w]; rfl
          refine last_ (i := 16) (N := none) #[true, true, true, true, true, true, true, true, true, true, true, true, true, true, true, true, true] rfl rfl (one_of HT_.out (by kernel_rfl)) (by decide) (fun K hK => ?_); have hs23 : w21.cell? ⟨Jc, 0, none⟩ = some (u470000) := (blk_cell Jd.out 0).trans rfl; have hfs23 := blk_frozen Jd.out 0; refine skip_ (w1 := ?_) (by rfl) rfl ?_ ?_; rotate_left
          ·go_simp
           rfl
          refine hK.out _ _ ?_; clear hK K; refine done_ (done_of HT_.out (by kernel_rfl)) ?_; try go_wp2
          go_roundg k3
          case measure => have := HK1.out; have := HK2.out; have := HK3.out; omega
          case rel => exact ⟨(wrap64 (Je + 1)), (Jm), (.slice Jq Jm.length Jr), (by first | rfl | (simp; done) | (simp [*]; done)), H', ⟨by have := HK1.out; have := HK2.out; have := HK3.out; omega⟩, ⟨by (with_reducible repeat (first | apply Kd.R_alloc | apply Kd.R_drewN | apply Kd.R_drew)); exact Kd.R_mono (Kd.R_far (p := ⟨Jc, 0, none⟩) (Kd.R_mono Jg.out (fun k_ hk => (⟨hk, hk.1.2⟩ : _ ∧ k_ ≠ Jc))) (fun _ hk => hk.2) (.slice Jq Jm.length Jr)) (fun _ hk => ⟨hk.1.1.1, ⟨hk.1.2, hk.1.1.2⟩⟩)⟩, ⟨by (with_reducible repeat (first | apply Kd.S_alloc | apply Kd.S_drewN | apply Kd.S_drew)); exact Kd.S_mono (Kd.S_far (p := ⟨Jc, 0, none⟩) (Kd.S_mono Ji.out (fun k_ hk => (⟨hk, hk.1⟩ : _ ∧ k_ ≠ Jc))) (fun _ hk => hk.2) (.slice Jq Jm.length Jr)) (fun _ hk => ⟨hk.1.2, hk.1.1⟩)⟩, ⟨by (with_reducible repeat (first | apply Kd.R_alloc | apply Kd.R_drewN | apply Kd.R_drew)); exact Kd.R_mono (Kd.R_far (p := ⟨Jc, 0, none⟩) (Kd.R_types Jt.out Jd.out (by decide)) (fun _ hk => hk.2) (.slice Jq Jm.length Jr)) (fun _ hk => trivial)⟩, ⟨by (with_reducible repeat (first | refine blk_drewN ?_ _ | refine blk_drew ?_ | refine blk_alloc ?_ _)); refine blk_put (cs := #[u470000, .bool ((rd_T46 (rd_L6 l0 Ja) Jb).f1)]) ?_ 0 _ rfl; (with_reducible repeat (first | refine blk_drewN ?_ _ | refine blk_drew ?_ | refine blk_alloc ?_ _)); exact Jd.out⟩, ⟨by repeat (first | (with_reducible first | exact HB.out | apply below_alloc | apply pw_below_drewN | apply below_drew1 | refine below_set ?_ Jp.out) | exact HB.out)⟩⟩
         ·rw [if_neg c17] at H; have c17b0 : decide (Je < (((rd_T46 (rd_L6 l0 Ja) Jb).f0).length : Int)) = false := decide_eq_false c17; clear c17; by_cases c24 : Jk.length < 4398046511104
          rotate_left
          ·rw [if_neg c24] at H; exact absurd H (by simp)
          rw [if_pos c24] at H; have LMc24 := aA c24; clear c24; obtain ⟨Jw, hy478⟩ : ∃ y_ : List (S61), y_ = (Jk ++ [(⟨Jf, ((rd_T46 (rd_L6 l0 Ja) Jb).f1)⟩ : S61)]) := ⟨_, rfl⟩; replace H : (treillagelaw09_its.l1 k3 l0 Jj Ja Jw (wrap64 (Jb + 1))) = some r := by first | (rw [hy478]; with_reducible exact H) | (have H2_ := (Option.bind_some _ _).symm.trans H; rw [hy478]; with_reducible exact H2_) | (have H2_ := (Option.bind_some _ _).symm.trans H; with_reducible exact H2_) | with_reducible exact H | (rw [hy478]; exact H) | exact H
          have Ny478 := aA hy478; clear hy478; have H' := aA H; clear H; have p470 : 0 ≤ (Ja : Int) := of_decide_eq_true (by first | (with_reducible assumption) | assumption); have q470 : Ja < (l0.length : Int) := of_decide_eq_true (by first | (with_reducible assumption) | assumption); obtain ⟨ad470, A470_0, c470_0, e470, hx470_0, hl470_0, hi470_0⟩ := at_L6 HR0.out Ja p470 q470; obtain rfl : ad463 = ad470 := (by injection e470); replace hx470_0 := (HB.out.cell (World.block_lt_of_cell? w _ hx470_0)).trans hx470_0; have HR470_0 := aA hi470_0; have HC470_0 := aA hl470_0; clear hi470_0 hl470_0; replace p470 := eq_true p470; replace q470 := eq_true q470; have p471 : 0 ≤ (Jb : Int) := of_decide_eq_true (by first | (with_reducible assumption) | assumption); have q471 : Jb < ((rd_L6 l0 Ja).length : Int) := of_decide_eq_true (by first | (with_reducible assumption) | assumption); obtain ⟨ad471, A471_0, c471_0, e471, hx471_0, hx471_1, hl471_0, hi471_0⟩ := at_T46 HR470_0.out Jb p471 q471; cases e471
          replace hx471_0 := (HB.out.cell (World.block_lt_of_cell? w _ hx471_0)).trans hx471_0; replace hx471_1 := (HB.out.cell (World.block_lt_of_cell? w _ hx471_1)).trans hx471_1; have HR471_0 := aA hi471_0; have HC471_0 := aA hl471_0; clear hi471_0 hl471_0; replace p471 := eq_true p471; replace q471 := eq_true q471; have hcz25_0 : wr.cell? ⟨Jc, 0, none⟩ = some (u470000) := (blk_cell Jd.out 0).trans rfl; have hcz25_1 : wr.cell? ⟨Jc, 1, none⟩ = some (.bool ((rd_T46 (rd_L6 l0 Ja) Jb).f1)) := (blk_cell Jd.out 1).trans rfl; have hfz25_0 := blk_frozen Jd.out 0; have hfz25_1 := blk_frozen Jd.out 1; obtain ⟨Jn, Jo, eo27⟩ := Kd.R_slice Jh.out; subst eo27; go_wp2_with (first | ((with_reducible refine gate_builtin (b := .append) (xs := #[.tmp 64, .tmp 66]) rfl ?_); at_builtin; refine Kd.S_append k61 (w0 := w) w.heap.size rfl (.tmp 64) (.tmp 66) 56 61 (.agg #[(.slice none 0 0), (.bool false)]) 32 rfl Try.underlying56 info61 rfl (by decide) (by omega) u5 Jk (⟨Jf, ((rd_T46 (rd_L6 l0 Ja) Jb).f1)⟩ : S61) [.slice Jn Jf.length Jo, .bool ((rd_T46 (rd_L6 l0 Ja) Jb).f1)] (fun k_ => k_ ≠ Jc) (fun k_ => some k_ = (.slice Jn Jf.length Jo : Value).ownBlock) rfl rfl ?aP (fun k_ hk_ => ((Kd.R_mono (ok' := fun k_ => ((fun k_ => k_ ≠ Jc)) k_ ∧ some k_ ≠ (u5 : Value).ownBlock) (Kd.R_types (Kd.R_apart' (Jh.out) (Kd.S_typed Ji.out) (by decide)) Jd.out (by decide)) (fun k_ hk => ⟨hk.2, hk.1.2⟩))).1 k_ hk_.symm) ?aF ?aO ?aB ?aS ?aL ?_; (case aP => exact k61_mkM _ _ _ (⟨Jf, ((rd_T46 (rd_L6 l0 Ja) Jb).f1)⟩ : S61) (Kd.R_mono (Kd.R_tight rfl (Kd.R_mono (ok' := fun k_ => ((fun k_ => k_ ≠ Jc)) k_ ∧ some k_ ≠ (u5 : Value).ownBlock) (Kd.R_types (Kd.R_apart' (Jh.out) (Kd.S_typed Ji.out) (by decide)) Jd.out (by decide)) (fun k_ hk => ⟨hk.2, hk.1.2⟩))) (fun _ h_ => h_))); (case aB => exact (bls HB.out)); (case aF => exact (fun k_ hk => Kd.freshB (g := Jc) (o := .cells #[.slice Jn Jf.length Jo, .bool ((rd_T46 (rd_L6 l0 Ja) Jb).f1)] 61 (0, 0)) (bku Jd.out) k_ hk)); (case aO => exact (by (with_reducible repeat (first | apply Kd.S_alloc | apply Kd.S_drewN | apply Kd.S_drew)); exact Kd.S_mono Ji.out (fun k_ hk => ⟨hk.2, fun e_ => hk.1 e_⟩))); (case aS => exact (below_size (bls HB.out))); (case aL => have := LMc24.out; omega); intro v479 w26 ho hb hg hat; rw [← Ny478.out] at ho; have n0_ := aA (Kd.R_after (ok := (fun k_ => some k_ ≠ (.slice Jn Jf.length Jo : Value).ownBlock ∧ k_ ≠ Jc)) (rlu (Kd.R_mono Jg.out (fun _ hk => ⟨⟨hk.2.1, hk.2.2⟩, hk.1⟩))) hg hat); have n1_ := aA (blk_grown (g := Jc) (o := .cells #[.slice Jn Jf.length Jo, .bool ((rd_T46 (rd_L6 l0 Ja) Jb).f1)] 61 (0, 0)) (bku Jd.out) hg (Kd.S_away Ji.out (fun _ hk => hk.2))); have n2_ := aA (hb); have n3_ := aA (ho); clear Jg Jd HB Ji Jh; have Jg := n0_; have Jd := n1_; have HB := n2_; have HO480 := n3_; clear n0_ n1_ n2_ n3_ ho hb hg hat))
          go_roundg k3
          case measure => have := HK1.out; have := HK2.out; have := HK3.out; omega
          case rel => exact ⟨(Jw), (wrap64 (Jb + 1)), (by first | rfl | (simp; done) | (simp [*]; done)), H', ⟨by have := HK1.out; have := HK2.out; have := HK3.out; omega⟩, ⟨by (with_reducible repeat (first | apply Kd.R_alloc | apply Kd.R_drewN | apply Kd.R_drew)); exact Kd.R_mono Jg.out (fun _ hk => hk.2)⟩, ⟨by (with_reducible repeat (first | apply Kd.S_alloc | apply Kd.S_drewN | apply Kd.S_drew)); exact Kd.S_mono HO480.out (fun _ hk => trivial)⟩, ⟨by repeat (first | (with_reducible first | exact HB.out | apply below_alloc | apply pw_below_drewN | apply below_drew1 | refine below_set ?_ Jp.out) | exact HB.out)⟩⟩
      ·rw [if_neg c9] at H; have c9b0 : decide (Jb < ((rd_L6 l0 Ja).length : Int)) = false := decide_eq_false c9; clear c9; by_cases c28 : Jj.length < 5864062014805
       rotate_left
       ·rw [if_neg c28] at H; exact absurd H (by simp)
       rw [if_pos c28] at H; have LMc28 := aA c28; clear c28; obtain ⟨Jx, hy464⟩ : ∃ y_ : List (List (S61)), y_ = (Jj ++ [Jk]) := ⟨_, rfl⟩; replace H : (treillagelaw09_its.l0 k2 l0 Jx (wrap64 (Ja + 1))) = some r := by first | (rw [hy464]; with_reducible exact H) | (have H2_ := (Option.bind_some _ _).symm.trans H; rw [hy464]; with_reducible exact H2_) | (have H2_ := (Option.bind_some _ _).symm.trans H; with_reducible exact H2_) | with_reducible exact H | (rw [hy464]; exact H) | exact H
       have Ny464 := aA hy464; clear hy464; have H' := aA H; clear H; have p463 : 0 ≤ (Ja : Int) := of_decide_eq_true (by first | (with_reducible assumption) | assumption); have q463 : Ja < (l0.length : Int) := of_decide_eq_true (by first | (with_reducible assumption) | assumption); obtain ⟨ad463, A463_0, c463_0, e463, hx463_0, hl463_0, hi463_0⟩ := at_L6 HR0.out Ja p463 q463; cases e463
       replace hx463_0 := (HB.out.cell (World.block_lt_of_cell? w _ hx463_0)).trans hx463_0; have HR463_0 := aA hi463_0; have HC463_0 := aA hl463_0; clear hi463_0 hl463_0; replace p463 := eq_true p463; replace q463 := eq_true q463; obtain ⟨Ao30, co30, eo30⟩ := Kd.S_slice Ji.out; subst eo30; go_wp2_with (first | ((with_reducible refine gate_builtin (b := .append) (xs := #[.tmp 68, .tmp 70]) rfl ?_); at_builtin; refine Kd.R_append (Kd.slice 61 k61) (w0 := w) w.heap.size rfl (.tmp 68) (.tmp 70) 29 56 (.slice none 0 0) 24 rfl Try.underlying29 info56 rfl (by decide) (by omega) u3 Jj Jk [.slice Ao30 Jk.length co30] (fun _ => True) (fun k_ => ((fun _ => True)) k_ ∧ some k_ ≠ (u3 : Value).ownBlock) rfl rfl ?aP (fun _ hk => hk) ?aF ?aO ?aB ?aS ?aL ?_; (case aP => exact Kd.M_row (Kd.R_mono (Kd.R_apart' ((Kd.S_R Ji.out)) (Kd.R_typed Jg.out) (by decide)) (fun k_ hk => ⟨trivial, hk.2⟩))); (case aB => exact (blw HB.out)); (case aF => exact (fun _ _ => trivial)); (case aO => exact (rlu (Kd.R_mono Jg.out (fun _ hk => trivial)))); (case aS => exact (below_size (blw HB.out))); (case aL => have := LMc28.out; omega); intro v465 w29 ho hb hg hat; rw [← Ny464.out] at ho; have n0_ := aA (hb); have n1_ := aA (ho); clear HB Jg Ji; have HB := n0_; have HO466 := n1_; clear n0_ n1_ ho hb hg hat))
       go_roundg k2
       case measure => have := HK1.out; have := HK2.out; omega
       case rel => exact ⟨(Jx), (wrap64 (Ja + 1)), (by first | rfl | (simp; done) | (simp [*]; done)), H', ⟨by have := HK1.out; have := HK2.out; omega⟩, ⟨by (with_reducible repeat (first | apply Kd.R_alloc | apply Kd.R_drewN | apply Kd.R_drew)); exact HO466.out⟩, ⟨by repeat (first | (with_reducible first | exact HB.out | apply below_alloc | apply pw_below_drewN | apply below_drew1) | exact HB.out)⟩⟩
   ·rw [if_neg c4] at H; have c4b0 : decide (Ja < (l0.length : Int)) = false := decide_eq_false c4; clear c4; obtain rfl := Option.some.inj H; go_wp2; go_ret
    exact ⟨_, by first | rfl | (simp [errW_none, errW_some] <;> rfl) | (simp [*, errW_none, errW_some] <;> rfl), by (with_reducible repeat (first | apply Kd.R_alloc | apply Kd.R_drewN | apply Kd.R_drew)); exact Jg.out, by repeat (first | (with_reducible first | exact HB.out | apply below_alloc | apply pw_below_drewN | apply below_drew1) | exact HB.out)⟩

end Go.Proofs.Ytjiejmkkaekefaa.PA
