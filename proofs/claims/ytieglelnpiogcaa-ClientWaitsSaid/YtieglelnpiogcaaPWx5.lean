-- Written by wip/hprint/hprint.py (a program of this session, over the print): not typed by hand
import Derived.Test.YtieglelnpiogcaaPWx0
namespace Go.Proofs.Ytieglelnpiogcaa.PW
open Go.RowKit Go.Proofs.YtieglelnpiogcaaW.PrintWords Go.Proofs.YtieglelnpiogcaaW.PrintLast Go.Proofs.YtieglelnpiogcaaW.PrintMore
attribute [local go_sem] max2_int min2_int max_two min_two max_three min_three max_four min_four   -- for this text's walks alone
open Go.Proofs.YtieglelnpiogcaaH
set_option linter.unusedVariables false
set_option linter.unusedSimpArgs false

/-! ### queue_Got: function 72 -/
mutual
def queue_Got.j0 : Nat → Int → Bool → Bool → Int → Int → Int → Option (Int × Int × Int)
 | 0, _, _, _, _, _, _ => none
 | k + 1, x1, x2, x14, x139000, x139001, x139002 => if x14 = true then (some (6, x139001, x139002)) else (if x139000 = 1 then (queue_Got.j1 k x2 (decide (x1 > x139001)) x139000 x139001 x139002) else (queue_Got.j1 k x2 false x139000 x139001 x139002))
def queue_Got.j1 : Nat → Bool → Bool → Int → Int → Int → Option (Int × Int × Int)
 | 0, _, _, _, _, _ => none
 | k + 1, x2, x25, x139000, x139001, x139002 => if x25 = true then (queue_Got.j2 k x25 x139000 x139001 x139002) else (if x139000 = 2 then (queue_Got.j2 k (!x2) x139000 x139001 x139002) else (queue_Got.j2 k false x139000 x139001 x139002))
def queue_Got.j2 : Nat → Bool → Int → Int → Int → Option (Int × Int × Int)
 | 0, _, _, _, _ => none
 | k + 1, x25, x139000, x139001, x139002 => if x25 = true then (some (0, x139001, x139002)) else (if x139000 ≥ 1 then (if x139000 ≤ 4 then (some (wrap64 (x139000 + 1), x139001, x139002)) else (some (x139000, x139001, x139002))) else (some (x139000, x139001, x139002)))
end
def queue_Got.f (k : Nat) (yj : Int) (yi : Int) (ym : Int) (a1 : Int) (a2 : Bool) : Option (Int × Int × Int) := if yj = 0 then (some (1, a1, ym)) else (if yj = 1 then (queue_Got.j0 k a1 a2 (decide (a1 < yi)) yj yi ym) else (queue_Got.j0 k a1 a2 false yj yi ym))
theorem queue_Got.mono_l : ∀ k, (∀ y0 y1 y2 y3 y4 y5, LeO (queue_Got.j0 k y0 y1 y2 y3 y4 y5) (queue_Got.j0 (k + 1) y0 y1 y2 y3 y4 y5)) ∧ (∀ y0 y1 y2 y3 y4, LeO (queue_Got.j1 k y0 y1 y2 y3 y4) (queue_Got.j1 (k + 1) y0 y1 y2 y3 y4)) ∧ (∀ y0 y1 y2 y3, LeO (queue_Got.j2 k y0 y1 y2 y3) (queue_Got.j2 (k + 1) y0 y1 y2 y3))
 | 0 => ⟨fun _ _ _ _ _ _ r h => by simp [queue_Got.j0] at h, fun _ _ _ _ _ r h => by simp [queue_Got.j1] at h, fun _ _ _ _ r h => by simp [queue_Got.j2] at h⟩
 | k + 1 => by
  obtain ⟨ih0, ih1, ih2⟩ := queue_Got.mono_l k; refine ⟨?_, ?_, ?_⟩
  ·intro y0 y1 y2 y3 y4 y5
   unfold queue_Got.j0; repeat' first
   | (with_reducible exact ih0 _ _ _ _ _ _)
   | (with_reducible exact ih1 _ _ _ _ _)
   | (with_reducible exact ih2 _ _ _ _)
   | (with_reducible exact LeO.refl _)
   | (with_reducible exact LeO.none _)
   | (with_reducible refine LeO.ite ?_ ?_)
   | (with_reducible refine LeO.bind ?_ (fun _ => ?_))
   | exact ih0 _ _ _ _ _ _
   | exact ih1 _ _ _ _ _
   | exact ih2 _ _ _ _
   | exact LeO.none _
   | refine LeO.ite ?_ ?_
   | refine LeO.bind ?_ (fun _ => ?_)
  ·intro y0 y1 y2 y3 y4
   unfold queue_Got.j1; repeat' first
   | (with_reducible exact ih0 _ _ _ _ _ _)
   | (with_reducible exact ih1 _ _ _ _ _)
   | (with_reducible exact ih2 _ _ _ _)
   | (with_reducible exact LeO.refl _)
   | (with_reducible exact LeO.none _)
   | (with_reducible refine LeO.ite ?_ ?_)
   | (with_reducible refine LeO.bind ?_ (fun _ => ?_))
   | exact ih0 _ _ _ _ _ _
   | exact ih1 _ _ _ _ _
   | exact ih2 _ _ _ _
   | exact LeO.none _
   | refine LeO.ite ?_ ?_
   | refine LeO.bind ?_ (fun _ => ?_)
  ·intro y0 y1 y2 y3
   unfold queue_Got.j2; repeat' first
   | (with_reducible exact ih0 _ _ _ _ _ _)
   | (with_reducible exact ih1 _ _ _ _ _)
   | (with_reducible exact ih2 _ _ _ _)
   | (with_reducible exact LeO.refl _)
   | (with_reducible exact LeO.none _)
   | (with_reducible refine LeO.ite ?_ ?_)
   | (with_reducible refine LeO.bind ?_ (fun _ => ?_))
   | exact ih0 _ _ _ _ _ _
   | exact ih1 _ _ _ _ _
   | exact ih2 _ _ _ _
   | exact LeO.none _
   | refine LeO.ite ?_ ?_
   | refine LeO.bind ?_ (fun _ => ?_)
theorem queue_Got.mono : ∀ a0 a1 a2 a3 a4 k, LeO (queue_Got.f k a0 a1 a2 a3 a4) (queue_Got.f (k + 1) a0 a1 a2 a3 a4) := by
 intro a0 a1 a2 a3 a4 k
 obtain ⟨ih0, ih1, ih2⟩ := queue_Got.mono_l k; unfold queue_Got.f
 repeat' first
   | (with_reducible exact ih0 _ _ _ _ _ _)
   | (with_reducible exact ih1 _ _ _ _ _)
   | (with_reducible exact ih2 _ _ _ _)
   | (with_reducible exact LeO.refl _)
   | (with_reducible exact LeO.none _)
   | (with_reducible refine LeO.ite ?_ ?_)
   | (with_reducible refine LeO.bind ?_ (fun _ => ?_))
   | exact ih0 _ _ _ _ _ _
   | exact ih1 _ _ _ _ _
   | exact ih2 _ _ _ _
   | exact LeO.none _
   | refine LeO.ite ?_ ?_
   | refine LeO.bind ?_ (fun _ => ?_)
set_option maxHeartbeats 8000000 in
set_option maxRecDepth 100000 in
theorem queue_Got.calls (k : Nat) (yj : Int) (yi : Int) (ym : Int) (a1 : Int) (a2 : Bool) (r1 : Int) (r2 : Int) (r3 : Int) (w : World) (h : queue_Got.f k yj yi ym a1 a2 = some (r1, r2, r3)) :
  Calls Try.prog 72 #[.agg #[.int .i64 yj, .int .u64 yi, .int .u64 ym], .int .u64 a1, .bool a2] w fun e w' => e = .returned (.agg #[.int .i64 r1, .int .u64 r2, .int .u64 r3]) ∧ Below w.heap.size w w' := by
 have hu36 := Try.underlying36; have HB := aA (Below.refl w.heap.size w); have H : (if yj = 0 then (some (1, a1, ym)) else (if yj = 1 then (queue_Got.j0 k a1 a2 (decide (a1 < yi)) yj yi ym) else (queue_Got.j0 k a1 a2 false yj yi ym))) = some (r1, r2, r3) := h; clear h; by_cases c4 : yj = 0
 ·rw [if_pos c4] at H; have c4b0 : (yj == 0) = true := beq_iff_eq.mpr c4; have c4b1 : (yj != 0) = false := bne_eq_false_iff_eq.mpr c4; clear c4; simp only [Option.some.injEq, Prod.mk.injEq] at H; obtain ⟨rfl, rfl, rfl⟩ := H; go_enter Try.func72, Try.ntmps72; go_wp2_with (first | ((with_reducible refine gate_dst (N := 3) rfl ?_); refine zV ?hg (N := 3) ?hd (cs := #[.int .i64 yj, .int .u64 yi, .int .u64 ym]) (t := 36) ?hr ?_; (case hd => rfl); (case hg => rfl); (case hr => first | (go_simp; done) | (go_simp; rfl)); intro Jb hg w5 hbox hb; have n0_ := aA (zz (blw HB.out) hb); have n1_ := aA (hbox); have n2_ := aA ((by rw [hg]; exact (zR (blw HB.out)) : w.heap.size ≤ Jb)); have n3_ := aA ((by rw [hg]; exact (zR (blw HB.out)) : w.heap.size ≤ Jb)); clear HB; have HB := n0_; have Ja := n1_; have GW138 := n2_; have Jg := n3_; clear n0_ n1_ n2_ n3_ hb hbox hg) | ((with_reducible refine gate_dst (N := 6) rfl ?_); refine zV ?hg (N := 6) ?hd (cs := #[.int .i64 0, .int .u64 0, .int .u64 0]) (t := 36) ?hr ?_; (case hd => rfl); (case hg => rfl); (case hr => first | (go_simp; done) | (go_simp; rfl)); intro Jd hg w6 hbox hb; have n0_ := aA (zl (g := Jb) (o := .cells #[.int .i64 yj, .int .u64 yi, .int .u64 ym] 36 (0, 0)) (bku Ja.out) hb); have n1_ := aA (zz (bls HB.out) hb); have n2_ := aA (hbox); have n3_ := aA ((by rw [hg]; exact (zR (bls HB.out)) : w.heap.size ≤ Jd)); have n4_ := aA ((by rw [hg]; exact (zR (bls HB.out)) : w.heap.size ≤ Jd)); have n5_ := aA ((by rw [hg]; exact zq (zS (g := Jb) (o := .cells #[.int .i64 yj, .int .u64 yi, .int .u64 ym] 36 (0, 0)) (bku Ja.out)) : Jb ≠ Jd)); have n6_ := aA ((by rw [hg]; exact zp (zS (g := Jb) (o := .cells #[.int .i64 yj, .int .u64 yi, .int .u64 ym] 36 (0, 0)) (bku Ja.out)) : Jd ≠ Jb)); clear Ja HB; have Ja := n0_; have HB := n1_; have Jc := n2_; have GW139 := n3_; have Jh := n4_; have Jf := n5_; have Je := n6_; clear n0_ n1_ n2_ n3_ n4_ n5_ n6_ hb hbox hg; have hnb7 := Jf.out; have hnc7 := Je.out; have J3 : w6.cell? ⟨Jb, 0, none⟩ = some (.int .i64 yj) := (za Ja.out 0).trans rfl; have J4 : w6.cell? ⟨Jb, 1, none⟩ = some (.int .u64 yi) := (za Ja.out 1).trans rfl; have J5 : w6.cell? ⟨Jb, 2, none⟩ = some (.int .u64 ym) := (za Ja.out 2).trans rfl; have J6 := ze Ja.out 0; have J7 := ze Ja.out 1; have J8 := ze Ja.out 2; have J9 : w6.cell? ⟨Jd, 0, none⟩ = some (.int .i64 0) := (za Jc.out 0).trans rfl; have Qa : w6.cell? ⟨Jd, 1, none⟩ = some (.int .u64 0) := (za Jc.out 1).trans rfl; have Qb : w6.cell? ⟨Jd, 2, none⟩ = some (.int .u64 0) := (za Jc.out 2).trans rfl; have Qc := ze Jc.out 0; have Qd := ze Jc.out 1; have Qe := ze Jc.out 2))
  refine zE (zO rfl _ _ Jd 36 #[.int .i64 1, .int .u64 a1, .int .u64 ym] (0, 0) _ rfl (by (with_reducible repeat (first | refine zh ?_ _ | refine zf ?_ | refine zg ?_ _)); refine zT (cs := #[.int .i64 1, .int .u64 a1, .int .u64 0]) ?_ 2 _ rfl; (with_reducible repeat (first | refine zh ?_ _ | refine zf ?_ | refine zg ?_ _)); refine zT (cs := #[.int .i64 1, .int .u64 0, .int .u64 0]) ?_ 1 _ rfl; (with_reducible repeat (first | refine zh ?_ _ | refine zf ?_ | refine zg ?_ _)); refine zT (cs := #[.int .i64 0, .int .u64 0, .int .u64 0]) ?_ 0 _ rfl; (with_reducible repeat (first | refine zh ?_ _ | refine zf ?_ | refine zg ?_ _)); refine zo ?_ Je.out _; (with_reducible repeat (first | refine zh ?_ _ | refine zf ?_ | refine zg ?_ _)); refine zo ?_ Je.out _; (with_reducible repeat (first | refine zh ?_ _ | refine zf ?_ | refine zg ?_ _)); exact Jc.out) Try.underlying36 rfl (by kernel_rfl)) rfl ?_; exact ⟨by first | rfl | (simp [errW_none, errW_some] <;> rfl) | (simp [*, errW_none, errW_some] <;> rfl), by repeat (first | (with_reducible first | exact HB.out | apply zB | apply zC | apply zD | refine zt ?_ Jg.out | refine zt ?_ Jh.out) | exact HB.out)⟩
 ·rw [if_neg c4] at H; have c4b0 : (yj == 0) = false := beq_eq_false_iff_ne.mpr c4; have c4b1 : (yj != 0) = true := bne_iff_ne.mpr c4; have HC10 := aA H; clear H; go_enter Try.func72, Try.ntmps72; go_upto_region 3 with (first | ((with_reducible refine gate_dst (N := 3) rfl ?_); refine zV ?hg (N := 3) ?hd (cs := #[.int .i64 yj, .int .u64 yi, .int .u64 ym]) (t := 36) ?hr ?_; (case hd => rfl); (case hg => rfl); (case hr => first | (go_simp; done) | (go_simp; rfl)); intro Jb hg w11 hbox hb; have n0_ := aA (zz (blw HB.out) hb); have n1_ := aA (hbox); have n2_ := aA ((by rw [hg]; exact (zR (blw HB.out)) : w.heap.size ≤ Jb)); have n3_ := aA ((by rw [hg]; exact (zR (blw HB.out)) : w.heap.size ≤ Jb)); clear HB; have HB := n0_; have Ja := n1_; have GW138 := n2_; have Jg := n3_; clear n0_ n1_ n2_ n3_ hb hbox hg) | ((with_reducible refine gate_dst (N := 6) rfl ?_); refine zV ?hg (N := 6) ?hd (cs := #[.int .i64 0, .int .u64 0, .int .u64 0]) (t := 36) ?hr ?_; (case hd => rfl); (case hg => rfl); (case hr => first | (go_simp; done) | (go_simp; rfl)); intro Jd hg w12 hbox hb; have n0_ := aA (zl (g := Jb) (o := .cells #[.int .i64 yj, .int .u64 yi, .int .u64 ym] 36 (0, 0)) (bku Ja.out) hb); have n1_ := aA (zz (bls HB.out) hb); have n2_ := aA (hbox); have n3_ := aA ((by rw [hg]; exact (zR (bls HB.out)) : w.heap.size ≤ Jd)); have n4_ := aA ((by rw [hg]; exact (zR (bls HB.out)) : w.heap.size ≤ Jd)); have n5_ := aA ((by rw [hg]; exact zq (zS (g := Jb) (o := .cells #[.int .i64 yj, .int .u64 yi, .int .u64 ym] 36 (0, 0)) (bku Ja.out)) : Jb ≠ Jd)); have n6_ := aA ((by rw [hg]; exact zp (zS (g := Jb) (o := .cells #[.int .i64 yj, .int .u64 yi, .int .u64 ym] 36 (0, 0)) (bku Ja.out)) : Jd ≠ Jb)); clear Ja HB; have Ja := n0_; have HB := n1_; have Jc := n2_; have GW139 := n3_; have Jh := n4_; have Jf := n5_; have Je := n6_; clear n0_ n1_ n2_ n3_ n4_ n5_ n6_ hb hbox hg; have hnb13 := Jf.out; have hnc13 := Je.out; have Jk : w12.cell? ⟨Jb, 0, none⟩ = some (.int .i64 yj) := (za Ja.out 0).trans rfl; have Jl : w12.cell? ⟨Jb, 1, none⟩ = some (.int .u64 yi) := (za Ja.out 1).trans rfl; have Jm : w12.cell? ⟨Jb, 2, none⟩ = some (.int .u64 ym) := (za Ja.out 2).trans rfl; have Jn := ze Ja.out 0; have Jo := ze Ja.out 1; have Jp := ze Ja.out 2))
  (try simp only [Act.put, ye, yf, yg]); go_cut [14] (fun v14 wc => ∃ (kq : Nat) (J2 : Bool), v14 = .bool J2 ∧ Aside0 (queue_Got.j0 kq a1 a2 J2 yj yi ym = some (r1, r2, r3)) ∧ Aside0 (kq ≤ k) ∧ Aside0 (wc.heap[Jb]? = some (.cells #[.int .i64 yj, .int .u64 yi, .int .u64 ym] 36 (0, 0))) ∧ Aside0 (wc.heap[Jd]? = some (.cells #[.int .i64 0, .int .u64 0, .int .u64 0] 36 (0, 0))) ∧ Aside0 (Below w.heap.size w wc))
  case first =>
   have H := HC10.out; clear HC10; by_cases c15 : yj = 1
   ·rw [if_pos c15] at H; have c15b0 : (yj == 1) = true := beq_iff_eq.mpr c15; have c15b1 : (yj != 1) = false := bne_eq_false_iff_eq.mpr c15; clear c15; (first | rw [c15b0] | rw [c15b1] | (simp only [i64_w, i32_w]; rw [c15b0]) | skip)
    have H' := aA H; clear H; have hnb16 := Jf.out; have hnc16 := Je.out; have Jq : w12.cell? ⟨Jb, 0, none⟩ = some (.int .i64 yj) := (za Ja.out 0).trans rfl; have Jr : w12.cell? ⟨Jb, 1, none⟩ = some (.int .u64 yi) := (za Ja.out 1).trans rfl; have Js : w12.cell? ⟨Jb, 2, none⟩ = some (.int .u64 ym) := (za Ja.out 2).trans rfl; have Jt := ze Ja.out 0; have Ju := ze Ja.out 1; have Jv := ze Ja.out 2; go_wp2; go_meet
    case rel => exact ⟨_, (decide (a1 < yi)), (by first | rfl | (simp; done) | (simp [*]; done)), H', ⟨by first | omega | exact zu _⟩, ⟨by (with_reducible repeat (first | refine zh ?_ _ | refine zf ?_ | refine zg ?_ _)); exact Ja.out⟩, ⟨by (with_reducible repeat (first | refine zh ?_ _ | refine zf ?_ | refine zg ?_ _)); exact Jc.out⟩, ⟨by repeat (first | (with_reducible first | exact HB.out | apply zB | apply zC | apply zD | refine zt ?_ Jg.out | refine zt ?_ Jh.out) | exact HB.out)⟩⟩
   ·rw [if_neg c15] at H; have c15b0 : (yj == 1) = false := beq_eq_false_iff_ne.mpr c15; have c15b1 : (yj != 1) = true := bne_iff_ne.mpr c15; (first | rw [c15b0] | rw [c15b1] | (simp only [i64_w, i32_w]; rw [c15b0]) | skip)
    have H' := aA H; clear H; have hnb18 := Jf.out; have hnc18 := Je.out; have Jw : w12.cell? ⟨Jb, 0, none⟩ = some (.int .i64 yj) := (za Ja.out 0).trans rfl; have Jx : w12.cell? ⟨Jb, 1, none⟩ = some (.int .u64 yi) := (za Ja.out 1).trans rfl; have Jy : w12.cell? ⟨Jb, 2, none⟩ = some (.int .u64 ym) := (za Ja.out 2).trans rfl; have Jz := ze Ja.out 0; have J0 := ze Ja.out 1; have J1 := ze Ja.out 2; go_wp2; go_meet
    case rel => exact ⟨_, (false), (by first | rfl | (simp; done) | (simp [*]; done)), H', ⟨by first | omega | exact zu _⟩, ⟨by (with_reducible repeat (first | refine zh ?_ _ | refine zf ?_ | refine zg ?_ _)); exact Ja.out⟩, ⟨by (with_reducible repeat (first | refine zh ?_ _ | refine zf ?_ | refine zg ?_ _)); exact Jc.out⟩, ⟨by repeat (first | (with_reducible first | exact HB.out | apply zB | apply zC | apply zD | refine zt ?_ Jg.out | refine zt ?_ Jh.out) | exact HB.out)⟩⟩
  case rest =>
   clear HC10; try clear c1
   try clear p2
   try clear c4
   try clear c4b0
   try clear c4b1
   try clear c7
   try clear c13
   try clear c15
   try clear c15b0
   try clear c15b1
   try clear c16
   try clear c18
   try clear Jk
   try clear Jl
   try clear Jm
   try clear Jq
   try clear Jr
   try clear Js
   try clear Jw
   try clear Jx
   try clear Jy
   try clear J3
   try clear J4
   try clear J5
   try clear J9
   try clear Qa
   try clear Qb
   try clear Jn
   try clear Jo
   try clear Jp
   try clear Jt
   try clear Ju
   try clear Jv
   try clear Jz
   try clear J0
   try clear J1
   try clear J6
   try clear J7
   try clear J8
   try clear Qc
   try clear Qd
   try clear Qe
   obtain ⟨kq, J2, rfl, HA, HJ9, Ja, Jc, HB⟩ := hcut; cases kq with
   | zero => exact absurd HA.out (by simp [queue_Got.j0])
   | succ kj9 =>
    have H := HA.out; clear HA; simp only [queue_Got.j0] at H; by_cases c20 : J2 = true
    ·subst c20; have H1 : (some (6, yi, ym)) = some (r1, r2, r3) := by rw [if_pos rfl] at H; exact H
     clear H; have H := H1; clear H1; simp only [Option.some.injEq, Prod.mk.injEq] at H; obtain ⟨rfl, rfl, rfl⟩ := H; have hnb21 := Jf.out; have hnc21 := Je.out; have Qf : wc.cell? ⟨Jb, 0, none⟩ = some (.int .i64 yj) := (za Ja.out 0).trans rfl; have Qg : wc.cell? ⟨Jb, 1, none⟩ = some (.int .u64 yi) := (za Ja.out 1).trans rfl; have Qh : wc.cell? ⟨Jb, 2, none⟩ = some (.int .u64 ym) := (za Ja.out 2).trans rfl; have Qi := ze Ja.out 0; have Qj := ze Ja.out 1; have Qk := ze Ja.out 2; have Ql : wc.cell? ⟨Jd, 0, none⟩ = some (.int .i64 0) := (za Jc.out 0).trans rfl; have Qm : wc.cell? ⟨Jd, 1, none⟩ = some (.int .u64 0) := (za Jc.out 1).trans rfl; have Qn : wc.cell? ⟨Jd, 2, none⟩ = some (.int .u64 0) := (za Jc.out 2).trans rfl; have Qo := ze Jc.out 0; have Qp := ze Jc.out 1; have Qq := ze Jc.out 2; go_wp2; refine zE (zO rfl _ _ Jd 36 #[.int .i64 6, .int .u64 yi, .int .u64 ym] (0, 0) _ rfl (by (with_reducible repeat (first | refine zh ?_ _ | refine zf ?_ | refine zg ?_ _)); refine zT (cs := #[.int .i64 6, .int .u64 yi, .int .u64 0]) ?_ 2 _ rfl; (with_reducible repeat (first | refine zh ?_ _ | refine zf ?_ | refine zg ?_ _)); refine zT (cs := #[.int .i64 6, .int .u64 0, .int .u64 0]) ?_ 1 _ rfl; (with_reducible repeat (first | refine zh ?_ _ | refine zf ?_ | refine zg ?_ _)); refine zT (cs := #[.int .i64 0, .int .u64 0, .int .u64 0]) ?_ 0 _ rfl; (with_reducible repeat (first | refine zh ?_ _ | refine zf ?_ | refine zg ?_ _)); refine zo ?_ Je.out _; (with_reducible repeat (first | refine zh ?_ _ | refine zf ?_ | refine zg ?_ _)); exact Jc.out) Try.underlying36 rfl (by kernel_rfl)) rfl ?_; exact ⟨by first | rfl | (simp [errW_none, errW_some] <;> rfl) | (simp [*, errW_none, errW_some] <;> rfl), by repeat (first | (with_reducible first | exact HB.out | apply zB | apply zC | apply zD | refine zt ?_ Jg.out | refine zt ?_ Jh.out) | exact HB.out)⟩
    ·replace c20 := Bool.eq_false_iff.mpr c20; subst c20; have H1 : (if yj = 1 then (queue_Got.j1 kj9 a2 (decide (a1 > yi)) yj yi ym) else (queue_Got.j1 kj9 a2 false yj yi ym)) = some (r1, r2, r3) := by rw [if_neg (show ¬ (false = true) by decide)] at H; exact H
     clear H; have H := H1; clear H1; have HC24 := aA H; clear H; go_upto_region 5 with (fail)
     go_cut [25] (fun v25 wc => ∃ (kq : Nat) (Ji : Bool), v25 = .bool Ji ∧ Aside0 (queue_Got.j1 kq a2 Ji yj yi ym = some (r1, r2, r3)) ∧ Aside0 (kq ≤ kj9) ∧ Aside0 (wc.heap[Jb]? = some (.cells #[.int .i64 yj, .int .u64 yi, .int .u64 ym] 36 (0, 0))) ∧ Aside0 (wc.heap[Jd]? = some (.cells #[.int .i64 0, .int .u64 0, .int .u64 0] 36 (0, 0))) ∧ Aside0 (Below w.heap.size w wc))
     case first =>
      have H := HC24.out; clear HC24; by_cases c25 : yj = 1
      ·rw [if_pos c25] at H; have c25b0 : (yj == 1) = true := beq_iff_eq.mpr c25; have c25b1 : (yj != 1) = false := bne_eq_false_iff_eq.mpr c25; clear c25; (first | rw [c25b0] | rw [c25b1] | (simp only [i64_w, i32_w]; rw [c25b0]) | skip)
       have H' := aA H; clear H; have hnb26 := Jf.out; have hnc26 := Je.out; have Qr : wc.cell? ⟨Jb, 0, none⟩ = some (.int .i64 yj) := (za Ja.out 0).trans rfl; have Qs : wc.cell? ⟨Jb, 1, none⟩ = some (.int .u64 yi) := (za Ja.out 1).trans rfl; have Qt : wc.cell? ⟨Jb, 2, none⟩ = some (.int .u64 ym) := (za Ja.out 2).trans rfl; have Qu := ze Ja.out 0; have Qv := ze Ja.out 1; have Qw := ze Ja.out 2; go_wp2; go_meet
       case rel => exact ⟨_, (decide (a1 > yi)), (by first | rfl | (simp; done) | (simp [*]; done)), H', ⟨by have := HJ9.out; first | omega | exact zu _⟩, ⟨by (with_reducible repeat (first | refine zh ?_ _ | refine zf ?_ | refine zg ?_ _)); exact Ja.out⟩, ⟨by (with_reducible repeat (first | refine zh ?_ _ | refine zf ?_ | refine zg ?_ _)); exact Jc.out⟩, ⟨by repeat (first | (with_reducible first | exact HB.out | apply zB | apply zC | apply zD | refine zt ?_ Jg.out | refine zt ?_ Jh.out) | exact HB.out)⟩⟩
      ·rw [if_neg c25] at H; have c25b0 : (yj == 1) = false := beq_eq_false_iff_ne.mpr c25; have c25b1 : (yj != 1) = true := bne_iff_ne.mpr c25; (first | rw [c25b0] | rw [c25b1] | (simp only [i64_w, i32_w]; rw [c25b0]) | skip)
       have H' := aA H; clear H; have hnb28 := Jf.out; have hnc28 := Je.out; have Qx : wc.cell? ⟨Jb, 0, none⟩ = some (.int .i64 yj) := (za Ja.out 0).trans rfl; have Qy : wc.cell? ⟨Jb, 1, none⟩ = some (.int .u64 yi) := (za Ja.out 1).trans rfl; have Qz : wc.cell? ⟨Jb, 2, none⟩ = some (.int .u64 ym) := (za Ja.out 2).trans rfl; have Q0 := ze Ja.out 0; have Q1 := ze Ja.out 1; have Q2 := ze Ja.out 2; go_wp2; go_meet
       case rel => exact ⟨_, (false), (by first | rfl | (simp; done) | (simp [*]; done)), H', ⟨by have := HJ9.out; first | omega | exact zu _⟩, ⟨by (with_reducible repeat (first | refine zh ?_ _ | refine zf ?_ | refine zg ?_ _)); exact Ja.out⟩, ⟨by (with_reducible repeat (first | refine zh ?_ _ | refine zf ?_ | refine zg ?_ _)); exact Jc.out⟩, ⟨by repeat (first | (with_reducible first | exact HB.out | apply zB | apply zC | apply zD | refine zt ?_ Jg.out | refine zt ?_ Jh.out) | exact HB.out)⟩⟩
     case rest =>
      clear HC24; try clear c1
      try clear c2
      try clear p2
      try clear c4
      try clear c4b0
      try clear c4b1
      try clear c7
      try clear c13
      try clear c15
      try clear c15b0
      try clear c15b1
      try clear c16
      try clear c18
      try clear c20
      try clear c21
      try clear c25
      try clear c25b0
      try clear c25b1
      try clear c26
      try clear c28
      try clear Jk
      try clear Jl
      try clear Jm
      try clear Jq
      try clear Jr
      try clear Js
      try clear Jw
      try clear Jx
      try clear Jy
      try clear Qf
      try clear Qg
      try clear Qh
      try clear Ql
      try clear Qm
      try clear Qn
      try clear Qr
      try clear Qs
      try clear Qt
      try clear Qx
      try clear Qy
      try clear Qz
      try clear J3
      try clear J4
      try clear J5
      try clear J9
      try clear Qa
      try clear Qb
      try clear Jn
      try clear Jo
      try clear Jp
      try clear Jt
      try clear Ju
      try clear Jv
      try clear Jz
      try clear J0
      try clear J1
      try clear Qi
      try clear Qj
      try clear Qk
      try clear Qo
      try clear Qp
      try clear Qq
      try clear Qu
      try clear Qv
      try clear Qw
      try clear Q0
      try clear Q1
      try clear Q2
      try clear J6
      try clear J7
      try clear J8
      try clear Qc
      try clear Qd
      try clear Qe
      try clear p2
      obtain ⟨kq, Ji, rfl, HA, HJ23, Ja, Jc, HB⟩ := hcut; cases kq with
      | zero => exact absurd HA.out (by simp [queue_Got.j1])
      | succ kj23 =>
       have H := HA.out; clear HA; simp only [queue_Got.j1] at H; have HC30 := aA H; clear H; go_upto_if 25 with (fail)
       go_cut [25] (fun v25 wc => ∃ (kq : Nat) (Jj : Bool), v25 = .bool Jj ∧ Aside0 (queue_Got.j2 kq Jj yj yi ym = some (r1, r2, r3)) ∧ Aside0 (kq ≤ kj23) ∧ Aside0 (wc.heap[Jb]? = some (.cells #[.int .i64 yj, .int .u64 yi, .int .u64 ym] 36 (0, 0))) ∧ Aside0 (wc.heap[Jd]? = some (.cells #[.int .i64 0, .int .u64 0, .int .u64 0] 36 (0, 0))) ∧ Aside0 (Below w.heap.size w wc))
       case first =>
        have H := HC30.out; clear HC30; by_cases c31 : Ji = true
        ·subst c31; have H1 : (queue_Got.j2 kj23 true yj yi ym) = some (r1, r2, r3) := by rw [if_pos rfl] at H; exact H
         clear H; have H := H1; clear H1; have H' := aA H; clear H; go_wp2; go_meet
         case rel => exact ⟨_, (true), (by first | rfl | (simp; done) | (simp [*]; done)), H', ⟨by have := HJ9.out; have := HJ23.out; first | omega | exact zu _⟩, ⟨by (with_reducible repeat (first | refine zh ?_ _ | refine zf ?_ | refine zg ?_ _)); exact Ja.out⟩, ⟨by (with_reducible repeat (first | refine zh ?_ _ | refine zf ?_ | refine zg ?_ _)); exact Jc.out⟩, ⟨by repeat (first | (with_reducible first | exact HB.out | apply zB | apply zC | apply zD | refine zt ?_ Jg.out | refine zt ?_ Jh.out) | exact HB.out)⟩⟩
        ·replace c31 := Bool.eq_false_iff.mpr c31; subst c31; have H1 : (if yj = 2 then (queue_Got.j2 kj23 (!a2) yj yi ym) else (queue_Got.j2 kj23 false yj yi ym)) = some (r1, r2, r3) := by rw [if_neg (show ¬ (false = true) by decide)] at H; exact H
         clear H; have H := H1; clear H1; by_cases c32 : yj = 2
         ·rw [if_pos c32] at H; have c32b0 : (yj == 2) = true := beq_iff_eq.mpr c32; have c32b1 : (yj != 2) = false := bne_eq_false_iff_eq.mpr c32; clear c32; (first | rw [c32b0] | rw [c32b1] | (simp only [i64_w, i32_w]; rw [c32b0]) | skip)
          have H' := aA H; clear H; have hnb33 := Jf.out; have hnc33 := Je.out; obtain ⟨hcz34_0, hcz34_1, hcz34_2⟩ := cells3 Ja.out; obtain ⟨hfz34_0, hfz34_1, hfz34_2⟩ := frozs3 Ja.out; go_wp2; go_meet
          case rel => exact ⟨_, (!a2), (by first | rfl | (simp; done) | (simp [*]; done)), H', ⟨by have := HJ9.out; have := HJ23.out; first | omega | exact zu _⟩, ⟨by (with_reducible repeat (first | refine zh ?_ _ | refine zf ?_ | refine zg ?_ _)); exact Ja.out⟩, ⟨by (with_reducible repeat (first | refine zh ?_ _ | refine zf ?_ | refine zg ?_ _)); exact Jc.out⟩, ⟨by repeat (first | (with_reducible first | exact HB.out | apply zB | apply zC | apply zD | refine zt ?_ Jg.out | refine zt ?_ Jh.out) | exact HB.out)⟩⟩
         ·rw [if_neg c32] at H; have c32b0 : (yj == 2) = false := beq_eq_false_iff_ne.mpr c32; have c32b1 : (yj != 2) = true := bne_iff_ne.mpr c32; (first | rw [c32b0] | rw [c32b1] | (simp only [i64_w, i32_w]; rw [c32b0]) | skip)
          have H' := aA H; clear H; have hnb35 := Jf.out; have hnc35 := Je.out; obtain ⟨hcz36_0, hcz36_1, hcz36_2⟩ := cells3 Ja.out; obtain ⟨hfz36_0, hfz36_1, hfz36_2⟩ := frozs3 Ja.out; go_wp2; go_meet
          case rel => exact ⟨_, (false), (by first | rfl | (simp; done) | (simp [*]; done)), H', ⟨by have := HJ9.out; have := HJ23.out; first | omega | exact zu _⟩, ⟨by (with_reducible repeat (first | refine zh ?_ _ | refine zf ?_ | refine zg ?_ _)); exact Ja.out⟩, ⟨by (with_reducible repeat (first | refine zh ?_ _ | refine zf ?_ | refine zg ?_ _)); exact Jc.out⟩, ⟨by repeat (first | (with_reducible first | exact HB.out | apply zB | apply zC | apply zD | refine zt ?_ Jg.out | refine zt ?_ Jh.out) | exact HB.out)⟩⟩
       case rest =>
        clear HC30; try clear c1
        try clear c2
        try clear p2
        try clear c3
        try clear c4
        try clear c4b0
        try clear c4b1
        try clear c7
        try clear c13
        try clear c15
        try clear c15b0
        try clear c15b1
        try clear c16
        try clear c18
        try clear c20
        try clear c21
        try clear c25
        try clear c25b0
        try clear c25b1
        try clear c26
        try clear c28
        try clear c31
        try clear c32
        try clear c32b0
        try clear c32b1
        try clear c33
        try clear c35
        try clear Jk
        try clear Jl
        try clear Jm
        try clear Jq
        try clear Jr
        try clear Js
        try clear Jw
        try clear Jx
        try clear Jy
        try clear Qf
        try clear Qg
        try clear Qh
        try clear Ql
        try clear Qm
        try clear Qn
        try clear Qr
        try clear Qs
        try clear Qt
        try clear Qx
        try clear Qy
        try clear Qz
        try clear hcz34_0
        try clear hcz34_1
        try clear hcz34_2
        try clear hcz36_0
        try clear hcz36_1
        try clear hcz36_2
        try clear J3
        try clear J4
        try clear J5
        try clear J9
        try clear Qa
        try clear Qb
        try clear Jn
        try clear Jo
        try clear Jp
        try clear Jt
        try clear Ju
        try clear Jv
        try clear Jz
        try clear J0
        try clear J1
        try clear Qi
        try clear Qj
        try clear Qk
        try clear Qo
        try clear Qp
        try clear Qq
        try clear Qu
        try clear Qv
        try clear Qw
        try clear Q0
        try clear Q1
        try clear Q2
        try clear hfz34_0
        try clear hfz34_1
        try clear hfz34_2
        try clear hfz36_0
        try clear hfz36_1
        try clear hfz36_2
        try clear J6
        try clear J7
        try clear J8
        try clear Qc
        try clear Qd
        try clear Qe
        try clear p2
        obtain ⟨kq, Jj, rfl, HA, HJ29, Ja, Jc, HB⟩ := hcut; cases kq with
        | zero => exact absurd HA.out (by simp [queue_Got.j2])
        | succ kj29 =>
         have H := HA.out; clear HA; simp only [queue_Got.j2] at H; by_cases c37 : Jj = true
         ·subst c37; have H1 : (some (0, yi, ym)) = some (r1, r2, r3) := by rw [if_pos rfl] at H; exact H
          clear H; have H := H1; clear H1; simp only [Option.some.injEq, Prod.mk.injEq] at H; obtain ⟨rfl, rfl, rfl⟩ := H; have hnb38 := Jf.out; have hnc38 := Je.out; obtain ⟨hcz39_0, hcz39_1, hcz39_2⟩ := cells3 Ja.out; obtain ⟨hfz39_0, hfz39_1, hfz39_2⟩ := frozs3 Ja.out; obtain ⟨hcz40_0, hcz40_1, hcz40_2⟩ := cells3 Jc.out; obtain ⟨hfz40_0, hfz40_1, hfz40_2⟩ := frozs3 Jc.out; go_wp2; refine zE (zO rfl _ _ Jd 36 #[.int .i64 0, .int .u64 yi, .int .u64 ym] (0, 0) _ rfl (by (with_reducible repeat (first | refine zh ?_ _ | refine zf ?_ | refine zg ?_ _)); refine zT (cs := #[.int .i64 0, .int .u64 yi, .int .u64 0]) ?_ 2 _ rfl; (with_reducible repeat (first | refine zh ?_ _ | refine zf ?_ | refine zg ?_ _)); refine zT (cs := #[.int .i64 0, .int .u64 0, .int .u64 0]) ?_ 1 _ rfl; (with_reducible repeat (first | refine zh ?_ _ | refine zf ?_ | refine zg ?_ _)); refine zT (cs := #[.int .i64 0, .int .u64 0, .int .u64 0]) ?_ 0 _ rfl; (with_reducible repeat (first | refine zh ?_ _ | refine zf ?_ | refine zg ?_ _)); refine zo ?_ Je.out _; (with_reducible repeat (first | refine zh ?_ _ | refine zf ?_ | refine zg ?_ _)); exact Jc.out) Try.underlying36 rfl (by kernel_rfl)) rfl ?_; exact ⟨by first | rfl | (simp [errW_none, errW_some] <;> rfl) | (simp [*, errW_none, errW_some] <;> rfl), by repeat (first | (with_reducible first | exact HB.out | apply zB | apply zC | apply zD | refine zt ?_ Jg.out | refine zt ?_ Jh.out) | exact HB.out)⟩
         ·replace c37 := Bool.eq_false_iff.mpr c37; subst c37; have H1 : (if yj ≥ 1 then (if yj ≤ 4 then (some (wrap64 (yj + 1), yi, ym)) else (some (yj, yi, ym))) else (some (yj, yi, ym))) = some (r1, r2, r3) := by rw [if_neg (show ¬ (false = true) by decide)] at H; exact H
          clear H; have H := H1; clear H1; by_cases c41 : yj ≥ 1
          ·rw [if_pos c41] at H; have c41b0 : decide (1 ≤ yj) = true := zZ c41; clear c41; by_cases c42 : yj ≤ 4
           ·rw [if_pos c42] at H; have c42b0 : decide (yj ≤ 4) = true := zZ c42; clear c42; simp only [Option.some.injEq, Prod.mk.injEq] at H; obtain ⟨rfl, rfl, rfl⟩ := H; have hnb43 := Jf.out; have hnc43 := Je.out; obtain ⟨hcz44_0, hcz44_1, hcz44_2⟩ := cells3 Ja.out; obtain ⟨hfz44_0, hfz44_1, hfz44_2⟩ := frozs3 Ja.out; obtain ⟨hcz45_0, hcz45_1, hcz45_2⟩ := cells3 Jc.out; obtain ⟨hfz45_0, hfz45_1, hfz45_2⟩ := frozs3 Jc.out; go_wp2; refine zE (zO rfl _ _ Jd 36 #[.int .i64 (wrap64 (yj + 1)), .int .u64 yi, .int .u64 ym] (0, 0) _ rfl (by (with_reducible repeat (first | refine zh ?_ _ | refine zf ?_ | refine zg ?_ _)); refine zT (cs := #[.int .i64 (wrap64 (yj + 1)), .int .u64 yi, .int .u64 0]) ?_ 2 _ rfl; (with_reducible repeat (first | refine zh ?_ _ | refine zf ?_ | refine zg ?_ _)); refine zT (cs := #[.int .i64 (wrap64 (yj + 1)), .int .u64 0, .int .u64 0]) ?_ 1 _ rfl; (with_reducible repeat (first | refine zh ?_ _ | refine zf ?_ | refine zg ?_ _)); refine zT (cs := #[.int .i64 0, .int .u64 0, .int .u64 0]) ?_ 0 _ rfl; (with_reducible repeat (first | refine zh ?_ _ | refine zf ?_ | refine zg ?_ _)); refine zo ?_ Je.out _; (with_reducible repeat (first | refine zh ?_ _ | refine zf ?_ | refine zg ?_ _)); exact Jc.out) Try.underlying36 rfl (by kernel_rfl)) rfl ?_; exact ⟨by first | rfl | (simp [errW_none, errW_some] <;> rfl) | (simp [*, errW_none, errW_some] <;> rfl), by repeat (first | (with_reducible first | exact HB.out | apply zB | apply zC | apply zD | refine zt ?_ Jg.out | refine zt ?_ Jh.out) | exact HB.out)⟩
           ·rw [if_neg c42] at H; have c42b0 : decide (yj ≤ 4) = false := ya c42; clear c42; simp only [Option.some.injEq, Prod.mk.injEq] at H; obtain ⟨rfl, rfl, rfl⟩ := H; have hnb46 := Jf.out; have hnc46 := Je.out; obtain ⟨hcz47_0, hcz47_1, hcz47_2⟩ := cells3 Ja.out; obtain ⟨hfz47_0, hfz47_1, hfz47_2⟩ := frozs3 Ja.out; obtain ⟨hcz48_0, hcz48_1, hcz48_2⟩ := cells3 Jc.out; obtain ⟨hfz48_0, hfz48_1, hfz48_2⟩ := frozs3 Jc.out; go_wp2; refine zE (zO rfl _ _ Jd 36 #[.int .i64 yj, .int .u64 yi, .int .u64 ym] (0, 0) _ rfl (by (with_reducible repeat (first | refine zh ?_ _ | refine zf ?_ | refine zg ?_ _)); refine zT (cs := #[.int .i64 yj, .int .u64 yi, .int .u64 0]) ?_ 2 _ rfl; (with_reducible repeat (first | refine zh ?_ _ | refine zf ?_ | refine zg ?_ _)); refine zT (cs := #[.int .i64 yj, .int .u64 0, .int .u64 0]) ?_ 1 _ rfl; (with_reducible repeat (first | refine zh ?_ _ | refine zf ?_ | refine zg ?_ _)); refine zT (cs := #[.int .i64 0, .int .u64 0, .int .u64 0]) ?_ 0 _ rfl; (with_reducible repeat (first | refine zh ?_ _ | refine zf ?_ | refine zg ?_ _)); exact Jc.out) Try.underlying36 rfl (by kernel_rfl)) rfl ?_; exact ⟨by first | rfl | (simp [errW_none, errW_some] <;> rfl) | (simp [*, errW_none, errW_some] <;> rfl), by repeat (first | (with_reducible first | exact HB.out | apply zB | apply zC | apply zD | refine zt ?_ Jg.out | refine zt ?_ Jh.out) | exact HB.out)⟩
          ·rw [if_neg c41] at H; have c41b0 : decide (1 ≤ yj) = false := ya c41; clear c41; simp only [Option.some.injEq, Prod.mk.injEq] at H; obtain ⟨rfl, rfl, rfl⟩ := H; have hnb49 := Jf.out; have hnc49 := Je.out; obtain ⟨hcz50_0, hcz50_1, hcz50_2⟩ := cells3 Ja.out; obtain ⟨hfz50_0, hfz50_1, hfz50_2⟩ := frozs3 Ja.out; obtain ⟨hcz51_0, hcz51_1, hcz51_2⟩ := cells3 Jc.out; obtain ⟨hfz51_0, hfz51_1, hfz51_2⟩ := frozs3 Jc.out; go_wp2; refine zE (zO rfl _ _ Jd 36 #[.int .i64 yj, .int .u64 yi, .int .u64 ym] (0, 0) _ rfl (by (with_reducible repeat (first | refine zh ?_ _ | refine zf ?_ | refine zg ?_ _)); refine zT (cs := #[.int .i64 yj, .int .u64 yi, .int .u64 0]) ?_ 2 _ rfl; (with_reducible repeat (first | refine zh ?_ _ | refine zf ?_ | refine zg ?_ _)); refine zT (cs := #[.int .i64 yj, .int .u64 0, .int .u64 0]) ?_ 1 _ rfl; (with_reducible repeat (first | refine zh ?_ _ | refine zf ?_ | refine zg ?_ _)); refine zT (cs := #[.int .i64 0, .int .u64 0, .int .u64 0]) ?_ 0 _ rfl; (with_reducible repeat (first | refine zh ?_ _ | refine zf ?_ | refine zg ?_ _)); exact Jc.out) Try.underlying36 rfl (by kernel_rfl)) rfl ?_; exact ⟨by first | rfl | (simp [errW_none, errW_some] <;> rfl) | (simp [*, errW_none, errW_some] <;> rfl), by repeat (first | (with_reducible first | exact HB.out | apply zB | apply zC | apply zD | refine zt ?_ Jg.out | refine zt ?_ Jh.out) | exact HB.out)⟩

end Go.Proofs.Ytieglelnpiogcaa.PW
