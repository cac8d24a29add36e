-- Written by wip/hprint/hprint.py (a program of this session, over the print): not typed by hand
import Derived.Test.YtjnfllaonkeefaaPAx0
import Derived.Test.YtjnfllaonkeefaaPAx7
namespace Go.Proofs.Ytjnfllaonkeefaa.PA
open Go.RowKit Go.Proofs.YtjnfllaonkeefaaW.PrintWords Go.Proofs.YtjnfllaonkeefaaW.PrintLast Go.Proofs.YtjnfllaonkeefaaW.PrintMore
attribute [local go_sem] max2_int min2_int max_two min_two max_three min_three max_four min_four   -- for this text's walks alone
open Go.Proofs.YtjnfllaonkeefaaH
set_option linter.unusedVariables false
set_option linter.unusedSimpArgs false

/-! ### treillageref14_Same: function 21 -/
mutual
def treillageref14_Same.j0 : Nat -> Bool -> Int -> List Int -> List (S68) -> Int -> List Int -> List (S68) -> Option (Bool)
 | 0, _, _, _, _, _, _, _ => none
 | k + 1, x27, x207000, x207001, x207002, x208000, x208001, x208002 => if x27 = true then (some false) else (treillageref14_Same.l0 k 0 x207000 x207001 x207002 x208000 x208001 x208002)
def treillageref14_Same.l0 : Nat -> Int -> Int -> List Int -> List (S68) -> Int -> List Int -> List (S68) -> Option (Bool)
 | 0, _, _, _, _, _, _, _ => none
 | k + 1, x5, x207000, x207001, x207002, x208000, x208001, x208002 => if x5 < (x207002.length : Int) then (if 0 <= x5 then (if x5 < (x208002.length : Int) then (if ((rd_T68 x207002 x5).f0) = ((rd_T68 x208002 x5).f0) then ((treillageref12_SameGone.f k ((rd_T68 x207002 x5).f1.f0) ((rd_T68 x207002 x5).f1.f1) ((rd_T68 x208002 x5).f1.f0) ((rd_T68 x208002 x5).f1.f1)).bind fun t213 => (if t213 = true then (treillageref14_Same.l0 k (wrap64 (x5 + 1)) x207000 x207001 x207002 x208000 x208001 x208002) else (some false))) else (some false)) else (none)) else (none)) else (some true)
end
def treillageref14_Same.f (k : Nat) (ym : Int) (yk : List Int) (yl : List (S68)) (a1_0 : Int) (yt : List Int) (yB : List (S68)) : Option (Bool) := if ym = a1_0 then ((treillageref03_Handles.f k yk yt).bind fun t208 => (if t208 = true then (treillageref14_Same.j0 k ((yl.length : Int) != (yB.length : Int)) ym yk yl a1_0 yt yB) else (treillageref14_Same.j0 k true ym yk yl a1_0 yt yB))) else (treillageref14_Same.j0 k true ym yk yl a1_0 yt yB)
theorem treillageref14_Same.mono_l : ∀ k, (∀ y0 y1 y2 y3 y4 y5 y6, LeO (treillageref14_Same.j0 k y0 y1 y2 y3 y4 y5 y6) (treillageref14_Same.j0 (k + 1) y0 y1 y2 y3 y4 y5 y6)) /\ (∀ y0 y1 y2 y3 y4 y5 y6, LeO (treillageref14_Same.l0 k y0 y1 y2 y3 y4 y5 y6) (treillageref14_Same.l0 (k + 1) y0 y1 y2 y3 y4 y5 y6))
 | 0 => ⟨fun _ _ _ _ _ _ _ r h => by simp [treillageref14_Same.j0] at h, fun _ _ _ _ _ _ _ r h => by simp [treillageref14_Same.l0] at h⟩
 | k + 1 => by
  obtain ⟨ih0, ih1⟩ := treillageref14_Same.mono_l k; refine ⟨?_, ?_⟩
  ·intro y0 y1 y2 y3 y4 y5 y6
   unfold treillageref14_Same.j0; repeat' first
   | (with_reducible exact ih0 _ _ _ _ _ _ _)
   | (with_reducible exact ih1 _ _ _ _ _ _ _)
   | (with_reducible exact treillageref03_Handles.mono _ _ _)
   | (with_reducible exact treillageref12_SameGone.mono _ _ _ _ _)
   | (with_reducible exact LeO.refl _)
   | (with_reducible exact LeO.none _)
   | (with_reducible refine LeO.ite ?_ ?_)
   | (with_reducible refine LeO.bind ?_ (fun _ => ?_))
   | exact ih0 _ _ _ _ _ _ _
   | exact ih1 _ _ _ _ _ _ _
   | exact treillageref03_Handles.mono _ _ _
   | exact treillageref12_SameGone.mono _ _ _ _ _
   | exact LeO.none _
   | refine LeO.ite ?_ ?_
   | refine LeO.bind ?_ (fun _ => ?_)
  ·intro y0 y1 y2 y3 y4 y5 y6
   unfold treillageref14_Same.l0; repeat' first
   | (with_reducible exact ih0 _ _ _ _ _ _ _)
   | (with_reducible exact ih1 _ _ _ _ _ _ _)
   | (with_reducible exact treillageref03_Handles.mono _ _ _)
   | (with_reducible exact treillageref12_SameGone.mono _ _ _ _ _)
   | (with_reducible exact LeO.refl _)
   | (with_reducible exact LeO.none _)
   | (with_reducible refine LeO.ite ?_ ?_)
   | (with_reducible refine LeO.bind ?_ (fun _ => ?_))
   | exact ih0 _ _ _ _ _ _ _
   | exact ih1 _ _ _ _ _ _ _
   | exact treillageref03_Handles.mono _ _ _
   | exact treillageref12_SameGone.mono _ _ _ _ _
   | exact LeO.none _
   | refine LeO.ite ?_ ?_
   | refine LeO.bind ?_ (fun _ => ?_)
theorem treillageref14_Same.mono : ∀ a0 a1 a2 a3 a4 a5 k, LeO (treillageref14_Same.f k a0 a1 a2 a3 a4 a5) (treillageref14_Same.f (k + 1) a0 a1 a2 a3 a4 a5) := by
 intro a0 a1 a2 a3 a4 a5 k
 obtain ⟨ih0, ih1⟩ := treillageref14_Same.mono_l k; unfold treillageref14_Same.f
 repeat' first
   | (with_reducible exact ih0 _ _ _ _ _ _ _)
   | (with_reducible exact ih1 _ _ _ _ _ _ _)
   | (with_reducible exact treillageref03_Handles.mono _ _ _)
   | (with_reducible exact treillageref12_SameGone.mono _ _ _ _ _)
   | (with_reducible exact LeO.refl _)
   | (with_reducible exact LeO.none _)
   | (with_reducible refine LeO.ite ?_ ?_)
   | (with_reducible refine LeO.bind ?_ (fun _ => ?_))
   | exact ih0 _ _ _ _ _ _ _
   | exact ih1 _ _ _ _ _ _ _
   | exact treillageref03_Handles.mono _ _ _
   | exact treillageref12_SameGone.mono _ _ _ _ _
   | exact LeO.none _
   | refine LeO.ite ?_ ?_
   | refine LeO.bind ?_ (fun _ => ?_)
def treillageref14_Same.T6 : Bool × List (List Nat × List Nat) := (true, [([], []), ([0], [0]), ([], []), ([1, 2], [1, 2]), ([3], [3]), ([4], [4]), ([], []), ([6], [6]), ([], []), ([7, 8], [7, 8]), ([9], [9]), ([10], [10]), ([5, 11], [5, 11]), ([12], [12]), ([13], [13]), ([14, 13], [13, 14]), ([13], [13]), ([15, 16, 13], [13, 15, 16]), ([17, 13], [13, 17]), ([18, 13], [13, 18]), ([13], [13]), ([20, 13], [13, 20]), ([13], [13]), ([21, 22, 13], [13, 21, 22]), ([23, 13], [13, 23]), ([24, 13], [13, 24]), ([19, 25, 13, 13], [13, 19, 25]), ([26, 13], [13, 26]), ([13, 27], [13, 27])])
def treillageref14_Same.B6 : List Nat := [0, 1, 0, 7, 15, 31, 0, 64, 0, 448, 960, 1984, 4095, 8191, 16383, 32767, 16383, 131071, 262143, 524287, 16383, 1064959, 16383, 7356415, 15745023, 32522239, 67108863, 134217727, 268435455]
theorem treillageref14_Same.tab6 : rtab .any (opsOf Try.f21 6) = treillageref14_Same.T6 := by kernel_rfl
theorem treillageref14_Same.bits6 : waitsOk treillageref14_Same.T6.2 treillageref14_Same.B6 = true := by kernel_rfl
set_option maxHeartbeats 8000000 in
set_option maxRecDepth 100000 in
theorem treillageref14_Same.calls (k : Nat) (ym : Int) (yr : Option Addr) (yq : Nat) (yk : List Int) (yo : Option Addr) (yn : Nat) (yl : List (S68)) (a1_0 : Int) (yx : Option Addr) (yy : Nat) (yt : List Int) (A1_2 : Option Addr) (c1_2 : Nat) (yB : List (S68)) (r : Bool) (w : World) (hr0_1 : Kd.C (Kd.int .u64) w yr yk.length yk) (hc0_1 : yk.length <= yq) (hr0_2 : Kd.C k68 w yo yl.length yl) (hc0_2 : yl.length <= yn) (hr1_1 : Kd.C (Kd.int .u64) w yx yt.length yt) (hc1_1 : yt.length <= yy) (hr1_2 : Kd.C k68 w A1_2 yB.length yB) (hc1_2 : yB.length <= c1_2) (h : treillageref14_Same.f k ym yk yl a1_0 yt yB = some r) :
  Calls Try.prog 21 #[.agg #[.int .u64 ym, .slice yr yk.length yq, .slice yo yl.length yn], .agg #[.int .u64 a1_0, .slice yx yt.length yy, .slice A1_2 yB.length c1_2]] w fun e w' => e = .returned (.bool r) /\ Below w.heap.size w w' := by
 have hu39 := Try.underlying39; have hu43 := Try.underlying43; have HR0_1 := aA hr0_1; have HC0_1 := aA hc0_1; clear hr0_1 hc0_1; have HR0_2 := aA hr0_2; have HC0_2 := aA hc0_2; clear hr0_2 hc0_2; have HR1_1 := aA hr1_1; have HC1_1 := aA hc1_1; clear hr1_1 hc1_1; have HR1_2 := aA hr1_2; have HC1_2 := aA hc1_2; clear hr1_2 hc1_2; have HB := aA (Below.refl w.heap.size w); have H : (if ym = a1_0 then ((treillageref03_Handles.f k yk yt).bind fun Qk => (if Qk = true then (treillageref14_Same.j0 k ((yl.length : Int) != (yB.length : Int)) ym yk yl a1_0 yt yB) else (treillageref14_Same.j0 k true ym yk yl a1_0 yt yB))) else (treillageref14_Same.j0 k true ym yk yl a1_0 yt yB)) = some r := h; clear h; have HC3 := aA H; clear H; go_enter Try.func21, Try.ntmps21; go_upto_region 1 with (first | ((with_reducible refine gate_dst (N := 2) rfl ?_); (try (refine gate_guard (by rfl) ?_; dsimp only)); refine zV ?hg (N := 2) ?hd (cs := #[.int .u64 ym, .slice yr yk.length yq, .slice yo yl.length yn]) (t := 39) ?hr ?_; (case hd => rfl); (case hg => rfl); (case hr => first | (go_simp; done) | (go_simp; rfl)); intro Jd hg w4 hbox hb; have n0_ := aA (zC (blw HB.out) hb); have n1_ := aA (hbox); have n2_ := aA ((by rw [hg]; exact (zR (blw HB.out)) : w.heap.size <= Jd)); have n3_ := aA ((by rw [hg]; exact (zR (blw HB.out)) : w.heap.size <= Jd)); clear HB; have HB := n0_; have Jb := n1_; have GW206 := n2_; have Jh := n3_; clear n0_ n1_ n2_ n3_ hb hbox hg) | ((with_reducible refine gate_dst (N := 3) rfl ?_); (try (refine gate_guard (by rfl) ?_; dsimp only)); refine zV ?hg (N := 3) ?hd (cs := #[.int .u64 a1_0, .slice yx yt.length yy, .slice A1_2 yB.length c1_2]) (t := 39) ?hr ?_; (case hd => rfl); (case hg => rfl); (case hr => first | (go_simp; done) | (go_simp; rfl)); intro Je hg w5 hbox hb; have n0_ := aA (zl (g := Jd) (o := .cells #[.int .u64 ym, .slice yr yk.length yq, .slice yo yl.length yn] 39 (0, 0)) (bku Jb.out) hb); have n1_ := aA (zC (bls HB.out) hb); have n2_ := aA (hbox); have n3_ := aA ((by rw [hg]; exact (zR (bls HB.out)) : w.heap.size <= Je)); have n4_ := aA ((by rw [hg]; exact (zR (bls HB.out)) : w.heap.size <= Je)); have n5_ := aA ((by rw [hg]; exact zq (zS (g := Jd) (o := .cells #[.int .u64 ym, .slice yr yk.length yq, .slice yo yl.length yn] 39 (0, 0)) (bku Jb.out)) : Jd ≠ Je)); have n6_ := aA ((by rw [hg]; exact zp (zS (g := Jd) (o := .cells #[.int .u64 ym, .slice yr yk.length yq, .slice yo yl.length yn] 39 (0, 0)) (bku Jb.out)) : Je ≠ Jd)); clear Jb HB; have Jb := n0_; have HB := n1_; have Jc := n2_; have GW207 := n3_; have Ji := n4_; have Jf := n5_; have Jg := n6_; clear n0_ n1_ n2_ n3_ n4_ n5_ n6_ hb hbox hg))
 (try simp only [Act.put, yg, yh, yi]); go_cut [27] (fun v27 wc => ∃ (kq : Nat) (Jj : Bool), v27 = .bool Jj /\ Aside0 (treillageref14_Same.j0 kq Jj ym yk yl a1_0 yt yB = some r) /\ Aside0 (kq <= k) /\ Aside0 (wc.heap[Jd]? = some (.cells #[.int .u64 ym, (.slice yr yk.length yq), (.slice yo yl.length yn)] 39 (0, 0))) /\ Aside0 (wc.heap[Je]? = some (.cells #[.int .u64 a1_0, (.slice yx yt.length yy), (.slice A1_2 yB.length c1_2)] 39 (0, 0))) /\ Aside0 (Below w.heap.size w wc))
 case first =>
  have H := HC3.out; clear HC3; by_cases c6 : ym = a1_0
  ·rw [if_pos c6] at H; have c6b0 : (ym == a1_0) = true := beq_iff_eq.mpr c6; have c6b1 : (ym != a1_0) = false := bne_eq_false_iff_eq.mpr c6; clear c6; (first | rw [c6b0] | (simp only [i64_w, i32_w]; rw [c6b0]) | skip)
   replace H := Option.bind_eq_some_iff.mp H; obtain ⟨Qk, A70, H⟩ := H; replace H : (if Qk = true then (treillageref14_Same.j0 k ((yl.length : Int) != (yB.length : Int)) ym yk yl a1_0 yt yB) else (treillageref14_Same.j0 k true ym yk yl a1_0 yt yB)) = some r := H; have A7 := aA A70; clear A70; by_cases c8 : Qk = true
   ·subst c8; have H1 : (treillageref14_Same.j0 k ((yl.length : Int) != (yB.length : Int)) ym yk yl a1_0 yt yB) = some r := by rw [if_pos rfl] at H; exact H
    clear H; have H := H1; clear H1; have H' := aA H; clear H; have hnb9 := Jf.out; have hnc9 := Jg.out; have Jk : w5.cell? ⟨Jd, 0, none⟩ = some (.int .u64 ym) := (za Jb.out 0).trans rfl; have Jl : w5.cell? ⟨Jd, 1, none⟩ = some (.slice yr yk.length yq) := (za Jb.out 1).trans rfl; have Jm : w5.cell? ⟨Jd, 2, none⟩ = some (.slice yo yl.length yn) := (za Jb.out 2).trans rfl; have Jn := zf Jb.out 0; have Jo := zf Jb.out 1; have Jp := zf Jb.out 2; have Jq : w5.cell? ⟨Je, 0, none⟩ = some (.int .u64 a1_0) := (za Jc.out 0).trans rfl; have Jr : w5.cell? ⟨Je, 1, none⟩ = some (.slice yx yt.length yy) := (za Jc.out 1).trans rfl; have Js : w5.cell? ⟨Je, 2, none⟩ = some (.slice A1_2 yB.length c1_2) := (za Jc.out 2).trans rfl; have Jt := zf Jc.out 0; have Ju := zf Jc.out 1; have Jv := zf Jc.out 2; go_wp2_with (first | (go_at_call 29; (with_reducible refine (treillageref03_Handles.calls k _ _ yk _ _ yt true _ ?side1 ?side2 ?side3 ?side4 A7.out).mono ?_); (case side1 => repeat (first | exact (Kd.C_below HR0_1.out HB.out) | (with_reducible refine Kd.C_alloc ?_ _) | (with_reducible refine Kd.C_drewN ?_ _) | (with_reducible refine Kd.C_drew ?_))); (case side2 => exact HC0_1.out); (case side3 => repeat (first | exact (Kd.C_below HR1_1.out HB.out) | (with_reducible refine Kd.C_alloc ?_ _) | (with_reducible refine Kd.C_drewN ?_ _) | (with_reducible refine Kd.C_drew ?_))); (case side4 => exact HC1_1.out); rintro e w' ⟨rfl, ⟨nd, rfl⟩⟩))
    (first | go_meet | (refine Met.intro ?_; go_step; (try rw [c6b0]); (repeat apply Exists.intro); refine ⟨?rel, rfl⟩))
    case rel => exact ⟨_, (((yl.length : Int) != (yB.length : Int))), (by first | rfl | (simp; done) | (simp [*]; done)), H', ⟨by first | omega | exact zu _⟩, ⟨by (with_reducible repeat (first | apply zi | apply zg | apply zh)); exact Jb.out⟩, ⟨by (with_reducible repeat (first | apply zi | apply zg | apply zh)); exact Jc.out⟩, ⟨by repeat (first | (with_reducible first | exact HB.out | apply zE | apply zF | apply zG | refine zt ?_ Jh.out | refine zt ?_ Ji.out) | exact HB.out)⟩⟩
   ·replace c8 := Bool.eq_false_iff.mpr c8; subst c8; have H1 : (treillageref14_Same.j0 k true ym yk yl a1_0 yt yB) = some r := by rw [if_neg (show ¬ (false = true) by decide)] at H; exact H
    clear H; have H := H1; clear H1; have H' := aA H; clear H; have hnb12 := Jf.out; have hnc12 := Jg.out; have Jw : w5.cell? ⟨Jd, 0, none⟩ = some (.int .u64 ym) := (za Jb.out 0).trans rfl; have Jx : w5.cell? ⟨Jd, 1, none⟩ = some (.slice yr yk.length yq) := (za Jb.out 1).trans rfl; have Jy : w5.cell? ⟨Jd, 2, none⟩ = some (.slice yo yl.length yn) := (za Jb.out 2).trans rfl; have Jz := zf Jb.out 0; have J0 := zf Jb.out 1; have J1 := zf Jb.out 2; have J2 : w5.cell? ⟨Je, 0, none⟩ = some (.int .u64 a1_0) := (za Jc.out 0).trans rfl; have J3 : w5.cell? ⟨Je, 1, none⟩ = some (.slice yx yt.length yy) := (za Jc.out 1).trans rfl; have J4 : w5.cell? ⟨Je, 2, none⟩ = some (.slice A1_2 yB.length c1_2) := (za Jc.out 2).trans rfl; have J5 := zf Jc.out 0; have J6 := zf Jc.out 1; have J7 := zf Jc.out 2; go_wp2_with (first | (go_at_call 29; (with_reducible refine (treillageref03_Handles.calls k _ _ yk _ _ yt false _ ?side1 ?side2 ?side3 ?side4 A7.out).mono ?_); (case side1 => repeat (first | exact (Kd.C_below HR0_1.out HB.out) | (with_reducible refine Kd.C_alloc ?_ _) | (with_reducible refine Kd.C_drewN ?_ _) | (with_reducible refine Kd.C_drew ?_))); (case side2 => exact HC0_1.out); (case side3 => repeat (first | exact (Kd.C_below HR1_1.out HB.out) | (with_reducible refine Kd.C_alloc ?_ _) | (with_reducible refine Kd.C_drewN ?_ _) | (with_reducible refine Kd.C_drew ?_))); (case side4 => exact HC1_1.out); rintro e w' ⟨rfl, ⟨nd, rfl⟩⟩))
    (first | go_meet | (refine Met.intro ?_; go_step; (try rw [c6b0]); (repeat apply Exists.intro); refine ⟨?rel, rfl⟩))
    case rel => exact ⟨_, (true), (by first | rfl | (simp; done) | (simp [*]; done)), H', ⟨by first | omega | exact zu _⟩, ⟨by (with_reducible repeat (first | apply zi | apply zg | apply zh)); exact Jb.out⟩, ⟨by (with_reducible repeat (first | apply zi | apply zg | apply zh)); exact Jc.out⟩, ⟨by repeat (first | (with_reducible first | exact HB.out | apply zE | apply zF | apply zG | refine zt ?_ Jh.out | refine zt ?_ Ji.out) | exact HB.out)⟩⟩
  ·rw [if_neg c6] at H; have c6b0 : (ym == a1_0) = false := beq_eq_false_iff_ne.mpr c6; have c6b1 : (ym != a1_0) = true := bne_iff_ne.mpr c6; (first | rw [c6b0] | (simp only [i64_w, i32_w]; rw [c6b0]) | skip)
   have H' := aA H; clear H; have hnb15 := Jf.out; have hnc15 := Jg.out; have J8 : w5.cell? ⟨Jd, 0, none⟩ = some (.int .u64 ym) := (za Jb.out 0).trans rfl; have J9 : w5.cell? ⟨Jd, 1, none⟩ = some (.slice yr yk.length yq) := (za Jb.out 1).trans rfl; have Qa : w5.cell? ⟨Jd, 2, none⟩ = some (.slice yo yl.length yn) := (za Jb.out 2).trans rfl; have Qb := zf Jb.out 0; have Qc := zf Jb.out 1; have Qd := zf Jb.out 2; have Qe : w5.cell? ⟨Je, 0, none⟩ = some (.int .u64 a1_0) := (za Jc.out 0).trans rfl; have Qf : w5.cell? ⟨Je, 1, none⟩ = some (.slice yx yt.length yy) := (za Jc.out 1).trans rfl; have Qg : w5.cell? ⟨Je, 2, none⟩ = some (.slice A1_2 yB.length c1_2) := (za Jc.out 2).trans rfl; have Qh := zf Jc.out 0; have Qi := zf Jc.out 1; have Qj := zf Jc.out 2; go_wp2; (first | go_meet | (refine Met.intro ?_; go_step; (try rw [c6b0]); (repeat apply Exists.intro); refine ⟨?rel, rfl⟩))
   case rel => exact ⟨_, (true), (by first | rfl | (simp; done) | (simp [*]; done)), H', ⟨by first | omega | exact zu _⟩, ⟨by (with_reducible repeat (first | apply zi | apply zg | apply zh)); exact Jb.out⟩, ⟨by (with_reducible repeat (first | apply zi | apply zg | apply zh)); exact Jc.out⟩, ⟨by repeat (first | (with_reducible first | exact HB.out | apply zE | apply zF | apply zG | refine zt ?_ Jh.out | refine zt ?_ Ji.out) | exact HB.out)⟩⟩
 case rest =>
  clear HC3; try clear c1
  try clear c2
  try clear p2
  try clear c6
  try clear c6b0
  try clear c6b1
  try clear c8
  try clear c9
  try clear c12
  try clear c15
  try clear Jk
  try clear Jl
  try clear Jm
  try clear Jq
  try clear Jr
  try clear Js
  try clear Jw
  try clear Jx
  try clear Jy
  try clear J2
  try clear J3
  try clear J4
  try clear J8
  try clear J9
  try clear Qa
  try clear Qe
  try clear Qf
  try clear Qg
  try clear Jn
  try clear Jo
  try clear Jp
  try clear Jt
  try clear Ju
  try clear Jv
  try clear Jz
  try clear J0
  try clear J1
  try clear J5
  try clear J6
  try clear J7
  try clear Qb
  try clear Qc
  try clear Qd
  try clear Qh
  try clear Qi
  try clear Qj
  obtain ⟨kq, Jj, rfl, HA, HJ2, Jb, Jc, HB⟩ := hcut; cases kq with
  | zero => exact absurd HA.out (by simp [treillageref14_Same.j0])
  | succ kj2 =>
   have H := HA.out; clear HA; simp only [treillageref14_Same.j0] at H; by_cases c18 : Jj = true
   ·subst c18; have H1 : (some false) = some r := by rw [if_pos rfl] at H; exact H
    clear H; have H := H1; clear H1; obtain rfl := Option.some.inj H; go_wp2; go_ret
    exact ⟨by first | rfl | (simp [errW_none, errW_some] <;> rfl) | (simp [*, errW_none, errW_some] <;> rfl), by repeat (first | (with_reducible first | exact HB.out | apply zE | apply zF | apply zG | refine zt ?_ Jh.out | refine zt ?_ Ji.out) | exact HB.out)⟩
   ·replace c18 := Bool.eq_false_iff.mpr c18; subst c18; have H1 : (treillageref14_Same.l0 kj2 0 ym yk yl a1_0 yt yB) = some r := by rw [if_neg (show ¬ (false = true) by decide)] at H; exact H
    clear H; have H := H1; clear H1; have H' := aA H; clear H; go_wp2; go_loopg [5] kj2 (fun kq v5 w' => ∃ (Ja : Int), v5 = .int .i64 Ja /\ Aside0 (treillageref14_Same.l0 kq Ja ym yk yl a1_0 yt yB = some r) /\ Aside0 (kq <= kj2) /\ Aside0 (w'.heap[Jd]? = some (.cells #[.int .u64 ym, (.slice yr yk.length yq), (.slice yo yl.length yn)] 39 (0, 0))) /\ Aside0 (w'.heap[Je]? = some (.cells #[.int .u64 a1_0, (.slice yx yt.length yy), (.slice A1_2 yB.length c1_2)] 39 (0, 0))) /\ Aside0 (Below w.heap.size w w'))
    case atStart => exact ⟨(0), (by first | rfl | (simp; done) | (simp [*]; done)), H', ⟨zu _⟩, ⟨by (with_reducible repeat (first | apply zi | apply zg | apply zh)); exact Jb.out⟩, ⟨by (with_reducible repeat (first | apply zi | apply zg | apply zh)); exact Jc.out⟩, ⟨by repeat (first | (with_reducible first | exact HB.out | apply zE | apply zF | apply zG | refine zt ?_ Jh.out | refine zt ?_ Ji.out) | exact HB.out)⟩⟩
    case round =>
     clear H'; try clear c1
     try clear c2
     try clear p2
     try clear c6
     try clear c6b0
     try clear c6b1
     try clear c8
     try clear c9
     try clear c12
     try clear c15
     try clear c18
     try clear Jk
     try clear Jl
     try clear Jm
     try clear Jq
     try clear Jr
     try clear Js
     try clear Jw
     try clear Jx
     try clear Jy
     try clear J2
     try clear J3
     try clear J4
     try clear J8
     try clear J9
     try clear Qa
     try clear Qe
     try clear Qf
     try clear Qg
     try clear Jn
     try clear Jo
     try clear Jp
     try clear Jt
     try clear Ju
     try clear Jv
     try clear Jz
     try clear J0
     try clear J1
     try clear J5
     try clear J6
     try clear J7
     try clear Qb
     try clear Qc
     try clear Qd
     try clear Qh
     try clear Qi
     try clear Qj
     try clear p2
     obtain ⟨Ja, rfl, HA, HK2, Jb, Jc, HB⟩ := hrel; cases gk with
     | zero => exact absurd HA.out (by simp [treillageref14_Same.l0])
     | succ k2 =>
      have H := HA.out; clear HA; simp only [treillageref14_Same.l0] at H; by_cases c19 : Ja < (yl.length : Int)
      ·rw [if_pos c19] at H; have c19b0 : decide (Ja < (yl.length : Int)) = true := zZ c19; clear c19; by_cases c20 : 0 <= Ja
       rotate_left
       ·rw [if_neg c20] at H; exact absurd H (by simp)
       rw [if_pos c20] at H; have c20b0 : decide (0 <= Ja) = true := zZ c20; clear c20; by_cases c21 : Ja < (yB.length : Int)
       rotate_left
       ·rw [if_neg c21] at H; exact absurd H (by simp)
       rw [if_pos c21] at H; have c21b0 : decide (Ja < (yB.length : Int)) = true := zZ c21; clear c21; by_cases c22 : ((rd_T68 yl Ja).f0) = ((rd_T68 yB Ja).f0)
       ·rw [if_pos c22] at H; have c22b0 : (((rd_T68 yl Ja).f0) == ((rd_T68 yB Ja).f0)) = true := beq_iff_eq.mpr c22; have c22b1 : (((rd_T68 yl Ja).f0) != ((rd_T68 yB Ja).f0)) = false := bne_eq_false_iff_eq.mpr c22; clear c22; replace H := Option.bind_eq_some_iff.mp H; obtain ⟨Ql, A230, H⟩ := H; replace H : (if Ql = true then (treillageref14_Same.l0 k2 (wrap64 (Ja + 1)) ym yk yl a1_0 yt yB) else (some false)) = some r := H; have A23 := aA A230; clear A230; by_cases c24 : Ql = true
        ·subst c24; have H1 : (treillageref14_Same.l0 k2 (wrap64 (Ja + 1)) ym yk yl a1_0 yt yB) = some r := by rw [if_pos rfl] at H; exact H
         clear H; have H := H1; clear H1; have H' := aA H; clear H; have hnb25 := Jf.out; have hnc25 := Jg.out; have hcz26_0 : wr.cell? ⟨Jd, 0, none⟩ = some (.int .u64 ym) := (za Jb.out 0).trans rfl; have hcz26_1 : wr.cell? ⟨Jd, 1, none⟩ = some (.slice yr yk.length yq) := (za Jb.out 1).trans rfl; have hcz26_2 : wr.cell? ⟨Jd, 2, none⟩ = some (.slice yo yl.length yn) := (za Jb.out 2).trans rfl; have hfz26_0 := zf Jb.out 0; have hfz26_1 := zf Jb.out 1; have hfz26_2 := zf Jb.out 2; try go_wp2
         have n0_ := aA (zg Jb.out); have n1_ := aA (zg Jc.out); have n2_ := aA (zG HB.out); clear Jb; clear Jc; clear HB; have Jb := n0_; have Jc := n1_; have HB := n2_; clear n0_ n1_ n2_; have p209 : 0 <= (Ja : Int) := zn (by first | (with_reducible assumption) | assumption); have q209 : Ja < (yl.length : Int) := zn (by first | (with_reducible assumption) | assumption); obtain ⟨ad209, A209_1, c209_1, A209_2, c209_2, e209, hx209_0, hx209_1, hx209_2, hl209_1, hi209_1, hl209_2, hi209_2⟩ := at_T68 HR0_2.out Ja p209 q209; have hw209_2 := hx209_2; have hw209_1 := hx209_1; have hw209_0 := hx209_0; cases e209
         replace hx209_0 := (HB.out.cell (zd w _ hx209_0)).trans hx209_0; replace hx209_1 := (HB.out.cell (zd w _ hx209_1)).trans hx209_1; replace hx209_2 := (HB.out.cell (zd w _ hx209_2)).trans hx209_2; have HR209_1 := aA hi209_1; have HC209_1 := aA hl209_1; clear hi209_1 hl209_1; have HR209_2 := aA hi209_2; have HC209_2 := aA hl209_2; clear hi209_2 hl209_2; replace p209 := eq_true p209; replace q209 := eq_true q209; have p210 : 0 <= (Ja : Int) := zn (by first | (with_reducible assumption) | assumption); have q210 : Ja < (yB.length : Int) := zn (by first | (with_reducible assumption) | assumption); obtain ⟨ad210, A210_1, c210_1, A210_2, c210_2, e210, hx210_0, hx210_1, hx210_2, hl210_1, hi210_1, hl210_2, hi210_2⟩ := at_T68 HR1_2.out Ja p210 q210; have hw210_2 := hx210_2; have hw210_1 := hx210_1; have hw210_0 := hx210_0; cases e210
         replace hx210_0 := (HB.out.cell (zd w _ hx210_0)).trans hx210_0; replace hx210_1 := (HB.out.cell (zd w _ hx210_1)).trans hx210_1; replace hx210_2 := (HB.out.cell (zd w _ hx210_2)).trans hx210_2; have HR210_1 := aA hi210_1; have HC210_1 := aA hl210_1; clear hi210_1 hl210_1; have HR210_2 := aA hi210_2; have HC210_2 := aA hl210_2; clear hi210_2 hl210_2; replace p210 := eq_true p210; replace q210 := eq_true q210; have p211 : 0 <= (Ja : Int) := zn (by first | (with_reducible assumption) | assumption); have q211 : Ja < (yl.length : Int) := zn (by first | (with_reducible assumption) | assumption); obtain ⟨ad211, A211_1, c211_1, A211_2, c211_2, e211, hx211_0, hx211_1, hx211_2, hl211_1, hi211_1, hl211_2, hi211_2⟩ := at_T68 HR0_2.out Ja p211 q211; have hw211_2 := hx211_2; have hw211_1 := hx211_1; have hw211_0 := hx211_0; obtain rfl : ad209 = ad211 := (by injection e211); replace hx211_0 := (HB.out.cell (zd w _ hx211_0)).trans hx211_0; replace hx211_1 := (HB.out.cell (zd w _ hx211_1)).trans hx211_1; replace hx211_2 := (HB.out.cell (zd w _ hx211_2)).trans hx211_2; have HR211_1 := aA hi211_1; have HC211_1 := aA hl211_1; clear hi211_1 hl211_1; have HR211_2 := aA hi211_2; have HC211_2 := aA hl211_2; clear hi211_2 hl211_2; replace p211 := eq_true p211; replace q211 := eq_true q211; have ea_ := Option.some.inj (hx209_1.symm.trans hx211_1); injection ea_ with ea_ en_ ec_; subst ea_; subst ec_; clear en_; have ea_ := Option.some.inj (hx209_2.symm.trans hx211_2); injection ea_ with ea_ en_ ec_; subst ea_; subst ec_; clear en_; have p212 : 0 <= (Ja : Int) := zn (by first | (with_reducible assumption) | assumption); have q212 : Ja < (yB.length : Int) := zn (by first | (with_reducible assumption) | assumption); obtain ⟨ad212, A212_1, c212_1, A212_2, c212_2, e212, hx212_0, hx212_1, hx212_2, hl212_1, hi212_1, hl212_2, hi212_2⟩ := at_T68 HR1_2.out Ja p212 q212; have hw212_2 := hx212_2; have hw212_1 := hx212_1; have hw212_0 := hx212_0; obtain rfl : ad210 = ad212 := (by injection e212); replace hx212_0 := (HB.out.cell (zd w _ hx212_0)).trans hx212_0; replace hx212_1 := (HB.out.cell (zd w _ hx212_1)).trans hx212_1; replace hx212_2 := (HB.out.cell (zd w _ hx212_2)).trans hx212_2; have HR212_1 := aA hi212_1; have HC212_1 := aA hl212_1; clear hi212_1 hl212_1; have HR212_2 := aA hi212_2; have HC212_2 := aA hl212_2; clear hi212_2 hl212_2; replace p212 := eq_true p212; replace q212 := eq_true q212; have ea_ := Option.some.inj (hx210_1.symm.trans hx212_1); injection ea_ with ea_ en_ ec_; subst ea_; subst ec_; clear en_; have ea_ := Option.some.inj (hx210_2.symm.trans hx212_2); injection ea_ with ea_ en_ ec_; subst ea_; subst ec_; clear en_; refine start_ (n := 29) (S := fun w' => w'.cell? ⟨Jd, 0, none⟩ = some (.int .u64 ym) /\ w'.cell? ⟨Jd, 1, none⟩ = some (.slice yr yk.length yq) /\ w'.cell? ⟨Jd, 2, none⟩ = some (.slice (some ad209) yl.length yn) /\ w'.cell? ⟨Je, 0, none⟩ = some (.int .u64 a1_0) /\ w'.cell? ⟨Je, 1, none⟩ = some (.slice yx yt.length yy) /\ w'.cell? ⟨Je, 2, none⟩ = some (.slice (some ad210) yB.length c1_2) /\ w'.cell? (ad209.add ((Ja).toNat * 3)) = some (.int .u64 ((rd_T68 yl Ja).f0)) /\ w'.cell? ⟨(ad209.add ((Ja).toNat * 3)).block, (ad209.add ((Ja).toNat * 3)).off + 1, none⟩ = some (.slice A209_1 ((rd_T68 yl Ja).f1.f0).length c209_1) /\ w'.cell? ⟨(ad209.add ((Ja).toNat * 3)).block, (ad209.add ((Ja).toNat * 3)).off + 2, none⟩ = some (.slice A209_2 ((rd_T68 yl Ja).f1.f1).length c209_2) /\ w'.cell? (ad210.add ((Ja).toNat * 3)) = some (.int .u64 ((rd_T68 yB Ja).f0)) /\ w'.cell? ⟨(ad210.add ((Ja).toNat * 3)).block, (ad210.add ((Ja).toNat * 3)).off + 1, none⟩ = some (.slice A210_1 ((rd_T68 yB Ja).f1.f0).length c210_1) /\ w'.cell? ⟨(ad210.add ((Ja).toNat * 3)).block, (ad210.add ((Ja).toNat * 3)).off + 2, none⟩ = some (.slice A210_2 ((rd_T68 yB Ja).f1.f1).length c210_2) /\ w'.cell? (ad209.add ((Ja).toNat * 3)) = some (.int .u64 ((rd_T68 yl Ja).f0)) /\ w'.cell? ⟨(ad209.add ((Ja).toNat * 3)).block, (ad209.add ((Ja).toNat * 3)).off + 1, none⟩ = some (.slice A209_1 ((rd_T68 yl Ja).f1.f0).length c209_1) /\ w'.cell? ⟨(ad209.add ((Ja).toNat * 3)).block, (ad209.add ((Ja).toNat * 3)).off + 2, none⟩ = some (.slice A209_2 ((rd_T68 yl Ja).f1.f1).length c209_2) /\ w'.cell? (ad210.add ((Ja).toNat * 3)) = some (.int .u64 ((rd_T68 yB Ja).f0)) /\ w'.cell? ⟨(ad210.add ((Ja).toNat * 3)).block, (ad210.add ((Ja).toNat * 3)).off + 1, none⟩ = some (.slice A210_1 ((rd_T68 yB Ja).f1.f0).length c210_1) /\ w'.cell? ⟨(ad210.add ((Ja).toNat * 3)).block, (ad210.add ((Ja).toNat * 3)).off + 2, none⟩ = some (.slice A210_2 ((rd_T68 yB Ja).f1.f1).length c210_2)) (ds := []) (yj 0 29) (by kernel_rfl) rfl rfl ⟨(za Jb.out 0).trans rfl, (za Jb.out 1).trans rfl, (za Jb.out 2).trans rfl, (za Jc.out 0).trans rfl, (za Jc.out 1).trans rfl, (za Jc.out 2).trans rfl, ((HB.out.cell (zd w _ hw209_0)).trans hw209_0), ((HB.out.cell (zd w _ hw209_1)).trans hw209_1), ((HB.out.cell (zd w _ hw209_2)).trans hw209_2), ((HB.out.cell (zd w _ hw210_0)).trans hw210_0), ((HB.out.cell (zd w _ hw210_1)).trans hw210_1), ((HB.out.cell (zd w _ hw210_2)).trans hw210_2), ((HB.out.cell (zd w _ hw211_0)).trans hw211_0), ((HB.out.cell (zd w _ hw211_1)).trans hw211_1), ((HB.out.cell (zd w _ hw211_2)).trans hw211_2), ((HB.out.cell (zd w _ hw212_0)).trans hw212_0), ((HB.out.cell (zd w _ hw212_1)).trans hw212_1), ((HB.out.cell (zd w _ hw212_2)).trans hw212_2)⟩ (fun hHeld => ?_); refine with_tabW treillageref14_Same.tab6 treillageref14_Same.bits6 (fun HT_ HW_ => ?_)
         generalize wr.drew = w27 at Jb Jc HB HR209_1 HR209_2 HR210_1 HR210_2 HR211_1 HR211_2 HR212_1 HR212_2 hx209_0 hx209_1 hx209_2 hx210_0 hx210_1 hx210_2 hx211_0 hx211_1 hx211_2 hx212_0 hx212_1 hx212_2 hHeld ⊢; refine pure_ (i := 0) (N := some 35) (v := ?_) (a' := ?_) (yj 1 28) rfl rfl (any_of HT_.out (by kernel_rfl)) (fun _ _ _ h => h) (Or.inl ⟨by rfl, ?_⟩) ?_ ?_; rotate_left
         ·intro w'
          go_simp
          with_reducible rfl
         rotate_left
         ·simp only [Act.put, yg, yh, yi, i64_w, i32_w]; rfl
         refine pure_ (i := 2) (N := some 37) (v := ?_) (a' := ?_) #[true, false, true, false, false, false, false, false, false, false, false, false, false, false, false, false, false, false, false, false, false, false, false, false, false, false, false, false, false] rfl rfl (any_of HT_.out (by kernel_rfl)) (fun _ _ _ h => h) (Or.inl ⟨by rfl, ?_⟩) ?_ ?_; rotate_left
         ·intro w'
          go_simp
          with_reducible rfl
         rotate_left
         ·simp only [Act.put, yg, yh, yi, i64_w, i32_w]; rfl
         refine pure_ (i := 6) (N := some 41) (v := ?_) (a' := ?_) #[true, false, true, false, false, false, true, false, false, false, false, false, false, false, false, false, false, false, false, false, false, false, false, false, false, false, false, false, false] rfl rfl (any_of HT_.out (by kernel_rfl)) (fun _ _ _ h => h) (Or.inl ⟨by rfl, ?_⟩) ?_ ?_; rotate_left
         ·intro w'
          go_simp
          with_reducible rfl
         rotate_left
         ·simp only [Act.put, yg, yh, yi, i64_w, i32_w]; rfl
         refine pure_ (i := 8) (N := some 43) (v := ?_) (a' := ?_) #[true, false, true, false, false, false, true, false, true, false, false, false, false, false, false, false, false, false, false, false, false, false, false, false, false, false, false, false, false] rfl rfl (any_of HT_.out (by kernel_rfl)) (fun _ _ _ h => h) (Or.inl ⟨by rfl, ?_⟩) ?_ ?_; rotate_left
         ·intro w'
          go_simp
          with_reducible rfl
         rotate_left
         ·simp only [Act.put, yg, yh, yi, i64_w, i32_w]; rfl
         refine take_ (i := 1) (N := some 36) (v := ?_) (a' := ?_) #[true, true, true, false, false, false, true, false, true, false, false, false, false, false, false, false, false, false, false, false, false, false, false, false, false, false, false, false, false] rfl rfl (take_ofW HT_.out HW_.out (by kernel_rfl)) (fun _ _ _ h => h) (Or.inl ⟨by rfl, ?_⟩) hHeld ?_ ?_; rotate_left
         ·rintro w' ⟨s0, s1, s2, s3, s4, s5, s6, s7, s8, s9, s10, s11, s12, s13, s14, s15, s16, s17⟩
          go_simp
          with_reducible rfl
         rotate_left
         ·simp only [Act.put, yg, yh, yi, i64_w, i32_w]; rfl
         refine pure_ (i := 3) (N := some 38) (v := ?_) (a' := ?_) #[true, true, true, true, false, false, true, false, true, false, false, false, false, false, false, false, false, false, false, false, false, false, false, false, false, false, false, false, false] rfl rfl (any_of HT_.out (by kernel_rfl)) (fun _ _ _ h => h) (Or.inl ⟨by rfl, ?_⟩) ?_ ?_; rotate_left
         ·intro w'
          go_simp
          with_reducible rfl
         rotate_left
         ·simp only [Act.put, yg, yh, yi, i64_w, i32_w]; rfl
         refine pure_ (i := 4) (N := some 39) (v := ?_) (a' := ?_) #[true, true, true, true, true, false, true, false, true, false, false, false, false, false, false, false, false, false, false, false, false, false, false, false, false, false, false, false, false] rfl rfl (any_of HT_.out (by kernel_rfl)) (fun _ _ _ h => h) (Or.inl ⟨by rfl, ?_⟩) ?_ ?_; rotate_left
         ·intro w'
          go_simp
          with_reducible rfl
         rotate_left
         ·simp only [Act.put, yg, yh, yi, i64_w, i32_w]; rfl
         refine take_ (i := 5) (N := some 40) (v := ?_) (a' := ?_) #[true, true, true, true, true, true, true, false, true, false, false, false, false, false, false, false, false, false, false, false, false, false, false, false, false, false, false, false, false] rfl rfl (take_ofW HT_.out HW_.out (by kernel_rfl)) (fun _ _ _ h => h) (Or.inl ⟨by rfl, ?_⟩) hHeld ?_ ?_; rotate_left
         ·rintro w' ⟨s0, s1, s2, s3, s4, s5, s6, s7, s8, s9, s10, s11, s12, s13, s14, s15, s16, s17⟩
          go_simp
          with_reducible rfl
         rotate_left
         ·simp only [Act.put, yg, yh, yi, i64_w, i32_w]; rfl
         refine take_ (i := 7) (N := some 42) (v := ?_) (a' := ?_) (yj 9 20) rfl rfl (take_ofW HT_.out HW_.out (by kernel_rfl)) (fun _ _ _ h => h) (Or.inl ⟨by rfl, ?_⟩) hHeld ?_ ?_; rotate_left
         ·rintro w' ⟨s0, s1, s2, s3, s4, s5, s6, s7, s8, s9, s10, s11, s12, s13, s14, s15, s16, s17⟩
          go_simp
          with_reducible rfl
         rotate_left
         ·simp only [Act.put, yg, yh, yi, i64_w, i32_w]; rfl
         refine pure_ (i := 9) (N := some 44) (v := ?_) (a' := ?_) (yj 10 19) rfl rfl (any_of HT_.out (by kernel_rfl)) (fun _ _ _ h => h) (Or.inl ⟨by rfl, ?_⟩) ?_ ?_; rotate_left
         ·intro w'
          go_simp
          with_reducible rfl
         rotate_left
         ·simp only [Act.put, yg, yh, yi, i64_w, i32_w]; rfl
         refine pure_ (i := 10) (N := some 45) (v := ?_) (a' := ?_) (yj 11 18) rfl rfl (any_of HT_.out (by kernel_rfl)) (fun _ _ _ h => h) (Or.inl ⟨by rfl, ?_⟩) ?_ ?_; rotate_left
         ·intro w'
          go_simp
          with_reducible rfl
         rotate_left
         ·simp only [Act.put, yg, yh, yi, i64_w, i32_w]; rfl
         refine take_ (i := 11) (N := some 46) (v := ?_) (a' := ?_) (yj 12 17) rfl rfl (take_ofW HT_.out HW_.out (by kernel_rfl)) (fun _ _ _ h => h) (Or.inl ⟨by rfl, ?_⟩) hHeld ?_ ?_; rotate_left
         ·rintro w' ⟨s0, s1, s2, s3, s4, s5, s6, s7, s8, s9, s10, s11, s12, s13, s14, s15, s16, s17⟩
          go_simp
          with_reducible rfl
         rotate_left
         ·simp only [Act.put, yg, yh, yi, i64_w, i32_w]; rfl
         refine pure_ (i := 12) (N := some 47) (v := ?_) (a' := ?_) (yj 13 16) rfl rfl (any_of HT_.out (by kernel_rfl)) (fun _ _ _ h => h) (Or.inl ⟨by rfl, ?_⟩) ?_ ?_; rotate_left
         ·intro w'
          go_simp
          with_reducible rfl
         rotate_left
         ·simp only [Act.put, yg, yh, yi, i64_w, i32_w]; rfl
         refine pure_ (i := 13) (N := some 48) (v := ?_) (a' := ?_) (yj 14 15) rfl rfl (any_of HT_.out (by kernel_rfl)) (fun _ _ _ h => h) (Or.inl ⟨by rfl, ?_⟩) ?_ ?_; rotate_left
         ·intro w'
          go_simp
          with_reducible rfl
         rotate_left
         ·simp only [Act.put, yg, yh, yi, i64_w, i32_w]; rfl
         refine pure_ (i := 14) (N := some 49) (v := ?_) (a' := ?_) (yj 15 14) rfl rfl (any_of HT_.out (by kernel_rfl)) (fun _ _ _ h => h) (Or.inl ⟨by rfl, ?_⟩) ?_ ?_; rotate_left
         ·intro w'
          go_simp
          with_reducible rfl
         rotate_left
         ·simp only [Act.put, yg, yh, yi, i64_w, i32_w]; rfl
         refine pure_ (i := 16) (N := some 51) (v := ?_) (a' := ?_) #[true, true, true, true, true, true, true, true, true, true, true, true, true, true, true, false, true, false, false, false, false, false, false, false, false, false, false, false, false] rfl rfl (any_of HT_.out (by kernel_rfl)) (fun _ _ _ h => h) (Or.inl ⟨by rfl, ?_⟩) ?_ ?_; rotate_left
         ·intro w'
          go_simp
          with_reducible rfl
         rotate_left
         ·simp only [Act.put, yg, yh, yi, i64_w, i32_w]; rfl
         refine pure_ (i := 20) (N := some 55) (v := ?_) (a' := ?_) #[true, true, true, true, true, true, true, true, true, true, true, true, true, true, true, false, true, false, false, false, true, false, false, false, false, false, false, false, false] rfl rfl (any_of HT_.out (by kernel_rfl)) (fun _ _ _ h => h) (Or.inl ⟨by rfl, ?_⟩) ?_ ?_; rotate_left
         ·intro w'
          go_simp
          with_reducible rfl
         rotate_left
         ·simp only [Act.put, yg, yh, yi, i64_w, i32_w]; rfl
         refine pure_ (i := 22) (N := some 57) (v := ?_) (a' := ?_) #[true, true, true, true, true, true, true, true, true, true, true, true, true, true, true, false, true, false, false, false, true, false, true, false, false, false, false, false, false] rfl rfl (any_of HT_.out (by kernel_rfl)) (fun _ _ _ h => h) (Or.inl ⟨by rfl, ?_⟩) ?_ ?_; rotate_left
         ·intro w'
          go_simp
          with_reducible rfl
         rotate_left
         ·simp only [Act.put, yg, yh, yi, i64_w, i32_w]; rfl
         refine take_ (i := 15) (N := some 50) (v := ?_) (a' := ?_) #[true, true, true, true, true, true, true, true, true, true, true, true, true, true, true, true, true, false, false, false, true, false, true, false, false, false, false, false, false] rfl rfl (take_ofW HT_.out HW_.out (by kernel_rfl)) (fun _ _ _ h => h) (Or.inl ⟨by rfl, ?_⟩) hHeld ?_ ?_; rotate_left
         ·rintro w' ⟨s0, s1, s2, s3, s4, s5, s6, s7, s8, s9, s10, s11, s12, s13, s14, s15, s16, s17⟩
          go_simp
          with_reducible rfl
         rotate_left
         ·simp only [Act.put, yg, yh, yi, i64_w, i32_w]; rfl
         refine pure_ (i := 17) (N := some 52) (v := ?_) (a' := ?_) #[true, true, true, true, true, true, true, true, true, true, true, true, true, true, true, true, true, true, false, false, true, false, true, false, false, false, false, false, false] rfl rfl (any_of HT_.out (by kernel_rfl)) (fun _ _ _ h => h) (Or.inl ⟨by rfl, ?_⟩) ?_ ?_; rotate_left
         ·intro w'
          go_simp
          with_reducible rfl
         rotate_left
         ·simp only [Act.put, yg, yh, yi, i64_w, i32_w]; rfl
         refine pure_ (i := 18) (N := some 53) (v := ?_) (a' := ?_) #[true, true, true, true, true, true, true, true, true, true, true, true, true, true, true, true, true, true, true, false, true, false, true, false, false, false, false, false, false] rfl rfl (any_of HT_.out (by kernel_rfl)) (fun _ _ _ h => h) (Or.inl ⟨by rfl, ?_⟩) ?_ ?_; rotate_left
         ·intro w'
          go_simp
          with_reducible rfl
         rotate_left
         ·simp only [Act.put, yg, yh, yi, i64_w, i32_w]; rfl
         refine take_ (i := 19) (N := some 54) (v := ?_) (a' := ?_) #[true, true, true, true, true, true, true, true, true, true, true, true, true, true, true, true, true, true, true, true, true, false, true, false, false, false, false, false, false] rfl rfl (take_ofW HT_.out HW_.out (by kernel_rfl)) (fun _ _ _ h => h) (Or.inl ⟨by rfl, ?_⟩) hHeld ?_ ?_; rotate_left
         ·rintro w' ⟨s0, s1, s2, s3, s4, s5, s6, s7, s8, s9, s10, s11, s12, s13, s14, s15, s16, s17⟩
          go_simp
          with_reducible rfl
         rotate_left
         ·simp only [Act.put, yg, yh, yi, i64_w, i32_w]; rfl
         refine take_ (i := 21) (N := some 56) (v := ?_) (a' := ?_) (yj 23 6) rfl rfl (take_ofW HT_.out HW_.out (by kernel_rfl)) (fun _ _ _ h => h) (Or.inl ⟨by rfl, ?_⟩) hHeld ?_ ?_; rotate_left
         ·rintro w' ⟨s0, s1, s2, s3, s4, s5, s6, s7, s8, s9, s10, s11, s12, s13, s14, s15, s16, s17⟩
          go_simp
          with_reducible rfl
         rotate_left
         ·simp only [Act.put, yg, yh, yi, i64_w, i32_w]; rfl
         refine pure_ (i := 23) (N := some 58) (v := ?_) (a' := ?_) (yj 24 5) rfl rfl (any_of HT_.out (by kernel_rfl)) (fun _ _ _ h => h) (Or.inl ⟨by rfl, ?_⟩) ?_ ?_; rotate_left
         ·intro w'
          go_simp
          with_reducible rfl
         rotate_left
         ·simp only [Act.put, yg, yh, yi, i64_w, i32_w]; rfl
         refine pure_ (i := 24) (N := some 59) (v := ?_) (a' := ?_) (yj 25 4) rfl rfl (any_of HT_.out (by kernel_rfl)) (fun _ _ _ h => h) (Or.inl ⟨by rfl, ?_⟩) ?_ ?_; rotate_left
         ·intro w'
          go_simp
          with_reducible rfl
         rotate_left
         ·simp only [Act.put, yg, yh, yi, i64_w, i32_w]; rfl
         refine take_ (i := 25) (N := some 60) (v := ?_) (a' := ?_) (yj 26 3) rfl rfl (take_ofW HT_.out HW_.out (by kernel_rfl)) (fun _ _ _ h => h) (Or.inl ⟨by rfl, ?_⟩) hHeld ?_ ?_; rotate_left
         ·rintro w' ⟨s0, s1, s2, s3, s4, s5, s6, s7, s8, s9, s10, s11, s12, s13, s14, s15, s16, s17⟩
          go_simp
          with_reducible rfl
         rotate_left
         ·simp only [Act.put, yg, yh, yi, i64_w, i32_w]; rfl
         refine one_ (i := 26) (N := some 61) (yj 27 2) rfl rfl (one_of HT_.out (by kernel_rfl)) (by decide) (fun K hK => ?_); refine goes_ Try.func20 (by kernel_rfl) rfl #[.agg #[.slice A209_1 ((rd_T68 yl Ja).f1.f0).length c209_1, .slice A209_2 ((rd_T68 yl Ja).f1.f1).length c209_2], .agg #[.slice A210_1 ((rd_T68 yB Ja).f1.f0).length c210_1, .slice A210_2 ((rd_T68 yB Ja).f1.f1).length c210_2]] (by rfl) rfl rfl (by (try simp only [List.map_toArray, List.map_cons, List.map_nil]); first | done | rfl | (simp only [List.length_drop, List.length_take]; rfl)) ?_; with_reducible refine (treillageref12_SameGone.calls k2 _ _ ((rd_T68 yl Ja).f1.f0) _ _ ((rd_T68 yl Ja).f1.f1) _ _ ((rd_T68 yB Ja).f1.f0) _ _ ((rd_T68 yB Ja).f1.f1) true _ ?side1 ?side2 ?side3 ?side4 ?side5 ?side6 ?side7 ?side8 A23.out).mono ?_
         (case side1 => repeat (first | exact (Kd.C_below HR211_1.out HB.out) | (with_reducible refine Kd.C_alloc ?_ _) | (with_reducible refine Kd.C_drewN ?_ _) | (with_reducible refine Kd.C_drew ?_)))
         (case side2 => exact HC211_1.out)
         (case side3 => repeat (first | exact (Kd.C_below HR211_2.out HB.out) | (with_reducible refine Kd.C_alloc ?_ _) | (with_reducible refine Kd.C_drewN ?_ _) | (with_reducible refine Kd.C_drew ?_)))
         (case side4 => exact HC211_2.out)
         (case side5 => repeat (first | exact (Kd.C_below HR212_1.out HB.out) | (with_reducible refine Kd.C_alloc ?_ _) | (with_reducible refine Kd.C_drewN ?_ _) | (with_reducible refine Kd.C_drew ?_)))
         (case side6 => exact HC212_1.out)
         (case side7 => repeat (first | exact (Kd.C_below HR212_2.out HB.out) | (with_reducible refine Kd.C_alloc ?_ _) | (with_reducible refine Kd.C_drewN ?_ _) | (with_reducible refine Kd.C_drew ?_)))
         (case side8 => exact HC212_2.out)
         rintro e w28 ⟨rfl, hb⟩
         refine ⟨_, rfl, ?_⟩; have n0_ := aA (zl (g := Jd) (o := .cells #[.int .u64 ym, .slice yr yk.length yq, .slice (some ad209) yl.length yn] 39 (0, 0)) (bku Jb.out) hb); have n1_ := aA (zl (g := Je) (o := .cells #[.int .u64 a1_0, .slice yx yt.length yy, .slice (some ad210) yB.length c1_2] 39 (0, 0)) (bku Jc.out) hb); have n2_ := aA (zC (bls HB.out) hb); clear Jb; clear Jc; clear HB; have Jb := n0_; have Jc := n1_; have HB := n2_; clear n0_ n1_ n2_; (try clear hb); (try clear hb2); (try clear hk); (try clear hi); refine hK.out _ _ ⟨(za Jb.out 0).trans rfl, (za Jb.out 1).trans rfl, (za Jb.out 2).trans rfl, (za Jc.out 0).trans rfl, (za Jc.out 1).trans rfl, (za Jc.out 2).trans rfl, ((HB.out.cell (zd w _ hw209_0)).trans hw209_0), ((HB.out.cell (zd w _ hw209_1)).trans hw209_1), ((HB.out.cell (zd w _ hw209_2)).trans hw209_2), ((HB.out.cell (zd w _ hw210_0)).trans hw210_0), ((HB.out.cell (zd w _ hw210_1)).trans hw210_1), ((HB.out.cell (zd w _ hw210_2)).trans hw210_2), ((HB.out.cell (zd w _ hw211_0)).trans hw211_0), ((HB.out.cell (zd w _ hw211_1)).trans hw211_1), ((HB.out.cell (zd w _ hw211_2)).trans hw211_2), ((HB.out.cell (zd w _ hw212_0)).trans hw212_0), ((HB.out.cell (zd w _ hw212_1)).trans hw212_1), ((HB.out.cell (zd w _ hw212_2)).trans hw212_2)⟩ (fun hHeld => ?_); clear hK K; refine norm_ (a' := ?_) ?_ ?_; rotate_left
         ·show Act.put _ (some 61) _ = _
          simp only [Act.put, yg, yh, yi, i64_w, i32_w]; rfl
         refine pure_ (i := 27) (N := some 62) (v := ?_) (a' := ?_) (yj 28 1) rfl rfl (any_of HT_.out (by kernel_rfl)) (fun _ _ _ h => h) (Or.inl ⟨by rfl, ?_⟩) ?_ ?_; rotate_left
         ·intro w'
          go_simp
          with_reducible rfl
         rotate_left
         ·simp only [Act.put, yg, yh, yi, i64_w, i32_w]; rfl
         refine pure_ (i := 28) (N := some 63) (v := ?_) (a' := ?_) (yj 29 0) rfl rfl (any_of HT_.out (by kernel_rfl)) (fun _ _ _ h => h) (Or.inl ⟨by rfl, ?_⟩) ?_ ?_; rotate_left
         ·intro w'
          go_simp
          with_reducible rfl
         rotate_left
         ·simp only [Act.put, yg, yh, yi, i64_w, i32_w]; rfl
         refine done_ (done_of HT_.out (by kernel_rfl)) ?_; try go_wp2
         go_roundg k2
         case measure => have := HJ2.out; have := HK2.out; omega
         case rel => exact ⟨(wrap64 (Ja + 1)), (by first | rfl | (simp; done) | (simp [*]; done)), H', ⟨by have := HJ2.out; have := HK2.out; omega⟩, ⟨by (with_reducible repeat (first | apply zi | apply zg | apply zh)); exact Jb.out⟩, ⟨by (with_reducible repeat (first | apply zi | apply zg | apply zh)); exact Jc.out⟩, ⟨by repeat (first | (with_reducible first | exact HB.out | apply zE | apply zF | apply zG | refine zt ?_ Jh.out | refine zt ?_ Ji.out) | exact HB.out)⟩⟩
        ·replace c24 := Bool.eq_false_iff.mpr c24; subst c24; have H1 : (some false) = some r := by rw [if_neg (show ¬ (false = true) by decide)] at H; exact H
         clear H; have H := H1; clear H1; obtain rfl := Option.some.inj H; have hnb29 := Jf.out; have hnc29 := Jg.out; have hcz30_0 : wr.cell? ⟨Jd, 0, none⟩ = some (.int .u64 ym) := (za Jb.out 0).trans rfl; have hcz30_1 : wr.cell? ⟨Jd, 1, none⟩ = some (.slice yr yk.length yq) := (za Jb.out 1).trans rfl; have hcz30_2 : wr.cell? ⟨Jd, 2, none⟩ = some (.slice yo yl.length yn) := (za Jb.out 2).trans rfl; have hfz30_0 := zf Jb.out 0; have hfz30_1 := zf Jb.out 1; have hfz30_2 := zf Jb.out 2; try go_wp2
         have n0_ := aA (zg Jb.out); have n1_ := aA (zg Jc.out); have n2_ := aA (zG HB.out); clear Jb; clear Jc; clear HB; have Jb := n0_; have Jc := n1_; have HB := n2_; clear n0_ n1_ n2_; have p209 : 0 <= (Ja : Int) := zn (by first | (with_reducible assumption) | assumption); have q209 : Ja < (yl.length : Int) := zn (by first | (with_reducible assumption) | assumption); obtain ⟨ad209, A209_1, c209_1, A209_2, c209_2, e209, hx209_0, hx209_1, hx209_2, hl209_1, hi209_1, hl209_2, hi209_2⟩ := at_T68 HR0_2.out Ja p209 q209; have hw209_2 := hx209_2; have hw209_1 := hx209_1; have hw209_0 := hx209_0; cases e209
         replace hx209_0 := (HB.out.cell (zd w _ hx209_0)).trans hx209_0; replace hx209_1 := (HB.out.cell (zd w _ hx209_1)).trans hx209_1; replace hx209_2 := (HB.out.cell (zd w _ hx209_2)).trans hx209_2; have HR209_1 := aA hi209_1; have HC209_1 := aA hl209_1; clear hi209_1 hl209_1; have HR209_2 := aA hi209_2; have HC209_2 := aA hl209_2; clear hi209_2 hl209_2; replace p209 := eq_true p209; replace q209 := eq_true q209; have p210 : 0 <= (Ja : Int) := zn (by first | (with_reducible assumption) | assumption); have q210 : Ja < (yB.length : Int) := zn (by first | (with_reducible assumption) | assumption); obtain ⟨ad210, A210_1, c210_1, A210_2, c210_2, e210, hx210_0, hx210_1, hx210_2, hl210_1, hi210_1, hl210_2, hi210_2⟩ := at_T68 HR1_2.out Ja p210 q210; have hw210_2 := hx210_2; have hw210_1 := hx210_1; have hw210_0 := hx210_0; cases e210
         replace hx210_0 := (HB.out.cell (zd w _ hx210_0)).trans hx210_0; replace hx210_1 := (HB.out.cell (zd w _ hx210_1)).trans hx210_1; replace hx210_2 := (HB.out.cell (zd w _ hx210_2)).trans hx210_2; have HR210_1 := aA hi210_1; have HC210_1 := aA hl210_1; clear hi210_1 hl210_1; have HR210_2 := aA hi210_2; have HC210_2 := aA hl210_2; clear hi210_2 hl210_2; replace p210 := eq_true p210; replace q210 := eq_true q210; have p211 : 0 <= (Ja : Int) := zn (by first | (with_reducible assumption) | assumption); have q211 : Ja < (yl.length : Int) := zn (by first | (with_reducible assumption) | assumption); obtain ⟨ad211, A211_1, c211_1, A211_2, c211_2, e211, hx211_0, hx211_1, hx211_2, hl211_1, hi211_1, hl211_2, hi211_2⟩ := at_T68 HR0_2.out Ja p211 q211; have hw211_2 := hx211_2; have hw211_1 := hx211_1; have hw211_0 := hx211_0; obtain rfl : ad209 = ad211 := (by injection e211); replace hx211_0 := (HB.out.cell (zd w _ hx211_0)).trans hx211_0; replace hx211_1 := (HB.out.cell (zd w _ hx211_1)).trans hx211_1; replace hx211_2 := (HB.out.cell (zd w _ hx211_2)).trans hx211_2; have HR211_1 := aA hi211_1; have HC211_1 := aA hl211_1; clear hi211_1 hl211_1; have HR211_2 := aA hi211_2; have HC211_2 := aA hl211_2; clear hi211_2 hl211_2; replace p211 := eq_true p211; replace q211 := eq_true q211; have ea_ := Option.some.inj (hx209_1.symm.trans hx211_1); injection ea_ with ea_ en_ ec_; subst ea_; subst ec_; clear en_; have ea_ := Option.some.inj (hx209_2.symm.trans hx211_2); injection ea_ with ea_ en_ ec_; subst ea_; subst ec_; clear en_; have p212 : 0 <= (Ja : Int) := zn (by first | (with_reducible assumption) | assumption); have q212 : Ja < (yB.length : Int) := zn (by first | (with_reducible assumption) | assumption); obtain ⟨ad212, A212_1, c212_1, A212_2, c212_2, e212, hx212_0, hx212_1, hx212_2, hl212_1, hi212_1, hl212_2, hi212_2⟩ := at_T68 HR1_2.out Ja p212 q212; have hw212_2 := hx212_2; have hw212_1 := hx212_1; have hw212_0 := hx212_0; obtain rfl : ad210 = ad212 := (by injection e212); replace hx212_0 := (HB.out.cell (zd w _ hx212_0)).trans hx212_0; replace hx212_1 := (HB.out.cell (zd w _ hx212_1)).trans hx212_1; replace hx212_2 := (HB.out.cell (zd w _ hx212_2)).trans hx212_2; have HR212_1 := aA hi212_1; have HC212_1 := aA hl212_1; clear hi212_1 hl212_1; have HR212_2 := aA hi212_2; have HC212_2 := aA hl212_2; clear hi212_2 hl212_2; replace p212 := eq_true p212; replace q212 := eq_true q212; have ea_ := Option.some.inj (hx210_1.symm.trans hx212_1); injection ea_ with ea_ en_ ec_; subst ea_; subst ec_; clear en_; have ea_ := Option.some.inj (hx210_2.symm.trans hx212_2); injection ea_ with ea_ en_ ec_; subst ea_; subst ec_; clear en_; refine start_ (n := 29) (S := fun w' => w'.cell? ⟨Jd, 0, none⟩ = some (.int .u64 ym) /\ w'.cell? ⟨Jd, 1, none⟩ = some (.slice yr yk.length yq) /\ w'.cell? ⟨Jd, 2, none⟩ = some (.slice (some ad209) yl.length yn) /\ w'.cell? ⟨Je, 0, none⟩ = some (.int .u64 a1_0) /\ w'.cell? ⟨Je, 1, none⟩ = some (.slice yx yt.length yy) /\ w'.cell? ⟨Je, 2, none⟩ = some (.slice (some ad210) yB.length c1_2) /\ w'.cell? (ad209.add ((Ja).toNat * 3)) = some (.int .u64 ((rd_T68 yl Ja).f0)) /\ w'.cell? ⟨(ad209.add ((Ja).toNat * 3)).block, (ad209.add ((Ja).toNat * 3)).off + 1, none⟩ = some (.slice A209_1 ((rd_T68 yl Ja).f1.f0).length c209_1) /\ w'.cell? ⟨(ad209.add ((Ja).toNat * 3)).block, (ad209.add ((Ja).toNat * 3)).off + 2, none⟩ = some (.slice A209_2 ((rd_T68 yl Ja).f1.f1).length c209_2) /\ w'.cell? (ad210.add ((Ja).toNat * 3)) = some (.int .u64 ((rd_T68 yB Ja).f0)) /\ w'.cell? ⟨(ad210.add ((Ja).toNat * 3)).block, (ad210.add ((Ja).toNat * 3)).off + 1, none⟩ = some (.slice A210_1 ((rd_T68 yB Ja).f1.f0).length c210_1) /\ w'.cell? ⟨(ad210.add ((Ja).toNat * 3)).block, (ad210.add ((Ja).toNat * 3)).off + 2, none⟩ = some (.slice A210_2 ((rd_T68 yB Ja).f1.f1).length c210_2) /\ w'.cell? (ad209.add ((Ja).toNat * 3)) = some (.int .u64 ((rd_T68 yl Ja).f0)) /\ w'.cell? ⟨(ad209.add ((Ja).toNat * 3)).block, (ad209.add ((Ja).toNat * 3)).off + 1, none⟩ = some (.slice A209_1 ((rd_T68 yl Ja).f1.f0).length c209_1) /\ w'.cell? ⟨(ad209.add ((Ja).toNat * 3)).block, (ad209.add ((Ja).toNat * 3)).off + 2, none⟩ = some (.slice A209_2 ((rd_T68 yl Ja).f1.f1).length c209_2) /\ w'.cell? (ad210.add ((Ja).toNat * 3)) = some (.int .u64 ((rd_T68 yB Ja).f0)) /\ w'.cell? ⟨(ad210.add ((Ja).toNat * 3)).block, (ad210.add ((Ja).toNat * 3)).off + 1, none⟩ = some (.slice A210_1 ((rd_T68 yB Ja).f1.f0).length c210_1) /\ w'.cell? ⟨(ad210.add ((Ja).toNat * 3)).block, (ad210.add ((Ja).toNat * 3)).off + 2, none⟩ = some (.slice A210_2 ((rd_T68 yB Ja).f1.f1).length c210_2)) (ds := []) (yj 0 29) (by kernel_rfl) rfl rfl ⟨(za Jb.out 0).trans rfl, (za Jb.out 1).trans rfl, (za Jb.out 2).trans rfl, (za Jc.out 0).trans rfl, (za Jc.out 1).trans rfl, (za Jc.out 2).trans rfl, ((HB.out.cell (zd w _ hw209_0)).trans hw209_0), ((HB.out.cell (zd w _ hw209_1)).trans hw209_1), ((HB.out.cell (zd w _ hw209_2)).trans hw209_2), ((HB.out.cell (zd w _ hw210_0)).trans hw210_0), ((HB.out.cell (zd w _ hw210_1)).trans hw210_1), ((HB.out.cell (zd w _ hw210_2)).trans hw210_2), ((HB.out.cell (zd w _ hw211_0)).trans hw211_0), ((HB.out.cell (zd w _ hw211_1)).trans hw211_1), ((HB.out.cell (zd w _ hw211_2)).trans hw211_2), ((HB.out.cell (zd w _ hw212_0)).trans hw212_0), ((HB.out.cell (zd w _ hw212_1)).trans hw212_1), ((HB.out.cell (zd w _ hw212_2)).trans hw212_2)⟩ (fun hHeld => ?_); refine with_tabW treillageref14_Same.tab6 treillageref14_Same.bits6 (fun HT_ HW_ => ?_)
         generalize wr.drew = w31 at Jb Jc HB HR209_1 HR209_2 HR210_1 HR210_2 HR211_1 HR211_2 HR212_1 HR212_2 hx209_0 hx209_1 hx209_2 hx210_0 hx210_1 hx210_2 hx211_0 hx211_1 hx211_2 hx212_0 hx212_1 hx212_2 hHeld ⊢; refine pure_ (i := 0) (N := some 35) (v := ?_) (a' := ?_) (yj 1 28) rfl rfl (any_of HT_.out (by kernel_rfl)) (fun _ _ _ h => h) (Or.inl ⟨by rfl, ?_⟩) ?_ ?_; rotate_left
         ·intro w'
          go_simp
          with_reducible rfl
         rotate_left
         ·simp only [Act.put, yg, yh, yi, i64_w, i32_w]; rfl
         refine pure_ (i := 2) (N := some 37) (v := ?_) (a' := ?_) #[true, false, true, false, false, false, false, false, false, false, false, false, false, false, false, false, false, false, false, false, false, false, false, false, false, false, false, false, false] rfl rfl (any_of HT_.out (by kernel_rfl)) (fun _ _ _ h => h) (Or.inl ⟨by rfl, ?_⟩) ?_ ?_; rotate_left
         ·intro w'
          go_simp
          with_reducible rfl
         rotate_left
         ·simp only [Act.put, yg, yh, yi, i64_w, i32_w]; rfl
         refine pure_ (i := 6) (N := some 41) (v := ?_) (a' := ?_) #[true, false, true, false, false, false, true, false, false, false, false, false, false, false, false, false, false, false, false, false, false, false, false, false, false, false, false, false, false] rfl rfl (any_of HT_.out (by kernel_rfl)) (fun _ _ _ h => h) (Or.inl ⟨by rfl, ?_⟩) ?_ ?_; rotate_left
         ·intro w'
          go_simp
          with_reducible rfl
         rotate_left
         ·simp only [Act.put, yg, yh, yi, i64_w, i32_w]; rfl
         refine pure_ (i := 8) (N := some 43) (v := ?_) (a' := ?_) #[true, false, true, false, false, false, true, false, true, false, false, false, false, false, false, false, false, false, false, false, false, false, false, false, false, false, false, false, false] rfl rfl (any_of HT_.out (by kernel_rfl)) (fun _ _ _ h => h) (Or.inl ⟨by rfl, ?_⟩) ?_ ?_; rotate_left
         ·intro w'
          go_simp
          with_reducible rfl
         rotate_left
         ·simp only [Act.put, yg, yh, yi, i64_w, i32_w]; rfl
         refine take_ (i := 1) (N := some 36) (v := ?_) (a' := ?_) #[true, true, true, false, false, false, true, false, true, false, false, false, false, false, false, false, false, false, false, false, false, false, false, false, false, false, false, false, false] rfl rfl (take_ofW HT_.out HW_.out (by kernel_rfl)) (fun _ _ _ h => h) (Or.inl ⟨by rfl, ?_⟩) hHeld ?_ ?_; rotate_left
         ·rintro w' ⟨s0, s1, s2, s3, s4, s5, s6, s7, s8, s9, s10, s11, s12, s13, s14, s15, s16, s17⟩
          go_simp
          with_reducible rfl
         rotate_left
         ·simp only [Act.put, yg, yh, yi, i64_w, i32_w]; rfl
         refine pure_ (i := 3) (N := some 38) (v := ?_) (a' := ?_) #[true, true, true, true, false, false, true, false, true, false, false, false, false, false, false, false, false, false, false, false, false, false, false, false, false, false, false, false, false] rfl rfl (any_of HT_.out (by kernel_rfl)) (fun _ _ _ h => h) (Or.inl ⟨by rfl, ?_⟩) ?_ ?_; rotate_left
         ·intro w'
          go_simp
          with_reducible rfl
         rotate_left
         ·simp only [Act.put, yg, yh, yi, i64_w, i32_w]; rfl
         refine pure_ (i := 4) (N := some 39) (v := ?_) (a' := ?_) #[true, true, true, true, true, false, true, false, true, false, false, false, false, false, false, false, false, false, false, false, false, false, false, false, false, false, false, false, false] rfl rfl (any_of HT_.out (by kernel_rfl)) (fun _ _ _ h => h) (Or.inl ⟨by rfl, ?_⟩) ?_ ?_; rotate_left
         ·intro w'
          go_simp
          with_reducible rfl
         rotate_left
         ·simp only [Act.put, yg, yh, yi, i64_w, i32_w]; rfl
         refine take_ (i := 5) (N := some 40) (v := ?_) (a' := ?_) #[true, true, true, true, true, true, true, false, true, false, false, false, false, false, false, false, false, false, false, false, false, false, false, false, false, false, false, false, false] rfl rfl (take_ofW HT_.out HW_.out (by kernel_rfl)) (fun _ _ _ h => h) (Or.inl ⟨by rfl, ?_⟩) hHeld ?_ ?_; rotate_left
         ·rintro w' ⟨s0, s1, s2, s3, s4, s5, s6, s7, s8, s9, s10, s11, s12, s13, s14, s15, s16, s17⟩
          go_simp
          with_reducible rfl
         rotate_left
         ·simp only [Act.put, yg, yh, yi, i64_w, i32_w]; rfl
         refine take_ (i := 7) (N := some 42) (v := ?_) (a' := ?_) (yj 9 20) rfl rfl (take_ofW HT_.out HW_.out (by kernel_rfl)) (fun _ _ _ h => h) (Or.inl ⟨by rfl, ?_⟩) hHeld ?_ ?_; rotate_left
         ·rintro w' ⟨s0, s1, s2, s3, s4, s5, s6, s7, s8, s9, s10, s11, s12, s13, s14, s15, s16, s17⟩
          go_simp
          with_reducible rfl
         rotate_left
         ·simp only [Act.put, yg, yh, yi, i64_w, i32_w]; rfl
         refine pure_ (i := 9) (N := some 44) (v := ?_) (a' := ?_) (yj 10 19) rfl rfl (any_of HT_.out (by kernel_rfl)) (fun _ _ _ h => h) (Or.inl ⟨by rfl, ?_⟩) ?_ ?_; rotate_left
         ·intro w'
          go_simp
          with_reducible rfl
         rotate_left
         ·simp only [Act.put, yg, yh, yi, i64_w, i32_w]; rfl
         refine pure_ (i := 10) (N := some 45) (v := ?_) (a' := ?_) (yj 11 18) rfl rfl (any_of HT_.out (by kernel_rfl)) (fun _ _ _ h => h) (Or.inl ⟨by rfl, ?_⟩) ?_ ?_; rotate_left
         ·intro w'
          go_simp
          with_reducible rfl
         rotate_left
         ·simp only [Act.put, yg, yh, yi, i64_w, i32_w]; rfl
         refine take_ (i := 11) (N := some 46) (v := ?_) (a' := ?_) (yj 12 17) rfl rfl (take_ofW HT_.out HW_.out (by kernel_rfl)) (fun _ _ _ h => h) (Or.inl ⟨by rfl, ?_⟩) hHeld ?_ ?_; rotate_left
         ·rintro w' ⟨s0, s1, s2, s3, s4, s5, s6, s7, s8, s9, s10, s11, s12, s13, s14, s15, s16, s17⟩
          go_simp
          with_reducible rfl
         rotate_left
         ·simp only [Act.put, yg, yh, yi, i64_w, i32_w]; rfl
         refine pure_ (i := 12) (N := some 47) (v := ?_) (a' := ?_) (yj 13 16) rfl rfl (any_of HT_.out (by kernel_rfl)) (fun _ _ _ h => h) (Or.inl ⟨by rfl, ?_⟩) ?_ ?_; rotate_left
         ·intro w'
          go_simp
          with_reducible rfl
         rotate_left
         ·simp only [Act.put, yg, yh, yi, i64_w, i32_w]; rfl
         refine pure_ (i := 13) (N := some 48) (v := ?_) (a' := ?_) (yj 14 15) rfl rfl (any_of HT_.out (by kernel_rfl)) (fun _ _ _ h => h) (Or.inl ⟨by rfl, ?_⟩) ?_ ?_; rotate_left
         ·intro w'
          go_simp
          with_reducible rfl
         rotate_left
         ·simp only [Act.put, yg, yh, yi, i64_w, i32_w]; rfl
         refine pure_ (i := 14) (N := some 49) (v := ?_) (a' := ?_) (yj 15 14) rfl rfl (any_of HT_.out (by kernel_rfl)) (fun _ _ _ h => h) (Or.inl ⟨by rfl, ?_⟩) ?_ ?_; rotate_left
         ·intro w'
          go_simp
          with_reducible rfl
         rotate_left
         ·simp only [Act.put, yg, yh, yi, i64_w, i32_w]; rfl
         refine pure_ (i := 16) (N := some 51) (v := ?_) (a' := ?_) #[true, true, true, true, true, true, true, true, true, true, true, true, true, true, true, false, true, false, false, false, false, false, false, false, false, false, false, false, false] rfl rfl (any_of HT_.out (by kernel_rfl)) (fun _ _ _ h => h) (Or.inl ⟨by rfl, ?_⟩) ?_ ?_; rotate_left
         ·intro w'
          go_simp
          with_reducible rfl
         rotate_left
         ·simp only [Act.put, yg, yh, yi, i64_w, i32_w]; rfl
         refine pure_ (i := 20) (N := some 55) (v := ?_) (a' := ?_) #[true, true, true, true, true, true, true, true, true, true, true, true, true, true, true, false, true, false, false, false, true, false, false, false, false, false, false, false, false] rfl rfl (any_of HT_.out (by kernel_rfl)) (fun _ _ _ h => h) (Or.inl ⟨by rfl, ?_⟩) ?_ ?_; rotate_left
         ·intro w'
          go_simp
          with_reducible rfl
         rotate_left
         ·simp only [Act.put, yg, yh, yi, i64_w, i32_w]; rfl
         refine pure_ (i := 22) (N := some 57) (v := ?_) (a' := ?_) #[true, true, true, true, true, true, true, true, true, true, true, true, true, true, true, false, true, false, false, false, true, false, true, false, false, false, false, false, false] rfl rfl (any_of HT_.out (by kernel_rfl)) (fun _ _ _ h => h) (Or.inl ⟨by rfl, ?_⟩) ?_ ?_; rotate_left
         ·intro w'
          go_simp
          with_reducible rfl
         rotate_left
         ·simp only [Act.put, yg, yh, yi, i64_w, i32_w]; rfl
         refine take_ (i := 15) (N := some 50) (v := ?_) (a' := ?_) #[true, true, true, true, true, true, true, true, true, true, true, true, true, true, true, true, true, false, false, false, true, false, true, false, false, false, false, false, false] rfl rfl (take_ofW HT_.out HW_.out (by kernel_rfl)) (fun _ _ _ h => h) (Or.inl ⟨by rfl, ?_⟩) hHeld ?_ ?_; rotate_left
         ·rintro w' ⟨s0, s1, s2, s3, s4, s5, s6, s7, s8, s9, s10, s11, s12, s13, s14, s15, s16, s17⟩
          go_simp
          with_reducible rfl
         rotate_left
         ·simp only [Act.put, yg, yh, yi, i64_w, i32_w]; rfl
         refine pure_ (i := 17) (N := some 52) (v := ?_) (a' := ?_) #[true, true, true, true, true, true, true, true, true, true, true, true, true, true, true, true, true, true, false, false, true, false, true, false, false, false, false, false, false] rfl rfl (any_of HT_.out (by kernel_rfl)) (fun _ _ _ h => h) (Or.inl ⟨by rfl, ?_⟩) ?_ ?_; rotate_left
         ·intro w'
          go_simp
          with_reducible rfl
         rotate_left
         ·simp only [Act.put, yg, yh, yi, i64_w, i32_w]; rfl
         refine pure_ (i := 18) (N := some 53) (v := ?_) (a' := ?_) #[true, true, true, true, true, true, true, true, true, true, true, true, true, true, true, true, true, true, true, false, true, false, true, false, false, false, false, false, false] rfl rfl (any_of HT_.out (by kernel_rfl)) (fun _ _ _ h => h) (Or.inl ⟨by rfl, ?_⟩) ?_ ?_; rotate_left
         ·intro w'
          go_simp
          with_reducible rfl
         rotate_left
         ·simp only [Act.put, yg, yh, yi, i64_w, i32_w]; rfl
         refine take_ (i := 19) (N := some 54) (v := ?_) (a' := ?_) #[true, true, true, true, true, true, true, true, true, true, true, true, true, true, true, true, true, true, true, true, true, false, true, false, false, false, false, false, false] rfl rfl (take_ofW HT_.out HW_.out (by kernel_rfl)) (fun _ _ _ h => h) (Or.inl ⟨by rfl, ?_⟩) hHeld ?_ ?_; rotate_left
         ·rintro w' ⟨s0, s1, s2, s3, s4, s5, s6, s7, s8, s9, s10, s11, s12, s13, s14, s15, s16, s17⟩
          go_simp
          with_reducible rfl
         rotate_left
         ·simp only [Act.put, yg, yh, yi, i64_w, i32_w]; rfl
         refine take_ (i := 21) (N := some 56) (v := ?_) (a' := ?_) (yj 23 6) rfl rfl (take_ofW HT_.out HW_.out (by kernel_rfl)) (fun _ _ _ h => h) (Or.inl ⟨by rfl, ?_⟩) hHeld ?_ ?_; rotate_left
         ·rintro w' ⟨s0, s1, s2, s3, s4, s5, s6, s7, s8, s9, s10, s11, s12, s13, s14, s15, s16, s17⟩
          go_simp
          with_reducible rfl
         rotate_left
         ·simp only [Act.put, yg, yh, yi, i64_w, i32_w]; rfl
         refine pure_ (i := 23) (N := some 58) (v := ?_) (a' := ?_) (yj 24 5) rfl rfl (any_of HT_.out (by kernel_rfl)) (fun _ _ _ h => h) (Or.inl ⟨by rfl, ?_⟩) ?_ ?_; rotate_left
         ·intro w'
          go_simp
          with_reducible rfl
         rotate_left
         ·simp only [Act.put, yg, yh, yi, i64_w, i32_w]; rfl
         refine pure_ (i := 24) (N := some 59) (v := ?_) (a' := ?_) (yj 25 4) rfl rfl (any_of HT_.out (by kernel_rfl)) (fun _ _ _ h => h) (Or.inl ⟨by rfl, ?_⟩) ?_ ?_; rotate_left
         ·intro w'
          go_simp
          with_reducible rfl
         rotate_left
         ·simp only [Act.put, yg, yh, yi, i64_w, i32_w]; rfl
         refine take_ (i := 25) (N := some 60) (v := ?_) (a' := ?_) (yj 26 3) rfl rfl (take_ofW HT_.out HW_.out (by kernel_rfl)) (fun _ _ _ h => h) (Or.inl ⟨by rfl, ?_⟩) hHeld ?_ ?_; rotate_left
         ·rintro w' ⟨s0, s1, s2, s3, s4, s5, s6, s7, s8, s9, s10, s11, s12, s13, s14, s15, s16, s17⟩
          go_simp
          with_reducible rfl
         rotate_left
         ·simp only [Act.put, yg, yh, yi, i64_w, i32_w]; rfl
         refine one_ (i := 26) (N := some 61) (yj 27 2) rfl rfl (one_of HT_.out (by kernel_rfl)) (by decide) (fun K hK => ?_); refine goes_ Try.func20 (by kernel_rfl) rfl #[.agg #[.slice A209_1 ((rd_T68 yl Ja).f1.f0).length c209_1, .slice A209_2 ((rd_T68 yl Ja).f1.f1).length c209_2], .agg #[.slice A210_1 ((rd_T68 yB Ja).f1.f0).length c210_1, .slice A210_2 ((rd_T68 yB Ja).f1.f1).length c210_2]] (by rfl) rfl rfl (by (try simp only [List.map_toArray, List.map_cons, List.map_nil]); first | done | rfl | (simp only [List.length_drop, List.length_take]; rfl)) ?_; with_reducible refine (treillageref12_SameGone.calls k2 _ _ ((rd_T68 yl Ja).f1.f0) _ _ ((rd_T68 yl Ja).f1.f1) _ _ ((rd_T68 yB Ja).f1.f0) _ _ ((rd_T68 yB Ja).f1.f1) false _ ?side1 ?side2 ?side3 ?side4 ?side5 ?side6 ?side7 ?side8 A23.out).mono ?_
         (case side1 => repeat (first | exact (Kd.C_below HR211_1.out HB.out) | (with_reducible refine Kd.C_alloc ?_ _) | (with_reducible refine Kd.C_drewN ?_ _) | (with_reducible refine Kd.C_drew ?_)))
         (case side2 => exact HC211_1.out)
         (case side3 => repeat (first | exact (Kd.C_below HR211_2.out HB.out) | (with_reducible refine Kd.C_alloc ?_ _) | (with_reducible refine Kd.C_drewN ?_ _) | (with_reducible refine Kd.C_drew ?_)))
         (case side4 => exact HC211_2.out)
         (case side5 => repeat (first | exact (Kd.C_below HR212_1.out HB.out) | (with_reducible refine Kd.C_alloc ?_ _) | (with_reducible refine Kd.C_drewN ?_ _) | (with_reducible refine Kd.C_drew ?_)))
         (case side6 => exact HC212_1.out)
         (case side7 => repeat (first | exact (Kd.C_below HR212_2.out HB.out) | (with_reducible refine Kd.C_alloc ?_ _) | (with_reducible refine Kd.C_drewN ?_ _) | (with_reducible refine Kd.C_drew ?_)))
         (case side8 => exact HC212_2.out)
         rintro e w32 ⟨rfl, hb⟩
         refine ⟨_, rfl, ?_⟩; have n0_ := aA (zl (g := Jd) (o := .cells #[.int .u64 ym, .slice yr yk.length yq, .slice (some ad209) yl.length yn] 39 (0, 0)) (bku Jb.out) hb); have n1_ := aA (zl (g := Je) (o := .cells #[.int .u64 a1_0, .slice yx yt.length yy, .slice (some ad210) yB.length c1_2] 39 (0, 0)) (bku Jc.out) hb); have n2_ := aA (zC (bls HB.out) hb); clear Jb; clear Jc; clear HB; have Jb := n0_; have Jc := n1_; have HB := n2_; clear n0_ n1_ n2_; (try clear hb); (try clear hb2); (try clear hk); (try clear hi); refine hK.out _ _ ⟨(za Jb.out 0).trans rfl, (za Jb.out 1).trans rfl, (za Jb.out 2).trans rfl, (za Jc.out 0).trans rfl, (za Jc.out 1).trans rfl, (za Jc.out 2).trans rfl, ((HB.out.cell (zd w _ hw209_0)).trans hw209_0), ((HB.out.cell (zd w _ hw209_1)).trans hw209_1), ((HB.out.cell (zd w _ hw209_2)).trans hw209_2), ((HB.out.cell (zd w _ hw210_0)).trans hw210_0), ((HB.out.cell (zd w _ hw210_1)).trans hw210_1), ((HB.out.cell (zd w _ hw210_2)).trans hw210_2), ((HB.out.cell (zd w _ hw211_0)).trans hw211_0), ((HB.out.cell (zd w _ hw211_1)).trans hw211_1), ((HB.out.cell (zd w _ hw211_2)).trans hw211_2), ((HB.out.cell (zd w _ hw212_0)).trans hw212_0), ((HB.out.cell (zd w _ hw212_1)).trans hw212_1), ((HB.out.cell (zd w _ hw212_2)).trans hw212_2)⟩ (fun hHeld => ?_); clear hK K; refine norm_ (a' := ?_) ?_ ?_; rotate_left
         ·show Act.put _ (some 61) _ = _
          simp only [Act.put, yg, yh, yi, i64_w, i32_w]; rfl
         refine pure_ (i := 27) (N := some 62) (v := ?_) (a' := ?_) (yj 28 1) rfl rfl (any_of HT_.out (by kernel_rfl)) (fun _ _ _ h => h) (Or.inl ⟨by rfl, ?_⟩) ?_ ?_; rotate_left
         ·intro w'
          go_simp
          with_reducible rfl
         rotate_left
         ·simp only [Act.put, yg, yh, yi, i64_w, i32_w]; rfl
         refine pure_ (i := 28) (N := some 63) (v := ?_) (a' := ?_) (yj 29 0) rfl rfl (any_of HT_.out (by kernel_rfl)) (fun _ _ _ h => h) (Or.inl ⟨by rfl, ?_⟩) ?_ ?_; rotate_left
         ·intro w'
          go_simp
          with_reducible rfl
         rotate_left
         ·simp only [Act.put, yg, yh, yi, i64_w, i32_w]; rfl
         refine done_ (done_of HT_.out (by kernel_rfl)) ?_; try go_wp2
         go_ret
         exact ⟨by first | rfl | (simp [errW_none, errW_some] <;> rfl) | (simp [*, errW_none, errW_some] <;> rfl), by repeat (first | (with_reducible first | exact HB.out | apply zE | apply zF | apply zG | refine zt ?_ Jh.out | refine zt ?_ Ji.out) | exact HB.out)⟩
       ·rw [if_neg c22] at H; have c22b0 : (((rd_T68 yl Ja).f0) == ((rd_T68 yB Ja).f0)) = false := beq_eq_false_iff_ne.mpr c22; have c22b1 : (((rd_T68 yl Ja).f0) != ((rd_T68 yB Ja).f0)) = true := bne_iff_ne.mpr c22; obtain rfl := Option.some.inj H; have hnb33 := Jf.out; have hnc33 := Jg.out; have hcz34_0 : wr.cell? ⟨Jd, 0, none⟩ = some (.int .u64 ym) := (za Jb.out 0).trans rfl; have hcz34_1 : wr.cell? ⟨Jd, 1, none⟩ = some (.slice yr yk.length yq) := (za Jb.out 1).trans rfl; have hcz34_2 : wr.cell? ⟨Jd, 2, none⟩ = some (.slice yo yl.length yn) := (za Jb.out 2).trans rfl; have hfz34_0 := zf Jb.out 0; have hfz34_1 := zf Jb.out 1; have hfz34_2 := zf Jb.out 2; try go_wp2
        have n0_ := aA (zg Jb.out); have n1_ := aA (zg Jc.out); have n2_ := aA (zG HB.out); clear Jb; clear Jc; clear HB; have Jb := n0_; have Jc := n1_; have HB := n2_; clear n0_ n1_ n2_; have p209 : 0 <= (Ja : Int) := zn (by first | (with_reducible assumption) | assumption); have q209 : Ja < (yl.length : Int) := zn (by first | (with_reducible assumption) | assumption); obtain ⟨ad209, A209_1, c209_1, A209_2, c209_2, e209, hx209_0, hx209_1, hx209_2, hl209_1, hi209_1, hl209_2, hi209_2⟩ := at_T68 HR0_2.out Ja p209 q209; have hw209_2 := hx209_2; have hw209_1 := hx209_1; have hw209_0 := hx209_0; cases e209
        replace hx209_0 := (HB.out.cell (zd w _ hx209_0)).trans hx209_0; replace hx209_1 := (HB.out.cell (zd w _ hx209_1)).trans hx209_1; replace hx209_2 := (HB.out.cell (zd w _ hx209_2)).trans hx209_2; have HR209_1 := aA hi209_1; have HC209_1 := aA hl209_1; clear hi209_1 hl209_1; have HR209_2 := aA hi209_2; have HC209_2 := aA hl209_2; clear hi209_2 hl209_2; replace p209 := eq_true p209; replace q209 := eq_true q209; have p210 : 0 <= (Ja : Int) := zn (by first | (with_reducible assumption) | assumption); have q210 : Ja < (yB.length : Int) := zn (by first | (with_reducible assumption) | assumption); obtain ⟨ad210, A210_1, c210_1, A210_2, c210_2, e210, hx210_0, hx210_1, hx210_2, hl210_1, hi210_1, hl210_2, hi210_2⟩ := at_T68 HR1_2.out Ja p210 q210; have hw210_2 := hx210_2; have hw210_1 := hx210_1; have hw210_0 := hx210_0; cases e210
        replace hx210_0 := (HB.out.cell (zd w _ hx210_0)).trans hx210_0; replace hx210_1 := (HB.out.cell (zd w _ hx210_1)).trans hx210_1; replace hx210_2 := (HB.out.cell (zd w _ hx210_2)).trans hx210_2; have HR210_1 := aA hi210_1; have HC210_1 := aA hl210_1; clear hi210_1 hl210_1; have HR210_2 := aA hi210_2; have HC210_2 := aA hl210_2; clear hi210_2 hl210_2; replace p210 := eq_true p210; replace q210 := eq_true q210; refine start_ (n := 29) (S := fun w' => w'.cell? ⟨Jd, 0, none⟩ = some (.int .u64 ym) /\ w'.cell? ⟨Jd, 1, none⟩ = some (.slice yr yk.length yq) /\ w'.cell? ⟨Jd, 2, none⟩ = some (.slice (some ad209) yl.length yn) /\ w'.cell? ⟨Je, 0, none⟩ = some (.int .u64 a1_0) /\ w'.cell? ⟨Je, 1, none⟩ = some (.slice yx yt.length yy) /\ w'.cell? ⟨Je, 2, none⟩ = some (.slice (some ad210) yB.length c1_2) /\ w'.cell? (ad209.add ((Ja).toNat * 3)) = some (.int .u64 ((rd_T68 yl Ja).f0)) /\ w'.cell? ⟨(ad209.add ((Ja).toNat * 3)).block, (ad209.add ((Ja).toNat * 3)).off + 1, none⟩ = some (.slice A209_1 ((rd_T68 yl Ja).f1.f0).length c209_1) /\ w'.cell? ⟨(ad209.add ((Ja).toNat * 3)).block, (ad209.add ((Ja).toNat * 3)).off + 2, none⟩ = some (.slice A209_2 ((rd_T68 yl Ja).f1.f1).length c209_2) /\ w'.cell? (ad210.add ((Ja).toNat * 3)) = some (.int .u64 ((rd_T68 yB Ja).f0)) /\ w'.cell? ⟨(ad210.add ((Ja).toNat * 3)).block, (ad210.add ((Ja).toNat * 3)).off + 1, none⟩ = some (.slice A210_1 ((rd_T68 yB Ja).f1.f0).length c210_1) /\ w'.cell? ⟨(ad210.add ((Ja).toNat * 3)).block, (ad210.add ((Ja).toNat * 3)).off + 2, none⟩ = some (.slice A210_2 ((rd_T68 yB Ja).f1.f1).length c210_2)) (ds := []) (yj 0 29) (by kernel_rfl) rfl rfl ⟨(za Jb.out 0).trans rfl, (za Jb.out 1).trans rfl, (za Jb.out 2).trans rfl, (za Jc.out 0).trans rfl, (za Jc.out 1).trans rfl, (za Jc.out 2).trans rfl, ((HB.out.cell (zd w _ hw209_0)).trans hw209_0), ((HB.out.cell (zd w _ hw209_1)).trans hw209_1), ((HB.out.cell (zd w _ hw209_2)).trans hw209_2), ((HB.out.cell (zd w _ hw210_0)).trans hw210_0), ((HB.out.cell (zd w _ hw210_1)).trans hw210_1), ((HB.out.cell (zd w _ hw210_2)).trans hw210_2)⟩ (fun hHeld => ?_); refine with_tabW treillageref14_Same.tab6 treillageref14_Same.bits6 (fun HT_ HW_ => ?_); generalize wr.drew = w35 at Jb Jc HB HR209_1 HR209_2 HR210_1 HR210_2 hx209_0 hx209_1 hx209_2 hx210_0 hx210_1 hx210_2 hHeld ⊢; refine pure_ (i := 0) (N := some 35) (v := ?_) (a' := ?_) (yj 1 28) rfl rfl (any_of HT_.out (by kernel_rfl)) (fun _ _ _ h => h) (Or.inl ⟨by rfl, ?_⟩) ?_ ?_; rotate_left
        ·intro w'
         go_simp
         with_reducible rfl
        rotate_left
        ·simp only [Act.put, yg, yh, yi, i64_w, i32_w]; rfl
        refine pure_ (i := 2) (N := some 37) (v := ?_) (a' := ?_) #[true, false, true, false, false, false, false, false, false, false, false, false, false, false, false, false, false, false, false, false, false, false, false, false, false, false, false, false, false] rfl rfl (any_of HT_.out (by kernel_rfl)) (fun _ _ _ h => h) (Or.inl ⟨by rfl, ?_⟩) ?_ ?_; rotate_left
        ·intro w'
         go_simp
         with_reducible rfl
        rotate_left
        ·simp only [Act.put, yg, yh, yi, i64_w, i32_w]; rfl
        refine pure_ (i := 6) (N := some 41) (v := ?_) (a' := ?_) #[true, false, true, false, false, false, true, false, false, false, false, false, false, false, false, false, false, false, false, false, false, false, false, false, false, false, false, false, false] rfl rfl (any_of HT_.out (by kernel_rfl)) (fun _ _ _ h => h) (Or.inl ⟨by rfl, ?_⟩) ?_ ?_; rotate_left
        ·intro w'
         go_simp
         with_reducible rfl
        rotate_left
        ·simp only [Act.put, yg, yh, yi, i64_w, i32_w]; rfl
        refine pure_ (i := 8) (N := some 43) (v := ?_) (a' := ?_) #[true, false, true, false, false, false, true, false, true, false, false, false, false, false, false, false, false, false, false, false, false, false, false, false, false, false, false, false, false] rfl rfl (any_of HT_.out (by kernel_rfl)) (fun _ _ _ h => h) (Or.inl ⟨by rfl, ?_⟩) ?_ ?_; rotate_left
        ·intro w'
         go_simp
         with_reducible rfl
        rotate_left
        ·simp only [Act.put, yg, yh, yi, i64_w, i32_w]; rfl
        refine take_ (i := 1) (N := some 36) (v := ?_) (a' := ?_) #[true, true, true, false, false, false, true, false, true, false, false, false, false, false, false, false, false, false, false, false, false, false, false, false, false, false, false, false, false] rfl rfl (take_ofW HT_.out HW_.out (by kernel_rfl)) (fun _ _ _ h => h) (Or.inl ⟨by rfl, ?_⟩) hHeld ?_ ?_; rotate_left
        ·rintro w' ⟨s0, s1, s2, s3, s4, s5, s6, s7, s8, s9, s10, s11⟩
         go_simp
         with_reducible rfl
        rotate_left
        ·simp only [Act.put, yg, yh, yi, i64_w, i32_w]; rfl
        refine pure_ (i := 3) (N := some 38) (v := ?_) (a' := ?_) #[true, true, true, true, false, false, true, false, true, false, false, false, false, false, false, false, false, false, false, false, false, false, false, false, false, false, false, false, false] rfl rfl (any_of HT_.out (by kernel_rfl)) (fun _ _ _ h => h) (Or.inl ⟨by rfl, ?_⟩) ?_ ?_; rotate_left
        ·intro w'
         go_simp
         with_reducible rfl
        rotate_left
        ·simp only [Act.put, yg, yh, yi, i64_w, i32_w]; rfl
        refine pure_ (i := 4) (N := some 39) (v := ?_) (a' := ?_) #[true, true, true, true, true, false, true, false, true, false, false, false, false, false, false, false, false, false, false, false, false, false, false, false, false, false, false, false, false] rfl rfl (any_of HT_.out (by kernel_rfl)) (fun _ _ _ h => h) (Or.inl ⟨by rfl, ?_⟩) ?_ ?_; rotate_left
        ·intro w'
         go_simp
         with_reducible rfl
        rotate_left
        ·simp only [Act.put, yg, yh, yi, i64_w, i32_w]; rfl
        refine take_ (i := 5) (N := some 40) (v := ?_) (a' := ?_) #[true, true, true, true, true, true, true, false, true, false, false, false, false, false, false, false, false, false, false, false, false, false, false, false, false, false, false, false, false] rfl rfl (take_ofW HT_.out HW_.out (by kernel_rfl)) (fun _ _ _ h => h) (Or.inl ⟨by rfl, ?_⟩) hHeld ?_ ?_; rotate_left
        ·rintro w' ⟨s0, s1, s2, s3, s4, s5, s6, s7, s8, s9, s10, s11⟩
         go_simp
         with_reducible rfl
        rotate_left
        ·simp only [Act.put, yg, yh, yi, i64_w, i32_w]; rfl
        refine take_ (i := 7) (N := some 42) (v := ?_) (a' := ?_) (yj 9 20) rfl rfl (take_ofW HT_.out HW_.out (by kernel_rfl)) (fun _ _ _ h => h) (Or.inl ⟨by rfl, ?_⟩) hHeld ?_ ?_; rotate_left
        ·rintro w' ⟨s0, s1, s2, s3, s4, s5, s6, s7, s8, s9, s10, s11⟩
         go_simp
         with_reducible rfl
        rotate_left
        ·simp only [Act.put, yg, yh, yi, i64_w, i32_w]; rfl
        refine pure_ (i := 9) (N := some 44) (v := ?_) (a' := ?_) (yj 10 19) rfl rfl (any_of HT_.out (by kernel_rfl)) (fun _ _ _ h => h) (Or.inl ⟨by rfl, ?_⟩) ?_ ?_; rotate_left
        ·intro w'
         go_simp
         with_reducible rfl
        rotate_left
        ·simp only [Act.put, yg, yh, yi, i64_w, i32_w]; rfl
        refine pure_ (i := 10) (N := some 45) (v := ?_) (a' := ?_) (yj 11 18) rfl rfl (any_of HT_.out (by kernel_rfl)) (fun _ _ _ h => h) (Or.inl ⟨by rfl, ?_⟩) ?_ ?_; rotate_left
        ·intro w'
         go_simp
         with_reducible rfl
        rotate_left
        ·simp only [Act.put, yg, yh, yi, i64_w, i32_w]; rfl
        refine take_ (i := 11) (N := some 46) (v := ?_) (a' := ?_) (yj 12 17) rfl rfl (take_ofW HT_.out HW_.out (by kernel_rfl)) (fun _ _ _ h => h) (Or.inl ⟨by rfl, ?_⟩) hHeld ?_ ?_; rotate_left
        ·rintro w' ⟨s0, s1, s2, s3, s4, s5, s6, s7, s8, s9, s10, s11⟩
         go_simp
         with_reducible rfl
        rotate_left
        ·simp only [Act.put, yg, yh, yi, i64_w, i32_w]; rfl
        refine pure_ (i := 12) (N := some 47) (v := ?_) (a' := ?_) (yj 13 16) rfl rfl (any_of HT_.out (by kernel_rfl)) (fun _ _ _ h => h) (Or.inl ⟨by rfl, ?_⟩) ?_ ?_; rotate_left
        ·intro w'
         go_simp
         with_reducible rfl
        rotate_left
        ·simp only [Act.put, yg, yh, yi, i64_w, i32_w]; rfl
        refine pure_ (i := 13) (N := some 48) (v := ?_) (a' := ?_) (yj 14 15) rfl rfl (any_of HT_.out (by kernel_rfl)) (fun _ _ _ h => h) (Or.inl ⟨by rfl, ?_⟩) ?_ ?_; rotate_left
        ·intro w'
         go_simp
         with_reducible rfl
        rotate_left
        ·simp only [Act.put, yg, yh, yi, i64_w, i32_w]; rfl
        refine pure_ (i := 14) (N := some 49) (v := undef) (a' := ?_) (yj 15 14) rfl rfl (any_of HT_.out (by kernel_rfl)) (fun _ _ _ h => h) (Or.inr ⟨by rfl, rfl⟩) ?_ ?_; rotate_left
        ·simp only [Act.put, yg, yh, yi, i64_w, i32_w]; rfl
        refine pure_ (i := 15) (N := some 50) (v := undef) (a' := ?_) (yj 16 13) rfl rfl (any_of HT_.out (by kernel_rfl)) (fun _ _ _ h => h) (Or.inr ⟨by rfl, rfl⟩) ?_ ?_; rotate_left
        ·simp only [Act.put, yg, yh, yi, i64_w, i32_w]; rfl
        refine pure_ (i := 16) (N := some 51) (v := undef) (a' := ?_) (yj 17 12) rfl rfl (any_of HT_.out (by kernel_rfl)) (fun _ _ _ h => h) (Or.inr ⟨by rfl, rfl⟩) ?_ ?_; rotate_left
        ·simp only [Act.put, yg, yh, yi, i64_w, i32_w]; rfl
        refine pure_ (i := 17) (N := some 52) (v := undef) (a' := ?_) (yj 18 11) rfl rfl (any_of HT_.out (by kernel_rfl)) (fun _ _ _ h => h) (Or.inr ⟨by rfl, rfl⟩) ?_ ?_; rotate_left
        ·simp only [Act.put, yg, yh, yi, i64_w, i32_w]; rfl
        refine pure_ (i := 18) (N := some 53) (v := undef) (a' := ?_) (yj 19 10) rfl rfl (any_of HT_.out (by kernel_rfl)) (fun _ _ _ h => h) (Or.inr ⟨by rfl, rfl⟩) ?_ ?_; rotate_left
        ·simp only [Act.put, yg, yh, yi, i64_w, i32_w]; rfl
        refine pure_ (i := 19) (N := some 54) (v := undef) (a' := ?_) (yj 20 9) rfl rfl (any_of HT_.out (by kernel_rfl)) (fun _ _ _ h => h) (Or.inr ⟨by rfl, rfl⟩) ?_ ?_; rotate_left
        ·simp only [Act.put, yg, yh, yi, i64_w, i32_w]; rfl
        refine pure_ (i := 20) (N := some 55) (v := undef) (a' := ?_) (yj 21 8) rfl rfl (any_of HT_.out (by kernel_rfl)) (fun _ _ _ h => h) (Or.inr ⟨by rfl, rfl⟩) ?_ ?_; rotate_left
        ·simp only [Act.put, yg, yh, yi, i64_w, i32_w]; rfl
        refine pure_ (i := 21) (N := some 56) (v := undef) (a' := ?_) (yj 22 7) rfl rfl (any_of HT_.out (by kernel_rfl)) (fun _ _ _ h => h) (Or.inr ⟨by rfl, rfl⟩) ?_ ?_; rotate_left
        ·simp only [Act.put, yg, yh, yi, i64_w, i32_w]; rfl
        refine pure_ (i := 22) (N := some 57) (v := undef) (a' := ?_) (yj 23 6) rfl rfl (any_of HT_.out (by kernel_rfl)) (fun _ _ _ h => h) (Or.inr ⟨by rfl, rfl⟩) ?_ ?_; rotate_left
        ·simp only [Act.put, yg, yh, yi, i64_w, i32_w]; rfl
        refine pure_ (i := 23) (N := some 58) (v := undef) (a' := ?_) (yj 24 5) rfl rfl (any_of HT_.out (by kernel_rfl)) (fun _ _ _ h => h) (Or.inr ⟨by rfl, rfl⟩) ?_ ?_; rotate_left
        ·simp only [Act.put, yg, yh, yi, i64_w, i32_w]; rfl
        refine pure_ (i := 24) (N := some 59) (v := undef) (a' := ?_) (yj 25 4) rfl rfl (any_of HT_.out (by kernel_rfl)) (fun _ _ _ h => h) (Or.inr ⟨by rfl, rfl⟩) ?_ ?_; rotate_left
        ·simp only [Act.put, yg, yh, yi, i64_w, i32_w]; rfl
        refine pure_ (i := 25) (N := some 60) (v := undef) (a' := ?_) (yj 26 3) rfl rfl (any_of HT_.out (by kernel_rfl)) (fun _ _ _ h => h) (Or.inr ⟨by rfl, rfl⟩) ?_ ?_; rotate_left
        ·simp only [Act.put, yg, yh, yi, i64_w, i32_w]; rfl
        refine pure_ (i := 26) (N := some 61) (v := undef) (a' := ?_) (yj 27 2) rfl rfl (any_of HT_.out (by kernel_rfl)) (fun _ _ _ h => h) (Or.inr ⟨by rfl, rfl⟩) ?_ ?_; rotate_left
        ·simp only [Act.put, yg, yh, yi, i64_w, i32_w]; rfl
        refine pure_ (i := 27) (N := some 62) (v := undef) (a' := ?_) (yj 28 1) rfl rfl (any_of HT_.out (by kernel_rfl)) (fun _ _ _ h => h) (Or.inr ⟨by rfl, rfl⟩) ?_ ?_; rotate_left
        ·simp only [Act.put, yg, yh, yi, i64_w, i32_w]; rfl
        refine pure_ (i := 28) (N := some 63) (v := ?_) (a' := ?_) (yj 29 0) rfl rfl (any_of HT_.out (by kernel_rfl)) (fun _ _ _ h => h) (Or.inl ⟨by rfl, ?_⟩) ?_ ?_; rotate_left
        ·intro w'
         go_simp
         with_reducible rfl
        rotate_left
        ·simp only [Act.put, yg, yh, yi, i64_w, i32_w]; rfl
        refine done_ (done_of HT_.out (by kernel_rfl)) ?_; try go_wp2
        go_ret
        exact ⟨by first | rfl | (simp [errW_none, errW_some] <;> rfl) | (simp [*, errW_none, errW_some] <;> rfl), by repeat (first | (with_reducible first | exact HB.out | apply zE | apply zF | apply zG | refine zt ?_ Jh.out | refine zt ?_ Ji.out) | exact HB.out)⟩
      ·rw [if_neg c19] at H; have c19b0 : decide (Ja < (yl.length : Int)) = false := ya c19; clear c19; obtain rfl := Option.some.inj H; have hnb36 := Jf.out; have hnc36 := Jg.out; have hcz37_0 : wr.cell? ⟨Jd, 0, none⟩ = some (.int .u64 ym) := (za Jb.out 0).trans rfl; have hcz37_1 : wr.cell? ⟨Jd, 1, none⟩ = some (.slice yr yk.length yq) := (za Jb.out 1).trans rfl; have hcz37_2 : wr.cell? ⟨Jd, 2, none⟩ = some (.slice yo yl.length yn) := (za Jb.out 2).trans rfl; have hfz37_0 := zf Jb.out 0; have hfz37_1 := zf Jb.out 1; have hfz37_2 := zf Jb.out 2; go_wp2; go_ret
       exact ⟨by first | rfl | (simp [errW_none, errW_some] <;> rfl) | (simp [*, errW_none, errW_some] <;> rfl), by repeat (first | (with_reducible first | exact HB.out | apply zE | apply zF | apply zG | refine zt ?_ Jh.out | refine zt ?_ Ji.out) | exact HB.out)⟩

end Go.Proofs.Ytjnfllaonkeefaa.PA
