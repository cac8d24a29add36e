-- Written by wip/hprint/hprint.py (a program of this session, over the print): not typed by hand
import Derived.Test.YtjnfllaonkeefaaPAx0
namespace Go.Proofs.Ytjnfllaonkeefaa.PA
open Go.RowKit Go.Proofs.YtjnfllaonkeefaaW.PrintWords Go.Proofs.YtjnfllaonkeefaaW.PrintLast Go.Proofs.YtjnfllaonkeefaaW.PrintMore
attribute [local go_sem] max2_int min2_int max_two min_two max_three min_three max_four min_four   -- for this text's walks alone
open Go.Proofs.YtjnfllaonkeefaaH
set_option linter.unusedVariables false
set_option linter.unusedSimpArgs false

/-! ### treillageref14_May: function 24 -/
def treillageref14_May.l0 : Nat -> Int -> Int -> List Int -> List (S68) -> Option (Bool)
 | 0, _, _, _, _ => none
 | k + 1, x3, x177000, x177001, x177002 => if x3 < (x177001.length : Int) then (if 0 <= x3 then (if (rd x177001 x3) = 0 then (treillageref14_May.l0 k (wrap64 (x3 + 1)) x177000 x177001 x177002) else (if (rd x177001 x3) = (IntKind.u64.wrap (x177000 + 1)) then (treillageref14_May.l0 k (wrap64 (x3 + 1)) x177000 x177001 x177002) else (some false))) else (none)) else (some true)
def treillageref14_May.f (k : Nat) (ym : Int) (yk : List Int) (yl : List (S68)) : Option (Bool) := treillageref14_May.l0 k 0 ym yk yl
theorem treillageref14_May.mono_l : ∀ k, (∀ y0 y1 y2 y3, LeO (treillageref14_May.l0 k y0 y1 y2 y3) (treillageref14_May.l0 (k + 1) y0 y1 y2 y3))
 | 0 => fun _ _ _ _ r h => by simp [treillageref14_May.l0] at h
 | k + 1 => by
  have ih0 := treillageref14_May.mono_l k
  ·intro y0 y1 y2 y3
   unfold treillageref14_May.l0; repeat' first
   | (with_reducible exact ih0 _ _ _ _)
   | (with_reducible exact LeO.refl _)
   | (with_reducible exact LeO.none _)
   | (with_reducible refine LeO.ite ?_ ?_)
   | (with_reducible refine LeO.bind ?_ (fun _ => ?_))
   | exact ih0 _ _ _ _
   | exact LeO.none _
   | refine LeO.ite ?_ ?_
   | refine LeO.bind ?_ (fun _ => ?_)
theorem treillageref14_May.mono : ∀ a0 a1 a2 k, LeO (treillageref14_May.f k a0 a1 a2) (treillageref14_May.f (k + 1) a0 a1 a2) := by
 intro a0 a1 a2 k
 have ih0 := treillageref14_May.mono_l k; unfold treillageref14_May.f
 repeat' first
   | (with_reducible exact ih0 _ _ _ _)
   | (with_reducible exact LeO.refl _)
   | (with_reducible exact LeO.none _)
   | (with_reducible refine LeO.ite ?_ ?_)
   | (with_reducible refine LeO.bind ?_ (fun _ => ?_))
   | exact ih0 _ _ _ _
   | exact LeO.none _
   | refine LeO.ite ?_ ?_
   | refine LeO.bind ?_ (fun _ => ?_)
set_option maxHeartbeats 8000000 in
set_option maxRecDepth 100000 in
theorem treillageref14_May.calls (k : Nat) (ym : Int) (yr : Option Addr) (yq : Nat) (yk : List Int) (yo : Option Addr) (yn : Nat) (yl : List (S68)) (r : Bool) (w : World) (hr0_1 : Kd.C (Kd.int .u64) w yr yk.length yk) (hc0_1 : yk.length <= yq) (hr0_2 : Kd.C k68 w yo yl.length yl) (hc0_2 : yl.length <= yn) (h : treillageref14_May.f k ym yk yl = some r) :
  Calls Try.prog 24 #[.agg #[.int .u64 ym, .slice yr yk.length yq, .slice yo yl.length yn]] w fun e w' => e = .returned (.bool r) /\ Below w.heap.size w w' := by
 have hu39 := Try.underlying39; have HR0_1 := aA hr0_1; have HC0_1 := aA hc0_1; clear hr0_1 hc0_1; have HR0_2 := aA hr0_2; have HC0_2 := aA hc0_2; clear hr0_2 hc0_2; have HB := aA (Below.refl w.heap.size w); have H : (treillageref14_May.l0 k 0 ym yk yl) = some r := h; clear h; have H' := aA H; clear H; go_enter Try.func24, Try.ntmps24; go_wp2_with (first | ((with_reducible refine gate_dst (N := 1) rfl ?_); refine zV ?hg (N := 1) ?hd (cs := #[.int .u64 ym, .slice yr yk.length yq, .slice yo yl.length yn]) (t := 39) ?hr ?_; (case hd => rfl); (case hg => rfl); (case hr => first | (go_simp; done) | (go_simp; rfl)); intro gb176 hg w2 hbox hb; have n0_ := aA (zC (blw HB.out) hb); have n1_ := aA (hbox); have n2_ := aA ((by rw [hg]; exact (zR (blw HB.out)) : w.heap.size <= gb176)); have n3_ := aA ((by rw [hg]; exact (zR (blw HB.out)) : w.heap.size <= gb176)); clear HB; have HB := n0_; have BK176 := n1_; have GW176 := n2_; have GE176 := n3_; clear n0_ n1_ n2_ n3_ hb hbox hg))
 repeat (go_quiet (first | ((with_reducible refine gate_dst (N := 1) rfl ?_); refine zV ?hg (N := 1) ?hd (cs := #[.int .u64 ym, .slice yr yk.length yq, .slice yo yl.length yn]) (t := 39) ?hr ?_; (case hd => rfl); (case hg => rfl); (case hr => first | (go_simp; done) | (go_simp; rfl)); intro gb176 hg w2 hbox hb; have n0_ := aA (zC (blw HB.out) hb); have n1_ := aA (hbox); have n2_ := aA ((by rw [hg]; exact (zR (blw HB.out)) : w.heap.size <= gb176)); have n3_ := aA ((by rw [hg]; exact (zR (blw HB.out)) : w.heap.size <= gb176)); clear HB; have HB := n0_; have BK176 := n1_; have GW176 := n2_; have GE176 := n3_; clear n0_ n1_ n2_ n3_ hb hbox hg)); try go_wp2_with (first | ((with_reducible refine gate_dst (N := 1) rfl ?_); refine zV ?hg (N := 1) ?hd (cs := #[.int .u64 ym, .slice yr yk.length yq, .slice yo yl.length yn]) (t := 39) ?hr ?_; (case hd => rfl); (case hg => rfl); (case hr => first | (go_simp; done) | (go_simp; rfl)); intro gb176 hg w2 hbox hb; have n0_ := aA (zC (blw HB.out) hb); have n1_ := aA (hbox); have n2_ := aA ((by rw [hg]; exact (zR (blw HB.out)) : w.heap.size <= gb176)); have n3_ := aA ((by rw [hg]; exact (zR (blw HB.out)) : w.heap.size <= gb176)); clear HB; have HB := n0_; have BK176 := n1_; have GW176 := n2_; have GE176 := n3_; clear n0_ n1_ n2_ n3_ hb hbox hg)))
 go_loopg [3] k (fun kq v3 w' => ∃ (x3_1 : Int), v3 = .int .i64 x3_1 /\ Aside0 (treillageref14_May.l0 kq x3_1 ym yk yl = some r) /\ Aside0 (kq <= k) /\ Aside0 (w'.heap[gb176]? = some (.cells #[.int .u64 ym, (.slice yr yk.length yq), (.slice yo yl.length yn)] 39 (0, 0))) /\ Aside0 (Below w.heap.size w w'))
 case atStart => exact ⟨(0), (by first | rfl | (simp; done) | (simp [*]; done)), H', ⟨zu _⟩, ⟨by (with_reducible repeat (first | apply zi | apply zg | apply zh)); exact BK176.out⟩, ⟨by repeat (first | (with_reducible first | exact HB.out | apply zE | apply zF | apply zG | refine zt ?_ GE176.out) | exact HB.out)⟩⟩
 case round =>
  clear H'; try clear c2
  try clear p2
  obtain ⟨x3_1, rfl, HA, HK1, BK176, HB⟩ := hrel; cases gk with
  | zero => exact absurd HA.out (by simp [treillageref14_May.l0])
  | succ k1 =>
   have H := HA.out; clear HA; simp only [treillageref14_May.l0] at H; by_cases c3 : x3_1 < (yk.length : Int)
   ·rw [if_pos c3] at H; have c3b0 : decide (x3_1 < (yk.length : Int)) = true := zZ c3; clear c3; by_cases c4 : 0 <= x3_1
    rotate_left
    ·rw [if_neg c4] at H; exact absurd H (by simp)
    rw [if_pos c4] at H; have c4b0 : decide (0 <= x3_1) = true := zZ c4; clear c4; by_cases c5 : (rd yk x3_1) = 0
    ·rw [if_pos c5] at H; have c5b0 : ((rd yk x3_1) == 0) = true := beq_iff_eq.mpr c5; have c5b1 : ((rd yk x3_1) != 0) = false := bne_eq_false_iff_eq.mpr c5; clear c5; have H' := aA H; clear H; have hcz6_0 : wr.cell? ⟨gb176, 0, none⟩ = some (.int .u64 ym) := (za BK176.out 0).trans rfl; have hcz6_1 : wr.cell? ⟨gb176, 1, none⟩ = some (.slice yr yk.length yq) := (za BK176.out 1).trans rfl; have hcz6_2 : wr.cell? ⟨gb176, 2, none⟩ = some (.slice yo yl.length yn) := (za BK176.out 2).trans rfl; have hfz6_0 := zf BK176.out 0; have hfz6_1 := zf BK176.out 1; have hfz6_2 := zf BK176.out 2; have p177 : 0 <= (x3_1 : Int) := zn (by first | (with_reducible assumption) | assumption); have q177 : x3_1 < (yk.length : Int) := zn (by first | (with_reducible assumption) | assumption); obtain ⟨ad177, e177, hx177_0⟩ := Kd.at_int HR0_1.out x3_1 p177 q177; cases e177
     replace hx177_0 := (HB.out.cell (zd w _ hx177_0)).trans hx177_0; replace p177 := eq_true p177; replace q177 := eq_true q177; go_wp2; repeat (go_quiet (fail); try go_wp2)
     go_roundg k1
     case measure => have := HK1.out; omega
     case rel => exact ⟨(wrap64 (x3_1 + 1)), (by first | rfl | (simp; done) | (simp [*]; done)), H', ⟨by have := HK1.out; omega⟩, ⟨by (with_reducible repeat (first | apply zi | apply zg | apply zh)); exact BK176.out⟩, ⟨by repeat (first | (with_reducible first | exact HB.out | apply zE | apply zF | apply zG | refine zt ?_ GE176.out) | exact HB.out)⟩⟩
    ·rw [if_neg c5] at H; have c5b0 : ((rd yk x3_1) == 0) = false := beq_eq_false_iff_ne.mpr c5; have c5b1 : ((rd yk x3_1) != 0) = true := bne_iff_ne.mpr c5; by_cases c7 : (rd yk x3_1) = (IntKind.u64.wrap (ym + 1))
     ·rw [if_pos c7] at H; have c7b0 : ((rd yk x3_1) == (IntKind.u64.wrap (ym + 1))) = true := beq_iff_eq.mpr c7; have c7b1 : ((rd yk x3_1) != (IntKind.u64.wrap (ym + 1))) = false := bne_eq_false_iff_eq.mpr c7; clear c7; have H' := aA H; clear H; have hcz8_0 : wr.cell? ⟨gb176, 0, none⟩ = some (.int .u64 ym) := (za BK176.out 0).trans rfl; have hcz8_1 : wr.cell? ⟨gb176, 1, none⟩ = some (.slice yr yk.length yq) := (za BK176.out 1).trans rfl; have hcz8_2 : wr.cell? ⟨gb176, 2, none⟩ = some (.slice yo yl.length yn) := (za BK176.out 2).trans rfl; have hfz8_0 := zf BK176.out 0; have hfz8_1 := zf BK176.out 1; have hfz8_2 := zf BK176.out 2; have p177 : 0 <= (x3_1 : Int) := zn (by first | (with_reducible assumption) | assumption); have q177 : x3_1 < (yk.length : Int) := zn (by first | (with_reducible assumption) | assumption); obtain ⟨ad177, e177, hx177_0⟩ := Kd.at_int HR0_1.out x3_1 p177 q177; cases e177
      replace hx177_0 := (HB.out.cell (zd w _ hx177_0)).trans hx177_0; replace p177 := eq_true p177; replace q177 := eq_true q177; have p178 : 0 <= (x3_1 : Int) := zn (by first | (with_reducible assumption) | assumption); have q178 : x3_1 < (yk.length : Int) := zn (by first | (with_reducible assumption) | assumption); obtain ⟨ad178, e178, hx178_0⟩ := Kd.at_int HR0_1.out x3_1 p178 q178; obtain rfl : ad177 = ad178 := (by injection e178); replace hx178_0 := (HB.out.cell (zd w _ hx178_0)).trans hx178_0; replace p178 := eq_true p178; replace q178 := eq_true q178; go_wp2; repeat (go_quiet (fail); try go_wp2)
      go_roundg k1
      case measure => have := HK1.out; omega
      case rel => exact ⟨(wrap64 (x3_1 + 1)), (by first | rfl | (simp; done) | (simp [*]; done)), H', ⟨by have := HK1.out; omega⟩, ⟨by (with_reducible repeat (first | apply zi | apply zg | apply zh)); exact BK176.out⟩, ⟨by repeat (first | (with_reducible first | exact HB.out | apply zE | apply zF | apply zG | refine zt ?_ GE176.out) | exact HB.out)⟩⟩
     ·rw [if_neg c7] at H; have c7b0 : ((rd yk x3_1) == (IntKind.u64.wrap (ym + 1))) = false := beq_eq_false_iff_ne.mpr c7; have c7b1 : ((rd yk x3_1) != (IntKind.u64.wrap (ym + 1))) = true := bne_iff_ne.mpr c7; obtain rfl := Option.some.inj H; have hcz9_0 : wr.cell? ⟨gb176, 0, none⟩ = some (.int .u64 ym) := (za BK176.out 0).trans rfl; have hcz9_1 : wr.cell? ⟨gb176, 1, none⟩ = some (.slice yr yk.length yq) := (za BK176.out 1).trans rfl; have hcz9_2 : wr.cell? ⟨gb176, 2, none⟩ = some (.slice yo yl.length yn) := (za BK176.out 2).trans rfl; have hfz9_0 := zf BK176.out 0; have hfz9_1 := zf BK176.out 1; have hfz9_2 := zf BK176.out 2; have p177 : 0 <= (x3_1 : Int) := zn (by first | (with_reducible assumption) | assumption); have q177 : x3_1 < (yk.length : Int) := zn (by first | (with_reducible assumption) | assumption); obtain ⟨ad177, e177, hx177_0⟩ := Kd.at_int HR0_1.out x3_1 p177 q177; cases e177
      replace hx177_0 := (HB.out.cell (zd w _ hx177_0)).trans hx177_0; replace p177 := eq_true p177; replace q177 := eq_true q177; have p178 : 0 <= (x3_1 : Int) := zn (by first | (with_reducible assumption) | assumption); have q178 : x3_1 < (yk.length : Int) := zn (by first | (with_reducible assumption) | assumption); obtain ⟨ad178, e178, hx178_0⟩ := Kd.at_int HR0_1.out x3_1 p178 q178; obtain rfl : ad177 = ad178 := (by injection e178); replace hx178_0 := (HB.out.cell (zd w _ hx178_0)).trans hx178_0; replace p178 := eq_true p178; replace q178 := eq_true q178; go_wp2; repeat (go_quiet (fail); try go_wp2)
      go_ret
      exact ⟨by first | rfl | (simp [errW_none, errW_some] <;> rfl) | (simp [*, errW_none, errW_some] <;> rfl), by repeat (first | (with_reducible first | exact HB.out | apply zE | apply zF | apply zG | refine zt ?_ GE176.out) | exact HB.out)⟩
   ·rw [if_neg c3] at H; have c3b0 : decide (x3_1 < (yk.length : Int)) = false := ya c3; clear c3; obtain rfl := Option.some.inj H; have hcz10_0 : wr.cell? ⟨gb176, 0, none⟩ = some (.int .u64 ym) := (za BK176.out 0).trans rfl; have hcz10_1 : wr.cell? ⟨gb176, 1, none⟩ = some (.slice yr yk.length yq) := (za BK176.out 1).trans rfl; have hcz10_2 : wr.cell? ⟨gb176, 2, none⟩ = some (.slice yo yl.length yn) := (za BK176.out 2).trans rfl; have hfz10_0 := zf BK176.out 0; have hfz10_1 := zf BK176.out 1; have hfz10_2 := zf BK176.out 2; go_wp2; repeat (go_quiet (fail); try go_wp2)
    go_ret
    exact ⟨by first | rfl | (simp [errW_none, errW_some] <;> rfl) | (simp [*, errW_none, errW_some] <;> rfl), by repeat (first | (with_reducible first | exact HB.out | apply zE | apply zF | apply zG | refine zt ?_ GE176.out) | exact HB.out)⟩

end Go.Proofs.Ytjnfllaonkeefaa.PA
