/-
  The cells of a layout are all unlike: the walk of MemApart (written by wip/gen/gen_mem_apart.py).
-/
import Derived.Test.YtcjkjlopbjijaaaPCx4
import Derived.Test.YtcjkjlopbjijaaaMemLC
import Derived.Maps.Own
import Derived.Maps.OwnOps
import Derived.Maps.OwnSet
import Derived.WalkKit
namespace Go.Proofs.Ytcjkjlopbjijaaa.memApart
set_option linter.unusedVariables false
set_option linter.unusedSimpArgs false
open Go.RowKit Go.Maps Go.Proofs.Ytcjkjlopbjijaaa.PC Go.Proofs.YtcjkjlopbjijaaaW.PrintWords Go.Proofs.YtcjkjlopbjijaaaW.PrintLast Go.Proofs.YtcjkjlopbjijaaaW.PrintMore Go.Proofs.YtcjkjlopbjijaaaH

abbrev Da := DataW Unit
theorem law3 : Keyed Try.prog 3 := int_keyed Try.underlying3
theorem zero3 (w : World) : (zeroValue 3).run Try.prog w = .ok (.int .i64 0) w := by kernel_rfl
def getc (D : Da) (i : Int) : Int := match D.atKey (.int .i64 i) (.lit (.int .i64 0)) with
  | .lit (.int .i64 c) => c
  | _ => 0
def bump (D : Da) (i : Int) : Da := D.put (.int .i64 i) (.lit (.int .i64 (wrap64 (getc D i + 1))))
theorem getc_eq {D : Da} {i c : Int} (h : D.atKey (.int .i64 i) (.lit (.int .i64 0)) = .lit (.int .i64 c)) : getc D i = c := by unfold getc; rw [h]
theorem bump_eq {D : Da} {i c : Int} (h : D.atKey (.int .i64 i) (.lit (.int .i64 0)) = .lit (.int .i64 c)) : bump D i = D.put (.int .i64 i) (.lit (.int .i64 (wrap64 (c + 1)))) := by unfold bump; rw [getc_eq h]
abbrev Owns (w : World) (b n : Nat) (D : Da) : Prop := w.ownsMap Try.prog 3 (plainElem (H := Unit) Try.prog 3) b n D
theorem own_below {w w1 : World} {b n : Nat} {D : Da} (h : Owns w b n D) (hb : Below w.heap.size w w1) : Owns w1 b n D := by
  obtain ⟨es, clock, h1, h2⟩ := h
  exact ⟨es, clock, blk_below h1 hb, h2⟩
theorem shown_at {k : Nat} (hk : 8 ≤ k) : treillagelaw15_shown.f k = some true := at_rounds treillagelaw15_shown.mono hk (by decide +kernel)
theorem root_ok {c s : Int} (h : Lay c s) : mem_Root.f c s = some 0 := by unfold mem_Root.f; rw [cell_ok h]; rfl
theorem epoch_ok {c s : Int} (h : Lay c s) : mem_Epoch.f c s = some 1 := by unfold mem_Epoch.f; rw [cell_ok h]; rfl
theorem pin_ok {c s r : Int} (h : Lay c s) (h0 : 0 ≤ r) (h1 : r < c) : mem_Pin.f c s r = some (2 + r) := by
  have hc : c = 1 ∨ c = 2 ∨ c = 3 ∨ c = 4 := by have := h.1; omega
  have hr : r = 0 ∨ r = 1 ∨ r = 2 ∨ r = 3 := by omega
  rcases h.cases with rfl | rfl | rfl | rfl <;> rcases hc with rfl | rfl | rfl | rfl <;> rcases hr with rfl | rfl | rfl | rfl <;> first | (exfalso; omega) | decide +kernel
theorem result_ok {c s r : Int} (h : Lay c s) (h0 : 0 ≤ r) (h1 : r < c) : mem_Result.f c s r = some (2 + c + r) := by
  have hc : c = 1 ∨ c = 2 ∨ c = 3 ∨ c = 4 := by have := h.1; omega
  have hr : r = 0 ∨ r = 1 ∨ r = 2 ∨ r = 3 := by omega
  rcases h.cases with rfl | rfl | rfl | rfl <;> rcases hc with rfl | rfl | rfl | rfl <;> rcases hr with rfl | rfl | rfl | rfl <;> first | (exfalso; omega) | decide +kernel
/-! ### What the map has -/
def D3 (c : Int) : Da := bump (bump (bump (.map []) 0) 1) (2 + 2 * c)
def D1 (c : Int) : Nat → Da
  | 0 => D3 c
  | r + 1 => bump (bump (D1 c r) (2 + (r : Int))) (2 + c + (r : Int))
def D2 (c : Int) (n : Nat) : Nat → Da
  | 0 => D1 c n
  | i + 1 => bump (bump (D2 c n i) (3 + 2 * c + 2 * (i : Int))) (3 + 2 * c + 2 * (i : Int) + 1)
theorem seqj {c s : Int} (hl : Lay c s) {j : Nat} (hj : (j : Int) < pw s) : mem_Seq.f c s (j : Int) = some (3 + 2 * c + 2 * (j : Int)) := by
  have := pw_bd s
  rw [seq_ok hl (by omega) (by omega), Int.emod_eq_of_lt (by omega) hj]
theorem itemj {c s : Int} (hl : Lay c s) {j : Nat} (hj : (j : Int) < pw s) : mem_Item.f c s (j : Int) = some (3 + 2 * c + 2 * (j : Int) + 1) := by
  have := pw_bd s
  rw [item_ok hl (by omega) (by omega), Int.emod_eq_of_lt (by omega) hj]
def fine (c s : Nat) : Bool := (List.range (3 + 2 * c + 2 * 2 ^ s)).all (fun i => getc (D2 c c (2 ^ s)) i == 1) && Maps.size (D2 c c (2 ^ s)) == ((3 + 2 * c + 2 * 2 ^ s : Nat) : Int)
theorem fine_all : ((List.range 4).all fun c => (List.range 4).all fun s => fine (c + 1) (s + 1)) = true := by decide +kernel
theorem rc_cases {c s : Int} {r n : Nat} (hl : Lay c s) (hr : (r : Int) = c) (hn : (n : Int) = pw s) : ∃ c' s' : Nat, c' < 4 ∧ s' < 4 ∧ r = c' + 1 ∧ n = 2 ^ (s' + 1) ∧ c = ((c' + 1 : Nat) : Int) ∧ s = ((s' + 1 : Nat) : Int) := by
  have h1 := hl.1
  have h2 := hl.2
  refine ⟨r - 1, (s - 1).toNat, by omega, by omega, by omega, ?_, by omega, by omega⟩
  rcases hl.cases with rfl | rfl | rfl | rfl
  all_goals (simp [pw] at hn; simp; omega)
theorem fine_at {c' s' : Nat} (hc : c' < 4) (hs : s' < 4) : fine (c' + 1) (s' + 1) = true := by
  have h := List.all_eq_true.1 fine_all c' (List.mem_range.2 hc)
  exact List.all_eq_true.1 h s' (List.mem_range.2 hs)
theorem getc_one {c s : Int} {r n : Nat} (hl : Lay c s) (hr : (r : Int) = c) (hn : (n : Int) = pw s) (k : Nat) (hk : k < 3 + 2 * r + 2 * n) : getc (D2 c r n) k = 1 := by
  obtain ⟨c', s', h1, h2, rfl, rfl, rfl, rfl⟩ := rc_cases hl hr hn
  have h := fine_at h1 h2
  unfold fine at h
  rw [Bool.and_eq_true] at h
  exact eq_of_beq (List.all_eq_true.1 h.1 k (List.mem_range.2 hk))
theorem size_ok {c s : Int} {r n : Nat} (hl : Lay c s) (hr : (r : Int) = c) (hn : (n : Int) = pw s) : Maps.size (D2 c r n) = ((3 + 2 * r + 2 * n : Nat) : Int) := by
  obtain ⟨c', s', h1, h2, rfl, rfl, rfl, rfl⟩ := rc_cases hl hr hn
  have h := fine_at h1 h2
  unfold fine at h
  rw [Bool.and_eq_true] at h
  exact eq_of_beq h.2
theorem size_lay {c s : Int} {r n : Nat} (hl : Lay c s) (hr : (r : Int) = c) (hn : (n : Int) = pw s) : mem_Size.f c s = some ((3 + 2 * r + 2 * n : Nat) : Int) := by
  obtain ⟨c', s', h1, h2, rfl, rfl, rfl, rfl⟩ := rc_cases hl hr hn
  have hc : c' = 0 ∨ c' = 1 ∨ c' = 2 ∨ c' = 3 := by omega
  have hs : s' = 0 ∨ s' = 1 ∨ s' = 2 ∨ s' = 3 := by omega
  rcases hc with rfl | rfl | rfl | rfl <;> rcases hs with rfl | rfl | rfl | rfl <;> decide +kernel

set_option maxHeartbeats 4000000 in
set_option maxRecDepth 100000 in
theorem walk1 (a0 a1 c s : Int) (hc : wrap64 (1 + Int.tmod (wrap64 a0) 4) = c) (hs : wrap64 (1 + Int.tmod (wrap64 a1) 4) = s) (hl : Lay c s) (w : World) :
    Calls Try.prog 7 #[.int .u8 a0, .int .u8 a1] w fun e w' => e = .returned (.bool true) ∧ Below w.heap.size w w' := by
  have hmm := @run_makeMap Try.prog
  have hu := Try.underlying38
  have hum := Try.underlying51
  have HB := Below.refl w.heap.size w
  have hlc := hl.1
  have hls := hl.2
  go_enter Try.func7, Try.ntmps7
  go_wp2_with (first
    | ((with_reducible refine gate_dst (N := 5) rfl ?_); refine box_event (N := 5) rfl rfl (cs := #[.int .i64 0, .int .i64 0]) (t := 38) (by first | (go_simp; done) | (go_simp; rfl)) ?_; intro gx hgx wq hbx hbl_; have HGX : w.heap.size ≤ gx := (by rw [hgx]; exact HB.size); replace HB := below_step HB hbl_; clear hgx hbl_; have hq0 : wq.cell? ⟨gx, 0, none⟩ = some (.int .i64 0) := (blk_cell hbx 0).trans rfl; have hf0 := blk_frozen hbx 0; have hq1 : wq.cell? ⟨gx, 1, none⟩ = some (.int .i64 0) := (blk_cell hbx 1).trans rfl; have hf1 := blk_frozen hbx 1)
    | ((with_reducible refine gate_dst (N := 23) rfl ?_); have z_ := hf0; clear z_ hf0 hf1 hq0 hq1; have hlt_ := blk_lt hbx; have hbx2 := blk_alloc (blk_put (cs' := #[.int .i64 c, .int .i64 s]) (blk_put (cs' := #[.int .i64 c, .int .i64 0]) hbx 0 (.int .i64 c) rfl) 1 (.int .i64 s) rfl) (.map #[] 0); have hown := World.ownsMap_made (H := Unit) ((wq.setCell ⟨gx, 0, none⟩ (.int .i64 c)).setCell ⟨gx, 1, none⟩ (.int .i64 s)) Try.prog 3 (plainElem (H := Unit) Try.prog 3); have HB2 : Below w.heap.size w (((wq.setCell ⟨gx, 0, none⟩ (.int .i64 c)).setCell ⟨gx, 1, none⟩ (.int .i64 s)).alloc (.map #[] 0)) := below_alloc (below_set (below_set HB HGX) HGX) _; have hsz : ((wq.setCell ⟨gx, 0, none⟩ (.int .i64 c)).setCell ⟨gx, 1, none⟩ (.int .i64 s)).heap.size = wq.heap.size := (by simp [World.setCell]); rw [hsz] at hown; have hsz2 := HB.size; have HNE : gx ≠ wq.heap.size := (by omega); have HGM : w.heap.size ≤ wq.heap.size := (by omega); generalize ((wq.setCell ⟨gx, 0, none⟩ (.int .i64 c)).setCell ⟨gx, 1, none⟩ (.int .i64 s)).alloc (.map #[] 0) = wm at hbx2 hown HB2 ⊢; clear hbx HB hsz hsz2; have hbx := hbx2; have HB := HB2; clear hbx2 HB2; have hq0 : wm.cell? ⟨gx, 0, none⟩ = some (.int .i64 c) := (blk_cell hbx 0).trans rfl; have hq1 : wm.cell? ⟨gx, 1, none⟩ = some (.int .i64 s) := (blk_cell hbx 1).trans rfl)
    | (go_at_call 30; refine (mem_Root.calls c s 0 _ (root_ok hl)).mono ?_; rintro e wc ⟨rfl, hb_⟩; replace hown := own_below hown hb_; (try clear hq0 hq1); replace hbx := blk_below hbx hb_; replace HB := below_step HB hb_; clear hb_; have hq0 : wc.cell? ⟨gx, 0, none⟩ = some (.int .i64 c) := (blk_cell hbx 0).trans rfl; have hq1 : wc.cell? ⟨gx, 1, none⟩ = some (.int .i64 s) := (blk_cell hbx 1).trans rfl)
    | (go_at_call 32; refine (mem_Epoch.calls c s 1 _ (epoch_ok hl)).mono ?_; rintro e wc ⟨rfl, hb_⟩; replace hown := own_below hown hb_; (try clear hq0 hq1); replace hbx := blk_below hbx hb_; replace HB := below_step HB hb_; clear hb_; have hq0 : wc.cell? ⟨gx, 0, none⟩ = some (.int .i64 c) := (blk_cell hbx 0).trans rfl; have hq1 : wc.cell? ⟨gx, 1, none⟩ = some (.int .i64 s) := (blk_cell hbx 1).trans rfl)
    | (go_at_call 34; refine (mem_Tail.calls c s (2 + 2 * c) _ (tail_ok hl)).mono ?_; rintro e wc ⟨rfl, hb_⟩; replace hown := own_below hown hb_; (try clear hq0 hq1); replace hbx := blk_below hbx hb_; replace HB := below_step HB hb_; clear hb_; have hq0 : wc.cell? ⟨gx, 0, none⟩ = some (.int .i64 c) := (blk_cell hbx 0).trans rfl; have hq1 : wc.cell? ⟨gx, 1, none⟩ = some (.int .i64 s) := (blk_cell hbx 1).trans rfl)
    | (at_lookup; refine wpList_lookup_own_int _ rfl _ _ 51 rfl 3 3 .i64 law3 Try.underlying51 Try.underlying3 (zero3 _) wq.heap.size _ _ rfl hown _ _ rfl (keyOf_int_mk Try.underlying3 (WalkArith.wf_i64 (by omega))) ?_; intro c_ hat hwc)
    | (at_mapUpdate; refine wpList_mapUpdate_own _ rfl _ _ _ 51 rfl 3 3 law3 Try.underlying51 _ wq.heap.size _ _ rfl hown (by unfold maxLen; omega) _ _ _ rfl rfl (keyOf_int_mk Try.underlying3 (WalkArith.wf_i64 (by omega))) _ [] (plainElem_int Try.underlying3 (wrap64_wf _)) ?_; intro w1 hown1 hgrow1; rw [← bump_eq hat] at hown1; clear hat hwc; replace hown := hown1; clear hown1; (try clear hq0 hq1); replace hbx := blk_grown hbx hgrow1 (fun e_ => by injection e_ with e_; exact HNE e_); replace HB := HB.grown hgrow1 HB.size (fun j hj => by cases hj; exact HGM); clear hgrow1; have hq0 : w1.cell? ⟨gx, 0, none⟩ = some (.int .i64 c) := (blk_cell hbx 0).trans rfl; have hq1 : w1.cell? ⟨gx, 1, none⟩ = some (.int .i64 s) := (blk_cell hbx 1).trans rfl))
  clear hq0 hq1
  go_loopw [7] (fun v wr => ∃ r : Nat, (r : Int) ≤ c ∧ v = .int .i64 r ∧ Owns wr wq.heap.size (3 + 2 * r) (D1 c r) ∧ wr.heap[gx]? = some (.cells #[.int .i64 c, .int .i64 s] 38 (0, 0)) ∧ Below w.heap.size w wr) (fun v _ => c.toNat - (intOf v).toNat)
  case atStart => exact ⟨0, by omega, rfl, hown, hbx, HB⟩
  case round =>
    clear hown hbx HB
    obtain ⟨r, hr, rfl, hown, hbx, HB⟩ := hrel
    have hq0 : wr.cell? ⟨gx, 0, none⟩ = some (.int .i64 c) := (blk_cell hbx 0).trans rfl; have hq1 : wr.cell? ⟨gx, 1, none⟩ = some (.int .i64 s) := (blk_cell hbx 1).trans rfl
    go_wp2_with (first
      | (go_at_call 37; refine (mem_Pin.calls c s r (2 + (r : Int)) _ (pin_ok hl (by omega) (by first | assumption | omega))).mono ?_; rintro e wc ⟨rfl, hb_⟩; replace hown := own_below hown hb_; (try clear hq0 hq1); replace hbx := blk_below hbx hb_; replace HB := below_step HB hb_; clear hb_; have hq0 : wc.cell? ⟨gx, 0, none⟩ = some (.int .i64 c) := (blk_cell hbx 0).trans rfl; have hq1 : wc.cell? ⟨gx, 1, none⟩ = some (.int .i64 s) := (blk_cell hbx 1).trans rfl)
      | (go_at_call 38; refine (mem_Result.calls c s r (2 + c + (r : Int)) _ (result_ok hl (by omega) (by first | assumption | omega))).mono ?_; rintro e wc ⟨rfl, hb_⟩; replace hown := own_below hown hb_; (try clear hq0 hq1); replace hbx := blk_below hbx hb_; replace HB := below_step HB hb_; clear hb_; have hq0 : wc.cell? ⟨gx, 0, none⟩ = some (.int .i64 c) := (blk_cell hbx 0).trans rfl; have hq1 : wc.cell? ⟨gx, 1, none⟩ = some (.int .i64 s) := (blk_cell hbx 1).trans rfl)
      | (at_lookup; refine wpList_lookup_own_int _ rfl _ _ 51 rfl 3 3 .i64 law3 Try.underlying51 Try.underlying3 (zero3 _) wq.heap.size _ _ rfl hown _ _ rfl (keyOf_int_mk Try.underlying3 (WalkArith.wf_i64 (by omega))) ?_; intro c_ hat hwc)
      | (at_mapUpdate; refine wpList_mapUpdate_own _ rfl _ _ _ 51 rfl 3 3 law3 Try.underlying51 _ wq.heap.size _ _ rfl hown (by unfold maxLen; omega) _ _ _ rfl rfl (keyOf_int_mk Try.underlying3 (WalkArith.wf_i64 (by omega))) _ [] (plainElem_int Try.underlying3 (wrap64_wf _)) ?_; intro w1 hown1 hgrow1; rw [← bump_eq hat] at hown1; clear hat hwc; replace hown := hown1; clear hown1; (try clear hq0 hq1); replace hbx := blk_grown hbx hgrow1 (fun e_ => by injection e_ with e_; exact HNE e_); replace HB := HB.grown hgrow1 HB.size (fun j hj => by cases hj; exact HGM); clear hgrow1; have hq0 : w1.cell? ⟨gx, 0, none⟩ = some (.int .i64 c) := (blk_cell hbx 0).trans rfl; have hq1 : w1.cell? ⟨gx, 1, none⟩ = some (.int .i64 s) := (blk_cell hbx 1).trans rfl))
    · go_roundw
      case rel => exact ⟨r + 1, by omega, by go_num, (show Owns _ _ (3 + 2 * (r + 1)) (D1 c (r + 1)) from hown), hbx, HB⟩
      case measure => simp [intOf]; omega
    · have hrc : (r : Int) = c := by omega
      clear hq0 hq1
      go_loopw [8, 9] (fun n v wr => ∃ i : Nat, (i : Int) ≤ s ∧ n = .int .i64 ((2 ^ i : Nat) : Int) ∧ v = .int .i64 i ∧ Owns wr wq.heap.size (3 + 2 * r) (D1 c r) ∧ wr.heap[gx]? = some (.cells #[.int .i64 c, .int .i64 s] 38 (0, 0)) ∧ Below w.heap.size w wr) (fun _ v _ => s.toNat - (intOf v).toNat)
      case atStart => exact ⟨0, by omega, rfl, rfl, hown, hbx, HB⟩
      case round =>
        clear hown hbx HB
        obtain ⟨i, hi, rfl, rfl, hown, hbx, HB⟩ := hrel
        have hq0 : wr.cell? ⟨gx, 0, none⟩ = some (.int .i64 c) := (blk_cell hbx 0).trans rfl; have hq1 : wr.cell? ⟨gx, 1, none⟩ = some (.int .i64 s) := (blk_cell hbx 1).trans rfl
        go_wp2
        · go_roundw
          case rel =>
            have hi4 : i = 0 ∨ i = 1 ∨ i = 2 ∨ i = 3 := by omega
            exact ⟨i + 1, by omega, by rcases hi4 with rfl | rfl | rfl | rfl <;> first | rfl | (simp [wrap64]; done), by go_num, hown, hbx, HB⟩
          case measure => simp [intOf]; omega
        · have his : (i : Int) = s := by omega
          have hi4 : i = 1 ∨ i = 2 ∨ i = 3 ∨ i = 4 := by omega
          have hN : ((2 ^ i : Nat) : Int) = pw s := by rw [← his]; rcases hi4 with rfl | rfl | rfl | rfl <;> rfl
          have hN16 : 2 ^ i ≤ 16 := by rcases hi4 with rfl | rfl | rfl | rfl <;> decide
          generalize 2 ^ i = n at hN hN16 ⊢
          clear hq0 hq1
          go_loopw [10] (fun v wr => ∃ j : Nat, j ≤ n ∧ v = .int .i64 j ∧ Owns wr wq.heap.size (3 + 2 * r + 2 * j) (D2 c r j) ∧ wr.heap[gx]? = some (.cells #[.int .i64 c, .int .i64 s] 38 (0, 0)) ∧ Below w.heap.size w wr) (fun v _ => n - (intOf v).toNat)
          case atStart => exact ⟨0, Nat.zero_le _, rfl, hown, hbx, HB⟩
          case round =>
            clear hown hbx HB
            obtain ⟨j, hj, rfl, hown, hbx, HB⟩ := hrel
            have hq0 : wr.cell? ⟨gx, 0, none⟩ = some (.int .i64 c) := (blk_cell hbx 0).trans rfl; have hq1 : wr.cell? ⟨gx, 1, none⟩ = some (.int .i64 s) := (blk_cell hbx 1).trans rfl
            by_cases hlt : (j : Int) < n
            · have hs39 := seqj hl (j := j) (by rw [← hN]; exact hlt)
              have hs40 := itemj hl (j := j) (by rw [← hN]; exact hlt)
              have H39 := Aside0.mk hs39
              have H40 := Aside0.mk hs40
              clear hs39 hs40
              have hb39 : -1000 ≤ 3 + 2 * c + 2 * (j : Int) ∧ 3 + 2 * c + 2 * (j : Int) ≤ 1000 := by omega
              obtain ⟨k39, hk39⟩ : ∃ k : Int, k = 3 + 2 * c + 2 * (j : Int) := ⟨_, rfl⟩
              rw [← hk39] at hb39 H39 H40
              have HK39 := Aside0.mk hk39
              have HC := Aside0.mk hc
              have HS := Aside0.mk hs
              have HI := Aside0.mk his
              have HRC := Aside0.mk hrc
              have HN := Aside0.mk hN
              clear hk39 hc hs his hN hi4 hrc
              go_wp2_with (first
                | (go_at_call 39; refine (mem_Seq.calls c s _ k39 _ (H39.out)).mono ?_; rintro e wc ⟨rfl, hb_⟩; replace hown := own_below hown hb_; (try clear hq0 hq1); replace hbx := blk_below hbx hb_; replace HB := below_step HB hb_; clear hb_; have hq0 : wc.cell? ⟨gx, 0, none⟩ = some (.int .i64 c) := (blk_cell hbx 0).trans rfl; have hq1 : wc.cell? ⟨gx, 1, none⟩ = some (.int .i64 s) := (blk_cell hbx 1).trans rfl)
                | (at_lookup; refine wpList_lookup_own_int _ rfl _ _ 51 rfl 3 3 .i64 law3 Try.underlying51 Try.underlying3 (zero3 _) wq.heap.size _ _ rfl hown _ _ rfl (keyOf_int_mk Try.underlying3 (WalkArith.wf_i64 (by omega))) ?_; intro c_ hat hwc)
                | (at_mapUpdate; refine wpList_mapUpdate_own _ rfl _ _ _ 51 rfl 3 3 law3 Try.underlying51 _ wq.heap.size _ _ rfl hown (by unfold maxLen; omega) _ _ _ rfl rfl (keyOf_int_mk Try.underlying3 (WalkArith.wf_i64 (by omega))) _ [] (plainElem_int Try.underlying3 (wrap64_wf _)) ?_; intro w1 hown1 hgrow1; rw [← bump_eq hat] at hown1; clear hat hwc; replace hown := hown1; clear hown1; (try clear hq0 hq1); replace hbx := blk_grown hbx hgrow1 (fun e_ => by injection e_ with e_; exact HNE e_); replace HB := HB.grown hgrow1 HB.size (fun j hj => by cases hj; exact HGM); clear hgrow1; have hq0 : w1.cell? ⟨gx, 0, none⟩ = some (.int .i64 c) := (blk_cell hbx 0).trans rfl; have hq1 : w1.cell? ⟨gx, 1, none⟩ = some (.int .i64 s) := (blk_cell hbx 1).trans rfl)
                | (go_at_call 40; refine (mem_Item.calls c s _ (k39 + 1) _ (H40.out)).mono ?_; rintro e wc ⟨rfl, hb_⟩; replace hown := own_below hown hb_; (try clear hq0 hq1); replace hbx := blk_below hbx hb_; replace HB := below_step HB hb_; clear hb_; have hq0 : wc.cell? ⟨gx, 0, none⟩ = some (.int .i64 c) := (blk_cell hbx 0).trans rfl; have hq1 : wc.cell? ⟨gx, 1, none⟩ = some (.int .i64 s) := (blk_cell hbx 1).trans rfl))
              go_roundw
              case rel => exact ⟨j + 1, by omega, by go_num, (show Owns _ _ (3 + 2 * r + 2 * (j + 1)) (D2 c r (j + 1)) from by rw [HK39.out] at hown; exact hown), hbx, HB⟩
              case measure => simp [intOf]; omega
            · have hjn : j = n := by omega
              subst hjn
              clear hlt
              have hD : ∀ k : Nat, k < 3 + 2 * r + 2 * j → getc (D2 c r j) k = 1 := getc_one hl hrc hN
              have hZ : Maps.size (D2 c r j) = ((3 + 2 * r + 2 * j : Nat) : Int) := size_ok hl hrc hN
              have hSz := size_lay hl hrc hN
              have HSZ := Aside0.mk hSz
              have HD := Aside0.mk hD
              have HZ := Aside0.mk hZ
              have HC := Aside0.mk hc
              have HS := Aside0.mk hs
              have HI := Aside0.mk his
              have HRC := Aside0.mk hrc
              have HN := Aside0.mk hN
              clear hD hZ hSz hc hs his hrc hN hi4
              clear hq0 hq1
              have hM : 3 + 2 * r + 2 * j ≤ 100 := by omega
              go_wp2
              generalize 3 + 2 * r + 2 * j = M at hM HSZ HD HZ hown ⊢
              generalize D2 c r j = D at HD HZ hown ⊢
              go_loopw [11] (fun v wr => ∃ k : Nat, k ≤ M ∧ v = .int .i64 k ∧ Owns wr wq.heap.size M D ∧ wr.heap[gx]? = some (.cells #[.int .i64 c, .int .i64 s] 38 (0, 0)) ∧ Below w.heap.size w wr) (fun v _ => M - (intOf v).toNat)
              case atStart => exact ⟨0, Nat.zero_le _, rfl, hown, hbx, HB⟩
              case round =>
                clear hown hbx HB
                obtain ⟨k, hk, rfl, hown, hbx, HB⟩ := hrel
                have hq0 : wr.cell? ⟨gx, 0, none⟩ = some (.int .i64 c) := (blk_cell hbx 0).trans rfl; have hq1 : wr.cell? ⟨gx, 1, none⟩ = some (.int .i64 s) := (blk_cell hbx 1).trans rfl
                by_cases hlt : (k : Int) < M
                · go_wp2_with (first
                    | (go_at_call 28; refine (mem_Size.calls c s (M : Int) _ (HSZ.out)).mono ?_; rintro e wc ⟨rfl, hb_⟩; replace hown := own_below hown hb_; (try clear hq0 hq1); replace hbx := blk_below hbx hb_; replace HB := below_step HB hb_; clear hb_; have hq0 : wc.cell? ⟨gx, 0, none⟩ = some (.int .i64 c) := (blk_cell hbx 0).trans rfl; have hq1 : wc.cell? ⟨gx, 1, none⟩ = some (.int .i64 s) := (blk_cell hbx 1).trans rfl)
                    | (at_lookup; refine wpList_lookup_own_int _ rfl _ _ 51 rfl 3 3 .i64 law3 Try.underlying51 Try.underlying3 (zero3 _) wq.heap.size _ _ rfl hown _ _ rfl (keyOf_int_mk Try.underlying3 (WalkArith.wf_i64 (by omega))) ?_; intro c_ hat hwc; obtain rfl : c_ = 1 := (getc_eq hat).symm.trans (HD.out k (by omega)); clear hat hwc))
                  go_roundw
                  case rel => exact ⟨k + 1, by omega, by go_num, hown, hbx, HB⟩
                  case measure => simp [intOf]; omega
                · have hz : Maps.size D = (M : Int) := HZ.out
                  go_wp2_with (first
                    | (go_at_call 28; refine (mem_Size.calls c s (M : Int) _ (HSZ.out)).mono ?_; rintro e wc ⟨rfl, hb_⟩; replace hown := own_below hown hb_; (try clear hq0 hq1); replace hbx := blk_below hbx hb_; replace HB := below_step HB hb_; clear hb_; have hq0 : wc.cell? ⟨gx, 0, none⟩ = some (.int .i64 c) := (blk_cell hbx 0).trans rfl; have hq1 : wc.cell? ⟨gx, 1, none⟩ = some (.int .i64 s) := (blk_cell hbx 1).trans rfl)
                    | (at_len; refine wpList_len_own _ rfl _ 51 rfl 3 3 Try.underlying51 _ _ _ _ rfl hown ?_; rw [hz])
                    | (go_at_call 14; refine (treillagelaw15_shown.calls 8 true _ (shown_at (Nat.le_refl 8))).mono ?_; rintro e ws ⟨rfl, hb_⟩; replace HB := below_step HB hb_; clear hb_))
                  go_ret
                  exact ⟨rfl, HB⟩
theorem wf_u8 {n : Int} (h : (Lit.int .u8 n).wf = true) : 0 ≤ n ∧ n ≤ 255 := by
  simp only [Lit.wf, Bool.and_eq_true, decide_eq_true_eq] at h
  have hmin : IntKind.u8.min = 0 := rfl
  have hmax : IntKind.u8.max = 255 := rfl
  omega
theorem rng (z : Int) (h0 : 0 ≤ z) (h1 : z ≤ 255) : 1 ≤ wrap64 (1 + Int.tmod (wrap64 z) 4) ∧ wrap64 (1 + Int.tmod (wrap64 z) 4) ≤ 4 := by
  have e : wrap64 z = z := by unfold wrap64; omega
  rw [e, Int.tmod_eq_emod_of_nonneg h0]
  unfold wrap64
  omega
theorem walk (a0 a1 : Int) (w : World) (w0 : (Lit.int .u8 a0).wf = true) (w1 : (Lit.int .u8 a1).wf = true) :
    Calls Try.prog 7 #[.int .u8 a0, .int .u8 a1] w fun e w' => e = .returned (.bool true) ∧ Below w.heap.size w w' := by
  have b0 := wf_u8 w0
  have b1 := wf_u8 w1
  exact walk1 a0 a1 _ _ rfl rfl ⟨rng a0 b0.1 b0.2, rng a1 b1.1 b1.2⟩ w
end Go.Proofs.Ytcjkjlopbjijaaa.memApart
