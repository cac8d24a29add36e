-- Written by wip/hprint/hprint.py (a program of this session, over the print): not typed by hand
import Derived.Test.YtdjkadfgmhmhcaaPAx0
import Derived.Test.YtdjkadfgmhmhcaaPAx2
namespace Go.Proofs.Ytdjkadfgmhmhcaa.PA
open Go.RowKit Go.Proofs.YtdjkadfgmhmhcaaW.PrintWords Go.Proofs.YtdjkadfgmhmhcaaW.PrintLast Go.Proofs.YtdjkadfgmhmhcaaW.PrintMore
attribute [local go_sem] max2_int min2_int max_two min_two max_three min_three max_four min_four   -- for this text's walks alone
open Go.Proofs.YtdjkadfgmhmhcaaH
set_option linter.unusedVariables false
set_option linter.unusedSimpArgs false

set_option maxHeartbeats 3200000 in
set_option maxRecDepth 100000 in
theorem rec_grow_walk (n : Nat) (hn : n * 16 ≤ 140737488355328) (w : World) :
  Calls Try.prog 37 #[.slice none 0 0, .int .i64 n] w fun e w' => ∃ v1 : Value, e = .returned v1 ∧ Kd.R Kd.string 9 w' w.heap.size (fun _ => True) v1 [] ∧ Below w.heap.size w w' := by
 have HB := Below.refl w.heap.size w; obtain ⟨i0_, hi0_, _, hsz0_, _⟩ := info_parts (show (Try.prog.info? 9).map (fun i => (i.zero, i.size, i.bytes)) = some (some (.string ⟨#[]⟩), 1, 16) from by kernel_rfl); have hcut1 := cut_to (P := Try.prog) 22 9 .i64 Try.underlying22 hi0_ none 0 0 0 (by omega) (by omega) (by omega); have hn0 : ¬ (n : Int) < 0 := by omega
 rcases Nat.eq_zero_or_pos n with h0 | hp
 ·subst h0; go_enter Try.func37, Try.ntmps37; go_wp2; go_ret
  exact ⟨_, rfl, Kd.R_nil _ _ _ _ _, HB⟩
 ·have hp' : (0 : Int) < (n : Int) := by omega
  go_enter Try.func37, Try.ntmps37; go_wp2_with ((with_reducible refine gate_dst (N := 22) rfl ?_); refine Kd.R_append_zeros Kd.string (w0 := w) w.heap.size rfl (.tmp 20) (.tmp 21) 22 3 9 (.string ⟨#[]⟩) 16 rfl Try.underlying22 Try.underlying3 (by kernel_rfl) rfl (by decide) (by omega) (.slice none 0 0) [] ⟨#[]⟩ (n : Int) (fun _ => True) rfl rfl rfl (fun _ _ => trivial) (Kd.R_nil _ _ _ _ _) (by omega) HB HB.size (by simp only [List.length_nil, Int.toNat_natCast]; omega) ?_; intro v1 w1 HR hb_ hg_ hat_; rw [List.nil_append, Int.toNat_natCast] at HR; obtain ⟨A1, c1, e_⟩ := Kd.R_slice HR; subst e_; rw [List.length_replicate] at HR; have hc1 := (Kd.R_reads' HR).2.1; have hcut2 := cut_to (P := Try.prog) 22 9 .i64 Try.underlying22 hi0_ A1 (List.replicate n (⟨#[]⟩ : ByteArray)).length c1 0 (by omega) (by omega) (by first | exact hc1 | (rw [List.length_replicate]; exact hc1)); replace HB := hb_; clear hb_ hg_ hat_)
  go_ret
  have h0_ := Kd.R_take (m := 0) HR (Nat.zero_le _); rw [List.take_zero] at h0_; exact ⟨_, rfl, h0_, HB⟩
set_option maxHeartbeats 3200000 in
set_option maxRecDepth 100000 in
theorem rec_concat_walk (gx : Nat) (X Y : Option Addr) (cx cy : Nat) (xs ys : List ByteArray) (w : World) (hbx : w.heap[gx]? = some (.cells #[.slice X xs.length cx, .slice Y ys.length cy] 22 (0, 0))) (hX : Kd.C Kd.string w X xs.length xs) (hY : Kd.C Kd.string w Y ys.length ys) (hl : (xs.length + ys.length) * 16 ≤ 140737488355328) :
  Calls Try.prog 26 #[.slice (some ⟨gx, 0, none⟩) 2 2] w fun e w' => ∃ v1 : Value, e = .returned v1 ∧ Kd.R Kd.string 9 w' w.heap.size (fun _ => True) v1 (xs ++ ys) ∧ Below w.heap.size w w' := by
 have HX := aA hX; have HY := aA hY; have HBX := aA hbx; have HL := aA hl; clear hX hY; have HB := Below.refl w.heap.size w; have hq0 : w.cell? ⟨gx, 0, none⟩ = some (.slice X xs.length cx) := (blk_cell hbx 0).trans rfl; have hq1 : w.cell? ⟨gx, 1, none⟩ = some (.slice Y ys.length cy) := (blk_cell hbx 1).trans rfl; have hlt := blk_lt hbx; clear hbx; go_enter Try.func26, Try.ntmps26; go_wp2; go_loopw [11, 3] (fun i s wr => w = wr ∧ ((i = .int .i64 0 ∧ s = .int .i64 0) ∨ (i = .int .i64 1 ∧ s = .int .i64 xs.length) ∨ (i = .int .i64 2 ∧ s = .int .i64 ((xs.length + ys.length : Nat) : Int)))) (fun i _ _ => 2 - (intOf i).toNat)
 case atStart => exact ⟨rfl, .inl ⟨rfl, rfl⟩⟩
 case round =>
  obtain ⟨hwr, hrel⟩ := hrel; subst hwr; have hl2 := HL.out; have w1_ : wrap64 ((xs.length : Int) + (ys.length : Int)) = ((xs.length + ys.length : Nat) : Int) := by unfold wrap64; omega
  have n1_ : ¬ ((xs.length + ys.length : Nat) : Int) < 0 := by omega
  have W1 := aA w1_; clear w1_ hl2; rcases hrel with ⟨rfl, rfl⟩ | ⟨rfl, rfl⟩ | ⟨rfl, rfl⟩
  ·go_wp2; go_roundw
   case rel => exact ⟨(by first | rfl | trivial), .inr (.inl ⟨by go_num, by first | rfl | (congr 1; omega)⟩)⟩
   case measure => simp [intOf]
  ·have w1_ := W1.out; go_wp2; go_roundw
   case rel => exact ⟨(by first | rfl | trivial), .inr (.inr ⟨by go_num, by first | rfl | (congr 1; omega)⟩)⟩
   case measure => simp [intOf]
  ·go_wp2_with (go_at_call 37; refine (rec_grow_walk (xs.length + ys.length) HL.out _).mono ?_; rintro e wg ⟨v0, rfl, HR, hb_⟩; replace HB := below_step HB hb_; clear hb_)
   go_loopw [27, 6] (fun i s wr => ∃ zs : List ByteArray, Kd.R Kd.string 9 wr w.heap.size (fun _ => True) s zs ∧ Below w.heap.size w wr ∧ ((i = .int .i64 0 ∧ zs = []) ∨ (i = .int .i64 1 ∧ zs = xs) ∨ (i = .int .i64 2 ∧ zs = xs ++ ys))) (fun i _ _ => 2 - (intOf i).toNat)
   case atStart => exact ⟨[], Kd.R_lower HR (Nat.le_refl _), HB, .inl ⟨rfl, rfl⟩⟩
   case round =>
    clear HR HB; obtain ⟨zs, HR, HB, hrel⟩ := hrel; have hq0_ := (HB.cell (p := ⟨gx, 0, none⟩) hlt).trans hq0; have hq1_ := (HB.cell (p := ⟨gx, 1, none⟩) hlt).trans hq1; rcases hrel with ⟨rfl, rfl⟩ | ⟨rfl, rfl⟩ | ⟨rfl, rfl⟩
    ·go_wp2_with ((with_reducible refine gate_dst (N := 33) rfl ?_); refine Kd.R_append_rows Kd.string (w0 := w) w.heap.size rfl (.tmp 31) (.tmp 32) 22 9 (.string ⟨#[]⟩) 16 rfl Try.underlying22 (by kernel_rfl) rfl (by decide) (by omega) _ [] xs _ _ _ (fun _ => True) (fun _ => False) rfl rfl HR (Kd.C_below HX.out HB) (fun _ _ h => h) (fun _ h => h.elim) (fun _ _ => trivial) HB HB.size (by have h_ := HL.out; (try simp only [List.length_nil]); omega) ?_; intro v1 w1 HR1 hb_ hg_ hat_; clear hq0_ hq1_ HR HB hg_ hat_; have HR := HR1; have HB := hb_; clear HR1 hb_)
     rw [List.nil_append] at HR; go_roundw
     case rel => exact ⟨_, HR, HB, .inr (.inl ⟨by go_num, rfl⟩)⟩
     case measure => simp [intOf]
    ·go_wp2_with ((with_reducible refine gate_dst (N := 33) rfl ?_); refine Kd.R_append_rows Kd.string (w0 := w) w.heap.size rfl (.tmp 31) (.tmp 32) 22 9 (.string ⟨#[]⟩) 16 rfl Try.underlying22 (by kernel_rfl) rfl (by decide) (by omega) _ zs ys _ _ _ (fun _ => True) (fun _ => False) rfl rfl HR (Kd.C_below HY.out HB) (fun _ _ h => h) (fun _ h => h.elim) (fun _ _ => trivial) HB HB.size (by have h_ := HL.out; (try simp only [List.length_nil]); omega) ?_; intro v1 w1 HR1 hb_ hg_ hat_; clear hq0_ hq1_ HR HB hg_ hat_; have HR := HR1; have HB := hb_; clear HR1 hb_)
     go_roundw
     case rel => exact ⟨_, HR, HB, .inr (.inr ⟨by go_num, rfl⟩)⟩
     case measure => simp [intOf]
    ·go_wp2; go_ret
     exact ⟨_, rfl, HR, HB⟩

def packAt : Nat → Int
 | 0 => 0
 | 1 => 2
 | 2 => 10
 | 3 => 15
 | 4 => 21
 | 5 => 25
 | _ => 33
def packHead (ns : List Int) : Nat → Int
 | 0 => 0
 | k + 1 => Go.bits .or .u64 (packHead ns k) (IntKind.u64.wrap (IntKind.u64.wrap (ns.getD k 0) * 2 ^ min (packAt k).toNat 64))
def packWords (T : List ByteArray) (O : List Int) : Nat → Option (List Int)
 | 0 => some O
 | k + 1 => (packWords T O k).bind fun out => (rec_Words.f ((rdOf ByteArray.empty T k).size + 2) (rdOf ByteArray.empty T k)).bind fun a => if out.length + a.length < 17592186044416 then some (out ++ a) else none
theorem packWords_some {T : List ByteArray} {O : List Int} {n : Nat} {r : List Int} (h : packWords T O n = some r) : ∀ k, k ≤ n → ∃ xs, packWords T O k = some xs := by
 intro k hk
 induction n generalizing r with
 | zero => exact ⟨O, by rw [show k = 0 from by omega]; rfl⟩
 | succ n ih =>
  by_cases he : k = n + 1
  ·exact ⟨r, by rw [he]; exact h⟩
  ·unfold packWords at h; obtain ⟨xs, hx, _⟩ := Option.bind_eq_some_iff.1 h; exact ih hx (by omega)
theorem packWords_step {T : List ByteArray} {O : List Int} {k : Nat} {xs ys : List Int} (h : packWords T O k = some xs) (h2 : packWords T O (k + 1) = some ys) : ∃ a, rec_Words.f ((rdOf ByteArray.empty T k).size + 2) (rdOf ByteArray.empty T k) = some a ∧ xs.length + a.length < 17592186044416 ∧ ys = xs ++ a := by
 unfold packWords at h2; rw [h, Option.bind_some] at h2; obtain ⟨a, h3, h4⟩ := Option.bind_eq_some_iff.1 h2; split at h4
 ·rename_i h5
  injection h4 with h4; exact ⟨a, h3, h5, h4.symm⟩
 ·cases h4
def packNs (a0_0 a0_1 : Int) (a0_2 a0_3 : ByteArray) (l0_4 : List ByteArray) (a0_6 : Int) : List Int := [a0_0, wrap64 (a0_1 + 1), (a0_2.size : Int), (a0_3.size : Int), ((l0_4.length / 2 : Nat) : Int), a0_6]
def packStart (a0_0 a0_1 : Int) (a0_2 a0_3 : ByteArray) (l0_4 : List ByteArray) (a0_5 a0_6 : Int) : List Int := if l0_4.length = 0 then [packHead (packNs a0_0 a0_1 a0_2 a0_3 l0_4 a0_6) 6, a0_5] else [packHead (packNs a0_0 a0_1 a0_2 a0_3 l0_4 a0_6) 6, a0_5] ++ [(lensAt l0_4 l0_4.length).1, (lensAt l0_4 l0_4.length).2]
theorem rec_May_bounds {a0_0 a0_1 : Int} {a0_2 a0_3 : ByteArray} {l0_4 : List ByteArray} {a0_6 : Int} (h : recMay a0_0 a0_1 a0_2 a0_3 l0_4 a0_6 = true) : 0 ≤ a0_0 ∧ a0_0 ≤ 3 ∧ -1 ≤ a0_1 ∧ a0_1 < 60 ∧ a0_2.size ≤ 20 ∧ a0_3.size ≤ 60 ∧ l0_4.length ≤ 16 ∧ 0 ≤ a0_6 ∧ a0_6 ≤ 200 := by
 simp only [recMay, Bool.and_eq_true, decide_eq_true_eq] at h; omega
set_option maxHeartbeats 3200000 in
set_option maxRecDepth 100000 in
theorem rec_Pack_yes (a0_0 : Int) (a0_1 : Int) (a0_2 : ByteArray) (a0_3 : ByteArray) (A0_4 : Option Addr) (c0_4 : Nat) (l0_4 : List ByteArray) (a0_5 : Int) (a0_6 : Int) (w : World) (hr0_4 : Kd.C Kd.string w A0_4 l0_4.length l0_4) (hc0_4 : l0_4.length ≤ c0_4) (hM : recMay a0_0 a0_1 a0_2 a0_3 l0_4 a0_6 = true) (res : List Int) (hRes : packWords ([a0_2, a0_3] ++ l0_4) (packStart a0_0 a0_1 a0_2 a0_3 l0_4 a0_5 a0_6) ([a0_2, a0_3] ++ l0_4).length = some res) :
  Calls Try.prog 11 #[.agg #[.int .i64 a0_0, .int .i64 a0_1, .string a0_2, .string a0_3, .slice A0_4 l0_4.length c0_4, .int .u64 a0_5, .int .i64 a0_6]] w fun e w' => ∃ v1 : Value, e = .returned (.tuple #[v1, .int .i64 0]) ∧ Kd.R (Kd.int .u64) 23 w' w.heap.size (fun _ => True) v1 res ∧ Below w.heap.size w w' := by
 have HRES := aA hRes; clear hRes; have hu := Try.underlying27; have hu2 := Try.underlying25; have HR := aA hr0_4; have HMay := aA (show rec_May.f a0_0 a0_1 a0_2 a0_3 l0_4 a0_5 a0_6 = some true from congrArg some hM); have HBD := aA (rec_May_bounds hM); have HB := Below.refl w.heap.size w; clear hr0_4 hM; obtain ⟨n4, hn4⟩ : ∃ n : Nat, n = l0_4.length / 2 := ⟨_, rfl⟩; have hq4 : wrap64 ((l0_4.length : Int) / 2) = (n4 : Int) := (by have h_ := HBD.out; unfold wrap64; omega); have HN4 := aA hn4; clear hn4; go_enter Try.func11, Try.ntmps11
 go_wp2_with (first
  | ((with_reducible refine gate_dst (N := 1) rfl ?_); (with_reducible refine gate_ (.box 27 (.tmp 0)) rfl ?_); refine box_event (N := 1) rfl rfl (cs := #[.int .i64 a0_0, .int .i64 a0_1, .string a0_2, .string a0_3, .slice A0_4 l0_4.length c0_4, .int .u64 a0_5, .int .i64 a0_6]) (t := 27) (by first | (go_simp; done) | (go_simp; rfl)) ?_; intro ga hg_ wa_ hba hbl_; have HGa : w.heap.size ≤ ga := (by rw [hg_]; exact Nat.le_trans (by first | exact Nat.le_refl _ | exact HB.size) (Nat.le_refl _)); replace HB := below_step (blw HB) hbl_; clear hg_ hbl_; have hqa_0 : wa_.cell? ⟨ga, 0, none⟩ = some (.int .i64 a0_0) := (blk_cell hba 0).trans rfl; have hqa_1 : wa_.cell? ⟨ga, 1, none⟩ = some (.int .i64 a0_1) := (blk_cell hba 1).trans rfl; have hqa_2 : wa_.cell? ⟨ga, 2, none⟩ = some (.string a0_2) := (blk_cell hba 2).trans rfl; have hqa_3 : wa_.cell? ⟨ga, 3, none⟩ = some (.string a0_3) := (blk_cell hba 3).trans rfl; have hqa_4 : wa_.cell? ⟨ga, 4, none⟩ = some (.slice A0_4 l0_4.length c0_4) := (blk_cell hba 4).trans rfl; have hqa_5 : wa_.cell? ⟨ga, 5, none⟩ = some (.int .u64 a0_5) := (blk_cell hba 5).trans rfl; have hqa_6 : wa_.cell? ⟨ga, 6, none⟩ = some (.int .i64 a0_6) := (blk_cell hba 6).trans rfl)
  | ((with_reducible refine gate_dst (N := 13) rfl ?_); (with_reducible refine gate_callee (f := 16) rfl ?_); refine goesL_ (some 13) rfl rfl Try.func16 (by kernel_rfl) rfl #[.agg #[.int .i64 a0_0, .int .i64 a0_1, .string a0_2, .string a0_3, .slice A0_4 l0_4.length c0_4, .int .u64 a0_5, .int .i64 a0_6]] rfl (by (try simp only [List.map_toArray, List.map_cons, List.map_nil]); first | done | rfl | kernel_rfl) ?_; refine (rec_May.calls a0_0 a0_1 a0_2 a0_3 A0_4 c0_4 l0_4 a0_5 a0_6 true _ (Kd.C_below HR.out HB) hc0_4 HMay.out).mono ?_; rintro e wc2_ ⟨rfl, hb_⟩; clear hqa_0 hqa_1 hqa_2 hqa_3 hqa_4 hqa_5 hqa_6; replace hba := blk_below (by exact hba) hb_; have hqa_0 : wc2_.cell? ⟨ga, 0, none⟩ = some (.int .i64 a0_0) := (blk_cell hba 0).trans rfl; have hqa_1 : wc2_.cell? ⟨ga, 1, none⟩ = some (.int .i64 a0_1) := (blk_cell hba 1).trans rfl; have hqa_2 : wc2_.cell? ⟨ga, 2, none⟩ = some (.string a0_2) := (blk_cell hba 2).trans rfl; have hqa_3 : wc2_.cell? ⟨ga, 3, none⟩ = some (.string a0_3) := (blk_cell hba 3).trans rfl; have hqa_4 : wc2_.cell? ⟨ga, 4, none⟩ = some (.slice A0_4 l0_4.length c0_4) := (blk_cell hba 4).trans rfl; have hqa_5 : wc2_.cell? ⟨ga, 5, none⟩ = some (.int .u64 a0_5) := (blk_cell hba 5).trans rfl; have hqa_6 : wc2_.cell? ⟨ga, 6, none⟩ = some (.int .i64 a0_6) := (blk_cell hba 6).trans rfl; replace HB := below_step (blw HB) hb_; clear hb_; refine ⟨_, rfl, ?_⟩))
 clear hq4; clear hqa_0 hqa_1 hqa_2 hqa_3 hqa_4 hqa_5 hqa_6; go_loopw [34, 4, 5] (fun i hd at_ wr => ∃ k : Nat, k ≤ 6 ∧ i = .int .i64 k ∧ hd = .int .u64 (packHead [a0_0, wrap64 (a0_1 + 1), (a0_2.size : Int), (a0_3.size : Int), (n4 : Int), a0_6] k) ∧ at_ = .int .i64 (packAt k) ∧ wr.heap[ga]? = some (.cells #[.int .i64 a0_0, .int .i64 a0_1, .string a0_2, .string a0_3, .slice A0_4 l0_4.length c0_4, .int .u64 a0_5, .int .i64 a0_6] 27 (0, 0)) ∧ Below w.heap.size w wr) (fun i _ _ _ => 6 - (intOf i).toNat)
 case atStart => exact ⟨0, by omega, rfl, rfl, rfl, hba, HB⟩
 case round =>
  clear hba HB; obtain ⟨k, hk, rfl, rfl, rfl, hba, HB⟩ := hrel; have hqa_0 : wr.cell? ⟨ga, 0, none⟩ = some (.int .i64 a0_0) := (blk_cell hba 0).trans rfl; have hqa_1 : wr.cell? ⟨ga, 1, none⟩ = some (.int .i64 a0_1) := (blk_cell hba 1).trans rfl; have hqa_2 : wr.cell? ⟨ga, 2, none⟩ = some (.string a0_2) := (blk_cell hba 2).trans rfl; have hqa_3 : wr.cell? ⟨ga, 3, none⟩ = some (.string a0_3) := (blk_cell hba 3).trans rfl; have hqa_4 : wr.cell? ⟨ga, 4, none⟩ = some (.slice A0_4 l0_4.length c0_4) := (blk_cell hba 4).trans rfl; have hqa_5 : wr.cell? ⟨ga, 5, none⟩ = some (.int .u64 a0_5) := (blk_cell hba 5).trans rfl; have hqa_6 : wr.cell? ⟨ga, 6, none⟩ = some (.int .i64 a0_6) := (blk_cell hba 6).trans rfl; have hix0 : ∀ (x0 x1 x2 x3 x4 x5 : Value) (W : World), (Instr.index 53 (.agg #[x0, x1, x2, x3, x4, x5]) (.int .i64 0)).run Try.prog W = .ok x0 W := fun _ _ _ _ _ _ _ => by kernel_rfl
  have hix1 : ∀ (x0 x1 x2 x3 x4 x5 : Value) (W : World), (Instr.index 53 (.agg #[x0, x1, x2, x3, x4, x5]) (.int .i64 1)).run Try.prog W = .ok x1 W := fun _ _ _ _ _ _ _ => by kernel_rfl
  have hix2 : ∀ (x0 x1 x2 x3 x4 x5 : Value) (W : World), (Instr.index 53 (.agg #[x0, x1, x2, x3, x4, x5]) (.int .i64 2)).run Try.prog W = .ok x2 W := fun _ _ _ _ _ _ _ => by kernel_rfl
  have hix3 : ∀ (x0 x1 x2 x3 x4 x5 : Value) (W : World), (Instr.index 53 (.agg #[x0, x1, x2, x3, x4, x5]) (.int .i64 3)).run Try.prog W = .ok x3 W := fun _ _ _ _ _ _ _ => by kernel_rfl
  have hix4 : ∀ (x0 x1 x2 x3 x4 x5 : Value) (W : World), (Instr.index 53 (.agg #[x0, x1, x2, x3, x4, x5]) (.int .i64 4)).run Try.prog W = .ok x4 W := fun _ _ _ _ _ _ _ => by kernel_rfl
  have hix5 : ∀ (x0 x1 x2 x3 x4 x5 : Value) (W : World), (Instr.index 53 (.agg #[x0, x1, x2, x3, x4, x5]) (.int .i64 5)).run Try.prog W = .ok x5 W := fun _ _ _ _ _ _ _ => by kernel_rfl
  have hcs : k = 0 ∨ k = 1 ∨ k = 2 ∨ k = 3 ∨ k = 4 ∨ k = 5 ∨ k = 6 := by omega
  rcases hcs with rfl | rfl | rfl | rfl | rfl | rfl | rfl
  ·have hp_ : packAt 0 = 0 := rfl; obtain ⟨hv, hhv⟩ : ∃ h, h = packHead [a0_0, wrap64 (a0_1 + 1), (a0_2.size : Int), (a0_3.size : Int), (n4 : Int), a0_6] 0 := ⟨_, rfl⟩; rw [← hhv]; have Hhv := aA hhv; clear hhv; go_wp2_with (go_at_call 24; refine (rec_widths_walk _).mono ?_; rintro e ww ⟨rfl, hb_⟩; clear hqa_0 hqa_1 hqa_2 hqa_3 hqa_4 hqa_5 hqa_6; replace hba := blk_below hba hb_; replace HB := below_step HB hb_; clear hb_)
   go_roundw
   case rel => exact ⟨1, by omega, by go_num, (by rw [packHead, ← Hhv.out]; simp [packAt]), rfl, hba, HB⟩
   case measure => simp [intOf]
  ·have hp_ : packAt 1 = 2 := rfl; obtain ⟨hv, hhv⟩ : ∃ h, h = packHead [a0_0, wrap64 (a0_1 + 1), (a0_2.size : Int), (a0_3.size : Int), (n4 : Int), a0_6] 1 := ⟨_, rfl⟩; rw [← hhv]; have Hhv := aA hhv; clear hhv; go_wp2_with (go_at_call 24; refine (rec_widths_walk _).mono ?_; rintro e ww ⟨rfl, hb_⟩; clear hqa_0 hqa_1 hqa_2 hqa_3 hqa_4 hqa_5 hqa_6; replace hba := blk_below hba hb_; replace HB := below_step HB hb_; clear hb_)
   go_roundw
   case rel => exact ⟨2, by omega, by go_num, (by rw [packHead, ← Hhv.out]; simp [packAt]), rfl, hba, HB⟩
   case measure => simp [intOf]
  ·have hp_ : packAt 2 = 10 := rfl; obtain ⟨hv, hhv⟩ : ∃ h, h = packHead [a0_0, wrap64 (a0_1 + 1), (a0_2.size : Int), (a0_3.size : Int), (n4 : Int), a0_6] 2 := ⟨_, rfl⟩; rw [← hhv]; have Hhv := aA hhv; clear hhv; go_wp2_with (go_at_call 24; refine (rec_widths_walk _).mono ?_; rintro e ww ⟨rfl, hb_⟩; clear hqa_0 hqa_1 hqa_2 hqa_3 hqa_4 hqa_5 hqa_6; replace hba := blk_below hba hb_; replace HB := below_step HB hb_; clear hb_)
   go_roundw
   case rel => exact ⟨3, by omega, by go_num, (by rw [packHead, ← Hhv.out]; simp [packAt]), rfl, hba, HB⟩
   case measure => simp [intOf]
  ·have hp_ : packAt 3 = 15 := rfl; obtain ⟨hv, hhv⟩ : ∃ h, h = packHead [a0_0, wrap64 (a0_1 + 1), (a0_2.size : Int), (a0_3.size : Int), (n4 : Int), a0_6] 3 := ⟨_, rfl⟩; rw [← hhv]; have Hhv := aA hhv; clear hhv; go_wp2_with (go_at_call 24; refine (rec_widths_walk _).mono ?_; rintro e ww ⟨rfl, hb_⟩; clear hqa_0 hqa_1 hqa_2 hqa_3 hqa_4 hqa_5 hqa_6; replace hba := blk_below hba hb_; replace HB := below_step HB hb_; clear hb_)
   go_roundw
   case rel => exact ⟨4, by omega, by go_num, (by rw [packHead, ← Hhv.out]; simp [packAt]), rfl, hba, HB⟩
   case measure => simp [intOf]
  ·have hp_ : packAt 4 = 21 := rfl; obtain ⟨hv, hhv⟩ : ∃ h, h = packHead [a0_0, wrap64 (a0_1 + 1), (a0_2.size : Int), (a0_3.size : Int), (n4 : Int), a0_6] 4 := ⟨_, rfl⟩; rw [← hhv]; have Hhv := aA hhv; clear hhv; go_wp2_with (go_at_call 24; refine (rec_widths_walk _).mono ?_; rintro e ww ⟨rfl, hb_⟩; clear hqa_0 hqa_1 hqa_2 hqa_3 hqa_4 hqa_5 hqa_6; replace hba := blk_below hba hb_; replace HB := below_step HB hb_; clear hb_)
   go_roundw
   case rel => exact ⟨5, by omega, by go_num, (by rw [packHead, ← Hhv.out]; simp [packAt]), rfl, hba, HB⟩
   case measure => simp [intOf]
  ·have hp_ : packAt 5 = 25 := rfl; obtain ⟨hv, hhv⟩ : ∃ h, h = packHead [a0_0, wrap64 (a0_1 + 1), (a0_2.size : Int), (a0_3.size : Int), (n4 : Int), a0_6] 5 := ⟨_, rfl⟩; rw [← hhv]; have Hhv := aA hhv; clear hhv; go_wp2_with (go_at_call 24; refine (rec_widths_walk _).mono ?_; rintro e ww ⟨rfl, hb_⟩; clear hqa_0 hqa_1 hqa_2 hqa_3 hqa_4 hqa_5 hqa_6; replace hba := blk_below hba hb_; replace HB := below_step HB hb_; clear hb_)
   go_roundw
   case rel => exact ⟨6, by omega, by go_num, (by rw [packHead, ← Hhv.out]; simp [packAt]), rfl, hba, HB⟩
   case measure => simp [intOf]
  ·obtain ⟨hv, hhv⟩ : ∃ h, h = packHead [a0_0, wrap64 (a0_1 + 1), (a0_2.size : Int), (a0_3.size : Int), (n4 : Int), a0_6] 6 := ⟨_, rfl⟩; rw [← hhv]; have Hhv := aA hhv; clear hhv
   go_upto_region 11 with (first
    | ((with_reducible refine gate_dst (N := 54) rfl ?_); refine Kd.R_lit (Kd.int .u64) w.heap.size 23 ?hg (N := 54) ?hd (xs := [hv, a0_5]) (inner := [.int .u64 hv, .int .u64 a0_5]) (ok := fun _ => True) (okp := fun _ => False) ?hr ?hp (fun _ h_ => h_.elim) trivial HB HB.size (by simp) ?_; (case hd => rfl); (case hg => rfl); (case hr => first | (go_simp; done) | (go_simp; rfl)); (case hp => exact (Reps.one rfl (Reps.one rfl (Reps.none _ _)))); intro vo wo HO hb_ hg_ hat_; obtain ⟨Ao, co, eo_⟩ := Kd.R_slice HO; subst eo_; clear hqa_0 hqa_1 hqa_2 hqa_3 hqa_4 hqa_5 hqa_6; replace hba := blk_grown hba hg_ (by simp); replace HB := hb_; clear hb_ hg_ hat_; have hqa_0 : wo.cell? ⟨ga, 0, none⟩ = some (.int .i64 a0_0) := (blk_cell hba 0).trans rfl; have hqa_1 : wo.cell? ⟨ga, 1, none⟩ = some (.int .i64 a0_1) := (blk_cell hba 1).trans rfl; have hqa_2 : wo.cell? ⟨ga, 2, none⟩ = some (.string a0_2) := (blk_cell hba 2).trans rfl; have hqa_3 : wo.cell? ⟨ga, 3, none⟩ = some (.string a0_3) := (blk_cell hba 3).trans rfl; have hqa_4 : wo.cell? ⟨ga, 4, none⟩ = some (.slice A0_4 l0_4.length c0_4) := (blk_cell hba 4).trans rfl; have hqa_5 : wo.cell? ⟨ga, 5, none⟩ = some (.int .u64 a0_5) := (blk_cell hba 5).trans rfl; have hqa_6 : wo.cell? ⟨ga, 6, none⟩ = some (.int .i64 a0_6) := (blk_cell hba 6).trans rfl))
   by_cases hne : l0_4.length = 0
   ·have hne' : ¬ (0 : Int) < (l0_4.length : Int) := by omega
    go_upto_region 14 with (first
       | fail)
    have HO0 : ∃ (Ap : Option Addr) (cp : Nat), True := ⟨none, 0, trivial⟩; clear HO0; obtain ⟨T, hT⟩ : ∃ T, T = [a0_2, a0_3] ++ l0_4 := ⟨_, rfl⟩; have HTT := aA hT; have HRS := aA (show packWords T [hv, a0_5] T.length = some res from by have h_ := HRES.out; rw [← hT] at h_; unfold packStart at h_; rw [if_pos (by omega)] at h_; rw [Hhv.out, HN4.out]; exact h_); clear hT
    go_wp2_with (first
       | ((with_reducible refine gate_dst (N := 69) rfl ?_); refine Kd.R_lit Kd.string w.heap.size 9 ?hg (N := 69) ?hd (xs := [a0_2, a0_3]) (inner := [.string a0_2, .string a0_3]) (ok := fun _ => True) (okp := fun _ => False) ?hr ?hp (fun _ h_ => h_.elim) trivial HB HB.size (by simp) ?_; (case hd => rfl); (case hg => rfl); (case hr => first | (go_simp; done) | (go_simp; rfl)); (case hp => exact (Reps.one rfl (Reps.one rfl (Reps.none _ _)))); intro vs wS HS hb_ hg_ hat_; obtain ⟨As, cs, es_⟩ := Kd.R_slice HS; subst es_; clear hqa_0 hqa_1 hqa_2 hqa_3 hqa_4 hqa_5 hqa_6; replace hba := blk_grown hba hg_ (by simp); replace HO := Kd.R_grown2 HO rfl hg_ (by simp); replace HB := hb_; clear hb_ hg_ hat_; have hqa_0 : wS.cell? ⟨ga, 0, none⟩ = some (.int .i64 a0_0) := (blk_cell hba 0).trans rfl; have hqa_1 : wS.cell? ⟨ga, 1, none⟩ = some (.int .i64 a0_1) := (blk_cell hba 1).trans rfl; have hqa_2 : wS.cell? ⟨ga, 2, none⟩ = some (.string a0_2) := (blk_cell hba 2).trans rfl; have hqa_3 : wS.cell? ⟨ga, 3, none⟩ = some (.string a0_3) := (blk_cell hba 3).trans rfl; have hqa_4 : wS.cell? ⟨ga, 4, none⟩ = some (.slice A0_4 l0_4.length c0_4) := (blk_cell hba 4).trans rfl; have hqa_5 : wS.cell? ⟨ga, 5, none⟩ = some (.int .u64 a0_5) := (blk_cell hba 5).trans rfl; have hqa_6 : wS.cell? ⟨ga, 6, none⟩ = some (.int .i64 a0_6) := (blk_cell hba 6).trans rfl)
       | ((with_reducible refine gate_dst (N := 72) rfl ?_); refine Kd.event_run rfl (v := .slice (some ⟨wS.heap.size, 0, none⟩) 2 2) (w1 := wS.alloc (.cells #[.slice As ([a0_2, a0_3] : List ByteArray).length cs, .slice A0_4 l0_4.length c0_4] 22)) ?hr ?_; (case hr => first | (go_simp; done) | (go_simp; rfl)); have hbx := blk_new wS (.cells #[.slice As ([a0_2, a0_3] : List ByteArray).length cs, .slice A0_4 l0_4.length c0_4] 22); clear hqa_0 hqa_1 hqa_2 hqa_3 hqa_4 hqa_5 hqa_6; replace hba := blk_alloc hba (.cells #[.slice As ([a0_2, a0_3] : List ByteArray).length cs, .slice A0_4 l0_4.length c0_4] 22); replace HO := Kd.R_alloc HO (.cells #[.slice As ([a0_2, a0_3] : List ByteArray).length cs, .slice A0_4 l0_4.length c0_4] 22); replace HS := Kd.R_alloc HS (.cells #[.slice As ([a0_2, a0_3] : List ByteArray).length cs, .slice A0_4 l0_4.length c0_4] 22); replace HB := below_alloc HB (.cells #[.slice As ([a0_2, a0_3] : List ByteArray).length cs, .slice A0_4 l0_4.length c0_4] 22); generalize wS.heap.size = gx at hbx ⊢; generalize wS.alloc (.cells #[.slice As ([a0_2, a0_3] : List ByteArray).length cs, .slice A0_4 l0_4.length c0_4] 22) = wX at hbx hba HO HS HB ⊢; have hqa_0 : wX.cell? ⟨ga, 0, none⟩ = some (.int .i64 a0_0) := (blk_cell hba 0).trans rfl; have hqa_1 : wX.cell? ⟨ga, 1, none⟩ = some (.int .i64 a0_1) := (blk_cell hba 1).trans rfl; have hqa_2 : wX.cell? ⟨ga, 2, none⟩ = some (.string a0_2) := (blk_cell hba 2).trans rfl; have hqa_3 : wX.cell? ⟨ga, 3, none⟩ = some (.string a0_3) := (blk_cell hba 3).trans rfl; have hqa_4 : wX.cell? ⟨ga, 4, none⟩ = some (.slice A0_4 l0_4.length c0_4) := (blk_cell hba 4).trans rfl; have hqa_5 : wX.cell? ⟨ga, 5, none⟩ = some (.int .u64 a0_5) := (blk_cell hba 5).trans rfl; have hqa_6 : wX.cell? ⟨ga, 6, none⟩ = some (.int .i64 a0_6) := (blk_cell hba 6).trans rfl)
       | (go_at_call 26; refine (rec_concat_walk gx As A0_4 cs c0_4 [a0_2, a0_3] l0_4 _ hbx (Kd.R_reads' HS).2.2 (Kd.C_below HR.out HB) (by have h_ := HBD.out; simp only [List.length_cons, List.length_nil]; omega)).mono ?_; rintro e wT ⟨vt, rfl, HT, hb_⟩; obtain ⟨At, ct, et_⟩ := Kd.R_slice HT; replace HT := Kd.R_lower HT HB.size; rw [← HTT.out] at HT et_; subst et_; clear hqa_0 hqa_1 hqa_2 hqa_3 hqa_4 hqa_5 hqa_6 hba hbx HS; replace HO := Kd.R_below HO hb_; replace HB := below_step HB hb_; clear hb_))
    have hT18 : T.length ≤ 100 := (by rw [HTT.out, List.length_append, List.length_cons, List.length_cons, List.length_nil]; have h_ := HBD.out; omega); go_loopw [75, 8] (fun i s wr => ∃ (k : Nat) (out : List Int), k ≤ T.length ∧ i = .int .i64 k ∧ packWords T [hv, a0_5] k = some out ∧ Kd.R (Kd.int .u64) 23 wr w.heap.size (fun _ => True) s out ∧ Kd.R Kd.string 9 wr w.heap.size (fun _ => True) (.slice At T.length ct) T ∧ Below w.heap.size w wr) (fun i _ _ => T.length - (intOf i).toNat)
    case atStart => exact ⟨0, _, Nat.zero_le _, rfl, rfl, HO, HT, HB⟩
    case round =>
     clear HO HT HB; obtain ⟨k, out, hk, rfl, hpk, HO, HT, HB⟩ := hrel; have HPK := aA hpk; clear hpk; by_cases hlt : k < T.length
     ·obtain ⟨ys, hys⟩ := packWords_some HRS.out (k + 1) (by omega); obtain ⟨aw, hw_, hl_, hy_⟩ := packWords_step HPK.out hys; obtain ⟨ad, ea_, hx⟩ := Kd.at_string (Kd.R_reads' HT).2.2 (k : Int) (by omega) (by omega); subst ea_; rw [Int.toNat_natCast] at hx; obtain ⟨x, hxe⟩ : ∃ x, x = rdOf ByteArray.empty T k := ⟨_, rfl⟩; rw [← hxe] at hx hw_; have HW_ := aA hw_; have HLT := aA (show (out.length + aw.length) * 8 ≤ 140737488355328 by omega); have HYS := aA hys; have HY := aA hy_; clear hxe hw_ hl_ hys hy_; have hlt' : (k : Int) < (T.length : Int) := by omega
      go_wp2_with (first
       | (go_at_call 22; refine (rec_Words.calls (x.size + 2) x aw _ HW_.out).mono ?_; rintro e ww ⟨va, rfl, HA, hb_⟩; obtain ⟨Aw, cw, ew_⟩ := Kd.R_slice HA; replace HA := Kd.R_lower HA HB.size; subst ew_; clear hx; replace HO := Kd.R_below HO hb_; replace HT := Kd.R_below HT hb_; replace HB := below_step HB hb_; clear hb_)
       | ((with_reducible refine gate_dst (N := 82) rfl ?_); refine Kd.R_append_rows (Kd.int .u64) (w0 := w) w.heap.size rfl (.tmp 79) (.tmp 81) 28 23 (.int .u64 0) 8 rfl Try.underlying28 (by kernel_rfl) rfl (by decide) (by omega) _ out aw Aw aw.length cw (fun _ => True) (fun _ => False) rfl rfl HO (Kd.R_reads' HA).2.2 (fun _ _ h => h) (fun _ h => h.elim) (fun _ _ => trivial) HB HB.size (by have h_ := HLT.out; omega) ?_; intro v1 w1 HO1 hb_ hg_ hat_; have HT1 := Kd.R_mono (Kd.R_grown (Kd.R_apartR HT HO (by decide)) hg_ (fun _ h_ => h_.2)) (ok' := fun _ => True) (fun _ _ => trivial); clear HO HT HA HB hg_ hat_; have HO := HO1; have HT := HT1; have HB := hb_; clear HO1 HT1 hb_))
      go_roundw
      case rel => exact ⟨k + 1, _, by omega, by go_num, by rw [HYS.out, HY.out], HO, HT, HB⟩
      case measure => simp [intOf]; omega
     ·have hkl : k = T.length := by omega
      subst hkl; go_wp2; go_ret2
      have hr_ : out = res := by have h1_ := HPK.out; rw [HRS.out] at h1_; injection h1_ with h1_; exact h1_.symm
      subst hr_; exact ⟨_, rfl, HO, HB⟩
   ·have hne' : (0 : Int) < (l0_4.length : Int) := by omega
    have hne2 : 0 < l0_4.length := by omega
    go_upto_region 13 with (first
       | (go_at_call 25; refine (rec_lengths_walk A0_4 c0_4 l0_4 _ (Kd.C_below HR.out HB) (by have h_ := HBD.out; omega)).mono ?_; rintro e wl ⟨rfl, hb_⟩; clear hqa_0 hqa_1 hqa_2 hqa_3 hqa_4 hqa_5 hqa_6; replace hba := blk_below hba hb_; replace HO := Kd.R_below HO hb_; replace HB := below_step HB hb_; clear hb_; have hqa_0 : wl.cell? ⟨ga, 0, none⟩ = some (.int .i64 a0_0) := (blk_cell hba 0).trans rfl; have hqa_1 : wl.cell? ⟨ga, 1, none⟩ = some (.int .i64 a0_1) := (blk_cell hba 1).trans rfl; have hqa_2 : wl.cell? ⟨ga, 2, none⟩ = some (.string a0_2) := (blk_cell hba 2).trans rfl; have hqa_3 : wl.cell? ⟨ga, 3, none⟩ = some (.string a0_3) := (blk_cell hba 3).trans rfl; have hqa_4 : wl.cell? ⟨ga, 4, none⟩ = some (.slice A0_4 l0_4.length c0_4) := (blk_cell hba 4).trans rfl; have hqa_5 : wl.cell? ⟨ga, 5, none⟩ = some (.int .u64 a0_5) := (blk_cell hba 5).trans rfl; have hqa_6 : wl.cell? ⟨ga, 6, none⟩ = some (.int .i64 a0_6) := (blk_cell hba 6).trans rfl)
       | ((with_reducible refine gate_dst (N := 9) rfl ?_); (with_reducible refine gate_ (.alloc 55) rfl ?_); refine box_event (N := 9) rfl rfl (cs := #[.int .u64 0, .int .u64 0]) (t := 55) (by first | (go_simp; done) | (go_simp; rfl)) ?_; intro gu hg_ wu_ hbu hbl_; have HGu : w.heap.size ≤ gu := (by rw [hg_]; exact Nat.le_trans (by first | exact Nat.le_refl _ | exact HB.size) (Nat.le_refl _)); have HNu_a : gu ≠ ga := (by rw [hg_]; exact Nat.ne_of_gt (blk_lt (by exact hba))); clear hqa_0 hqa_1 hqa_2 hqa_3 hqa_4 hqa_5 hqa_6; replace hba := blk_below (by exact hba) hbl_; have hqa_0 : wu_.cell? ⟨ga, 0, none⟩ = some (.int .i64 a0_0) := (blk_cell hba 0).trans rfl; have hqa_1 : wu_.cell? ⟨ga, 1, none⟩ = some (.int .i64 a0_1) := (blk_cell hba 1).trans rfl; have hqa_2 : wu_.cell? ⟨ga, 2, none⟩ = some (.string a0_2) := (blk_cell hba 2).trans rfl; have hqa_3 : wu_.cell? ⟨ga, 3, none⟩ = some (.string a0_3) := (blk_cell hba 3).trans rfl; have hqa_4 : wu_.cell? ⟨ga, 4, none⟩ = some (.slice A0_4 l0_4.length c0_4) := (blk_cell hba 4).trans rfl; have hqa_5 : wu_.cell? ⟨ga, 5, none⟩ = some (.int .u64 a0_5) := (blk_cell hba 5).trans rfl; have hqa_6 : wu_.cell? ⟨ga, 6, none⟩ = some (.int .i64 a0_6) := (blk_cell hba 6).trans rfl; replace HO := Kd.R_below HO hbl_; replace HB := below_step (blw HB) hbl_; clear hg_ hbl_; have hqu_0 : wu_.cell? ⟨gu, 0, none⟩ = some (.int .u64 0) := (blk_cell hbu 0).trans rfl; have hqu_1 : wu_.cell? ⟨gu, 1, none⟩ = some (.int .u64 0) := (blk_cell hbu 1).trans rfl)
       | ((with_reducible refine gate_ (.store 55 (.tmp 9) (.tmp 61)) rfl ?_); have hbu0_ := hbu; refine blk_store_all (w0 := w) (base := w.heap.size) (u := .agg #[.int .u64 (lensAt l0_4 l0_4.length).1, .int .u64 (lensAt l0_4 l0_4.length).2]) (seg := [.int .u64 (lensAt l0_4 l0_4.length).1, .int .u64 (lensAt l0_4 l0_4.length).2]) rfl rfl rfl rfl rfl rfl ?h1_ ?ht_ (by exact hbu) (by rfl) (blw HB) HGu ?_; (case ht_ => kernel_rfl); (case h1_ => intro q_ hq_; simp only [List.mem_cons, List.not_mem_nil, or_false] at hq_; rcases hq_ with rfl | rfl <;> rfl); intro wu_2 hb2_ HB2_ hgr_; clear hqa_0 hqa_1 hqa_2 hqa_3 hqa_4 hqa_5 hqa_6; replace hba := blk_grown (by exact hba) hgr_ (fun e_ => by injection e_ with e_; exact HNu_a.symm e_); clear hqu_0 hqu_1; replace hbu := hb2_; replace HO := Kd.R_grown2 HO rfl hgr_ (fun k e_ => by injection e_ with e_; subst e_; exact Kd.R_ne HO hbu0_ (by decide)); replace HB := HB2_; clear hb2_ HB2_ hgr_; have hqa_0 : wu_2.cell? ⟨ga, 0, none⟩ = some (.int .i64 a0_0) := (blk_cell hba 0).trans rfl; have hqa_1 : wu_2.cell? ⟨ga, 1, none⟩ = some (.int .i64 a0_1) := (blk_cell hba 1).trans rfl; have hqa_2 : wu_2.cell? ⟨ga, 2, none⟩ = some (.string a0_2) := (blk_cell hba 2).trans rfl; have hqa_3 : wu_2.cell? ⟨ga, 3, none⟩ = some (.string a0_3) := (blk_cell hba 3).trans rfl; have hqa_4 : wu_2.cell? ⟨ga, 4, none⟩ = some (.slice A0_4 l0_4.length c0_4) := (blk_cell hba 4).trans rfl; have hqa_5 : wu_2.cell? ⟨ga, 5, none⟩ = some (.int .u64 a0_5) := (blk_cell hba 5).trans rfl; have hqa_6 : wu_2.cell? ⟨ga, 6, none⟩ = some (.int .i64 a0_6) := (blk_cell hba 6).trans rfl; have hqu_0 : wu_2.cell? ⟨gu, 0, none⟩ = some (.int .u64 (lensAt l0_4 l0_4.length).1) := (blk_cell hbu 0).trans rfl; have hqu_1 : wu_2.cell? ⟨gu, 1, none⟩ = some (.int .u64 (lensAt l0_4 l0_4.length).2) := (blk_cell hbu 1).trans rfl))
    try (simp only [Act.put, List.setIfInBounds_toArray, List.set_cons_zero, List.set_cons_succ])
    go_upto_region 14 with ((with_reducible refine gate_dst (N := 64) rfl ?_); refine Kd.R_append_rows (Kd.int .u64) (w0 := w) w.heap.size rfl (.tmp 62) (.tmp 63) 28 23 (.int .u64 0) 8 rfl Try.underlying28 (by kernel_rfl) rfl (by decide) (by omega) _ [hv, a0_5] [(lensAt l0_4 l0_4.length).1, (lensAt l0_4 l0_4.length).2] (some ⟨gu, 0, none⟩) 2 2 (fun _ => True) (fun _ => False) rfl rfl HO (blk_C (enc := Value.int .u64) (h1 := fun _ => rfl) [(lensAt l0_4 l0_4.length).1, (lensAt l0_4 l0_4.length).2] 0 hbu (by simp)) (fun _ _ h => h) (fun _ h => h.elim) (fun _ _ => trivial) HB HB.size (by simp) ?_; intro v1 w1 HO1 hb_ hg_ hat_; clear hqu_0 hqu_1 hqa_0 hqa_1 hqa_2 hqa_3 hqa_4 hqa_5 hqa_6; replace hba := blk_grown hba hg_ (Kd.R_ne HO hba (by decide)); clear HO HB hbu hg_ hat_; have HO := HO1; have HB := hb_; clear HO1 hb_; obtain ⟨Ao2, co2, eo_⟩ := Kd.R_slice HO; subst eo_; have hqa_0 : w1.cell? ⟨ga, 0, none⟩ = some (.int .i64 a0_0) := (blk_cell hba 0).trans rfl; have hqa_1 : w1.cell? ⟨ga, 1, none⟩ = some (.int .i64 a0_1) := (blk_cell hba 1).trans rfl; have hqa_2 : w1.cell? ⟨ga, 2, none⟩ = some (.string a0_2) := (blk_cell hba 2).trans rfl; have hqa_3 : w1.cell? ⟨ga, 3, none⟩ = some (.string a0_3) := (blk_cell hba 3).trans rfl; have hqa_4 : w1.cell? ⟨ga, 4, none⟩ = some (.slice A0_4 l0_4.length c0_4) := (blk_cell hba 4).trans rfl; have hqa_5 : w1.cell? ⟨ga, 5, none⟩ = some (.int .u64 a0_5) := (blk_cell hba 5).trans rfl; have hqa_6 : w1.cell? ⟨ga, 6, none⟩ = some (.int .i64 a0_6) := (blk_cell hba 6).trans rfl)
    have HO0 : ∃ (Ap : Option Addr) (cp : Nat), True := ⟨none, 0, trivial⟩; clear HO0; obtain ⟨T, hT⟩ : ∃ T, T = [a0_2, a0_3] ++ l0_4 := ⟨_, rfl⟩; have HTT := aA hT; have HRS := aA (show packWords T ([hv, a0_5] ++ [(lensAt l0_4 l0_4.length).1, (lensAt l0_4 l0_4.length).2]) T.length = some res from by have h_ := HRES.out; rw [← hT] at h_; unfold packStart at h_; rw [if_neg (by omega)] at h_; rw [Hhv.out, HN4.out]; exact h_); clear hT
    go_wp2_with (first
       | ((with_reducible refine gate_dst (N := 69) rfl ?_); refine Kd.R_lit Kd.string w.heap.size 9 ?hg (N := 69) ?hd (xs := [a0_2, a0_3]) (inner := [.string a0_2, .string a0_3]) (ok := fun _ => True) (okp := fun _ => False) ?hr ?hp (fun _ h_ => h_.elim) trivial HB HB.size (by simp) ?_; (case hd => rfl); (case hg => rfl); (case hr => first | (go_simp; done) | (go_simp; rfl)); (case hp => exact (Reps.one rfl (Reps.one rfl (Reps.none _ _)))); intro vs wS HS hb_ hg_ hat_; obtain ⟨As, cs, es_⟩ := Kd.R_slice HS; subst es_; clear hqa_0 hqa_1 hqa_2 hqa_3 hqa_4 hqa_5 hqa_6; replace hba := blk_grown hba hg_ (by simp); replace HO := Kd.R_grown2 HO rfl hg_ (by simp); replace HB := hb_; clear hb_ hg_ hat_; have hqa_0 : wS.cell? ⟨ga, 0, none⟩ = some (.int .i64 a0_0) := (blk_cell hba 0).trans rfl; have hqa_1 : wS.cell? ⟨ga, 1, none⟩ = some (.int .i64 a0_1) := (blk_cell hba 1).trans rfl; have hqa_2 : wS.cell? ⟨ga, 2, none⟩ = some (.string a0_2) := (blk_cell hba 2).trans rfl; have hqa_3 : wS.cell? ⟨ga, 3, none⟩ = some (.string a0_3) := (blk_cell hba 3).trans rfl; have hqa_4 : wS.cell? ⟨ga, 4, none⟩ = some (.slice A0_4 l0_4.length c0_4) := (blk_cell hba 4).trans rfl; have hqa_5 : wS.cell? ⟨ga, 5, none⟩ = some (.int .u64 a0_5) := (blk_cell hba 5).trans rfl; have hqa_6 : wS.cell? ⟨ga, 6, none⟩ = some (.int .i64 a0_6) := (blk_cell hba 6).trans rfl)
       | ((with_reducible refine gate_dst (N := 72) rfl ?_); refine Kd.event_run rfl (v := .slice (some ⟨wS.heap.size, 0, none⟩) 2 2) (w1 := wS.alloc (.cells #[.slice As ([a0_2, a0_3] : List ByteArray).length cs, .slice A0_4 l0_4.length c0_4] 22)) ?hr ?_; (case hr => first | (go_simp; done) | (go_simp; rfl)); have hbx := blk_new wS (.cells #[.slice As ([a0_2, a0_3] : List ByteArray).length cs, .slice A0_4 l0_4.length c0_4] 22); clear hqa_0 hqa_1 hqa_2 hqa_3 hqa_4 hqa_5 hqa_6; replace hba := blk_alloc hba (.cells #[.slice As ([a0_2, a0_3] : List ByteArray).length cs, .slice A0_4 l0_4.length c0_4] 22); replace HO := Kd.R_alloc HO (.cells #[.slice As ([a0_2, a0_3] : List ByteArray).length cs, .slice A0_4 l0_4.length c0_4] 22); replace HS := Kd.R_alloc HS (.cells #[.slice As ([a0_2, a0_3] : List ByteArray).length cs, .slice A0_4 l0_4.length c0_4] 22); replace HB := below_alloc HB (.cells #[.slice As ([a0_2, a0_3] : List ByteArray).length cs, .slice A0_4 l0_4.length c0_4] 22); generalize wS.heap.size = gx at hbx ⊢; generalize wS.alloc (.cells #[.slice As ([a0_2, a0_3] : List ByteArray).length cs, .slice A0_4 l0_4.length c0_4] 22) = wX at hbx hba HO HS HB ⊢; have hqa_0 : wX.cell? ⟨ga, 0, none⟩ = some (.int .i64 a0_0) := (blk_cell hba 0).trans rfl; have hqa_1 : wX.cell? ⟨ga, 1, none⟩ = some (.int .i64 a0_1) := (blk_cell hba 1).trans rfl; have hqa_2 : wX.cell? ⟨ga, 2, none⟩ = some (.string a0_2) := (blk_cell hba 2).trans rfl; have hqa_3 : wX.cell? ⟨ga, 3, none⟩ = some (.string a0_3) := (blk_cell hba 3).trans rfl; have hqa_4 : wX.cell? ⟨ga, 4, none⟩ = some (.slice A0_4 l0_4.length c0_4) := (blk_cell hba 4).trans rfl; have hqa_5 : wX.cell? ⟨ga, 5, none⟩ = some (.int .u64 a0_5) := (blk_cell hba 5).trans rfl; have hqa_6 : wX.cell? ⟨ga, 6, none⟩ = some (.int .i64 a0_6) := (blk_cell hba 6).trans rfl)
       | (go_at_call 26; refine (rec_concat_walk gx As A0_4 cs c0_4 [a0_2, a0_3] l0_4 _ hbx (Kd.R_reads' HS).2.2 (Kd.C_below HR.out HB) (by have h_ := HBD.out; simp only [List.length_cons, List.length_nil]; omega)).mono ?_; rintro e wT ⟨vt, rfl, HT, hb_⟩; obtain ⟨At, ct, et_⟩ := Kd.R_slice HT; replace HT := Kd.R_lower HT HB.size; rw [← HTT.out] at HT et_; subst et_; clear hqa_0 hqa_1 hqa_2 hqa_3 hqa_4 hqa_5 hqa_6 hba hbx HS; replace HO := Kd.R_below HO hb_; replace HB := below_step HB hb_; clear hb_))
    have hT18 : T.length ≤ 100 := (by rw [HTT.out, List.length_append, List.length_cons, List.length_cons, List.length_nil]; have h_ := HBD.out; omega); go_loopw [75, 8] (fun i s wr => ∃ (k : Nat) (out : List Int), k ≤ T.length ∧ i = .int .i64 k ∧ packWords T ([hv, a0_5] ++ [(lensAt l0_4 l0_4.length).1, (lensAt l0_4 l0_4.length).2]) k = some out ∧ Kd.R (Kd.int .u64) 23 wr w.heap.size (fun _ => True) s out ∧ Kd.R Kd.string 9 wr w.heap.size (fun _ => True) (.slice At T.length ct) T ∧ Below w.heap.size w wr) (fun i _ _ => T.length - (intOf i).toNat)
    case atStart => exact ⟨0, _, Nat.zero_le _, rfl, rfl, HO, HT, HB⟩
    case round =>
     clear HO HT HB; obtain ⟨k, out, hk, rfl, hpk, HO, HT, HB⟩ := hrel; have HPK := aA hpk; clear hpk; by_cases hlt : k < T.length
     ·obtain ⟨ys, hys⟩ := packWords_some HRS.out (k + 1) (by omega); obtain ⟨aw, hw_, hl_, hy_⟩ := packWords_step HPK.out hys; obtain ⟨ad, ea_, hx⟩ := Kd.at_string (Kd.R_reads' HT).2.2 (k : Int) (by omega) (by omega); subst ea_; rw [Int.toNat_natCast] at hx; obtain ⟨x, hxe⟩ : ∃ x, x = rdOf ByteArray.empty T k := ⟨_, rfl⟩; rw [← hxe] at hx hw_; have HW_ := aA hw_; have HLT := aA (show (out.length + aw.length) * 8 ≤ 140737488355328 by omega); have HYS := aA hys; have HY := aA hy_; clear hxe hw_ hl_ hys hy_; have hlt' : (k : Int) < (T.length : Int) := by omega
      go_wp2_with (first
       | (go_at_call 22; refine (rec_Words.calls (x.size + 2) x aw _ HW_.out).mono ?_; rintro e ww ⟨va, rfl, HA, hb_⟩; obtain ⟨Aw, cw, ew_⟩ := Kd.R_slice HA; replace HA := Kd.R_lower HA HB.size; subst ew_; clear hx; replace HO := Kd.R_below HO hb_; replace HT := Kd.R_below HT hb_; replace HB := below_step HB hb_; clear hb_)
       | ((with_reducible refine gate_dst (N := 82) rfl ?_); refine Kd.R_append_rows (Kd.int .u64) (w0 := w) w.heap.size rfl (.tmp 79) (.tmp 81) 28 23 (.int .u64 0) 8 rfl Try.underlying28 (by kernel_rfl) rfl (by decide) (by omega) _ out aw Aw aw.length cw (fun _ => True) (fun _ => False) rfl rfl HO (Kd.R_reads' HA).2.2 (fun _ _ h => h) (fun _ h => h.elim) (fun _ _ => trivial) HB HB.size (by have h_ := HLT.out; omega) ?_; intro v1 w1 HO1 hb_ hg_ hat_; have HT1 := Kd.R_mono (Kd.R_grown (Kd.R_apartR HT HO (by decide)) hg_ (fun _ h_ => h_.2)) (ok' := fun _ => True) (fun _ _ => trivial); clear HO HT HA HB hg_ hat_; have HO := HO1; have HT := HT1; have HB := hb_; clear HO1 HT1 hb_))
      go_roundw
      case rel => exact ⟨k + 1, _, by omega, by go_num, by rw [HYS.out, HY.out], HO, HT, HB⟩
      case measure => simp [intOf]; omega
     ·have hkl : k = T.length := by omega
      subst hkl; go_wp2; go_ret2
      have hr_ : out = res := by have h1_ := HPK.out; rw [HRS.out] at h1_; injection h1_ with h1_; exact h1_.symm
      subst hr_; exact ⟨_, rfl, HO, HB⟩
set_option maxHeartbeats 3200000 in
set_option maxRecDepth 100000 in
theorem rec_Pack_no (a0_0 : Int) (a0_1 : Int) (a0_2 : ByteArray) (a0_3 : ByteArray) (A0_4 : Option Addr) (c0_4 : Nat) (l0_4 : List ByteArray) (a0_5 : Int) (a0_6 : Int) (w : World) (hr0_4 : Kd.C Kd.string w A0_4 l0_4.length l0_4) (hc0_4 : l0_4.length ≤ c0_4) (hM : recMay a0_0 a0_1 a0_2 a0_3 l0_4 a0_6 = false) :
  Calls Try.prog 11 #[.agg #[.int .i64 a0_0, .int .i64 a0_1, .string a0_2, .string a0_3, .slice A0_4 l0_4.length c0_4, .int .u64 a0_5, .int .i64 a0_6]] w fun e w' => e = .returned (.tuple #[.slice none 0 0, .int .i64 1]) ∧ Below w.heap.size w w' := by
 have hu := Try.underlying27; have hu2 := Try.underlying25; have HR := aA hr0_4; have HMay := aA (show rec_May.f a0_0 a0_1 a0_2 a0_3 l0_4 a0_5 a0_6 = some false from congrArg some hM); have HB := Below.refl w.heap.size w; clear hr0_4 hM; go_enter Try.func11, Try.ntmps11
 go_wp2_with (first
  | ((with_reducible refine gate_dst (N := 1) rfl ?_); (with_reducible refine gate_ (.box 27 (.tmp 0)) rfl ?_); refine box_event (N := 1) rfl rfl (cs := #[.int .i64 a0_0, .int .i64 a0_1, .string a0_2, .string a0_3, .slice A0_4 l0_4.length c0_4, .int .u64 a0_5, .int .i64 a0_6]) (t := 27) (by first | (go_simp; done) | (go_simp; rfl)) ?_; intro ga hg_ wa_ hba hbl_; have HGa : w.heap.size ≤ ga := (by rw [hg_]; exact Nat.le_trans (by first | exact Nat.le_refl _ | exact HB.size) (Nat.le_refl _)); replace HB := below_step (blw HB) hbl_; clear hg_ hbl_; have hqa_0 : wa_.cell? ⟨ga, 0, none⟩ = some (.int .i64 a0_0) := (blk_cell hba 0).trans rfl; have hqa_1 : wa_.cell? ⟨ga, 1, none⟩ = some (.int .i64 a0_1) := (blk_cell hba 1).trans rfl; have hqa_2 : wa_.cell? ⟨ga, 2, none⟩ = some (.string a0_2) := (blk_cell hba 2).trans rfl; have hqa_3 : wa_.cell? ⟨ga, 3, none⟩ = some (.string a0_3) := (blk_cell hba 3).trans rfl; have hqa_4 : wa_.cell? ⟨ga, 4, none⟩ = some (.slice A0_4 l0_4.length c0_4) := (blk_cell hba 4).trans rfl; have hqa_5 : wa_.cell? ⟨ga, 5, none⟩ = some (.int .u64 a0_5) := (blk_cell hba 5).trans rfl; have hqa_6 : wa_.cell? ⟨ga, 6, none⟩ = some (.int .i64 a0_6) := (blk_cell hba 6).trans rfl)
  | ((with_reducible refine gate_dst (N := 13) rfl ?_); (with_reducible refine gate_callee (f := 16) rfl ?_); refine goesL_ (some 13) rfl rfl Try.func16 (by kernel_rfl) rfl #[.agg #[.int .i64 a0_0, .int .i64 a0_1, .string a0_2, .string a0_3, .slice A0_4 l0_4.length c0_4, .int .u64 a0_5, .int .i64 a0_6]] rfl (by (try simp only [List.map_toArray, List.map_cons, List.map_nil]); first | done | rfl | kernel_rfl) ?_; refine (rec_May.calls a0_0 a0_1 a0_2 a0_3 A0_4 c0_4 l0_4 a0_5 a0_6 false _ (Kd.C_below HR.out HB) hc0_4 HMay.out).mono ?_; rintro e wc2_ ⟨rfl, hb_⟩; clear hqa_0 hqa_1 hqa_2 hqa_3 hqa_4 hqa_5 hqa_6; replace hba := blk_below (by exact hba) hb_; have hqa_0 : wc2_.cell? ⟨ga, 0, none⟩ = some (.int .i64 a0_0) := (blk_cell hba 0).trans rfl; have hqa_1 : wc2_.cell? ⟨ga, 1, none⟩ = some (.int .i64 a0_1) := (blk_cell hba 1).trans rfl; have hqa_2 : wc2_.cell? ⟨ga, 2, none⟩ = some (.string a0_2) := (blk_cell hba 2).trans rfl; have hqa_3 : wc2_.cell? ⟨ga, 3, none⟩ = some (.string a0_3) := (blk_cell hba 3).trans rfl; have hqa_4 : wc2_.cell? ⟨ga, 4, none⟩ = some (.slice A0_4 l0_4.length c0_4) := (blk_cell hba 4).trans rfl; have hqa_5 : wc2_.cell? ⟨ga, 5, none⟩ = some (.int .u64 a0_5) := (blk_cell hba 5).trans rfl; have hqa_6 : wc2_.cell? ⟨ga, 6, none⟩ = some (.int .i64 a0_6) := (blk_cell hba 6).trans rfl; replace HB := below_step (blw HB) hb_; clear hb_; refine ⟨_, rfl, ?_⟩))
 go_ret2
 exact ⟨rfl, HB⟩
def rec_Pack.f (a0_0 : Int) (a0_1 : Int) (a0_2 : ByteArray) (a0_3 : ByteArray) (l0_4 : List ByteArray) (a0_5 : Int) (a0_6 : Int) : Option (List Int × Int) := if recMay a0_0 a0_1 a0_2 a0_3 l0_4 a0_6 = true then (packWords ([a0_2, a0_3] ++ l0_4) (packStart a0_0 a0_1 a0_2 a0_3 l0_4 a0_5 a0_6) ([a0_2, a0_3] ++ l0_4).length).bind fun ws => some (ws, 0) else some ([], 1)
theorem rec_Pack.calls (a0_0 : Int) (a0_1 : Int) (a0_2 : ByteArray) (a0_3 : ByteArray) (A0_4 : Option Addr) (c0_4 : Nat) (l0_4 : List ByteArray) (a0_5 : Int) (a0_6 : Int) (r1 : List Int) (r2 : Int) (w : World) (hr0_4 : Kd.C Kd.string w A0_4 l0_4.length l0_4) (hc0_4 : l0_4.length ≤ c0_4) (h : rec_Pack.f a0_0 a0_1 a0_2 a0_3 l0_4 a0_5 a0_6 = some (r1, r2)) :
  Calls Try.prog 11 #[.agg #[.int .i64 a0_0, .int .i64 a0_1, .string a0_2, .string a0_3, .slice A0_4 l0_4.length c0_4, .int .u64 a0_5, .int .i64 a0_6]] w fun e w' => ∃ v0_ : Value, e = .returned (.tuple #[v0_, .int .i64 r2]) ∧ Kd.R (Kd.int .u64) 23 w' w.heap.size (fun _ => True) v0_ r1 ∧ Below w.heap.size w w' := by
 unfold rec_Pack.f at h; split at h
 ·rename_i hM
  obtain ⟨ws, hW, h⟩ := Option.bind_eq_some_iff.1 h; simp only [Option.some.injEq, Prod.mk.injEq] at h; obtain ⟨rfl, rfl⟩ := h; exact rec_Pack_yes a0_0 a0_1 a0_2 a0_3 A0_4 c0_4 l0_4 a0_5 a0_6 w hr0_4 hc0_4 hM _ hW
 ·rename_i hM
  simp only [Option.some.injEq, Prod.mk.injEq] at h; obtain ⟨rfl, rfl⟩ := h; refine (rec_Pack_no a0_0 a0_1 a0_2 a0_3 A0_4 c0_4 l0_4 a0_5 a0_6 w hr0_4 hc0_4 (by simpa using hM)).mono ?_; rintro e w' ⟨he, hb⟩
  exact ⟨_, he, Kd.R_nil _ _ _ _ _, hb⟩

/-! ### slices_Equal_uint64_uint64: function 31 -/
def slices_Equal_uint64_uint64.l0 : Nat → List Int → List Int → Int → Int → Option (Bool)
 | 0, _, _, _, _ => none
 | k + 1, x0, x1, x12, x13 => if x13 < x12 then (if 0 ≤ x13 then (if x13 < (x0.length : Int) then (if x13 < (x1.length : Int) then (if (rd x0 x13) = (rd x1 x13) then (slices_Equal_uint64_uint64.l0 k x0 x1 x12 (wrap64 (x13 + 1))) else (some false)) else (none)) else (none)) else (none)) else (some true)
def slices_Equal_uint64_uint64.f (k : Nat) (l0 : List Int) (l1 : List Int) : Option (Bool) := if (l0.length : Int) = (l1.length : Int) then (slices_Equal_uint64_uint64.l0 k l0 l1 (l0.length : Int) 0) else (some false)
theorem slices_Equal_uint64_uint64.mono_l : ∀ k, (∀ y0 y1 y2 y3, LeO (slices_Equal_uint64_uint64.l0 k y0 y1 y2 y3) (slices_Equal_uint64_uint64.l0 (k + 1) y0 y1 y2 y3))
 | 0 => fun _ _ _ _ r h => by simp [slices_Equal_uint64_uint64.l0] at h
 | k + 1 => by
  have ih0 := slices_Equal_uint64_uint64.mono_l k
  ·intro y0 y1 y2 y3
   unfold slices_Equal_uint64_uint64.l0; repeat' first
   | (with_reducible exact ih0 _ _ _ _)
   | (with_reducible exact LeO.refl _)
   | (with_reducible exact LeO.none _)
   | (with_reducible refine LeO.ite ?_ ?_)
   | (with_reducible refine LeO.bind ?_ (fun _ => ?_))
   | exact ih0 _ _ _ _
   | exact LeO.none _
   | refine LeO.ite ?_ ?_
   | refine LeO.bind ?_ (fun _ => ?_)
theorem slices_Equal_uint64_uint64.mono : ∀ a0 a1 k, LeO (slices_Equal_uint64_uint64.f k a0 a1) (slices_Equal_uint64_uint64.f (k + 1) a0 a1) := by
 intro a0 a1 k
 have ih0 := slices_Equal_uint64_uint64.mono_l k; unfold slices_Equal_uint64_uint64.f
 repeat' first
   | (with_reducible exact ih0 _ _ _ _)
   | (with_reducible exact LeO.refl _)
   | (with_reducible exact LeO.none _)
   | (with_reducible refine LeO.ite ?_ ?_)
   | (with_reducible refine LeO.bind ?_ (fun _ => ?_))
   | exact ih0 _ _ _ _
   | exact LeO.none _
   | refine LeO.ite ?_ ?_
   | refine LeO.bind ?_ (fun _ => ?_)
set_option maxHeartbeats 8000000 in
set_option maxRecDepth 100000 in
theorem slices_Equal_uint64_uint64.calls (k : Nat) (A0 : Option Addr) (c0 : Nat) (l0 : List Int) (A1 : Option Addr) (c1 : Nat) (l1 : List Int) (r : Bool) (w : World) (hr0 : Kd.C (Kd.int .u64) w A0 l0.length l0) (hc0 : l0.length ≤ c0) (hr1 : Kd.C (Kd.int .u64) w A1 l1.length l1) (hc1 : l1.length ≤ c1) (h : slices_Equal_uint64_uint64.f k l0 l1 = some r) :
  Calls Try.prog 31 #[.slice A0 l0.length c0, .slice A1 l1.length c1] w fun e w' => e = .returned (.bool r) ∧ Drawn0 w w' := by
 have HR0 := aA hr0; have HC0 := aA hc0; clear hr0 hc0; have HR1 := aA hr1; have HC1 := aA hc1; clear hr1 hc1; have H : (if (l0.length : Int) = (l1.length : Int) then (slices_Equal_uint64_uint64.l0 k l0 l1 (l0.length : Int) 0) else (some false)) = some r := h; clear h; by_cases c3 : (l0.length : Int) = (l1.length : Int)
 ·rw [if_pos c3] at H; have c3b0 : ((l0.length : Int) == (l1.length : Int)) = true := beq_iff_eq.mpr c3; have c3b1 : ((l0.length : Int) != (l1.length : Int)) = false := bne_eq_false_iff_eq.mpr c3; have c3b2 : (l0.length == l1.length) = true := by first | simpa using c3 | (simp at c3 ⊢; omega)
  clear c3; have H' := aA H; clear H; go_enter Try.func31, Try.ntmps31; go_wp2; repeat (go_quiet (fail); try go_wp2)
  go_loopg [13] k (fun kq v13 w' => ∃ (x13_1 : Int), v13 = .int .i64 x13_1 ∧ Aside0 (slices_Equal_uint64_uint64.l0 kq l0 l1 (l0.length : Int) x13_1 = some r) ∧ Aside0 (kq ≤ k) ∧ Drawn0 w w')
  case atStart => exact ⟨(0), (by first | rfl | (simp; done) | (simp [*]; done)), H', ⟨Nat.le_refl _⟩, by repeat (first | exact Drawn0.refl _ | apply Drawn0.step)⟩
  case round =>
   clear H'; try clear c1
   try clear p2
   try clear c3
   try clear c3b0
   try clear c3b1
   try clear c3b2
   obtain ⟨x13_1, rfl, HA, HK1, ⟨m1, rfl⟩⟩ := hrel; cases gk with
   | zero => exact absurd HA.out (by simp [slices_Equal_uint64_uint64.l0])
   | succ k1 =>
    have H := HA.out; clear HA; simp only [slices_Equal_uint64_uint64.l0] at H; by_cases c4 : x13_1 < (l0.length : Int)
    ·rw [if_pos c4] at H; have c4b0 : decide (x13_1 < (l0.length : Int)) = true := decide_eq_true c4; clear c4; by_cases c5 : 0 ≤ x13_1
     rotate_left
     ·rw [if_neg c5] at H; exact absurd H (by simp)
     rw [if_pos c5] at H; have c5b0 : decide (0 ≤ x13_1) = true := decide_eq_true c5; clear c5; by_cases c6 : x13_1 < (l0.length : Int)
     rotate_left
     ·rw [if_neg c6] at H; exact absurd H (by simp)
     rw [if_pos c6] at H; have c6b0 : decide (x13_1 < (l0.length : Int)) = true := decide_eq_true c6; clear c6; by_cases c7 : x13_1 < (l1.length : Int)
     rotate_left
     ·rw [if_neg c7] at H; exact absurd H (by simp)
     rw [if_pos c7] at H; have c7b0 : decide (x13_1 < (l1.length : Int)) = true := decide_eq_true c7; clear c7; by_cases c8 : (rd l0 x13_1) = (rd l1 x13_1)
     ·rw [if_pos c8] at H; have c8b0 : ((rd l0 x13_1) == (rd l1 x13_1)) = true := beq_iff_eq.mpr c8; have c8b1 : ((rd l0 x13_1) != (rd l1 x13_1)) = false := bne_eq_false_iff_eq.mpr c8; clear c8; have H' := aA H; clear H; have p106 : 0 ≤ (x13_1 : Int) := of_decide_eq_true (by first | (with_reducible assumption) | assumption); have q106 : x13_1 < (l0.length : Int) := of_decide_eq_true (by first | (with_reducible assumption) | assumption); obtain ⟨ad106, e106, hx106_0⟩ := Kd.at_int HR0.out x13_1 p106 q106; cases e106
      replace p106 := eq_true p106; replace q106 := eq_true q106; have p107 : 0 ≤ (x13_1 : Int) := of_decide_eq_true (by first | (with_reducible assumption) | assumption); have q107 : x13_1 < (l1.length : Int) := of_decide_eq_true (by first | (with_reducible assumption) | assumption); obtain ⟨ad107, e107, hx107_0⟩ := Kd.at_int HR1.out x13_1 p107 q107; cases e107
      replace p107 := eq_true p107; replace q107 := eq_true q107; go_wp2; repeat (go_quiet (fail); try go_wp2)
      go_roundg k1
      case measure => have := HK1.out; omega
      case rel => exact ⟨(wrap64 (x13_1 + 1)), (by first | rfl | (simp; done) | (simp [*]; done)), H', ⟨by have := HK1.out; omega⟩, by repeat (first | exact Drawn0.refl _ | apply Drawn0.step)⟩
     ·rw [if_neg c8] at H; have c8b0 : ((rd l0 x13_1) == (rd l1 x13_1)) = false := beq_eq_false_iff_ne.mpr c8; have c8b1 : ((rd l0 x13_1) != (rd l1 x13_1)) = true := bne_iff_ne.mpr c8; obtain rfl := Option.some.inj H; have p106 : 0 ≤ (x13_1 : Int) := of_decide_eq_true (by first | (with_reducible assumption) | assumption); have q106 : x13_1 < (l0.length : Int) := of_decide_eq_true (by first | (with_reducible assumption) | assumption); obtain ⟨ad106, e106, hx106_0⟩ := Kd.at_int HR0.out x13_1 p106 q106; cases e106
      replace p106 := eq_true p106; replace q106 := eq_true q106; have p107 : 0 ≤ (x13_1 : Int) := of_decide_eq_true (by first | (with_reducible assumption) | assumption); have q107 : x13_1 < (l1.length : Int) := of_decide_eq_true (by first | (with_reducible assumption) | assumption); obtain ⟨ad107, e107, hx107_0⟩ := Kd.at_int HR1.out x13_1 p107 q107; cases e107
      replace p107 := eq_true p107; replace q107 := eq_true q107; go_wp2; repeat (go_quiet (fail); try go_wp2)
      go_ret
      exact ⟨by first | rfl | (simp; done) | (simp [*]; done), by repeat (first | exact Drawn0.refl _ | apply Drawn0.step)⟩
    ·rw [if_neg c4] at H; have c4b0 : decide (x13_1 < (l0.length : Int)) = false := decide_eq_false c4; clear c4; obtain rfl := Option.some.inj H; go_wp2; repeat (go_quiet (fail); try go_wp2)
     go_ret
     exact ⟨by first | rfl | (simp; done) | (simp [*]; done), by repeat (first | exact Drawn0.refl _ | apply Drawn0.step)⟩
 ·rw [if_neg c3] at H; have c3b0 : ((l0.length : Int) == (l1.length : Int)) = false := beq_eq_false_iff_ne.mpr c3; have c3b1 : ((l0.length : Int) != (l1.length : Int)) = true := bne_iff_ne.mpr c3; have c3b2 : (l0.length == l1.length) = false := by first | simpa using c3 | (simp at c3 ⊢; omega)
  obtain rfl := Option.some.inj H; go_enter Try.func31, Try.ntmps31; go_wp2; repeat (go_quiet (fail); try go_wp2)
  go_ret
  exact ⟨by first | rfl | (simp; done) | (simp [*]; done), by repeat (first | exact Drawn0.refl _ | apply Drawn0.step)⟩

/-! ### rec_Text: function 20 -/
mutual
def rec_Text.j0 : Nat → List Int → Int → Bool → Option (ByteArray × Bool)
 | 0, _, _, _ => none
 | k + 1, x0, x1, x24 => if x24 = true then (some ((⟨#[]⟩ : ByteArray), false)) else (if 0 ≤ (wrap64 ((x0.length : Int) * 8)) then (if (wrap64 ((x0.length : Int) * 8) : Int).toNat ≤ 281474976710656 then ((some (List.replicate (wrap64 ((x0.length : Int) * 8) : Int).toNat 0 : List Int)).bind fun y108 => (rec_Text.l0 k x0 x1 y108 (y108.length : Int) 0)) else (none)) else (none))
def rec_Text.l0 : Nat → List Int → Int → List Int → Int → Int → Option (ByteArray × Bool)
 | 0, _, _, _, _, _ => none
 | k + 1, x0, x1, x6, x30, x31 => if x31 < x30 then (if 0 ≤ (x31 / 8) then (if (x31 / 8) < (x0.length : Int) then (if 0 ≤ (wrap64 ((Go.bits .and .i64 x31 7) * 8)) then (if 0 ≤ x31 then (if x31 < (x6.length : Int) then ((some (x6.set (x31 : Int).toNat ((shr .u64 (rd x0 (x31 / 8)) (wrap64 ((Go.bits .and .i64 x31 7) * 8))) % 256) : List Int)).bind fun y112 => (if x31 ≥ x1 then (if (rd y112 x31) = 0 then (rec_Text.l0 k x0 x1 y112 x30 (wrap64 (x31 + 1))) else (some ((⟨#[]⟩ : ByteArray), false))) else (rec_Text.l0 k x0 x1 y112 x30 (wrap64 (x31 + 1))))) else (none)) else (none)) else (none)) else (none)) else (none)) else (if 0 ≤ x1 then (if x1 ≤ (x6.length : Int) then (some (strOfNums (x6.take (x1 : Int).toNat), true)) else (none)) else (none))
end
def rec_Text.f (k : Nat) (l0 : List Int) (a1 : Int) : Option (ByteArray × Bool) := if a1 < 0 then (rec_Text.j0 k l0 a1 true) else (if a1 > (wrap64 (8 * (l0.length : Int))) then (rec_Text.j0 k l0 a1 true) else (rec_Text.j0 k l0 a1 (decide (a1 ≤ (wrap64 (8 * (wrap64 ((l0.length : Int) - 1))))))))
theorem rec_Text.mono_l : ∀ k, (∀ y0 y1 y2, LeO (rec_Text.j0 k y0 y1 y2) (rec_Text.j0 (k + 1) y0 y1 y2)) ∧ (∀ y0 y1 y2 y3 y4, LeO (rec_Text.l0 k y0 y1 y2 y3 y4) (rec_Text.l0 (k + 1) y0 y1 y2 y3 y4))
 | 0 => ⟨fun _ _ _ r h => by simp [rec_Text.j0] at h, fun _ _ _ _ _ r h => by simp [rec_Text.l0] at h⟩
 | k + 1 => by
  obtain ⟨ih0, ih1⟩ := rec_Text.mono_l k; refine ⟨?_, ?_⟩
  ·intro y0 y1 y2
   unfold rec_Text.j0; repeat' first
   | (with_reducible exact ih0 _ _ _)
   | (with_reducible exact ih1 _ _ _ _ _)
   | (with_reducible exact LeO.refl _)
   | (with_reducible exact LeO.none _)
   | (with_reducible refine LeO.ite ?_ ?_)
   | (with_reducible refine LeO.bind ?_ (fun _ => ?_))
   | exact ih0 _ _ _
   | exact ih1 _ _ _ _ _
   | exact LeO.none _
   | refine LeO.ite ?_ ?_
   | refine LeO.bind ?_ (fun _ => ?_)
  ·intro y0 y1 y2 y3 y4
   unfold rec_Text.l0; repeat' first
   | (with_reducible exact ih0 _ _ _)
   | (with_reducible exact ih1 _ _ _ _ _)
   | (with_reducible exact LeO.refl _)
   | (with_reducible exact LeO.none _)
   | (with_reducible refine LeO.ite ?_ ?_)
   | (with_reducible refine LeO.bind ?_ (fun _ => ?_))
   | exact ih0 _ _ _
   | exact ih1 _ _ _ _ _
   | exact LeO.none _
   | refine LeO.ite ?_ ?_
   | refine LeO.bind ?_ (fun _ => ?_)
theorem rec_Text.mono : ∀ a0 a1 k, LeO (rec_Text.f k a0 a1) (rec_Text.f (k + 1) a0 a1) := by
 intro a0 a1 k
 obtain ⟨ih0, ih1⟩ := rec_Text.mono_l k; unfold rec_Text.f
 repeat' first
   | (with_reducible exact ih0 _ _ _)
   | (with_reducible exact ih1 _ _ _ _ _)
   | (with_reducible exact LeO.refl _)
   | (with_reducible exact LeO.none _)
   | (with_reducible refine LeO.ite ?_ ?_)
   | (with_reducible refine LeO.bind ?_ (fun _ => ?_))
   | exact ih0 _ _ _
   | exact ih1 _ _ _ _ _
   | exact LeO.none _
   | refine LeO.ite ?_ ?_
   | refine LeO.bind ?_ (fun _ => ?_)
set_option maxHeartbeats 8000000 in
set_option maxRecDepth 100000 in
theorem rec_Text.calls (k : Nat) (A0 : Option Addr) (c0 : Nat) (l0 : List Int) (a1 : Int) (r1 : ByteArray) (r2 : Bool) (w : World) (hr0 : Kd.C (Kd.int .u64) w A0 l0.length l0) (hc0 : l0.length ≤ c0) (h : rec_Text.f k l0 a1 = some (r1, r2)) :
  Calls Try.prog 20 #[.slice A0 l0.length c0, .int .i64 a1] w fun e w' => e = .returned (.tuple #[.string r1, .bool r2]) ∧ Below w.heap.size w w' := by
 have HR0 := aA hr0; have HC0 := aA hc0; clear hr0 hc0; have HB := aA (Below.refl w.heap.size w); have H : (if a1 < 0 then (rec_Text.j0 k l0 a1 true) else (if a1 > (wrap64 (8 * (l0.length : Int))) then (rec_Text.j0 k l0 a1 true) else (rec_Text.j0 k l0 a1 (decide (a1 ≤ (wrap64 (8 * (wrap64 ((l0.length : Int) - 1))))))))) = some (r1, r2) := h; clear h; have HC3 := aA H; clear H; go_enter Try.func20, Try.ntmps20; go_upto_region 1 with (fail)
 go_cut [24] (fun v24 wc => ∃ (kq : Nat) (x24_2 : Bool), v24 = .bool x24_2 ∧ Aside0 (rec_Text.j0 kq l0 a1 x24_2 = some (r1, r2)) ∧ Aside0 (kq ≤ k) ∧ Aside0 (Below w.heap.size w wc))
 case first =>
  have H := HC3.out; clear HC3; by_cases c4 : a1 < 0
  ·rw [if_pos c4] at H; have c4b0 : decide (a1 < 0) = true := decide_eq_true c4; clear c4; (first | rw [c4b0] | (simp only [i64_w, i32_w]; rw [c4b0]) | skip)
   have H' := aA H; clear H; go_wp2; (first | go_meet | (refine Met.intro ?_; go_step; (try rw [c4b0]); (repeat apply Exists.intro); refine ⟨?rel, rfl⟩))
   case rel => exact ⟨_, (true), (by first | rfl | (simp; done) | (simp [*]; done)), H', ⟨by first | omega | exact Nat.le_refl _⟩, ⟨by repeat (first | (with_reducible first | exact HB.out | apply below_alloc | apply pw_below_drewN | apply below_drew1) | exact HB.out)⟩⟩
  ·rw [if_neg c4] at H; have c4b0 : decide (a1 < 0) = false := decide_eq_false c4; clear c4; (first | rw [c4b0] | (simp only [i64_w, i32_w]; rw [c4b0]) | skip)
   by_cases c5 : a1 > (wrap64 (8 * (l0.length : Int)))
   ·rw [if_pos c5] at H; have c5b0 : decide ((wrap64 (8 * (l0.length : Int))) < a1) = true := decide_eq_true c5; clear c5; have H' := aA H; clear H; go_wp2; (first | go_meet | (refine Met.intro ?_; go_step; (try rw [c4b0]); (repeat apply Exists.intro); refine ⟨?rel, rfl⟩))
    case rel => exact ⟨_, (true), (by first | rfl | (simp; done) | (simp [*]; done)), H', ⟨by first | omega | exact Nat.le_refl _⟩, ⟨by repeat (first | (with_reducible first | exact HB.out | apply below_alloc | apply pw_below_drewN | apply below_drew1) | exact HB.out)⟩⟩
   ·rw [if_neg c5] at H; have c5b0 : decide ((wrap64 (8 * (l0.length : Int))) < a1) = false := decide_eq_false c5; clear c5; have H' := aA H; clear H; go_wp2; (first | go_meet | (refine Met.intro ?_; go_step; (try rw [c4b0]); (repeat apply Exists.intro); refine ⟨?rel, rfl⟩))
    case rel => exact ⟨_, (decide (a1 ≤ (wrap64 (8 * (wrap64 ((l0.length : Int) - 1)))))), (by first | rfl | (simp; done) | (simp [*]; done)), H', ⟨by first | omega | exact Nat.le_refl _⟩, ⟨by repeat (first | (with_reducible first | exact HB.out | apply below_alloc | apply pw_below_drewN | apply below_drew1) | exact HB.out)⟩⟩
 case rest =>
  clear HC3; try clear c2
  try clear p2
  try clear c4
  try clear c4b0
  try clear c5
  try clear c5b0
  obtain ⟨kq, x24_2, rfl, HA, HJ2, HB⟩ := hcut; cases kq with
  | zero => exact absurd HA.out (by simp [rec_Text.j0])
  | succ kj2 =>
   have H := HA.out; clear HA; simp only [rec_Text.j0] at H; by_cases c6 : x24_2 = true
   ·subst c6; have H1 : (some ((⟨#[]⟩ : ByteArray), false)) = some (r1, r2) := by rw [if_pos rfl] at H; exact H
    clear H; have H := H1; clear H1; simp only [Option.some.injEq, Prod.mk.injEq] at H; obtain ⟨rfl, rfl⟩ := H; go_wp2; go_ret2
    exact ⟨by first | rfl | (simp [errW_none, errW_some] <;> rfl) | (simp [*, errW_none, errW_some] <;> rfl), by repeat (first | (with_reducible first | exact HB.out | apply below_alloc | apply pw_below_drewN | apply below_drew1) | exact HB.out)⟩
   ·replace c6 := Bool.eq_false_iff.mpr c6; subst c6; have H1 : (if 0 ≤ (wrap64 ((l0.length : Int) * 8)) then (if (wrap64 ((l0.length : Int) * 8) : Int).toNat ≤ 281474976710656 then ((some (List.replicate (wrap64 ((l0.length : Int) * 8) : Int).toNat 0 : List Int)).bind fun y108 => (rec_Text.l0 kj2 l0 a1 y108 (y108.length : Int) 0)) else (none)) else (none)) = some (r1, r2) := by rw [if_neg (show ¬ (false = true) by decide)] at H; exact H
    clear H; have H := H1; clear H1; obtain ⟨ji7, hji7⟩ : ∃ j_ : Int, (wrap64 ((l0.length : Int) * 8)) = j_ := ⟨_, rfl⟩; replace H : (if 0 ≤ (ji7) then (if (ji7 : Int).toNat ≤ 281474976710656 then ((some (List.replicate (ji7 : Int).toNat 0 : List Int)).bind fun y108 => (rec_Text.l0 kj2 l0 a1 y108 (y108.length : Int) 0)) else (none)) else (none)) = some (r1, r2) := by first | (rw [hji7] at H; exact H) | (simp only [hji7] at H ⊢; exact H)
    have hji7w : (IntKind.i64.wrap ((l0.length : Int) * 8)) = ji7 := (i64_w _).trans hji7; by_cases c8 : 0 ≤ (ji7)
    rotate_left
    ·rw [if_neg c8] at H; exact absurd H (by simp)

    rw [if_pos c8] at H; have c8b0 := eq_true c8; have c8b1 : decide (0 ≤ (ji7)) = true := decide_eq_true c8; clear c8; by_cases c9 : (ji7 : Int).toNat ≤ 281474976710656
    rotate_left
    ·rw [if_neg c9] at H; exact absurd H (by simp)
    rw [if_pos c9] at H; have c9b0 := eq_true c9; have c9b1 : decide ((ji7 : Int).toNat ≤ 281474976710656) = true := decide_eq_true c9; clear c9; obtain ⟨y108, hy108⟩ : ∃ y_ : List Int, y_ = (List.replicate (ji7 : Int).toNat 0) := ⟨_, rfl⟩; replace H : (rec_Text.l0 kj2 l0 a1 y108 (y108.length : Int) 0) = some (r1, r2) := by first | (rw [hy108]; with_reducible exact H) | (have H2_ := (Option.bind_some _ _).symm.trans H; rw [hy108]; with_reducible exact H2_) | (have H2_ := (Option.bind_some _ _).symm.trans H; with_reducible exact H2_) | with_reducible exact H | (rw [hy108]; exact H) | exact H
    have Ny108 := aA hy108; clear hy108; have H' := aA H; clear H; go_wp2_with (first | ((with_reducible refine gate_dst (N := 28) rfl ?_); (try (refine gate_guard (by rfl) ?_; dsimp only)); refine Kd.R_make (Kd.int .u8) _ 5 rfl (N := 28) rfl 69 _ _ rfl ji7 rfl rfl Try.underlying69 (.int .u8 0) 1 info5 rfl (by decide) (by omega) 0 (ok := fun _ => True) (okp := fun _ => True) rfl (fun _ hk => hk) trivial (of_decide_eq_true (by first | (with_reducible assumption) | assumption)) (Nat.le_trans (Nat.mul_le_mul_right _ (of_decide_eq_true (by first | (with_reducible assumption) | assumption) : ji7.toNat ≤ 281474976710656)) (by omega)) (Below.refl _ _) (Nat.le_refl _) ?_; intro v109 w10 ho11 hb hg_ hnew_; clear hg_ hnew_; (first | rw [← Ny108.out] at ho11 | (simp only [Int.reduceToNat] at ho11; rw [← Ny108.out] at ho11)); have n0_ := aA (Kd.R_lower ho11 (below_size (blw HB.out))); have n1_ := aA (below_step (blw HB.out) hb); clear HB; have HO110 := n0_; have HB := n1_; clear n0_ n1_ hb ho11; obtain ⟨Ao12, co12, eo12⟩ := Kd.R_slice HO110.out; subst eo12))
    go_loopg [31] kj2 (fun kq v31 w' => ∃ (x6_2 : List Int) (x31_2 : Int), v31 = .int .i64 x31_2 ∧ Aside0 (rec_Text.l0 kq l0 a1 x6_2 (y108.length : Int) x31_2 = some (r1, r2)) ∧ Aside0 (kq ≤ kj2) ∧ Aside0 (Kd.R (Kd.int .u8) 5 w' w.heap.size (fun _ => True) (.slice Ao12 y108.length co12) x6_2) ∧ Aside0 (Below w.heap.size w w'))
    case atStart => exact ⟨(y108), (0), (by first | rfl | (simp; done) | (simp [*]; done)), H', ⟨Nat.le_refl _⟩, ⟨by (with_reducible repeat (first | apply Kd.R_alloc | apply Kd.R_drewN | apply Kd.R_drew)); exact HO110.out⟩, ⟨by repeat (first | (with_reducible first | exact HB.out | apply below_alloc | apply pw_below_drewN | apply below_drew1) | exact HB.out)⟩⟩
    case round =>
     clear H'; try clear c2
     try clear p2
     try clear c4
     try clear c4b0
     try clear c5
     try clear c5b0
     try clear c6
     try clear p6
     try clear c8
     try clear c8b0
     try clear c8b1
     try clear c9
     try clear c9b0
     try clear c9b1
     try clear p2
     obtain ⟨x6_2, x31_2, rfl, HA, HK2, HO_6, HB⟩ := hrel; have hl6_2 := (Kd.R_reads' HO_6.out).1; rw [hl6_2] at HO_6; (try simp only [hl6_2]); cases gk with
     | zero => exact absurd HA.out (by simp [rec_Text.l0])
     | succ k2 =>
      have H := HA.out; clear HA; simp only [rec_Text.l0] at H; by_cases c13 : x31_2 < (y108.length : Int)
      ·rw [if_pos c13] at H; have c13b0 : decide (x31_2 < (y108.length : Int)) = true := decide_eq_true c13; (try simp only [hl6_2] at c13b0); clear c13; obtain ⟨ji14, hji14⟩ : ∃ j_ : Int, (x31_2 / 8) = j_ := ⟨_, rfl⟩; replace H : (if 0 ≤ (ji14) then (if (ji14) < (l0.length : Int) then (if 0 ≤ (wrap64 ((Go.bits .and .i64 x31_2 7) * 8)) then (if 0 ≤ x31_2 then (if x31_2 < (x6_2.length : Int) then ((some (x6_2.set (x31_2 : Int).toNat ((shr .u64 (rd l0 (ji14)) (wrap64 ((Go.bits .and .i64 x31_2 7) * 8))) % 256) : List Int)).bind fun y112 => (if x31_2 ≥ a1 then (if (rd y112 x31_2) = 0 then (rec_Text.l0 k2 l0 a1 y112 (y108.length : Int) (wrap64 (x31_2 + 1))) else (some ((⟨#[]⟩ : ByteArray), false))) else (rec_Text.l0 k2 l0 a1 y112 (y108.length : Int) (wrap64 (x31_2 + 1))))) else (none)) else (none)) else (none)) else (none)) else (none)) = some (r1, r2) := by first | (rw [hji14] at H; exact H) | (simp only [hji14] at H ⊢; exact H)
       by_cases c15 : 0 ≤ (ji14)
       rotate_left
       ·rw [if_neg c15] at H; exact absurd H (by simp)
       rw [if_pos c15] at H; have c15b0 : decide (0 ≤ (ji14)) = true := decide_eq_true c15; clear c15; by_cases c16 : (ji14) < (l0.length : Int)
       rotate_left
       ·rw [if_neg c16] at H; exact absurd H (by simp)
       rw [if_pos c16] at H; have c16b0 : decide ((ji14) < (l0.length : Int)) = true := decide_eq_true c16; clear c16; obtain ⟨ji17, hji17⟩ : ∃ j_ : Int, (wrap64 ((Go.bits .and .i64 x31_2 7) * 8)) = j_ := ⟨_, rfl⟩; replace H : (if 0 ≤ (ji17) then (if 0 ≤ x31_2 then (if x31_2 < (x6_2.length : Int) then ((some (x6_2.set (x31_2 : Int).toNat ((shr .u64 (rd l0 (ji14)) (ji17)) % 256) : List Int)).bind fun y112 => (if x31_2 ≥ a1 then (if (rd y112 x31_2) = 0 then (rec_Text.l0 k2 l0 a1 y112 (y108.length : Int) (wrap64 (x31_2 + 1))) else (some ((⟨#[]⟩ : ByteArray), false))) else (rec_Text.l0 k2 l0 a1 y112 (y108.length : Int) (wrap64 (x31_2 + 1))))) else (none)) else (none)) else (none)) = some (r1, r2) := by first | (rw [hji17] at H; exact H) | (simp only [hji17] at H ⊢; exact H)
       have hji17w : (IntKind.i64.wrap ((Go.bits .and .i64 x31_2 7) * 8)) = ji17 := (i64_w _).trans hji17; by_cases c18 : 0 ≤ (ji17)
       rotate_left
       ·rw [if_neg c18] at H; exact absurd H (by simp)
       rw [if_pos c18] at H; have c18b0 := eq_true c18; have c18b1 : decide (0 ≤ (ji17)) = true := decide_eq_true c18; clear c18; obtain ⟨ji19, hji19⟩ : ∃ j_ : Int, (shr .u64 (rd l0 (ji14)) (ji17)) = j_ := ⟨_, rfl⟩; replace H : (if 0 ≤ x31_2 then (if x31_2 < (x6_2.length : Int) then ((some (x6_2.set (x31_2 : Int).toNat ((ji19) % 256) : List Int)).bind fun y112 => (if x31_2 ≥ a1 then (if (rd y112 x31_2) = 0 then (rec_Text.l0 k2 l0 a1 y112 (y108.length : Int) (wrap64 (x31_2 + 1))) else (some ((⟨#[]⟩ : ByteArray), false))) else (rec_Text.l0 k2 l0 a1 y112 (y108.length : Int) (wrap64 (x31_2 + 1))))) else (none)) else (none)) = some (r1, r2) := by first | (rw [hji19] at H; exact H) | (simp only [hji19] at H ⊢; exact H)
       have hji19_ : ((rd l0 (ji14)) / 2 ^ min (ji17).toNat 64) = ji19 := hji19; have hji19z : (ji17) ≤ 64 → ((rd l0 (ji14)) / 2 ^ (ji17).toNat) = ji19 := shr_small hji19; by_cases c20 : 0 ≤ x31_2
       rotate_left
       ·rw [if_neg c20] at H; exact absurd H (by simp)
       rw [if_pos c20] at H; have c20b0 : decide (0 ≤ x31_2) = true := decide_eq_true c20; clear c20; by_cases c21 : x31_2 < (x6_2.length : Int)
       rotate_left
       ·rw [if_neg c21] at H; exact absurd H (by simp)
       rw [if_pos c21] at H; have c21b0 : decide (x31_2 < (x6_2.length : Int)) = true := decide_eq_true c21; clear c21; obtain ⟨y112, hy112⟩ : ∃ y_ : List Int, y_ = (x6_2.set (x31_2 : Int).toNat ((ji19) % 256)) := ⟨_, rfl⟩; replace H : (if x31_2 ≥ a1 then (if (rd y112 x31_2) = 0 then (rec_Text.l0 k2 l0 a1 y112 (y108.length : Int) (wrap64 (x31_2 + 1))) else (some ((⟨#[]⟩ : ByteArray), false))) else (rec_Text.l0 k2 l0 a1 y112 (y108.length : Int) (wrap64 (x31_2 + 1)))) = some (r1, r2) := by first | (rw [hy112]; with_reducible exact H) | (have H2_ := (Option.bind_some _ _).symm.trans H; rw [hy112]; with_reducible exact H2_) | (have H2_ := (Option.bind_some _ _).symm.trans H; with_reducible exact H2_) | with_reducible exact H | (rw [hy112]; exact H) | exact H
       have Ny112 := aA hy112; clear hy112; by_cases c23 : x31_2 ≥ a1
       ·rw [if_pos c23] at H; have c23b0 : decide (a1 ≤ x31_2) = true := decide_eq_true c23; clear c23; by_cases c24 : (rd y112 x31_2) = 0
        ·rw [if_pos c24] at H; have c24b0 : ((rd y112 x31_2) == 0) = true := beq_iff_eq.mpr c24; have c24b1 : ((rd y112 x31_2) != 0) = false := bne_eq_false_iff_eq.mpr c24; clear c24; have H' := aA H; clear H; have p111 : 0 ≤ ((ji14) : Int) := of_decide_eq_true (by first | (with_reducible assumption) | assumption); have q111 : (ji14) < (l0.length : Int) := of_decide_eq_true (by first | (with_reducible assumption) | assumption); obtain ⟨ad111, e111, hx111_0⟩ := Kd.at_int HR0.out (ji14) p111 q111; cases e111
         replace hx111_0 := (HB.out.cell (World.block_lt_of_cell? w _ hx111_0)).trans hx111_0; replace p111 := eq_true p111; replace q111 := eq_true q111; have p22 : 0 ≤ (x31_2 : Int) := of_decide_eq_true (by first | (with_reducible assumption) | assumption); have q22 : (x31_2 : Int) < ((x6_2.length : Int) : Int) := of_decide_eq_true (by first | (with_reducible assumption) | assumption); obtain ⟨go22, co22, eo22, gb22, gl22, cl22, HG22⟩ := Kd.R_form HO_6.out (by omega); (first | cases eo22 | (injection eo22 with ea_ en_ ec_; (first | subst ea_ | (injection ea_ with ea_; subst ea_)); subst ec_; clear en_))
         have GB22 := aA gb22; have GG22 := aA HG22; clear gb22 gl22 HG22; obtain ⟨hx22_0, hf22_0⟩ := Kd.R_celln 0 HO_6.out (x31_2 : Int) p22 q22; replace p22 := eq_true p22; replace q22 := eq_true q22; have HP25 := Kd.R_putg HO_6.out (x31_2 : Int) ((ji19) % 256); go_wp2_with (first | ((with_reducible refine gate_store (t := 5) (p := 46) rfl ?_); refine store_event (t := 5) (p := 46) (v := ?vo_w26) (w1 := (wr.setCell ⟨go22, (x31_2 : Int).toNat, none⟩ (.int .u8 ((ji19) % 256)))) ?hg ?ho ?hn ?hr ?_; (case ho => rfl); (case hg => rfl); (case hn => rfl); (case hr => first | (go_simp; done) | (go_simp; rfl)); intro w26 hw; have hg : wr.grownBy w26 (some go22) := (by rw [hw]; exact HP25.2); have hp_ : Kd.R (Kd.int .u8) 5 w26 w.heap.size (fun _ => True) (.slice (some ⟨go22, 0, none⟩) x6_2.length co12) y112 := (by rw [hw, Ny112.out]; exact HP25.1); clear HP25; have n0_ := aA (hp_); have n1_ := aA ((by rw [hw]; exact below_set (HB.out) GB22.out : Below w.heap.size w w26)); clear HO_6 HB; have HO_6 := n0_; have HB := n1_; clear n0_ n1_ hg hw hp_; have p113 : 0 ≤ (x31_2 : Int) := of_decide_eq_true (by first | (with_reducible assumption) | assumption); have q113 : x31_2 < (y112.length : Int) := (by have h_ : (x31_2 : Int) < ((x6_2.length : Int) : Int) := of_decide_eq_true (by first | (with_reducible assumption) | assumption); first | (have e_ := (Kd.R_reads' HO_6.out).1; omega) | simpa only [Ny112.out, List.length_set] using h_); have ql113 : ((x31_2 : Int) < ((x6_2.length : Int) : Int)) = True := eq_true (of_decide_eq_true (by first | (with_reducible assumption) | assumption)); obtain ⟨ad113, e113, hx113_0⟩ := Kd.at_int (Kd.R_reads' HO_6.out).2.2 x31_2 p113 q113; obtain rfl : (⟨go22, 0, none⟩ : Addr) = ad113 := (by injection e113); (first | simp only [add_plain] at hx113_0 | simp only [add_at] at hx113_0 | simp only [Addr.add, Nat.zero_add] at hx113_0 | skip); replace p113 := eq_true p113; replace q113 := eq_true q113))
         (try simp only [← hl6_2]); go_roundg k2
         case measure => have := HJ2.out; have := HK2.out; omega
         case rel => exact ⟨(y112), (wrap64 (x31_2 + 1)), (by first | rfl | (simp; done) | (simp [*]; done)), H', ⟨by have := HJ2.out; have := HK2.out; omega⟩, ⟨by (try simp only [hl6_2]); (with_reducible repeat (first | apply Kd.R_alloc | apply Kd.R_drewN | apply Kd.R_drew)); exact HO_6.out⟩, ⟨by repeat (first | (with_reducible first | exact HB.out | apply below_alloc | apply pw_below_drewN | apply below_drew1) | exact HB.out)⟩⟩
        ·rw [if_neg c24] at H; have c24b0 : ((rd y112 x31_2) == 0) = false := beq_eq_false_iff_ne.mpr c24; have c24b1 : ((rd y112 x31_2) != 0) = true := bne_iff_ne.mpr c24; simp only [Option.some.injEq, Prod.mk.injEq] at H; obtain ⟨rfl, rfl⟩ := H; have p111 : 0 ≤ ((ji14) : Int) := of_decide_eq_true (by first | (with_reducible assumption) | assumption); have q111 : (ji14) < (l0.length : Int) := of_decide_eq_true (by first | (with_reducible assumption) | assumption); obtain ⟨ad111, e111, hx111_0⟩ := Kd.at_int HR0.out (ji14) p111 q111; cases e111
         replace hx111_0 := (HB.out.cell (World.block_lt_of_cell? w _ hx111_0)).trans hx111_0; replace p111 := eq_true p111; replace q111 := eq_true q111; have p22 : 0 ≤ (x31_2 : Int) := of_decide_eq_true (by first | (with_reducible assumption) | assumption); have q22 : (x31_2 : Int) < ((x6_2.length : Int) : Int) := of_decide_eq_true (by first | (with_reducible assumption) | assumption); obtain ⟨go22, co22, eo22, gb22, gl22, cl22, HG22⟩ := Kd.R_form HO_6.out (by omega); (first | cases eo22 | (injection eo22 with ea_ en_ ec_; (first | subst ea_ | (injection ea_ with ea_; subst ea_)); subst ec_; clear en_))
         have GB22 := aA gb22; have GG22 := aA HG22; clear gb22 gl22 HG22; obtain ⟨hx22_0, hf22_0⟩ := Kd.R_celln 0 HO_6.out (x31_2 : Int) p22 q22; replace p22 := eq_true p22; replace q22 := eq_true q22; have HP27 := Kd.R_putg HO_6.out (x31_2 : Int) ((ji19) % 256); go_wp2_with (first | ((with_reducible refine gate_store (t := 5) (p := 46) rfl ?_); refine store_event (t := 5) (p := 46) (v := ?vo_w28) (w1 := (wr.setCell ⟨go22, (x31_2 : Int).toNat, none⟩ (.int .u8 ((ji19) % 256)))) ?hg ?ho ?hn ?hr ?_; (case ho => rfl); (case hg => rfl); (case hn => rfl); (case hr => first | (go_simp; done) | (go_simp; rfl)); intro w28 hw; have hg : wr.grownBy w28 (some go22) := (by rw [hw]; exact HP27.2); have hp_ : Kd.R (Kd.int .u8) 5 w28 w.heap.size (fun _ => True) (.slice (some ⟨go22, 0, none⟩) x6_2.length co12) y112 := (by rw [hw, Ny112.out]; exact HP27.1); clear HP27; have n0_ := aA (hp_); have n1_ := aA ((by rw [hw]; exact below_set (HB.out) GB22.out : Below w.heap.size w w28)); clear HO_6 HB; have HO_6 := n0_; have HB := n1_; clear n0_ n1_ hg hw hp_; have p113 : 0 ≤ (x31_2 : Int) := of_decide_eq_true (by first | (with_reducible assumption) | assumption); have q113 : x31_2 < (y112.length : Int) := (by have h_ : (x31_2 : Int) < ((x6_2.length : Int) : Int) := of_decide_eq_true (by first | (with_reducible assumption) | assumption); first | (have e_ := (Kd.R_reads' HO_6.out).1; omega) | simpa only [Ny112.out, List.length_set] using h_); have ql113 : ((x31_2 : Int) < ((x6_2.length : Int) : Int)) = True := eq_true (of_decide_eq_true (by first | (with_reducible assumption) | assumption)); obtain ⟨ad113, e113, hx113_0⟩ := Kd.at_int (Kd.R_reads' HO_6.out).2.2 x31_2 p113 q113; obtain rfl : (⟨go22, 0, none⟩ : Addr) = ad113 := (by injection e113); (first | simp only [add_plain] at hx113_0 | simp only [add_at] at hx113_0 | simp only [Addr.add, Nat.zero_add] at hx113_0 | skip); replace p113 := eq_true p113; replace q113 := eq_true q113))
         go_ret2
         exact ⟨by first | rfl | (simp [errW_none, errW_some] <;> rfl) | (simp only [← hji7, ← hji14, ← hji17, ← hji19]; first | rfl | (simp [errW_none, errW_some] <;> rfl)) | (simp [*, errW_none, errW_some] <;> rfl), by repeat (first | (with_reducible first | exact HB.out | apply below_alloc | apply pw_below_drewN | apply below_drew1) | exact HB.out)⟩
       ·rw [if_neg c23] at H; have c23b0 : decide (a1 ≤ x31_2) = false := decide_eq_false c23; clear c23; have H' := aA H; clear H; have p111 : 0 ≤ ((ji14) : Int) := of_decide_eq_true (by first | (with_reducible assumption) | assumption); have q111 : (ji14) < (l0.length : Int) := of_decide_eq_true (by first | (with_reducible assumption) | assumption); obtain ⟨ad111, e111, hx111_0⟩ := Kd.at_int HR0.out (ji14) p111 q111; cases e111
        replace hx111_0 := (HB.out.cell (World.block_lt_of_cell? w _ hx111_0)).trans hx111_0; replace p111 := eq_true p111; replace q111 := eq_true q111; have p22 : 0 ≤ (x31_2 : Int) := of_decide_eq_true (by first | (with_reducible assumption) | assumption); have q22 : (x31_2 : Int) < ((x6_2.length : Int) : Int) := of_decide_eq_true (by first | (with_reducible assumption) | assumption); obtain ⟨go22, co22, eo22, gb22, gl22, cl22, HG22⟩ := Kd.R_form HO_6.out (by omega); (first | cases eo22 | (injection eo22 with ea_ en_ ec_; (first | subst ea_ | (injection ea_ with ea_; subst ea_)); subst ec_; clear en_))
        have GB22 := aA gb22; have GG22 := aA HG22; clear gb22 gl22 HG22; obtain ⟨hx22_0, hf22_0⟩ := Kd.R_celln 0 HO_6.out (x31_2 : Int) p22 q22; replace p22 := eq_true p22; replace q22 := eq_true q22; have HP29 := Kd.R_putg HO_6.out (x31_2 : Int) ((ji19) % 256); go_wp2_with (first | ((with_reducible refine gate_store (t := 5) (p := 46) rfl ?_); refine store_event (t := 5) (p := 46) (v := ?vo_w30) (w1 := (wr.setCell ⟨go22, (x31_2 : Int).toNat, none⟩ (.int .u8 ((ji19) % 256)))) ?hg ?ho ?hn ?hr ?_; (case ho => rfl); (case hg => rfl); (case hn => rfl); (case hr => first | (go_simp; done) | (go_simp; rfl)); intro w30 hw; have hg : wr.grownBy w30 (some go22) := (by rw [hw]; exact HP29.2); have hp_ : Kd.R (Kd.int .u8) 5 w30 w.heap.size (fun _ => True) (.slice (some ⟨go22, 0, none⟩) x6_2.length co12) y112 := (by rw [hw, Ny112.out]; exact HP29.1); clear HP29; have n0_ := aA (hp_); have n1_ := aA ((by rw [hw]; exact below_set (HB.out) GB22.out : Below w.heap.size w w30)); clear HO_6 HB; have HO_6 := n0_; have HB := n1_; clear n0_ n1_ hg hw hp_))
        (try simp only [← hl6_2]); go_roundg k2
        case measure => have := HJ2.out; have := HK2.out; omega
        case rel => exact ⟨(y112), (wrap64 (x31_2 + 1)), (by first | rfl | (simp; done) | (simp [*]; done)), H', ⟨by have := HJ2.out; have := HK2.out; omega⟩, ⟨by (try simp only [hl6_2]); (with_reducible repeat (first | apply Kd.R_alloc | apply Kd.R_drewN | apply Kd.R_drew)); exact HO_6.out⟩, ⟨by repeat (first | (with_reducible first | exact HB.out | apply below_alloc | apply pw_below_drewN | apply below_drew1) | exact HB.out)⟩⟩
      ·rw [if_neg c13] at H; have c13b0 : decide (x31_2 < (y108.length : Int)) = false := decide_eq_false c13; (try simp only [hl6_2] at c13b0); clear c13; by_cases c31 : 0 ≤ a1
       rotate_left
       ·rw [if_neg c31] at H; exact absurd H (by simp)
       rw [if_pos c31] at H; have c31b0 := eq_true c31; have c31b1 : decide (0 ≤ a1) = true := decide_eq_true c31; clear c31; by_cases c32 : a1 ≤ (x6_2.length : Int)
       rotate_left
       ·rw [if_neg c32] at H; exact absurd H (by simp)
       rw [if_pos c32] at H; have c32b0 := eq_true c32; have c32b1 : decide (a1 ≤ (x6_2.length : Int)) = true := decide_eq_true c32; clear c32; obtain ⟨y114, hy114⟩ : ∃ y_ : List Int, y_ = (x6_2.take (a1 : Int).toNat) := ⟨_, rfl⟩; replace H : (some (strOfNums y114, true)) = some (r1, r2) := by first | (rw [hy114]; with_reducible exact H) | (have H2_ := (Option.bind_some _ _).symm.trans H; rw [hy114]; with_reducible exact H2_) | (have H2_ := (Option.bind_some _ _).symm.trans H; with_reducible exact H2_) | with_reducible exact H | (rw [hy114]; exact H) | exact H
       have Ny114 := aA hy114; clear hy114; simp only [Option.some.injEq, Prod.mk.injEq] at H; obtain ⟨rfl, rfl⟩ := H; have q33 : (a1 : Int) ≤ ((x6_2.length : Int) : Int) := of_decide_eq_true (by first | (with_reducible assumption) | assumption); obtain ⟨i033, hi033, _, hsz33, _⟩ := info_parts info5; have hroom33 : x6_2.length ≤ co12 := (Kd.R_reads' HO_6.out).2.1; have hC33 : Kd.C (Kd.int .u8) _ Ao12 x6_2.length x6_2 := (Kd.R_reads' HO_6.out).2.2; have hcut33 := cut_to (P := Try.prog) 69 5 .i64 Try.underlying69 hi033 Ao12 x6_2.length co12 a1 (of_decide_eq_true (by first | (with_reducible assumption) | assumption)) q33 hroom33; have hr33 := Kd.C_take (m := (a1 : Int).toNat) hC33 (by omega); have hy33 : y114.length = (a1 : Int).toNat := (by rw [Ny114.out, List.length_take]; omega); rw [← Ny114.out] at hr33; rw [← hy33] at hcut33; have HR117 := aA hr33; have HC117 := aA (show y114.length ≤ co12 from by omega); clear hr33 hC33 hroom33 hi033 hsz33; have KY33 := aA hy33; clear hy33; have KL33 := aA (show (a1 : Int).toNat ≤ x6_2.length from by omega); replace q33 := eq_true q33; have hcv34 := Kd.C_string (P := Try.prog) (A := Ao12) (c := co12) Try.underlying69 Try.underlying5 Try.underlying9 (by repeat (first | (with_reducible exact HR117.out) | (with_reducible refine Kd.C_alloc ?_ _) | (with_reducible refine Kd.C_drewN ?_ _) | (with_reducible refine Kd.C_drew ?_) | exact HR117.out)); go_wp2; go_ret2
       exact ⟨by first | rfl | (simp [errW_none, errW_some] <;> rfl) | (simp only [← hji7]; first | rfl | (simp [errW_none, errW_some] <;> rfl)) | (simp [*, errW_none, errW_some] <;> rfl), by repeat (first | (with_reducible first | exact HB.out | apply below_alloc | apply pw_below_drewN | apply below_drew1) | exact HB.out)⟩
end Go.Proofs.Ytdjkadfgmhmhcaa.PA
