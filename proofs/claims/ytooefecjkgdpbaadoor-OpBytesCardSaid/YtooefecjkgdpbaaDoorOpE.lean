
import Derived.Test.YtooefecjkgdpbaaDoorOpP

/-
  Layer 6 in plain lists: the bytes of an operation, and what Encode tells of any operations.
-/
namespace Go.Proofs.YtooefecjkgdpbaaDoor.Pure
set_option linter.unusedVariables false
set_option linter.unusedSimpArgs false
open Go.RowKit Go.Proofs.YtooefecjkgdpbaaDoor.PA Go.Proofs.YtooefecjkgdpbaaDoorW.PrintWords Go.Proofs.YtooefecjkgdpbaaDoorW.PrintLast Go.Proofs.YtooefecjkgdpbaaDoorW.PrintMore Go.Proofs.YtooefecjkgdpbaaDoorH

abbrev OpT := S23
abbrev I64 (a : Int) : Prop := -9223372036854775808 ≤ a ∧ a < 9223372036854775808
theorem wf64 {a : Int} (h : (Lit.int .i64 a).wf = true) : I64 a := wf_i64 h
/-- What is known of an operation that came in. -/
def OkO (o : OpT) : Prop := I64 o.f0 ∧ I64 o.f1 ∧ I64 o.f2 ∧ I64 o.f3
def mayO (o : OpT) : Bool := opMay o.f0 o.f1 o.f2 o.f3 o.f4 o.f5
def u8 (l : List Int) : List UInt8 := l.map fun n => UInt8.ofNat n.toNat
theorem u8_app (a b : List Int) : u8 (a ++ b) = u8 a ++ u8 b := List.map_append
theorem u8_str (l : List Int) : (strOfNums l).data.toList = u8 l := strOfNums_data l
theorem u8_bytesOf (s : ByteArray) : u8 (bytesOf s) = s.data.toList := by rw [← u8_str, strOfNums_bytesOf]
theorem str_u8 (l : List Int) : (⟨(u8 l).toArray⟩ : ByteArray) = strOfNums l := rfl
def numI (c : Bool) (a : Int) : List Int := if c = true then bytes (zig a) else []
def txtI (c : Bool) (s : ByteArray) : List Int := if c = true then (s.size : Int) :: bytesOf s else []
/-- The bytes of an operation. -/
def encI (o : OpT) : List Int := o.f0 :: (numI (decide (0 < shpN o.f0)) o.f1 ++ (numI (decide (1 < shpN o.f0)) o.f2 ++ (numI (decide (2 < shpN o.f0)) o.f3 ++ (txtI (shpS o.f0) o.f4 ++ txtI (shpT o.f0) o.f5))))
theorem encNum_eq {k : Nat} (hk : 60 ≤ k) (c : Bool) {a : Int} (ha : I64 a) : encNum k c a = some (strOfNums (numI c a)) := by
  unfold encNum numI
  cases c
  · rfl
  · simp only [if_true]
    rw [zig_eq ha, Option.bind_some, bytes_eq hk (zig_range ha)]
theorem numI_len (c : Bool) (a : Int) : (numI c a).length ≤ 9 := by
  unfold numI
  split
  · unfold bytes
    have := dig_len 8 (zig a)
    rw [List.length_cons]
    omega
  · simp
theorem encText_eq (c : Bool) (s : ByteArray) : encText c s = u8 (txtI c s) := by
  unfold encText txtI
  cases c
  · rfl
  · simp only [if_true]
    show UInt8.ofNat s.size :: s.data.toList = UInt8.ofNat ((s.size : Int)).toNat :: u8 (bytesOf s)
    rw [u8_bytesOf, Int.toNat_natCast]
theorem encOp_eq {k : Nat} (hk : 60 ≤ k) (o : OpT) (ho : OkO o) : encOp k o.f0 o.f1 o.f2 o.f3 o.f4 o.f5 = some (u8 (encI o)) := by
  unfold encOp
  rw [encNum_eq hk _ ho.2.1, Option.bind_some, encNum_eq hk _ ho.2.2.1, Option.bind_some, encNum_eq hk _ ho.2.2.2, Option.bind_some]
  simp only [strOfNums_size]
  rw [if_pos ⟨Nat.le_trans (numI_len _ _) (by decide), Nat.le_trans (numI_len _ _) (by decide), Nat.le_trans (numI_len _ _) (by decide)⟩]
  simp only [u8_str, encText_eq]
  unfold encI
  show some _ = some (UInt8.ofNat o.f0.toNat :: u8 _)
  simp only [u8_app, List.append_assoc, List.cons_append, List.nil_append]
def encsI (l : List OpT) : List Int := l.flatMap encI
theorem encAll_eq {k : Nat} (hk : 60 ≤ k) : ∀ (l : List OpT), (∀ o ∈ l, OkO o) → encAll k l = some (if l.all mayO = true then some (u8 (encsI l)) else none)
  | [], _ => rfl
  | o :: r, h => by
    unfold encAll
    have ih := encAll_eq hk r (fun x hx => h x (List.mem_cons_of_mem _ hx))
    by_cases hm : opMay o.f0 o.f1 o.f2 o.f3 o.f4 o.f5 = true
    · rw [if_pos hm, encOp_eq hk o (h o (List.mem_cons_self ..)), Option.bind_some, ih]
      have e : (o :: r).all mayO = r.all mayO := by
        rw [List.all_cons]
        unfold mayO
        rw [hm, Bool.true_and]
      rw [e]
      by_cases hr : r.all mayO = true
      · rw [if_pos hr, if_pos hr]
        simp only [Option.map_some]
        rw [show encsI (o :: r) = encI o ++ encsI r from rfl, u8_app]
      · rw [if_neg hr, if_neg hr]
        rfl
    · rw [if_neg hm, if_neg]
      rw [List.all_cons]
      unfold mayO
      intro hc
      rw [Bool.and_eq_true] at hc
      exact hm hc.1
/-- What Encode tells. -/
def encR (l : List OpT) : ByteArray × Int := if 20 < l.length then (⟨#[]⟩, 2) else if l.all mayO = true then (strOfNums (encsI l), 0) else (⟨#[]⟩, 1)
theorem encode_eq {k : Nat} (hk : 60 ≤ k) (l : List OpT) (h : ∀ o ∈ l, OkO o) : op_Encode.f k l = some (encR l) := by
  unfold op_Encode.f encR
  by_cases hl : 20 < l.length
  · rw [if_pos (by omega), if_pos hl]
  · rw [if_neg (by omega), if_neg hl, encAll_eq hk l h]
    by_cases hm : l.all mayO = true
    · rw [if_pos hm, if_pos hm]
      rfl
    · rw [if_neg hm, if_neg hm]
      rfl
theorem encR_le {l : List OpT} (h : l.length ≤ 20) : encR l = if l.all mayO = true then (strOfNums (encsI l), 0) else (⟨#[]⟩, 1) := by
  unfold encR
  rw [if_neg (by omega)]
/-! ### what they are worth -/
theorem may_kind {o : OpT} (h : mayO o = true) : 1 ≤ o.f0 ∧ o.f0 ≤ 8 ∧ o.f4.size ≤ 255 ∧ o.f5.size ≤ 255 := opMay_kind _ _ _ _ _ _ h
theorem numI_bts (c : Bool) (a : Int) : Bts (numI c a) := by
  unfold numI
  split
  · exact bytes_bts _
  · exact Bts.nil
theorem txtI_bts (c : Bool) (s : ByteArray) (h : s.size ≤ 255) : Bts (txtI c s) := by
  unfold txtI
  split
  · exact Bts.cons (by omega) (bts_bytesOf s)
  · exact Bts.nil
theorem encI_bts {o : OpT} (h : mayO o = true) : Bts (encI o) := by
  have hk := may_kind h
  exact Bts.cons (by omega) ((numI_bts _ _).app ((numI_bts _ _).app ((numI_bts _ _).app ((txtI_bts _ _ hk.2.2.1).app (txtI_bts _ _ hk.2.2.2)))))
theorem encsI_bts : ∀ {l : List OpT}, l.all mayO = true → Bts (encsI l)
  | [], _ => Bts.nil
  | o :: r, h => by
    rw [List.all_cons, Bool.and_eq_true] at h
    exact (encI_bts h.1).app (encsI_bts h.2)
/-! ### bounded, its, Same -/
abbrev RefT := S29
theorem bounded_loop (l : List OpT) (hl : l.length ≤ 140737488351232) : ∀ (m i k : Nat), i + m = l.length → m < k → ∃ b, treillagelaw06_bounded.l0 k l (i : Int) = some b ∧ (b = true → l.length ≤ 25)
  | m, i, 0, _, hk => by omega
  | m, i, k + 1, hm, hk => by
    rw [treillagelaw06_bounded.l0]
    by_cases hi : i < l.length
    · rw [if_pos (by omega), if_pos (by omega)]
      by_cases h1 : ((rd_T23 l (i : Int)).f4.size : Int) > 300
      · exact ⟨false, by rw [if_pos h1], fun h => by cases h⟩
      · rw [if_neg h1]
        by_cases h2 : ((rd_T23 l (i : Int)).f5.size : Int) > 300
        · exact ⟨false, by rw [if_pos h2], fun h => by cases h⟩
        · rw [if_neg h2, show wrap64 ((i : Int) + 1) = ((i + 1 : Nat) : Int) by unfold wrap64; omega]
          exact bounded_loop l hl (m - 1) (i + 1) k (by omega) (by omega)
    · rw [if_neg (by omega)]
      exact ⟨_, rfl, fun h => by have := of_decide_eq_true h; omega⟩
theorem bounded_eq {k : Nat} (l : List OpT) (hl : l.length ≤ 140737488351232) (hk : l.length + 1 ≤ k) : ∃ b, treillagelaw06_bounded.f k l = some b ∧ (b = true → l.length ≤ 25) := by
  obtain ⟨b, h1, h2⟩ := bounded_loop l hl l.length 0 k (by omega) (by omega)
  exact ⟨b, h1, h2⟩
end Go.Proofs.YtooefecjkgdpbaaDoor.Pure
