
import Derived.Test.YtooefecjkgdpbaaDoorOpE

/-
  Decode in plain lists: what is decoded is encoded, what is encoded is decoded to the same, and Decode tells something of any bytes.
-/
namespace Go.Proofs.YtooefecjkgdpbaaDoor.Pure
set_option linter.unusedVariables false
set_option linter.unusedSimpArgs false
open Go.RowKit Go.Proofs.YtooefecjkgdpbaaDoor.PA Go.Proofs.YtooefecjkgdpbaaDoorW.PrintWords Go.Proofs.YtooefecjkgdpbaaDoorW.PrintLast Go.Proofs.YtooefecjkgdpbaaDoorW.PrintMore Go.Proofs.YtooefecjkgdpbaaDoorH

theorem bytesOf_inj {s t : ByteArray} (h : bytesOf s = bytesOf t) : s = t := by rw [← strOfNums_bytesOf s, h, strOfNums_bytesOf]
theorem bytesOf_extract (s : ByteArray) (i j : Nat) : bytesOf (s.extract i j) = ((bytesOf s).drop i).take (j - i) := by
  unfold bytesOf
  rw [ByteArray.data_extract, Array.toList_extract, List.extract_eq_take_drop, List.map_take, List.map_drop]
theorem bt_head {s : ByteArray} {c : Int} {r : List Int} (h : bytesOf s = c :: r) : bt s 0 = c := by
  rw [← rd_bytesOf, h]
  rfl
theorem size_of {s : ByteArray} {q : List Int} (h : bytesOf s = q) : s.size = q.length := by rw [← h, bytesOf_length]
theorem size_nil {s : ByteArray} : s.toList = [] ↔ bytesOf s = [] := by
  rw [ByteArray.toList_eq]
  unfold bytesOf
  rw [List.map_eq_nil_iff]
theorem byte_range {s : ByteArray} {c : Int} {r : List Int} (h : bytesOf s = c :: r) : 0 ≤ c ∧ c < 256 := (h ▸ bts_bytesOf s : Bts (c :: r)).head
theorem bytesOf_drop1 {s : ByteArray} {c : Int} {r : List Int} (h : bytesOf s = c :: r) : bytesOf (s.extract 1 s.size) = r := by
  rw [bytesOf_extract, h, size_of h]
  simp
theorem tk_no {s : ByteArray} (h : bytesOf s = []) : tkShort s = true := by
  unfold tkShort
  rw [size_of h]
  have : bt s 0 = 0 := by
    rw [← rd_bytesOf, h]
    rfl
  rw [this]
  decide
theorem tkShort_eq {s : ByteArray} {c : Int} {r : List Int} (h : bytesOf s = c :: r) : tkShort s = decide ((r.length : Int) < c) := by
  unfold tkShort
  rw [size_of h, bt_head h, List.length_cons]
  apply decide_eq_decide.2
  omega
theorem tkP_eq {s : ByteArray} {c : Int} {r : List Int} (h : bytesOf s = c :: r) (hs : ¬ (r.length : Int) < c) : bytesOf (tkP s) = c :: r.take c.toNat := by
  have hc := byte_range h
  unfold tkP
  rw [tkShort_eq h, if_neg (by simpa using hs), bt_head h, bytesOf_extract, h]
  rw [show (1 + c).toNat - 0 = c.toNat + 1 by omega, List.drop_zero, List.take_succ_cons]
theorem tkS_eq {s : ByteArray} {c : Int} {r : List Int} (h : bytesOf s = c :: r) (hs : ¬ (r.length : Int) < c) : bytesOf (tkS s) = r.drop c.toNat := by
  have hc := byte_range h
  unfold tkS
  rw [tkShort_eq h, if_neg (by simpa using hs), bt_head h, bytesOf_extract, h, size_of h]
  rw [show (1 + c).toNat = c.toNat + 1 by omega, List.drop_succ_cons, List.take_of_length_le]
  rw [List.length_drop, List.length_cons]
  omega
theorem tkS_le (s : ByteArray) : (tkS s).size ≤ s.size := by
  unfold tkS
  split
  · exact Nat.le_refl _
  · rw [ByteArray.size_extract]
    omega
theorem backOf_range {b : Int} {tl : List Int} (h : Bts (b :: tl)) : 0 ≤ (backOf b tl).1 ∧ (backOf b tl).1 < 18446744073709551616 := by
  unfold backOf
  split
  · rename_i hh
    exact val_small h.tail hh.2.1
  · decide
/-- A piece, and what pack.Back tells of it. -/
theorem back_tk {k : Nat} (hk : 80 ≤ k) (s : ByteArray) (hs : s.size ≤ 1000) : ∃ b tl, Bts (b :: tl) ∧ tkP s = strOfNums (b :: tl) ∧ pack_Back.f k (tkP s) = some (backOf b tl) := by
  rcases hq : bytesOf s with _ | ⟨c, r⟩
  · refine ⟨0, [], Bts.cons (by decide) Bts.nil, ?_, ?_⟩
    · unfold tkP
      rw [if_pos (tk_no hq)]
      rfl
    · have : tkP s = strOfNums [0] := by
        unfold tkP
        rw [if_pos (tk_no hq)]
        rfl
      rw [this]
      exact back_eq hk (Bts.cons (by decide) Bts.nil) (by decide)
  · have hb := hq ▸ bts_bytesOf s
    by_cases hsh : (r.length : Int) < c
    · have : tkP s = strOfNums [0] := by
        unfold tkP
        rw [tkShort_eq hq, if_pos (by simpa using hsh)]
        rfl
      refine ⟨0, [], Bts.cons (by decide) Bts.nil, this, ?_⟩
      rw [this]
      exact back_eq hk (Bts.cons (by decide) Bts.nil) (by decide)
    · have hp : tkP s = strOfNums (c :: r.take c.toNat) := by
        rw [← strOfNums_bytesOf (tkP s), tkP_eq hq hsh]
      have hb2 : Bts (c :: r.take c.toNat) := Bts.cons (byte_range hq) (fun x hx => hb x (List.mem_cons_of_mem _ (List.mem_of_mem_take hx)))
      refine ⟨c, r.take c.toNat, hb2, hp, ?_⟩
      rw [hp]
      exact back_eq hk hb2 (by have := size_of hq; rw [List.length_cons] at this; rw [List.length_take]; omega)
/-! ### one item -/
theorem dNum_all {k : Nat} (hk : 80 ≤ k) (c : Bool) (s : ByteArray) (b : Bool) (hs : s.size ≤ 1000) : ∃ v s' b', dNum k c s b = some (v, s', b') ∧ s'.size ≤ s.size := by
  unfold dNum
  cases c
  · exact ⟨0, s, b, rfl, Nat.le_refl _⟩
  · simp only [if_true]
    obtain ⟨x, tl, hb, hp, he⟩ := back_tk hk s hs
    rw [he, Option.bind_some, zag_eq (backOf_range hb), Option.bind_some]
    exact ⟨_, _, _, rfl, tkS_le s⟩
theorem dNum_back {k : Nat} (hk : 80 ≤ k) {c : Bool} {s s' : ByteArray} {b b' : Bool} {v : Int} (hs : s.size ≤ 1000) (h : dNum k c s b = some (v, s', b')) (hb' : b' = false) : b = false ∧ bytesOf s = numI c v ++ bytesOf s' ∧ I64 v ∧ (c = false → v = 0) := by
  subst hb'
  cases c
  · obtain ⟨rfl, rfl, hb⟩ := dNum_no h rfl
    exact ⟨hb.symm, rfl, by decide, fun _ => rfl⟩
  · obtain ⟨u, is, h1, h2, rfl, h3⟩ := dNum_yes h rfl
    have h3 : tkShort s = false ∧ b = false ∧ is = true := by
      revert h3
      cases tkShort s <;> cases b <;> cases is <;> simp
    obtain ⟨h4, h5, rfl⟩ := h3
    rcases hq : bytesOf s with _ | ⟨x, r⟩
    · rw [tk_no hq] at h4
      cases h4
    · have hsh : ¬ (r.length : Int) < x := by
        rw [tkShort_eq hq] at h4
        exact of_decide_eq_false h4
      have hx := byte_range hq
      have hb := hq ▸ bts_bytesOf s
      have hb2 : Bts (x :: r.take x.toNat) := Bts.cons hx (fun y hy => hb y (List.mem_cons_of_mem _ (List.mem_of_mem_take hy)))
      have hp : tkP s = strOfNums (x :: r.take x.toNat) := by rw [← strOfNums_bytesOf (tkP s), tkP_eq hq hsh]
      have hbk := back_eq hk hb2 (by have := size_of hq; rw [List.length_cons] at this; rw [List.length_take]; omega)
      rw [hp, hbk] at h1
      have h1 := Option.some.inj h1
      unfold backOf at h1
      by_cases hh : x = (r.take x.toNat).length ∧ (r.take x.toNat).length ≤ 8 ∧ dig 8 (val (r.take x.toNat)) = r.take x.toNat
      · rw [if_pos hh] at h1
        simp only [Prod.mk.injEq] at h1
        have hu := val_small hb2.tail hh.2.1
        rw [h1.1] at hu
        rw [zag_eq hu] at h2
        have h2 := Option.some.inj h2
        refine ⟨h5, ?_, ?_, fun h => by cases h⟩
        · rw [tkS_eq hq hsh]
          unfold numI
          rw [if_pos rfl, ← h2, zig_zag hu.1]
          unfold bytes
          rw [← h1.1, hh.2.2, ← hh.1]
          show x :: r = x :: (r.take x.toNat ++ r.drop x.toNat)
          rw [List.take_append_drop]
        · rw [← h2]
          exact zag_range hu
      · rw [if_neg hh] at h1
        cases h1
theorem bytes_head (u : Int) (q : List Int) : bytes u ++ q = ((dig 8 u).length : Int) :: (dig 8 u ++ q) := rfl
theorem dNum_fwd {k : Nat} (hk : 80 ≤ k) {c : Bool} {v : Int} {s s' : ByteArray} (hv : I64 v) (hc : c = false → v = 0) (h : bytesOf s = numI c v ++ bytesOf s') : dNum k c s false = some (v, s', false) := by
  unfold dNum
  cases c
  · simp only [Bool.false_eq_true, if_false]
    unfold numI at h
    simp only [Bool.false_eq_true, if_false, List.nil_append] at h
    rw [hc rfl, bytesOf_inj h]
  · simp only [if_true]
    unfold numI at h
    rw [if_pos rfl, bytes_head] at h
    have hd8 := dig_len 8 (zig v)
    have hz := zig_range hv
    have hsh : ¬ (((dig 8 (zig v) ++ bytesOf s').length : Nat) : Int) < ((dig 8 (zig v)).length : Int) := by
      rw [List.length_append]
      omega
    have hp : tkP s = strOfNums (((dig 8 (zig v)).length : Int) :: dig 8 (zig v)) := by
      rw [← strOfNums_bytesOf (tkP s), tkP_eq h hsh, Int.toNat_natCast, List.take_left']
      rfl
    have hS : tkS s = s' := bytesOf_inj (by rw [tkS_eq h hsh, Int.toNat_natCast, List.drop_left']; rfl)
    have hb : Bts (((dig 8 (zig v)).length : Int) :: dig 8 (zig v)) := bytes_bts (zig v)
    rw [hp, back_eq hk hb (by omega), Option.bind_some]
    unfold backOf
    rw [val_dig 8 (zig v) hz.1 (by rw [p256]; exact hz.2), if_pos ⟨rfl, hd8, rfl⟩]
    simp only
    rw [zag_eq hz, Option.bind_some, zag_zig, hS, tkShort_eq h, decide_eq_false hsh]
    rfl
theorem dText_back {c : Bool} {s s' v : ByteArray} {b b' : Bool} (h : dText c s b = (v, s', b')) (hb' : b' = false) : b = false ∧ bytesOf s = txtI c v ++ bytesOf s' ∧ v.size ≤ 255 ∧ (c = false → v = ⟨#[]⟩) := by
  subst hb'
  unfold dText at h
  cases c
  · simp only [Bool.false_eq_true, if_false, Prod.mk.injEq] at h
    obtain ⟨rfl, rfl, rfl⟩ := h
    exact ⟨rfl, rfl, by decide, fun _ => rfl⟩
  · simp only [if_true, Prod.mk.injEq] at h
    obtain ⟨rfl, rfl, h3⟩ := h
    rw [Bool.or_eq_false_iff] at h3
    rcases hq : bytesOf s with _ | ⟨x, r⟩
    · rw [tk_no hq] at h3
      cases h3.1
    · have hsh : ¬ (r.length : Int) < x := by
        have := h3.1
        rw [tkShort_eq hq] at this
        exact of_decide_eq_false this
      have hx := byte_range hq
      have e : bytesOf ((tkP s).extract 1 (tkP s).size) = r.take x.toNat := bytesOf_drop1 (tkP_eq hq hsh)
      have e2 : ((tkP s).extract 1 (tkP s).size).size = x.toNat := by
        rw [size_of e, List.length_take]
        omega
      refine ⟨h3.2, ?_, by omega, fun h => by cases h⟩
      unfold txtI
      rw [if_pos rfl, e, e2, tkS_eq hq hsh]
      show x :: r = (x.toNat : Int) :: (r.take x.toNat ++ r.drop x.toNat)
      rw [List.take_append_drop, Int.toNat_of_nonneg hx.1]
theorem dText_fwd {c : Bool} {v s s' : ByteArray} (hv : v.size ≤ 255) (hc : c = false → v = ⟨#[]⟩) (h : bytesOf s = txtI c v ++ bytesOf s') : dText c s false = (v, s', false) := by
  unfold dText
  cases c
  · simp only [Bool.false_eq_true, if_false]
    unfold txtI at h
    simp only [Bool.false_eq_true, if_false, List.nil_append] at h
    rw [hc rfl, bytesOf_inj h]
  · simp only [if_true]
    unfold txtI at h
    rw [if_pos rfl, List.cons_append] at h
    have hl := bytesOf_length v
    have hsh : ¬ (((bytesOf v ++ bytesOf s').length : Nat) : Int) < (v.size : Int) := by
      rw [List.length_append]
      omega
    have e : bytesOf ((tkP s).extract 1 (tkP s).size) = bytesOf v := by
      rw [bytesOf_drop1 (tkP_eq h hsh), Int.toNat_natCast, List.take_left' hl]
    rw [bytesOf_inj e, tkShort_eq h, decide_eq_false hsh]
    rw [show tkS s = s' from bytesOf_inj (by rw [tkS_eq h hsh, Int.toNat_natCast, List.drop_left' hl])]
    rfl
/-! ### an operation -/
theorem kind_cases {n : Int} (h : isKind n = true) : 1 ≤ n ∧ n ≤ 8 := by
  unfold isKind at h
  rw [Bool.and_eq_true] at h
  exact ⟨of_decide_eq_true h.1, of_decide_eq_true h.2⟩
/-- What its kind has not is 0, or "". -/
def bare (o : OpT) : Prop := (decide (0 < shpN o.f0) = false → o.f1 = 0) ∧ (decide (1 < shpN o.f0) = false → o.f2 = 0) ∧ (decide (2 < shpN o.f0) = false → o.f3 = 0) ∧ (shpS o.f0 = false → o.f4 = ⟨#[]⟩) ∧ (shpT o.f0 = false → o.f5 = ⟨#[]⟩)
theorem toList_none : (⟨#[]⟩ : ByteArray).toList = ([] : List UInt8) := by rw [ByteArray.toList_eq]
theorem mayO_of {o : OpT} (hk : isKind o.f0 = true) (h4 : o.f4.size ≤ 255) (h5 : o.f5.size ≤ 255) (hb : bare o) : mayO o = true := by
  obtain ⟨b1, b2, b3, b4, b5⟩ := hb
  unfold mayO opMay
  rw [hk, decide_eq_true h4, decide_eq_true h5]
  simp only [Bool.true_and]
  have one : ∀ (p : Bool) (x : Int), (p = false → x = 0) → (p || decide (x = 0)) = true := by
    intro p x h
    cases p
    · rw [h rfl]
      decide
    · rfl
  have two : ∀ (p : Bool) (x : ByteArray), (p = false → x = ⟨#[]⟩) → (p || decide (x.toList = ([] : List UInt8))) = true := by
    intro p x h
    cases p
    · rw [h rfl, decide_eq_true toList_none]
      rfl
    · rfl
  rw [one _ _ b1, one _ _ b2, one _ _ b3, two _ _ b4, two _ _ b5]
  rfl
theorem mayO_bare {o : OpT} (h : mayO o = true) : isKind o.f0 = true ∧ o.f4.size ≤ 255 ∧ o.f5.size ≤ 255 ∧ bare o := by
  unfold mayO opMay at h
  simp only [Bool.and_eq_true, decide_eq_true_eq] at h
  obtain ⟨hk, h4, h5, b1, b2, b3, b4, b5⟩ := h
  have one : ∀ (p : Bool) (x : Int), (p || decide (x = 0)) = true → p = false → x = 0 := by
    intro p x h hp
    rw [hp] at h
    exact of_decide_eq_true h
  have two : ∀ (p : Bool) (x : ByteArray), (p || decide (x.toList = ([] : List UInt8))) = true → p = false → x = ⟨#[]⟩ := by
    intro p x h hp
    rw [hp] at h
    have := of_decide_eq_true h
    rw [← toList_none, str_toList_iff] at this
    exact this
  exact ⟨hk, h4, h5, one _ _ b1, one _ _ b2, one _ _ b3, two _ _ b4, two _ _ b5⟩
/-- The bytes of an operation behind its kind. -/
def tailI (o : OpT) : List Int := numI (decide (0 < shpN o.f0)) o.f1 ++ (numI (decide (1 < shpN o.f0)) o.f2 ++ (numI (decide (2 < shpN o.f0)) o.f3 ++ (txtI (shpS o.f0) o.f4 ++ txtI (shpT o.f0) o.f5)))
theorem encI_eq (o : OpT) : encI o = o.f0 :: tailI o := rfl
theorem decOp_all {k : Nat} (hk : 80 ≤ k) (n : Int) (s : ByteArray) (hs : s.size ≤ 1000) : ∃ o s' b', decOp k n s = some (o, s', b') ∧ s'.size ≤ s.size := by
  unfold decOp
  obtain ⟨v1, s1, b1, e1, l1⟩ := dNum_all hk (decide (0 < shpN n)) s false hs
  rw [e1, Option.bind_some]
  obtain ⟨v2, s2, b2, e2, l2⟩ := dNum_all hk (decide (1 < shpN n)) s1 b1 (by omega)
  simp only
  rw [e2, Option.bind_some]
  obtain ⟨v3, s3, b3, e3, l3⟩ := dNum_all hk (decide (2 < shpN n)) s2 b2 (by omega)
  simp only
  rw [e3, Option.bind_some]
  refine ⟨_, _, _, rfl, ?_⟩
  have t : ∀ (c : Bool) (s : ByteArray) (b : Bool), (dText c s b).2.1.size ≤ s.size := by
    intro c s b
    unfold dText
    cases c
    · exact Nat.le_refl _
    · exact tkS_le s
  have t1 := t (shpS n) s3 b3
  have t2 := t (shpT n) (dText (shpS n) s3 b3).2.1 (dText (shpS n) s3 b3).2.2
  exact Nat.le_trans t2 (by omega)
theorem decOp_back {k : Nat} (hk : 80 ≤ k) {n : Int} (hn : I64 n) (hkd : isKind n = true) {s s' : ByteArray} {o : OpT} {b' : Bool} (hs : s.size ≤ 1000) (h : decOp k n s = some (o, s', b')) (hb' : b' = false) :
    o.f0 = n ∧ mayO o = true ∧ OkO o ∧ bytesOf s = tailI o ++ bytesOf s' ∧ s'.size ≤ s.size := by
  subst hb'
  unfold decOp at h
  obtain ⟨v1, s1, b1, e1, l1⟩ := dNum_all hk (decide (0 < shpN n)) s false hs
  rw [e1, Option.bind_some] at h
  simp only at h
  obtain ⟨v2, s2, b2, e2, l2⟩ := dNum_all hk (decide (1 < shpN n)) s1 b1 (by omega)
  rw [e2, Option.bind_some] at h
  simp only at h
  obtain ⟨v3, s3, b3, e3, l3⟩ := dNum_all hk (decide (2 < shpN n)) s2 b2 (by omega)
  rw [e3, Option.bind_some] at h
  simp only at h
  obtain ⟨v4, s4, b4, e4⟩ : ∃ x y z, dText (shpS n) s3 b3 = (x, y, z) := ⟨_, _, _, rfl⟩
  rw [e4] at h
  simp only at h
  obtain ⟨v5, s5, b5, e5⟩ : ∃ x y z, dText (shpT n) s4 b4 = (x, y, z) := ⟨_, _, _, rfl⟩
  rw [e5] at h
  simp only [Option.some.injEq, Prod.mk.injEq] at h
  obtain ⟨rfl, rfl, hb5⟩ := h
  obtain ⟨hb4, q5, z5, c5⟩ := dText_back e5 hb5
  obtain ⟨hb3, q4, z4, c4⟩ := dText_back e4 hb4
  obtain ⟨hb2, q3, i3, c3⟩ := dNum_back hk (by omega) e3 hb3
  obtain ⟨hb1, q2, i2, c2⟩ := dNum_back hk (by omega) e2 hb2
  obtain ⟨_, q1, i1, c1⟩ := dNum_back hk hs e1 hb1
  have hq : bytesOf s = tailI (⟨n, v1, v2, v3, v4, v5⟩ : OpT) ++ bytesOf s5 := by
    rw [q1, q2, q3, q4, q5]
    unfold tailI
    simp only [List.append_assoc]
  refine ⟨rfl, mayO_of hkd z4 z5 ⟨c1, c2, c3, c4, c5⟩, ⟨hn, i1, i2, i3⟩, hq, ?_⟩
  have := congrArg List.length hq
  rw [bytesOf_length, List.length_append, bytesOf_length] at this
  omega
theorem decOp_fwd {k : Nat} (hk : 80 ≤ k) {o : OpT} (hm : mayO o = true) (ho : OkO o) {s s' : ByteArray} (h : bytesOf s = tailI o ++ bytesOf s') : decOp k o.f0 s = some (o, s', false) := by
  obtain ⟨_, h4, h5, b1, b2, b3, b4, b5⟩ := mayO_bare hm
  unfold tailI at h
  simp only [List.append_assoc] at h
  have cut : ∀ q : List Int, Bts q → ∃ x : ByteArray, bytesOf x = q := fun q hq => ⟨strOfNums q, bytesOf_strOfNums hq⟩
  have hb : Bts (bytesOf s) := bts_bytesOf s
  have sub : ∀ (p q : List Int), Bts (p ++ q) → Bts q := fun p q hpq x hx => hpq x (List.mem_append_right _ hx)
  rw [h] at hb
  obtain ⟨s1, e1⟩ := cut _ (sub _ _ hb)
  rw [← e1] at h
  have hb1 := bts_bytesOf s1
  rw [e1] at hb1
  obtain ⟨s2, e2⟩ := cut _ (sub _ _ hb1)
  rw [← e2] at e1
  have hb2 := bts_bytesOf s2
  rw [e2] at hb2
  obtain ⟨s3, e3⟩ := cut _ (sub _ _ hb2)
  rw [← e3] at e2
  have hb3 := bts_bytesOf s3
  rw [e3] at hb3
  obtain ⟨s4, e4⟩ := cut _ (sub _ _ hb3)
  rw [← e4] at e3
  unfold decOp
  rw [dNum_fwd hk ho.2.1 b1 h, Option.bind_some]
  simp only
  rw [dNum_fwd hk ho.2.2.1 b2 e1, Option.bind_some]
  simp only
  rw [dNum_fwd hk ho.2.2.2 b3 e2, Option.bind_some]
  simp only
  rw [dText_fwd h4 b4 e3]
  simp only
  rw [dText_fwd h5 b5 e4]
/-! ### the loop -/
theorem kind_i64 {s : ByteArray} : I64 (bt s 0) := by
  have : 0 ≤ bt s 0 ∧ bt s 0 < 256 := by
    rcases hq : bytesOf s with _ | ⟨c, r⟩
    · rw [← rd_bytesOf, hq]
      decide
    · rw [bt_head hq]
      exact byte_range hq
  unfold I64
  omega
theorem dec_back : ∀ (k : Nat) (s : ByteArray) (l r : List OpT), s.size ≤ 1000 → op_Decode.l0 k s l = some (r, 0) → ∃ m, r = l ++ m ∧ m.all mayO = true ∧ (∀ o ∈ m, OkO o) ∧ bytesOf s = encsI m ∧ (m = [] ∨ r.length ≤ 20)
  | 0, s, l, r, _, h => by simp [op_Decode.l0] at h
  | j + 1, s, l, r, hs, h => by
    rw [op_Decode.l0] at h
    by_cases h0 : s.toList = ([] : List UInt8)
    · rw [if_pos h0] at h
      simp only [Option.some.injEq, Prod.mk.injEq] at h
      exact ⟨[], by rw [List.append_nil]; exact h.1.symm, rfl, (fun o ho => by cases ho), size_nil.1 h0, Or.inl rfl⟩
    · rw [if_neg h0] at h
      obtain ⟨⟨o, s', b'⟩, e1, h⟩ := Option.bind_eq_some_iff.1 h
      simp only at h
      by_cases hc : b' = true ∨ isKind (bt s 0) = false ∨ 20 < l.length + 1
      · rw [if_pos hc] at h
        simp at h
      · rw [if_neg hc] at h
        have hb : b' = false := by
          rcases b' with _ | _
          · rfl
          · exact absurd (Or.inl rfl) hc
        have hkd : isKind (bt s 0) = true := by
          rcases hk : isKind (bt s 0) with _ | _
          · exact absurd (Or.inr (Or.inl hk)) hc
          · rfl
        have hln : ¬ 20 < l.length + 1 := fun h => hc (Or.inr (Or.inr h))
        have hsz : (s.extract 1 s.size).size ≤ 1000 := by rw [ByteArray.size_extract]; omega
        have e2 : decOp (j + 80) (bt s 0) (s.extract 1 s.size) = some (o, s', b') := at_rounds (fun k => decOp_mono k _ _) (by omega) e1
        obtain ⟨f0, hm, ho, hq, hle⟩ := decOp_back (by omega) kind_i64 hkd hsz e2 hb
        obtain ⟨m, rfl, hma, hok, hqm, hl⟩ := dec_back j s' (l ++ [o]) r (by omega) h
        refine ⟨o :: m, by simp, by rw [List.all_cons, hm, hma]; rfl, ?_, ?_, ?_⟩
        · intro x hx
          rcases List.mem_cons.1 hx with rfl | hx
          · exact ho
          · exact hok x hx
        · rcases hqs : bytesOf s with _ | ⟨c, q⟩
          · exact absurd (size_nil.2 hqs) h0
          · rw [bytesOf_drop1 hqs] at hq
            rw [bt_head hqs] at f0
            show c :: q = encI o ++ encsI m
            rw [encI_eq, f0, hq, hqm]
            rfl
        · right
          rcases hl with rfl | hl
          · simp
            omega
          · exact hl
theorem dec_fwd : ∀ (m : List OpT) (k : Nat) (s : ByteArray) (l : List OpT), m.all mayO = true → (∀ o ∈ m, OkO o) → bytesOf s = encsI m → l.length + m.length ≤ 20 → m.length + 81 ≤ k → op_Decode.l0 k s l = some (l ++ m, 0)
  | [], 0, _, _, _, _, _, _, hk => by simp at hk
  | _ :: _, 0, _, _, _, _, _, _, hk => by simp at hk
  | [], k + 1, s, l, _, _, hq, _, _ => by
    rw [op_Decode.l0, if_pos (size_nil.2 hq), List.append_nil]
  | o :: m, k + 1, s, l, hm, hok, hq, hl, hk => by
    rw [List.all_cons, Bool.and_eq_true] at hm
    rw [List.length_cons] at hl hk
    have hq1 : bytesOf s = o.f0 :: (tailI o ++ encsI m) := hq
    have hb := (bts_bytesOf s)
    rw [hq1] at hb
    rw [op_Decode.l0, if_neg (fun h => by rw [size_nil.1 h] at hq1; cases hq1), bt_head hq1]
    have hq2 : bytesOf (s.extract 1 s.size) = tailI o ++ bytesOf (strOfNums (encsI m)) := by rw [bytesOf_drop1 hq1, bytesOf_strOfNums (encsI_bts hm.2)]
    rw [decOp_fwd (by omega) hm.1 (hok o (List.mem_cons_self ..)) hq2, Option.bind_some]
    simp only
    have hkd := (mayO_bare hm.1).1
    rw [if_neg (by rw [hkd]; simp; omega), dec_fwd m k (strOfNums (encsI m)) (l ++ [o]) hm.2 (fun x hx => hok x (List.mem_cons_of_mem _ hx)) (bytesOf_strOfNums (encsI_bts hm.2)) (by rw [List.length_append]; simp; omega) (by omega)]
    simp
theorem dec_all : ∀ (n k : Nat) (s : ByteArray) (l : List OpT), s.size ≤ n → n ≤ 1000 → n + 82 ≤ k → ∃ r, op_Decode.l0 k s l = some r ∧ (r.2 = 0 ∨ r = ([], 4))
  | n, 0, s, l, _, _, hk => by omega
  | n, k + 1, s, l, hs, hn, hk => by
    rw [op_Decode.l0]
    by_cases h0 : s.toList = ([] : List UInt8)
    · rw [if_pos h0]
      exact ⟨_, rfl, Or.inl rfl⟩
    · rw [if_neg h0]
      have hpos : 0 < s.size := by
        rcases hq : bytesOf s with _ | ⟨c, r⟩
        · exact absurd (size_nil.2 hq) h0
        · rw [size_of hq]
          simp
      have hsz : (s.extract 1 s.size).size = s.size - 1 := by rw [ByteArray.size_extract]; omega
      obtain ⟨o, s', b', e1, hle⟩ := decOp_all (k := k) (by omega) (bt s 0) (s.extract 1 s.size) (by omega)
      rw [e1, Option.bind_some]
      simp only
      by_cases hc : b' = true ∨ isKind (bt s 0) = false ∨ 20 < l.length + 1
      · rw [if_pos hc]
        exact ⟨_, rfl, Or.inr rfl⟩
      · rw [if_neg hc]
        exact dec_all (n - 1) k s' (l ++ [o]) (by omega) (by omega) (by omega)
/-! ### Decode -/
/-- Some operations, or the error: just those whose bytes they are. -/
theorem decode_eq (s : ByteArray) (hs : s.size ≤ 400) : ∃ r, (∀ k, 500 ≤ k → op_Decode.f k s = some r) ∧ ((r.2 = 0 ∧ r.1.all mayO = true ∧ (∀ o ∈ r.1, OkO o) ∧ r.1.length ≤ 20 ∧ bytesOf s = encsI r.1) ∨ (r = ([], 4) ∧ ∀ m : List OpT, m.all mayO = true → (∀ o ∈ m, OkO o) → m.length ≤ 20 → bytesOf s ≠ encsI m)) := by
  obtain ⟨⟨r, e⟩, h1, h2⟩ := dec_all 400 500 s [] hs (by decide) (by decide)
  refine ⟨(r, e), fun k hk => at_rounds (fun k => op_Decode.mono_l k s []) hk h1, ?_⟩
  rcases h2 with h2 | h2
  · left
    simp only at h2
    subst h2
    obtain ⟨m, rfl, hm, hok, hq, hl⟩ := dec_back 500 s [] r (by omega) h1
    refine ⟨rfl, hm, hok, ?_, hq⟩
    rcases hl with rfl | hl
    · decide
    · exact hl
  · right
    refine ⟨h2, fun m hm hok hl hq => ?_⟩
    have := dec_fwd m 500 s [] hm hok hq (by simpa using hl) (by omega)
    rw [h1, h2] at this
    simp at this
theorem decode_fwd {k : Nat} (hk : 500 ≤ k) (m : List OpT) (hm : m.all mayO = true) (hok : ∀ o ∈ m, OkO o) (hl : m.length ≤ 20) : op_Decode.f k (strOfNums (encsI m)) = some (m, 0) := by
  have := dec_fwd m k (strOfNums (encsI m)) [] hm hok (bytesOf_strOfNums (encsI_bts hm)) (by simpa using hl) (by omega)
  unfold op_Decode.f
  simpa using this
theorem encsI_inj {a b : List OpT} (ha : a.all mayO = true) (hb : b.all mayO = true) (oa : ∀ o ∈ a, OkO o) (ob : ∀ o ∈ b, OkO o) (la : a.length ≤ 20) (lb : b.length ≤ 20) (h : encsI a = encsI b) : a = b := by
  have h1 := decode_fwd (k := 500) (by decide) a ha oa la
  have h2 := decode_fwd (k := 500) (by decide) b hb ob lb
  rw [h, h2] at h1
  have := Option.some.inj h1
  exact (Prod.mk.inj this).1.symm
end Go.Proofs.YtooefecjkgdpbaaDoor.Pure
