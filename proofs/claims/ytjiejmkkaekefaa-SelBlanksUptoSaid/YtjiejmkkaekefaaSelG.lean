/-
  A text that holds another at a place; a name, a value, a test, a compound that stand there are read so.
-/
import Derived.Test.YtjiejmkkaekefaaSelK
namespace Go.Proofs.Ytjiejmkkaekefaa.PureS
set_option linter.unusedVariables false
set_option linter.unusedSimpArgs false
open Go.RowKit Go.Proofs.Ytjiejmkkaekefaa.PA Go.Proofs.YtjiejmkkaekefaaW.PrintWords Go.Proofs.YtjiejmkkaekefaaW.PrintLast Go.Proofs.YtjiejmkkaekefaaW.PrintMore Go.Proofs.YtjiejmkkaekefaaH

structure At (u : By) (i : Nat) (x : By) : Prop where
  le : i + x.size ≤ u.size
  get : ∀ m : Nat, m < x.size → bt u ((i + m : Nat) : Int) = bt x m
theorem bt_app (a b : By) (m : Nat) : bt (a ++ b) (m : Int) = if m < a.size then bt a m else bt b ((m - a.size : Nat) : Int) := by
  rw [get_data, get_data, get_data, cat_data]
  have hl := len_data a
  by_cases h : m < a.size
  · rw [if_pos h, List.getElem?_append_left (by omega)]
  · rw [if_neg h, List.getElem?_append_right (by omega), hl]
theorem At.left {u : By} {i : Nat} {a b : By} (h : At u i (a ++ b)) : At u i a := by
  have hl := h.le
  rw [ByteArray.size_append] at hl
  refine ⟨by omega, fun m hm => ?_⟩
  rw [h.get m (by rw [ByteArray.size_append]; omega), bt_app, if_pos hm]
theorem At.right {u : By} {i : Nat} {a b : By} (h : At u i (a ++ b)) : At u (i + a.size) b := by
  have hl := h.le
  rw [ByteArray.size_append] at hl
  refine ⟨by omega, fun m hm => ?_⟩
  have := h.get (a.size + m) (by rw [ByteArray.size_append]; omega)
  rw [bt_app, if_neg (by omega), Nat.add_sub_cancel_left, ← Nat.add_assoc] at this
  exact this
theorem At.refl (u : By) : At u 0 u := ⟨by omega, fun m _ => by rw [Nat.zero_add]⟩
theorem by_ext {a b : By} (h : a.size = b.size) (hb : ∀ m : Nat, m < a.size → bt a m = bt b m) : a = b := by
  apply data_ext
  have ha := len_data a
  have hb' := len_data b
  refine List.ext_getElem (by omega) (fun m h1 h2 => ?_)
  have := hb m (by omega)
  rw [get_data, get_data, List.getElem?_eq_getElem h1, List.getElem?_eq_getElem h2] at this
  simp only [Option.map_some, Option.getD_some] at this
  exact UInt8.toNat_inj.1 (by omega)
theorem bt_cut {u : By} {i j : Nat} (hj : j ≤ u.size) {m : Nat} (hm : i + m < j) : bt (u.extract i j) (m : Int) = bt u ((i + m : Nat) : Int) := by
  rw [get_data, get_data, cut_data, List.getElem?_take, if_pos (by omega), List.getElem?_drop]
theorem At.ex {u : By} {i : Nat} {x : By} (h : At u i x) : u.extract i (i + x.size) = x := by
  have hl := h.le
  have hs : (u.extract i (i + x.size)).size = x.size := by rw [ByteArray.size_extract]; omega
  refine by_ext hs (fun m hm => ?_)
  rw [bt_cut hl (by omega), h.get m (by omega)]
/-- One byte. -/
theorem At.one {u : By} {i : Nat} {b : UInt8} (h : At u i (⟨#[b]⟩ : By)) : i < u.size ∧ bt u (i : Int) = (b.toNat : Int) := by
  have hl := h.le
  have hs : (⟨#[b]⟩ : By).size = 1 := rfl
  refine ⟨by omega, ?_⟩
  have := h.get 0 (by omega)
  rw [Nat.add_zero] at this
  rw [this]
  rfl
def NameOk (n : By) : Prop := 0 < n.size ∧ n.size ≤ 20 ∧ letter (bt n 0) = true ∧ ∀ m : Nat, m < n.size → nameB (bt n m) = true
def ValOk (v : By) : Prop := v.size ≤ 60 ∧ ∀ m : Nat, m < v.size → bt v m ≠ 34
def okN (t : Tst) : Prop := t.f0 = 1 ∧ NameOk t.f1 ∧ t.f2 = (⟨#[]⟩ : By)
def okT (t : Tst) : Prop := (t.f0 = 2 ∨ t.f0 = 3 ∨ t.f0 = 4) ∧ NameOk t.f1 ∧ t.f2 = (⟨#[]⟩ : By) ∨ t.f0 = 5 ∧ NameOk t.f1 ∧ ValOk t.f2
def okC : List Tst → Prop
  | [] => True
  | h :: l => (okN h ∨ okT h) ∧ ∀ t ∈ l, okT t
/-- What may stand behind a compound. -/
def brk (b : Int) : Prop := nameB b = false ∧ b ≠ 46 ∧ b ≠ 35 ∧ b ≠ 91
theorem NameOk.first {u : By} {i : Nat} {n : By} (hn : NameOk n) (h : At u i n) : i < u.size ∧ letter (bt u (i : Int)) = true := by
  have hl := h.le
  have := h.get 0 hn.1
  rw [Nat.add_zero] at this
  have h0 := hn.1
  exact ⟨by omega, by rw [this]; exact hn.2.2.1⟩
theorem letter_no {b : Int} (h : letter b = true) : blank b = false ∧ b ≠ 42 ∧ b ≠ 44 ∧ b ≠ 62 ∧ b ≠ 34 ∧ b ≠ 46 ∧ b ≠ 35 ∧ b ≠ 91 := by
  unfold letter at h
  unfold blank
  simp only [Bool.or_eq_true, decide_eq_true_eq] at h
  simp only [Bool.or_eq_false_iff, beq_eq_false_iff_ne]
  omega
theorem name_at {u : By} {i : Nat} {n : By} (hn : NameOk n) (h : At u i n) (hb : nameB (bt u ((i + n.size : Nat) : Int)) = false) : name u i = .ok (n, i + n.size) := by
  have hl := h.le
  have hf := hn.first h
  have e : run u i = i + n.size := by
    refine stop_eq (by omega) hl (fun q h1 h2 => ?_) (fun q => by rw [hb] at q; cases q.2)
    obtain ⟨m, rfl⟩ : ∃ m, q = i + m := ⟨q - i, by omega⟩
    rw [h.get m (by omega)]
    exact hn.2.2.2 m (by omega)
  unfold name
  have h2 := hn.2.1
  rw [if_pos hf, e, if_pos (by omega), h.ex]
theorem skip_here {u : By} {i : Nat} (h : blank (bt u (i : Int)) = false) : skip u i = i := stop_here (fun q => by rw [h] at q; cases q.2)
theorem bt_of {u : By} {i : Nat} {b : UInt8} {x : By} (h : At u i ((⟨#[b]⟩ : By) ++ x)) : i < u.size ∧ bt u (i : Int) = (b.toNat : Int) := h.left.one
theorem value_at {u : By} {i : Nat} {v : By} (hv : ValOk v) (h : At u i (((⟨#[34]⟩ : By) ++ v) ++ (⟨#[34]⟩ : By))) : value u i = .ok (v, i + v.size + 2) := by
  have h0 := h.left.left.one
  have h1 := h.left.right
  have h2 := h.right.one
  have e1 : (⟨#[34]⟩ : By).size = 1 := rfl
  rw [e1] at h1
  rw [ByteArray.size_append, e1] at h2
  have hl := h1.le
  have e : stop noQuote u (i + 1) = i + 1 + v.size := by
    refine stop_eq (by omega) (by omega) (fun q g1 g2 => ?_) (fun q => ?_)
    · obtain ⟨m, rfl⟩ : ∃ m, q = i + 1 + m := ⟨q - (i + 1), by omega⟩
      rw [h1.get m (by omega)]
      have := hv.2 m (by omega)
      unfold noQuote
      exact bne_iff_ne.2 this
    · rw [show i + 1 + v.size = i + (1 + v.size) from by omega, h2.2] at q
      cases q.2
  unfold value
  have hv1 := hv.1
  rw [if_pos (show isB u i 34 from ⟨h0.1, h0.2⟩), e, if_pos ⟨by omega, by omega⟩, h1.ex]
  have : i + 1 + v.size + 1 = i + v.size + 2 := by omega
  rw [this]
theorem has_at {u : By} {i : Nat} {n : By} (hn : NameOk n) (h : At u i (n ++ (⟨#[93]⟩ : By))) : brackets u i = .ok (⟨4, n, ⟨#[]⟩⟩, i + n.size + 1) := by
  have h1 := h.right.one
  have e0 : bt u ((i + n.size : Nat) : Int) = 93 := h1.2
  have e1 : skip u i = i := skip_here (letter_no (hn.first h.left).2).1
  have e2 : skip u (i + n.size) = i + n.size := skip_here (by rw [e0]; rfl)
  unfold brackets
  rw [e1, name_at hn h.left (by rw [e0]; rfl)]
  dsimp only
  rw [e2, if_neg (fun q => by have := q.2; rw [e0] at this; exact absurd this (by decide)), if_pos ⟨h1.1, e0⟩]
theorem is_at {u : By} {i : Nat} {n v : By} (hn : NameOk n) (hv : ValOk v) (h : At u i (n ++ ((⟨#[61]⟩ : By) ++ ((((⟨#[34]⟩ : By) ++ v) ++ (⟨#[34]⟩ : By)) ++ (⟨#[93]⟩ : By))))) : brackets u i = .ok (⟨5, n, v⟩, i + n.size + v.size + 4) := by
  have h1 := bt_of h.right
  have h2 := h.right.right.left
  have h3 := h.right.right.right.one
  have s1 : (⟨#[61]⟩ : By).size = 1 := rfl
  have s2 : (⟨#[34]⟩ : By).size = 1 := rfl
  rw [ByteArray.size_append, ByteArray.size_append, s1, s2] at h3
  rw [s1] at h2
  have e0 : bt u ((i + n.size : Nat) : Int) = 61 := h1.2
  have e1 : skip u i = i := skip_here (letter_no (hn.first h.left).2).1
  have e2 : skip u (i + n.size) = i + n.size := skip_here (by rw [e0]; rfl)
  have e3 : skip u (i + n.size + 1) = i + n.size + 1 := skip_here (by rw [h2.left.left.one.2]; rfl)
  have e5 : bt u ((i + n.size + 1 + v.size + 2 : Nat) : Int) = 93 := by
    have := h3.2
    rw [show i + n.size + 1 + (1 + v.size + 1) = i + n.size + 1 + v.size + 2 from by omega] at this
    exact this
  have e4 : skip u (i + n.size + 1 + v.size + 2) = i + n.size + 1 + v.size + 2 := skip_here (by rw [e5]; rfl)
  unfold brackets
  rw [e1, name_at hn h.left (by rw [e0]; rfl)]
  dsimp only
  rw [e2, if_pos (show isB u (i + n.size) 61 from ⟨h1.1, e0⟩), e3, value_at hv h2]
  dsimp only
  rw [e4, if_pos (show isB u (i + n.size + 1 + v.size + 2) 93 from ⟨by have := h3.1; omega, e5⟩)]
  have : i + n.size + 1 + v.size + 2 + 1 = i + n.size + v.size + 4 := by omega
  rw [this]
end Go.Proofs.Ytjiejmkkaekefaa.PureS
