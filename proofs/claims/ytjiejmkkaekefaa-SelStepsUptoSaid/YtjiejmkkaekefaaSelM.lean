
import Derived.Test.YtjiejmkkaekefaaSelK
import Derived.Test.YtjiejmkkaekefaaSelN
/-
  A text that holds another at a place; what stands there is read so; the text of a selector, with any blanks around commas and marks, is read back to it.
-/
namespace Go.Proofs.Ytjiejmkkaekefaa.PureS
set_option linter.unusedVariables false
set_option linter.unusedSimpArgs false
open Go.RowKit Go.Proofs.Ytjiejmkkaekefaa.PA Go.Proofs.YtjiejmkkaekefaaW.PrintWords Go.Proofs.YtjiejmkkaekefaaW.PrintLast Go.Proofs.YtjiejmkkaekefaaW.PrintMore Go.Proofs.YtjiejmkkaekefaaH

structure At (u : By) (i : Nat) (x : By) : Prop where
  le : i + x.size ≤ u.size
  get : ∀ m : Nat, m < x.size → bt u ((i + m : Nat) : Int) = bt x m
theorem bt_app (a b : By) (m : Nat) : bt (a ++ b) (m : Int) = if m < a.size then bt a m else bt b ((m - a.size : Nat) : Int) := by
  rw [get_data, get_data, get_data, cat_data]
  have hl := len_data a
  by_cases h : m < a.size
  · rw [if_pos h, List.getElem?_append_left (by omega)]
  · rw [if_neg h, List.getElem?_append_right (by omega), hl]
theorem At.left {u : By} {i : Nat} {a b : By} (h : At u i (a ++ b)) : At u i a := by
  have hl := h.le
  rw [ByteArray.size_append] at hl
  refine ⟨by omega, fun m hm => ?_⟩
  rw [h.get m (by rw [ByteArray.size_append]; omega), bt_app, if_pos hm]
theorem At.right {u : By} {i : Nat} {a b : By} (h : At u i (a ++ b)) : At u (i + a.size) b := by
  have hl := h.le
  rw [ByteArray.size_append] at hl
  refine ⟨by omega, fun m hm => ?_⟩
  have := h.get (a.size + m) (by rw [ByteArray.size_append]; omega)
  rw [bt_app, if_neg (by omega), Nat.add_sub_cancel_left, ← Nat.add_assoc] at this
  exact this
theorem At.refl (u : By) : At u 0 u := ⟨by omega, fun m _ => by rw [Nat.zero_add]⟩
theorem by_ext {a b : By} (h : a.size = b.size) (hb : ∀ m : Nat, m < a.size → bt a m = bt b m) : a = b := by
  apply data_ext
  have ha := len_data a
  have hb' := len_data b
  refine List.ext_getElem (by omega) (fun m h1 h2 => ?_)
  have := hb m (by omega)
  rw [get_data, get_data, List.getElem?_eq_getElem h1, List.getElem?_eq_getElem h2] at this
  simp only [Option.map_some, Option.getD_some] at this
  exact UInt8.toNat_inj.1 (by omega)
theorem bt_cut {u : By} {i j : Nat} (hj : j ≤ u.size) {m : Nat} (hm : i + m < j) : bt (u.extract i j) (m : Int) = bt u ((i + m : Nat) : Int) := by
  rw [get_data, get_data, cut_data, List.getElem?_take, if_pos (by omega), List.getElem?_drop]
theorem At.ex {u : By} {i : Nat} {x : By} (h : At u i x) : u.extract i (i + x.size) = x := by
  have hl := h.le
  have hs : (u.extract i (i + x.size)).size = x.size := by rw [ByteArray.size_extract]; omega
  refine by_ext hs (fun m hm => ?_)
  rw [bt_cut hl (by omega), h.get m (by omega)]
/-- One byte. -/
theorem At.one {u : By} {i : Nat} {b : UInt8} (h : At u i (⟨#[b]⟩ : By)) : i < u.size ∧ bt u (i : Int) = (b.toNat : Int) := by
  have hl := h.le
  have hs : (⟨#[b]⟩ : By).size = 1 := rfl
  refine ⟨by omega, ?_⟩
  have := h.get 0 (by omega)
  rw [Nat.add_zero] at this
  rw [this]
  rfl
def NameOk (n : By) : Prop := 0 < n.size ∧ n.size ≤ 20 ∧ letter (bt n 0) = true ∧ ∀ m : Nat, m < n.size → nameB (bt n m) = true
def ValOk (v : By) : Prop := v.size ≤ 60 ∧ ∀ m : Nat, m < v.size → bt v m ≠ 34
def okN (t : Tst) : Prop := t.f0 = 1 ∧ NameOk t.f1 ∧ t.f2 = (⟨#[]⟩ : By)
def okT (t : Tst) : Prop := (t.f0 = 2 ∨ t.f0 = 3 ∨ t.f0 = 4) ∧ NameOk t.f1 ∧ t.f2 = (⟨#[]⟩ : By) ∨ t.f0 = 5 ∧ NameOk t.f1 ∧ ValOk t.f2
def okC : List Tst → Prop
  | [] => True
  | h :: l => (okN h ∨ okT h) ∧ ∀ t ∈ l, okT t
/-- What may stand behind a compound. -/
def brk (b : Int) : Prop := nameB b = false ∧ b ≠ 46 ∧ b ≠ 35 ∧ b ≠ 91
theorem NameOk.first {u : By} {i : Nat} {n : By} (hn : NameOk n) (h : At u i n) : i < u.size ∧ letter (bt u (i : Int)) = true := by
  have hl := h.le
  have := h.get 0 hn.1
  rw [Nat.add_zero] at this
  have h0 := hn.1
  exact ⟨by omega, by rw [this]; exact hn.2.2.1⟩
theorem letter_no {b : Int} (h : letter b = true) : blank b = false ∧ b ≠ 42 ∧ b ≠ 44 ∧ b ≠ 62 ∧ b ≠ 34 ∧ b ≠ 46 ∧ b ≠ 35 ∧ b ≠ 91 := by
  unfold letter at h
  unfold blank
  simp only [Bool.or_eq_true, decide_eq_true_eq] at h
  simp only [Bool.or_eq_false_iff, beq_eq_false_iff_ne]
  omega
theorem name_at {u : By} {i : Nat} {n : By} (hn : NameOk n) (h : At u i n) (hb : nameB (bt u ((i + n.size : Nat) : Int)) = false) : name u i = .ok (n, i + n.size) := by
  have hl := h.le
  have hf := hn.first h
  have e : run u i = i + n.size := by
    refine stop_eq (by omega) hl (fun q h1 h2 => ?_) (fun q => by rw [hb] at q; cases q.2)
    obtain ⟨m, rfl⟩ : ∃ m, q = i + m := ⟨q - i, by omega⟩
    rw [h.get m (by omega)]
    exact hn.2.2.2 m (by omega)
  unfold name
  have h2 := hn.2.1
  rw [if_pos hf, e, if_pos (by omega), h.ex]
theorem skip_here {u : By} {i : Nat} (h : blank (bt u (i : Int)) = false) : skip u i = i := stop_here (fun q => by rw [h] at q; cases q.2)
theorem bt_of {u : By} {i : Nat} {b : UInt8} {x : By} (h : At u i ((⟨#[b]⟩ : By) ++ x)) : i < u.size ∧ bt u (i : Int) = (b.toNat : Int) := h.left.one
theorem value_at {u : By} {i : Nat} {v : By} (hv : ValOk v) (h : At u i (((⟨#[34]⟩ : By) ++ v) ++ (⟨#[34]⟩ : By))) : value u i = .ok (v, i + v.size + 2) := by
  have h0 := h.left.left.one
  have h1 := h.left.right
  have h2 := h.right.one
  have e1 : (⟨#[34]⟩ : By).size = 1 := rfl
  rw [e1] at h1
  rw [ByteArray.size_append, e1] at h2
  have hl := h1.le
  have e : stop noQuote u (i + 1) = i + 1 + v.size := by
    refine stop_eq (by omega) (by omega) (fun q g1 g2 => ?_) (fun q => ?_)
    · obtain ⟨m, rfl⟩ : ∃ m, q = i + 1 + m := ⟨q - (i + 1), by omega⟩
      rw [h1.get m (by omega)]
      have := hv.2 m (by omega)
      unfold noQuote
      exact bne_iff_ne.2 this
    · rw [show i + 1 + v.size = i + (1 + v.size) from by omega, h2.2] at q
      cases q.2
  unfold value
  have hv1 := hv.1
  rw [if_pos (show isB u i 34 from ⟨h0.1, h0.2⟩), e, if_pos ⟨by omega, by omega⟩, h1.ex]
  have : i + 1 + v.size + 1 = i + v.size + 2 := by omega
  rw [this]
theorem has_at {u : By} {i : Nat} {n : By} (hn : NameOk n) (h : At u i (n ++ (⟨#[93]⟩ : By))) : brackets u i = .ok (⟨4, n, ⟨#[]⟩⟩, i + n.size + 1) := by
  have h1 := h.right.one
  have e0 : bt u ((i + n.size : Nat) : Int) = 93 := h1.2
  have e1 : skip u i = i := skip_here (letter_no (hn.first h.left).2).1
  have e2 : skip u (i + n.size) = i + n.size := skip_here (by rw [e0]; rfl)
  unfold brackets
  rw [e1, name_at hn h.left (by rw [e0]; rfl)]
  dsimp only
  rw [e2, if_neg (fun q => by have := q.2; rw [e0] at this; exact absurd this (by decide)), if_pos ⟨h1.1, e0⟩]
theorem is_at {u : By} {i : Nat} {n v : By} (hn : NameOk n) (hv : ValOk v) (h : At u i (n ++ ((⟨#[61]⟩ : By) ++ ((((⟨#[34]⟩ : By) ++ v) ++ (⟨#[34]⟩ : By)) ++ (⟨#[93]⟩ : By))))) : brackets u i = .ok (⟨5, n, v⟩, i + n.size + v.size + 4) := by
  have h1 := bt_of h.right
  have h2 := h.right.right.left
  have h3 := h.right.right.right.one
  have s1 : (⟨#[61]⟩ : By).size = 1 := rfl
  have s2 : (⟨#[34]⟩ : By).size = 1 := rfl
  rw [ByteArray.size_append, ByteArray.size_append, s1, s2] at h3
  rw [s1] at h2
  have e0 : bt u ((i + n.size : Nat) : Int) = 61 := h1.2
  have e1 : skip u i = i := skip_here (letter_no (hn.first h.left).2).1
  have e2 : skip u (i + n.size) = i + n.size := skip_here (by rw [e0]; rfl)
  have e3 : skip u (i + n.size + 1) = i + n.size + 1 := skip_here (by rw [h2.left.left.one.2]; rfl)
  have e5 : bt u ((i + n.size + 1 + v.size + 2 : Nat) : Int) = 93 := by
    have := h3.2
    rw [show i + n.size + 1 + (1 + v.size + 1) = i + n.size + 1 + v.size + 2 from by omega] at this
    exact this
  have e4 : skip u (i + n.size + 1 + v.size + 2) = i + n.size + 1 + v.size + 2 := skip_here (by rw [e5]; rfl)
  unfold brackets
  rw [e1, name_at hn h.left (by rw [e0]; rfl)]
  dsimp only
  rw [e2, if_pos (show isB u (i + n.size) 61 from ⟨h1.1, e0⟩), e3, value_at hv h2]
  dsimp only
  rw [e4, if_pos (show isB u (i + n.size + 1 + v.size + 2) 93 from ⟨by have := h3.1; omega, e5⟩)]
  have : i + n.size + 1 + v.size + 2 + 1 = i + n.size + v.size + 4 := by omega
  rw [this]

theorem tk1 {t : Tst} (h : t.f0 = 1) : tk t = t.f1 := by unfold tk; rw [if_pos h]
theorem tk2 {t : Tst} (h : t.f0 = 2) : tk t = (⟨#[35]⟩ : By) ++ t.f1 := by unfold tk; rw [if_neg (by omega), if_pos h]
theorem tk3 {t : Tst} (h : t.f0 = 3) : tk t = (⟨#[46]⟩ : By) ++ t.f1 := by unfold tk; rw [if_neg (by omega), if_neg (by omega), if_pos h]
theorem tk4 {t : Tst} (h : t.f0 = 4) : tk t = (⟨#[91]⟩ : By) ++ (t.f1 ++ (⟨#[93]⟩ : By)) := by
  unfold tk
  rw [if_neg (by omega), if_neg (by omega), if_neg (by omega), if_pos h, ByteArray.append_assoc]
theorem two (a b : UInt8) : (⟨#[a, b]⟩ : By) = (⟨#[a]⟩ : By) ++ (⟨#[b]⟩ : By) := by apply data_ext; rw [cat_data]; rfl
theorem tk5 {t : Tst} (h : t.f0 = 5) : tk t = (⟨#[91]⟩ : By) ++ (t.f1 ++ ((⟨#[61]⟩ : By) ++ ((((⟨#[34]⟩ : By) ++ t.f2) ++ (⟨#[34]⟩ : By)) ++ (⟨#[93]⟩ : By)))) := by
  unfold tk
  rw [if_neg (by omega), if_neg (by omega), if_neg (by omega), if_neg (by omega), if_pos h, two 61 34, two 34 93]
  simp only [ByteArray.append_assoc]
def tc : List Tst → By
  | [] => (⟨#[]⟩ : By)
  | t :: l => tk t ++ tc l
theorem app_nil (a : By) : a ++ (⟨#[]⟩ : By) = a := by apply data_ext; rw [cat_data]; exact List.append_nil _
theorem nil_app (a : By) : (⟨#[]⟩ : By) ++ a = a := by apply data_ext; rw [cat_data]; exact List.nil_append _
theorem tcat_eq (l : List Tst) : ∀ s : By, tcat s l = s ++ tc l := by
  induction l with
  | nil => intro s; exact (app_nil s).symm
  | cons t l ih => intro s; rw [tcat, ih, ByteArray.append_assoc]; rfl
def body (c : List Tst) : By := if c.length = 0 then (⟨#[42]⟩ : By) else tc c
theorem body_eq (s : By) (c : List Tst) : tcat (star s c) c = s ++ body c := by
  rw [tcat_eq]
  unfold star body
  by_cases h : c.length = 0
  · rw [if_pos h, if_pos h, List.length_eq_zero_iff.1 h]
    exact app_nil _
  · rw [if_neg h, if_neg h]
/-- A test with a mark ahead: what it begins with, and how it is read. -/
theorem mark_at {u : By} {t : Tst} (ht : okT t) {i : Nat} (h : At u i (tk t)) (hb : nameB (bt u ((i + (tk t).size : Nat) : Int)) = false) :
    i < u.size ∧ (bt u (i : Int) = 46 ∨ bt u (i : Int) = 35 ∨ bt u (i : Int) = 91) ∧ 2 ≤ (tk t).size ∧ ∀ (d : Nat) (acc : List Tst), tests u (d + 1) acc i = tests u d (acc ++ [t]) (i + (tk t).size) := by
  have s1 : ∀ b : UInt8, (⟨#[b]⟩ : By).size = 1 := fun _ => rfl
  rcases ht with ⟨h0 | h0 | h0, hn, h2⟩ | ⟨h0, hn, hv⟩
  · rw [tk2 h0] at h hb ⊢
    rw [ByteArray.size_append, s1] at hb ⊢
    have e := bt_of h
    have e0 : bt u (i : Int) = 35 := e.2
    have hr := h.right
    rw [s1] at hr
    have et : t = ⟨2, t.f1, ⟨#[]⟩⟩ := by rw [← h0, ← h2]
    refine ⟨e.1, .inr (.inl e0), by have := hn.1; omega, fun d acc => ?_⟩
    rw [tests, if_neg (fun q => by have := q.2; rw [e0] at this; exact absurd this (by decide)), if_pos ⟨e.1, e0⟩, name_at hn hr (by rw [Nat.add_assoc]; exact hb)]
    dsimp only
    rw [← et, Nat.add_assoc]
  · rw [tk3 h0] at h hb ⊢
    rw [ByteArray.size_append, s1] at hb ⊢
    have e := bt_of h
    have e0 : bt u (i : Int) = 46 := e.2
    have hr := h.right
    rw [s1] at hr
    have et : t = ⟨3, t.f1, ⟨#[]⟩⟩ := by rw [← h0, ← h2]
    refine ⟨e.1, .inl e0, by have := hn.1; omega, fun d acc => ?_⟩
    rw [tests, if_pos ⟨e.1, e0⟩, name_at hn hr (by rw [Nat.add_assoc]; exact hb)]
    dsimp only
    rw [← et, Nat.add_assoc]
  · rw [tk4 h0] at h hb ⊢
    rw [ByteArray.size_append, ByteArray.size_append, s1, s1] at hb ⊢
    have e := bt_of h
    have e0 : bt u (i : Int) = 91 := e.2
    have hr := h.right
    rw [s1] at hr
    have et : t = ⟨4, t.f1, ⟨#[]⟩⟩ := by rw [← h0, ← h2]
    refine ⟨e.1, .inr (.inr e0), by have := hn.1; omega, fun d acc => ?_⟩
    rw [tests, if_neg (fun q => by have := q.2; rw [e0] at this; exact absurd this (by decide)), if_neg (fun q => by have := q.2; rw [e0] at this; exact absurd this (by decide)), if_pos ⟨e.1, e0⟩, has_at hn hr]
    dsimp only
    rw [← et, show i + 1 + t.f1.size + 1 = i + (1 + (t.f1.size + 1)) from by omega]
  · rw [tk5 h0] at h hb ⊢
    simp only [ByteArray.size_append, s1] at hb ⊢
    have e := bt_of h
    have e0 : bt u (i : Int) = 91 := e.2
    have hr := h.right
    rw [s1] at hr
    have et : t = ⟨5, t.f1, t.f2⟩ := by rw [← h0]
    refine ⟨e.1, .inr (.inr e0), by omega, fun d acc => ?_⟩
    rw [tests, if_neg (fun q => by have := q.2; rw [e0] at this; exact absurd this (by decide)), if_neg (fun q => by have := q.2; rw [e0] at this; exact absurd this (by decide)), if_pos ⟨e.1, e0⟩, is_at hn hv hr]
    dsimp only
    rw [← et, show i + 1 + t.f1.size + t.f2.size + 4 = i + (1 + (t.f1.size + (1 + (1 + t.f2.size + 1 + 1)))) from by omega]
theorem mark_no {b : Int} (h : b = 46 ∨ b = 35 ∨ b = 91) : nameB b = false ∧ blank b = false ∧ b ≠ 42 ∧ letter b = false ∧ b ≠ 44 ∧ b ≠ 62 := by
  rcases h with h | h | h <;> subst h <;> decide
/-- The byte behind a part of a list of tests. -/
theorem next_no {u : By} {l : List Tst} (hl : ∀ t ∈ l, okT t) {i : Nat} (h : At u i (tc l)) (hb : brk (bt u ((i + (tc l).size : Nat) : Int))) : nameB (bt u (i : Int)) = false := by
  cases l with
  | nil => exact hb.1
  | cons t l =>
    have h0 : At u i (tk t ++ tc l) := h
    have ht := hl t List.mem_cons_self
    have : bt u (i : Int) = 46 ∨ bt u (i : Int) = 35 ∨ bt u (i : Int) = 91 := by
      rcases ht with ⟨g | g | g, _⟩ | ⟨g, _⟩
      · have q := h0.left; rw [tk2 g] at q; exact .inr (.inl (bt_of q).2)
      · have q := h0.left; rw [tk3 g] at q; exact .inl (bt_of q).2
      · have q := h0.left; rw [tk4 g] at q; exact .inr (.inr (bt_of q).2)
      · have q := h0.left; rw [tk5 g] at q; exact .inr (.inr (bt_of q).2)
    exact (mark_no this).1
theorem tests_at {u : By} : ∀ (l : List Tst), (∀ t ∈ l, okT t) → ∀ (d i : Nat) (acc : List Tst), At u i (tc l) → brk (bt u ((i + (tc l).size : Nat) : Int)) → l.length < d → tests u d acc i = .ok (acc ++ l, i + (tc l).size) := by
  intro l
  induction l with
  | nil =>
    intro hl d i acc h hb hd
    obtain ⟨d, rfl⟩ : ∃ d', d = d' + 1 := ⟨d - 1, by omega⟩
    have hb : brk (bt u (i : Int)) := hb
    rw [tests, if_neg (fun q => hb.2.1 q.2), if_neg (fun q => hb.2.2.1 q.2), if_neg (fun q => hb.2.2.2 q.2), List.append_nil]
    rfl
  | cons t l ih =>
    intro hl d i acc h hb hd
    obtain ⟨d, rfl⟩ : ∃ d', d = d' + 1 := ⟨d - 1, by omega⟩
    have h0 : At u i (tk t ++ tc l) := h
    have es : (tc (t :: l)).size = (tk t).size + (tc l).size := by rw [tc, ByteArray.size_append]
    rw [es, ← Nat.add_assoc] at hb
    have hl' : ∀ t ∈ l, okT t := fun x hx => hl x (List.mem_cons_of_mem _ hx)
    have hm := mark_at (hl t List.mem_cons_self) h0.left (next_no hl' h0.right hb)
    rw [hm.2.2.2, ih hl' d _ _ h0.right hb (by simp only [List.length_cons] at hd; omega), es, List.append_assoc, Nat.add_assoc]
    rfl
theorem tc_len (l : List Tst) : (∀ t ∈ l, okT t) → l.length ≤ (tc l).size := by
  induction l with
  | nil => intro _; exact Nat.zero_le _
  | cons t l ih =>
    intro hl
    have h1 := ih (fun x hx => hl x (List.mem_cons_of_mem _ hx))
    have h2 : 1 ≤ (tk t).size := by
      rcases hl t List.mem_cons_self with ⟨g | g | g, _⟩ | ⟨g, _⟩
      · rw [tk2 g, ByteArray.size_append, size1]; omega
      · rw [tk3 g, ByteArray.size_append, size1]; omega
      · rw [tk4 g, ByteArray.size_append, size1]; omega
      · rw [tk5 g, ByteArray.size_append, size1]; omega
    rw [tc, ByteArray.size_append, List.length_cons]
    omega
theorem body_at {u : By} {c : List Tst} (hc : okC c) {i : Nat} (h : At u i (body c)) (hb : brk (bt u ((i + (body c).size : Nat) : Int))) : compound u i = .ok (c, i + (body c).size) := by
  have hle := h.le
  have shut : ∀ (l : List Tst) (j : Nat), i < j → closed i (.ok (l, j)) = .ok (l, j) := by
    intro l j hj
    unfold closed
    dsimp only
    rw [if_neg (by omega)]
  cases c with
  | nil =>
    have e1 : body [] = (⟨#[42]⟩ : By) := rfl
    rw [e1] at h hb hle ⊢
    have e := h.one
    rw [size1] at hb hle ⊢
    unfold compound
    rw [if_pos (show isB u i 42 from ⟨e.1, e.2⟩), tests, if_neg (fun q => hb.2.1 q.2), if_neg (fun q => hb.2.2.1 q.2), if_neg (fun q => hb.2.2.2 q.2), shut _ _ (by omega)]
  | cons t l =>
    have e1 : body (t :: l) = tk t ++ tc l := rfl
    obtain ⟨ht, hl⟩ := hc
    rw [e1] at h hb hle ⊢
    rw [ByteArray.size_append] at hb hle ⊢
    have hr := h.right
    have ln := tc_len l hl
    rw [← Nat.add_assoc] at hb
    have hb1 := next_no hl hr hb
    unfold compound
    rcases ht with ht | ht
    · have hn := h.left
      rw [tk1 ht.1] at hn hr hb hb1 hle ⊢
      have hf := ht.2.1.first hn
      have et : t = ⟨1, t.f1, ⟨#[]⟩⟩ := by rw [← ht.1, ← ht.2.2]
      have h0 := ht.2.1.1
      rw [if_neg (fun q => (letter_no hf.2).2.1 q.2), if_pos hf, name_at ht.2.1 hn hb1]
      dsimp only
      rw [← et, tests_at l hl _ _ _ hr hb (by omega), shut _ _ (by omega), Nat.add_assoc]
      rfl
    · have hm := mark_at ht h.left hb1
      have hn := mark_no hm.2.1
      have h2 := hm.2.2.1
      rw [if_neg (fun q => hn.2.2.1 q.2), if_neg (fun q => by rw [hn.2.2.2.1] at q; cases q.2), hm.2.2.2, tests_at l hl _ _ _ hr hb (by omega), shut _ _ (by omega), Nat.add_assoc]
      rfl
/-- What a compound begins with. -/
theorem body_first {u : By} {c : List Tst} (hc : okC c) {i : Nat} (h : At u i (body c)) : i < u.size ∧ blank (bt u (i : Int)) = false ∧ bt u (i : Int) ≠ 44 ∧ bt u (i : Int) ≠ 62 := by
  cases c with
  | nil =>
    have e := At.one (show At u i (⟨#[42]⟩ : By) from h)
    have e2 : bt u (i : Int) = 42 := e.2
    rw [e2]
    exact ⟨e.1, by decide, by decide, by decide⟩
  | cons t l =>
    have h0 : At u i (tk t ++ tc l) := h
    obtain ⟨ht, hl⟩ := hc
    rcases ht with ht | ht
    · have hn := h0.left
      rw [tk1 ht.1] at hn
      have hf := ht.2.1.first hn
      have := letter_no hf.2
      exact ⟨hf.1, this.1, this.2.2.1, this.2.2.2.1⟩
    · have q := h0.left
      have : i < u.size ∧ (bt u (i : Int) = 46 ∨ bt u (i : Int) = 35 ∨ bt u (i : Int) = 91) := by
        rcases ht with ⟨g | g | g, _⟩ | ⟨g, _⟩
        · rw [tk2 g] at q; exact ⟨(bt_of q).1, .inr (.inl (bt_of q).2)⟩
        · rw [tk3 g] at q; exact ⟨(bt_of q).1, .inl (bt_of q).2⟩
        · rw [tk4 g] at q; exact ⟨(bt_of q).1, .inr (.inr (bt_of q).2)⟩
        · rw [tk5 g] at q; exact ⟨(bt_of q).1, .inr (.inr (bt_of q).2)⟩
      have hn := mark_no this.2
      exact ⟨this.1, hn.2.1, hn.2.2.2.2.1, hn.2.2.2.2.2⟩
theorem brk_of {u : By} {k : Nat} (h : skip u k = k → k ≥ u.size ∨ bt u (k : Int) = 44 ∨ bt u (k : Int) = 62) : brk (bt u (k : Int)) := by
  have num : ∀ b : Int, blank b = true ∨ b = 0 ∨ b = 44 ∨ b = 62 → brk b := by
    intro b hb
    unfold brk nameB letter
    unfold blank at hb
    simp only [Bool.or_eq_true, beq_iff_eq] at hb
    simp only [Bool.or_eq_false_iff, decide_eq_false_iff_not, beq_eq_false_iff_ne]
    omega
  apply num
  by_cases e : skip u k = k
  · rcases h e with h | h | h
    · exact .inr (.inl (bt_out h))
    · exact .inr (.inr (.inl h))
    · exact .inr (.inr (.inr h))
  · have := stop_ge blank u k
    exact .inl (stop_in blank u k k (Nat.le_refl _) (by show k < skip u k; have : k ≤ skip u k := this; omega))
/-- Steps that stand from a place on, up to another. -/
inductive StepsAt (u : By) : Nat → List Stp → Nat → Prop
  | one {i : Nat} {x : Stp} : At u i (body x.f0) → StepsAt u i [x] (i + (body x.f0).size)
  | more {i m j : Nat} {x y : Stp} {l : List Stp} : At u i (body x.f0) →
      (y.f1 = true → skip u (i + (body x.f0).size) < u.size ∧ bt u ((skip u (i + (body x.f0).size) : Nat) : Int) = 62 ∧ m = skip u (skip u (i + (body x.f0).size) + 1)) →
      (y.f1 = false → i + (body x.f0).size < skip u (i + (body x.f0).size) ∧ skip u (i + (body x.f0).size) < u.size ∧ bt u ((skip u (i + (body x.f0).size) : Nat) : Int) ≠ 44 ∧ bt u ((skip u (i + (body x.f0).size) : Nat) : Int) ≠ 62 ∧ m = skip u (i + (body x.f0).size)) →
      StepsAt u m (y :: l) j → StepsAt u i (x :: y :: l) j
theorem StepsAt.le {u : By} {i j : Nat} {l : List Stp} (h : StepsAt u i l j) : j ≤ u.size := by
  induction h with
  | one h => exact h.le
  | more _ _ _ _ ih => exact ih
theorem steps_at {u : By} {i j : Nat} {l : List Stp} (h : StepsAt u i l j) : (∀ x ∈ l, okC x.f0) → (skip u j = u.size ∨ bt u ((skip u j : Nat) : Int) = 44) → ∀ (d : Nat) (acc : List Stp) (x : Stp) (r : List Stp), l = x :: r → l.length < d → steps u d acc x.f1 i = .ok (acc ++ l, skip u j) := by
  induction h with
  | @one i x h =>
    intro hl hj d acc x' r hr hd
    injection hr with h1 h2
    subst h1 h2
    obtain ⟨d, rfl⟩ : ∃ d', d = d' + 1 := ⟨d - 1, by omega⟩
    have hb : brk (bt u ((i + (body x.f0).size : Nat) : Int)) := brk_of (fun e => by rw [e] at hj; exact hj.elim (fun g => .inl (by omega)) (fun g => .inr (.inl g)))
    rw [steps, body_at (hl x List.mem_cons_self) h hb]
    dsimp only
    rw [if_pos hj]
  | @more i m j x y l h h1 h0 hs ih =>
    intro hl hj d acc x' r hr hd
    injection hr with e1 e2
    subst e1 e2
    obtain ⟨d, rfl⟩ : ∃ d', d = d' + 1 := ⟨d - 1, by omega⟩
    have hi := ih (fun z hz => hl z (List.mem_cons_of_mem _ hz)) hj d (acc ++ [x]) y l rfl (by simp only [List.length_cons] at hd ⊢; omega)
    have ea : acc ++ [x] ++ y :: l = acc ++ x :: y :: l := by rw [List.append_assoc]; rfl
    rw [ea] at hi
    cases hy : y.f1 with
    | true =>
      obtain ⟨g1, g2, g3⟩ := h1 hy
      have hb : brk (bt u ((i + (body x.f0).size : Nat) : Int)) := brk_of (fun e => by rw [e] at g2; exact .inr (.inr g2))
      rw [steps, body_at (hl x List.mem_cons_self) h hb]
      dsimp only
      rw [if_neg (fun q => q.elim (fun q => by omega) (fun q => by rw [g2] at q; exact absurd q (by decide))), if_pos g2, ← g3]
      rw [hy] at hi
      exact hi
    | false =>
      obtain ⟨g0, g1, g2, g3, g4⟩ := h0 hy
      have hb : brk (bt u ((i + (body x.f0).size : Nat) : Int)) := brk_of (fun e => by omega)
      rw [steps, body_at (hl x List.mem_cons_self) h hb]
      dsimp only
      rw [if_neg (fun q => q.elim (fun q => by omega) g2), if_neg g3, if_pos g0, ← g4]
      rw [hy] at hi
      exact hi
def okR (r : List Stp) : Prop := ∃ x l, r = x :: l ∧ x.f1 = false ∧ ∀ y ∈ r, okC y.f0
def okL (l : List (List Stp)) : Prop := l ≠ [] ∧ ∀ r ∈ l, okR r
theorem steps_len {u : By} {i j : Nat} {l : List Stp} (h : StepsAt u i l j) : (∀ x ∈ l, okC x.f0) → i + l.length ≤ j := by
  have bl : ∀ (u : By) (i : Nat) (x : Stp), okC x.f0 → 1 ≤ (body x.f0).size := by
    intro u i x hx
    unfold body
    by_cases e : x.f0.length = 0
    · rw [if_pos e]; exact Nat.le_refl _
    · rw [if_neg e]
      cases ec : x.f0 with
      | nil => rw [ec] at e; exact absurd rfl e
      | cons t l =>
        rw [ec] at hx
        rw [tc, ByteArray.size_append]
        rcases hx.1 with g | g
        · rw [tk1 g.1]; have := g.2.1.1; omega
        · have := tc_len [t] (fun z hz => by rw [List.mem_singleton.1 hz]; exact g)
          rw [tc, ByteArray.size_append, List.length_singleton] at this
          have e0 : (tc []).size = 0 := rfl
          omega
  induction h with
  | @one i x h => intro hl; have := bl u i x (hl x List.mem_cons_self); rw [List.length_singleton]; omega
  | @more i m j x y l h h1 h0 hs ih =>
    intro hl
    have g := ih (fun z hz => hl z (List.mem_cons_of_mem _ hz))
    have g2 := bl u i x (hl x List.mem_cons_self)
    have g3 : i + (body x.f0).size ≤ m := by
      have a1 := stop_ge blank u (i + (body x.f0).size)
      have a2 := stop_ge blank u (stop blank u (i + (body x.f0).size) + 1)
      cases hy : y.f1 with
      | true => have := (h1 hy).2.2; rw [this]; show _ ≤ stop blank u (stop blank u (i + (body x.f0).size) + 1); omega
      | false => have := (h0 hy).2.2.2.2; rw [this]; exact a1
    rw [List.length_cons]
    omega
theorem row_at {u : By} {i j : Nat} {l : List Stp} (hl : okR l) (h : StepsAt u (skip u i) l j) (hj : skip u j = u.size ∨ bt u ((skip u j : Nat) : Int) = 44) : row u i = .ok (l, skip u j) := by
  obtain ⟨x, r, e, e1, hx⟩ := hl
  have hn := steps_len h hx
  have hj2 := h.le
  have := steps_at h hx hj (u.size + 1) [] x r e (by omega)
  rw [e1] at this
  exact this
inductive RowsAt (u : By) : Nat → List (List Stp) → Prop
  | one {i j : Nat} {r : List Stp} : StepsAt u (skip u i) r j → skip u j = u.size → RowsAt u i [r]
  | more {i j : Nat} {r r2 : List Stp} {l : List (List Stp)} : StepsAt u (skip u i) r j → skip u j < u.size → bt u ((skip u j : Nat) : Int) = 44 → RowsAt u (skip u j + 1) (r2 :: l) → RowsAt u i (r :: r2 :: l)
theorem rows_at {u : By} {i : Nat} {l : List (List Stp)} (h : RowsAt u i l) : (∀ r ∈ l, okR r) → ∀ (d : Nat) (acc : List (List Stp)), i ≤ u.size → u.size - i < d → rows u d acc i = .ok (acc ++ l) := by
  induction h with
  | @one i j r h hj =>
    intro hl d acc hi hd
    obtain ⟨d, rfl⟩ : ∃ d', d = d' + 1 := ⟨d - 1, by omega⟩
    rw [rows, row_at (hl r List.mem_cons_self) h (.inl hj)]
    dsimp only
    rw [if_neg (fun q => by have := q.1; omega)]
  | @more i j r r2 l h h1 h2 hs ih =>
    intro hl d acc hi hd
    obtain ⟨d, rfl⟩ : ∃ d', d = d' + 1 := ⟨d - 1, by omega⟩
    have hr := row_at (hl r List.mem_cons_self) h (.inr h2)
    have l1 := row_le hi hr
    rw [rows, hr]
    dsimp only
    rw [if_pos ⟨h1, h2⟩, ih (fun z hz => hl z (List.mem_cons_of_mem _ hz)) d _ (by omega) (by omega), List.append_assoc]
    rfl

theorem name_ok {s : By} {i : Nat} {n : By} {j : Nat} (h : name s i = .ok (n, j)) : NameOk n := by
  unfold name at h
  split at h
  · rename_i c1
    split at h
    · rename_i c2
      injection h with h
      injection h with h1 h2
      have hle := stop_le nameB s i (by omega)
      have hge := stop_ge nameB s i
      have hin := stop_in nameB s i
      have hfirst : nameB (bt s (i : Int)) = true := by unfold nameB; rw [c1.2]; rfl
      have hgt : i < run s i := by
        have : run s i = run s (i + 1) := stop_step c1.1 hfirst
        have h2 := stop_ge nameB s (i + 1)
        rw [this]
        exact h2
      have hs : (s.extract i (run s i)).size = run s i - i := by
        rw [ByteArray.size_extract]
        have : run s i ≤ s.size := hle
        omega
      rw [← h1]
      refine ⟨by omega, by omega, ?_, fun m hm => ?_⟩
      · have := bt_cut (u := s) (i := i) (j := run s i) hle (m := 0) (by omega)
        rw [Nat.add_zero] at this
        rw [show ((0 : Nat) : Int) = 0 from rfl] at this
        rw [this]
        exact c1.2
      · rw [bt_cut (j := run s i) hle (by omega)]
        exact hin _ (by omega) (by show i + m < run s i; omega)
    · cases h
  · cases h
theorem value_ok {s : By} {i : Nat} {n : By} {j : Nat} (h : value s i = .ok (n, j)) : ValOk n := by
  unfold value at h
  split at h
  · rename_i c1
    split at h
    · rename_i c2
      injection h with h
      injection h with h1 h2
      have hin := stop_in noQuote s (i + 1)
      have hs : (s.extract (i + 1) (stop noQuote s (i + 1))).size = stop noQuote s (i + 1) - (i + 1) := by
        rw [ByteArray.size_extract]
        omega
      rw [← h1]
      refine ⟨by omega, fun m hm => ?_⟩
      rw [bt_cut (by omega) (by omega)]
      have := hin (i + 1 + m) (by omega) (by omega)
      unfold noQuote at this
      exact bne_iff_ne.1 this
    · cases h
  · have hn := name_ok h
    refine ⟨by have := hn.2.1; omega, fun m hm e => ?_⟩
    have := hn.2.2.2 m hm
    rw [e] at this
    cases this
theorem brackets_ok {s : By} {i : Nat} {t : Tst} {j : Nat} (h : brackets s i = .ok (t, j)) : okT t := by
  unfold brackets at h
  split at h
  · cases h
  · rename_i n m hn
    have n1 := name_ok hn
    split at h
    · split at h
      · cases h
      · rename_i v q hv
        split at h
        · injection h with h
          injection h with h1 h2
          subst h1
          exact .inr ⟨rfl, n1, value_ok hv⟩
        · cases h
    · split at h
      · injection h with h
        injection h with h1 h2
        subst h1
        exact .inl ⟨.inr (.inr rfl), n1, rfl⟩
      · cases h
theorem tests_ok {s : By} : ∀ (d : Nat) (acc : List Tst) (i : Nat) {c : List Tst} {j : Nat}, tests s d acc i = .ok (c, j) → ∃ l, c = acc ++ l ∧ ∀ t ∈ l, okT t := by
  intro d
  induction d with
  | zero =>
    intro acc i c j h
    rw [tests] at h
    injection h with h
    injection h with h1 h2
    exact ⟨[], by rw [List.append_nil]; exact h1.symm, fun t ht => (by cases ht)⟩
  | succ d ih =>
    intro acc i c j h
    have up : ∀ {t : Tst} {k : Nat}, okT t → tests s d (acc ++ [t]) k = .ok (c, j) → ∃ l, c = acc ++ l ∧ ∀ t ∈ l, okT t := by
      intro t k ht hk
      obtain ⟨l, h1, h2⟩ := ih _ _ hk
      refine ⟨t :: l, by rw [h1, List.append_assoc]; rfl, fun x hx => ?_⟩
      rcases List.mem_cons.1 hx with e | e
      · rw [e]; exact ht
      · exact h2 x e
    rw [tests] at h
    split at h
    · split at h
      · cases h
      · rename_i n m hn
        exact up (.inl ⟨.inr (.inl rfl), name_ok hn, rfl⟩) h
    · split at h
      · split at h
        · cases h
        · rename_i n m hn
          exact up (.inl ⟨.inl rfl, name_ok hn, rfl⟩) h
      · split at h
        · split at h
          · cases h
          · rename_i t m hn
            exact up (brackets_ok hn) h
        · injection h with h
          injection h with h1 h2
          exact ⟨[], by rw [List.append_nil]; exact h1.symm, fun t ht => (by cases ht)⟩
theorem okC_all {l : List Tst} (h : ∀ t ∈ l, okT t) : okC l := by
  cases l with
  | nil => trivial
  | cons t l => exact ⟨.inr (h t List.mem_cons_self), fun x hx => h x (List.mem_cons_of_mem _ hx)⟩
theorem closed_ok {i : Nat} {r : Res (List Tst)} {c : List Tst} {j : Nat} (h : closed i r = .ok (c, j)) : r = .ok (c, j) := by
  cases r with
  | error p => cases h
  | ok x =>
    obtain ⟨c', j'⟩ := x
    unfold closed at h
    dsimp only at h
    split at h
    · cases h
    · exact h
theorem compound_ok {s : By} {i : Nat} {c : List Tst} {j : Nat} (h : compound s i = .ok (c, j)) : okC c := by
  unfold compound at h
  split at h
  · obtain ⟨l, h1, h2⟩ := tests_ok _ _ _ (closed_ok h)
    rw [h1]
    exact okC_all h2
  · split at h
    · split at h
      · cases h
      · rename_i n m hn
        obtain ⟨l, h1, h2⟩ := tests_ok _ _ _ (closed_ok h)
        rw [h1]
        exact ⟨.inl ⟨rfl, name_ok hn, rfl⟩, h2⟩
    · obtain ⟨l, h1, h2⟩ := tests_ok _ _ _ (closed_ok h)
      rw [h1]
      exact okC_all h2
theorem steps_ok {s : By} : ∀ (d i : Nat) (acc : List Stp) (child : Bool) {l : List Stp} {j : Nat}, steps s d acc child i = .ok (l, j) → ∃ x r, l = acc ++ x :: r ∧ x.f1 = child ∧ ∀ y ∈ x :: r, okC y.f0 := by
  intro d
  induction d with
  | zero => intro i acc child l j h; rw [steps] at h; cases h
  | succ d ih =>
    intro i acc child l j h
    rw [steps] at h
    cases e : compound s i with
    | error p => rw [e] at h; cases h
    | ok r =>
      obtain ⟨c, m⟩ := r
      rw [e] at h
      have hc := compound_ok e
      dsimp only at h
      have up : ∀ {b : Bool} {k : Nat}, steps s d (acc ++ [⟨c, child⟩]) b k = .ok (l, j) → ∃ x r, l = acc ++ x :: r ∧ x.f1 = child ∧ ∀ y ∈ x :: r, okC y.f0 := by
        intro b k hk
        obtain ⟨x, r, h1, h2, h3⟩ := ih _ _ _ hk
        refine ⟨⟨c, child⟩, x :: r, by rw [h1, List.append_assoc]; rfl, rfl, fun y hy => ?_⟩
        rcases List.mem_cons.1 hy with e | e
        · rw [e]; exact hc
        · exact h3 y e
      split at h
      · injection h with h
        injection h with h1 h2
        exact ⟨⟨c, child⟩, [], h1.symm, rfl, fun y hy => by rw [List.mem_singleton.1 hy]; exact hc⟩
      · split at h
        · exact up h
        · split at h
          · exact up h
          · cases h
theorem row_ok {s : By} {i : Nat} {l : List Stp} {j : Nat} (h : row s i = .ok (l, j)) : okR l := by
  obtain ⟨x, r, h1, h2, h3⟩ := steps_ok _ _ _ _ h
  rw [List.nil_append] at h1
  exact ⟨x, r, h1, h2, by rw [h1]; exact h3⟩
theorem rows_ok {s : By} : ∀ (d i : Nat) (acc : List (List Stp)) {l : List (List Stp)}, (∀ r ∈ acc, okR r) → rows s d acc i = .ok l → okL l := by
  intro d
  induction d with
  | zero => intro i acc l ha h; rw [rows] at h; cases h
  | succ d ih =>
    intro i acc l ha h
    rw [rows] at h
    cases e : row s i with
    | error p => rw [e] at h; cases h
    | ok r =>
      obtain ⟨q, m⟩ := r
      rw [e] at h
      have hb : ∀ r ∈ acc ++ [q], okR r := by
        intro r hr
        rcases List.mem_append.1 hr with hr | hr
        · exact ha r hr
        · rw [List.mem_singleton.1 hr]; exact row_ok e
      dsimp only at h
      split at h
      · exact ih _ _ hb h
      · injection h with h
        subst h
        exact ⟨by simp, hb⟩
theorem parse_okL {s : By} {l : List (List Stp)} (h : parse s = .ok l) : okL l := rows_ok _ _ _ (fun r hr => (by cases hr)) h
/-- Blanks alone. -/
def Bl (b : By) : Prop := ∀ m : Nat, m < b.size → blank (bt b m) = true
theorem skip_over {u b : By} {i : Nat} (h : At u i b) (hb : Bl b) (hn : ¬ (i + b.size < u.size ∧ blank (bt u ((i + b.size : Nat) : Int)) = true)) : skip u i = i + b.size := by
  refine stop_eq (by omega) h.le (fun q h1 h2 => ?_) hn
  obtain ⟨m, rfl⟩ : ∃ m, q = i + m := ⟨q - i, by omega⟩
  rw [h.get m (by omega)]
  exact hb m (by omega)
/-- What stands between: blanks, a mark, blanks. -/
structure Mid (G : By) (c : UInt8) where
  a : By
  b : By
  eq : G = a ++ ((⟨#[c]⟩ : By) ++ b)
  ha : Bl a
  hb : Bl b
def srow (G D : By) : List Stp → By
  | [] => (⟨#[]⟩ : By)
  | x :: l => body x.f0 ++ (match l with
    | [] => (⟨#[]⟩ : By)
    | y :: _ => (if y.f1 = true then G else D) ++ srow G D l)
theorem srow_one (G D : By) (x : Stp) : srow G D [x] = body x.f0 := by rw [srow]; exact app_nil _
theorem srow_more (G D : By) (x y : Stp) (l : List Stp) : srow G D (x :: y :: l) = body x.f0 ++ ((if y.f1 = true then G else D) ++ srow G D (y :: l)) := by rw [srow]
theorem srow_first {G D u : By} {y : Stp} {l : List Stp} {i : Nat} (hy : okC y.f0) (h : At u i (srow G D (y :: l))) : i < u.size ∧ blank (bt u (i : Int)) = false ∧ bt u (i : Int) ≠ 44 ∧ bt u (i : Int) ≠ 62 := by
  cases l with
  | nil => rw [srow_one] at h; exact body_first hy h
  | cons z l => rw [srow_more] at h; exact body_first hy h.left
theorem stepsAt {G D u : By} (hG : Mid G 62) (hD : Bl D) (hD0 : 0 < D.size) : ∀ (l : List Stp), l ≠ [] → (∀ x ∈ l, okC x.f0) → ∀ i, At u i (srow G D l) → StepsAt u i l (i + (srow G D l).size) := by
  intro l
  induction l with
  | nil => intro h; exact absurd rfl h
  | cons x l ih =>
    intro _ hl i h
    cases l with
    | nil =>
      rw [srow_one] at h ⊢
      exact .one h
    | cons y l =>
      rw [srow_more] at h ⊢
      have hr := h.right
      have hy := hl y (List.mem_cons_of_mem _ List.mem_cons_self)
      have hl' : ∀ z ∈ y :: l, okC z.f0 := fun z hz => hl z (List.mem_cons_of_mem _ hz)
      have hle := h.le
      rw [ByteArray.size_append, ByteArray.size_append] at hle
      cases hc : y.f1 with
      | true =>
        rw [hc, if_pos rfl] at hr hle h
        rw [if_pos rfl]
        have hg := hr.left
        have hb := hr.right
        have ge := hG.eq
        have gs : G.size = hG.a.size + (1 + hG.b.size) := by
          have := congrArg ByteArray.size ge
          rw [ByteArray.size_append, ByteArray.size_append, size1] at this
          exact this
        rw [ge] at hg
        have c1 := bt_of hg.right
        have hb2 := hg.right.right
        rw [size1] at hb2
        have f := srow_first hy hb
        have e1 : skip u (i + (body x.f0).size) = i + (body x.f0).size + hG.a.size := skip_over hg.left hG.ha (fun q => by rw [c1.2] at q; exact absurd q.2 (by decide))
        have ee : i + (body x.f0).size + hG.a.size + 1 + hG.b.size = i + (body x.f0).size + G.size := by omega
        have e2 : skip u (i + (body x.f0).size + hG.a.size + 1) = i + (body x.f0).size + G.size := by
          have := skip_over hb2 hG.hb (fun q => by rw [ee, f.2.1] at q; cases q.2)
          rw [ee] at this
          exact this
        refine .more (m := i + (body x.f0).size + G.size) h.left (fun _ => ⟨by rw [e1]; exact c1.1, by rw [e1]; exact c1.2, by rw [e1, e2]⟩) (fun q => by rw [hc] at q; cases q) ?_
        have := ih (by simp) hl' _ hb
        rw [ByteArray.size_append, ByteArray.size_append, show i + ((body x.f0).size + (G.size + (srow G D (y :: l)).size)) = i + (body x.f0).size + G.size + (srow G D (y :: l)).size from by omega]
        exact this
      | false =>
        rw [hc, if_neg (by decide)] at hr hle h
        rw [if_neg (by decide)]
        have hb := hr.right
        have f := srow_first hy hb
        have e1 : skip u (i + (body x.f0).size) = i + (body x.f0).size + D.size := skip_over hr.left hD (fun q => by rw [f.2.1] at q; cases q.2)
        refine .more (m := i + (body x.f0).size + D.size) h.left (fun q => by rw [hc] at q; cases q) (fun _ => ⟨by omega, by rw [e1]; exact f.1, by rw [e1]; exact f.2.2.1, by rw [e1]; exact f.2.2.2, by rw [e1]⟩) ?_
        have := ih (by simp) hl' _ hb
        rw [ByteArray.size_append, ByteArray.size_append, show i + ((body x.f0).size + (D.size + (srow G D (y :: l)).size)) = i + (body x.f0).size + D.size + (srow G D (y :: l)).size from by omega]
        exact this
def slist (G D C : By) : List (List Stp) → By
  | [] => (⟨#[]⟩ : By)
  | r :: l => srow G D r ++ (match l with
    | [] => (⟨#[]⟩ : By)
    | _ :: _ => C ++ slist G D C l)
theorem slist_one (G D C : By) (r : List Stp) : slist G D C [r] = srow G D r := by rw [slist]; exact app_nil _
theorem slist_more (G D C : By) (r r2 : List Stp) (l : List (List Stp)) : slist G D C (r :: r2 :: l) = srow G D r ++ (C ++ slist G D C (r2 :: l)) := by rw [slist]
theorem okR.first {G D u : By} {r : List Stp} (hr : okR r) {i : Nat} (h : At u i (srow G D r)) : i < u.size ∧ blank (bt u (i : Int)) = false := by
  obtain ⟨x, l, e, _, hx⟩ := hr
  subst e
  have := srow_first (hx x List.mem_cons_self) h
  exact ⟨this.1, this.2.1⟩
theorem rowsAt {G D C T u : By} (hG : Mid G 62) (hD : Bl D) (hD0 : 0 < D.size) (hC : Mid C 44) (hT : Bl T) : ∀ (l : List (List Stp)), l ≠ [] → (∀ r ∈ l, okR r) → ∀ (b : By) (i : Nat), Bl b → At u i (b ++ (slist G D C l ++ T)) → i + (b ++ (slist G D C l ++ T)).size = u.size → RowsAt u i l := by
  intro l
  induction l with
  | nil => intro h; exact absurd rfl h
  | cons r l ih =>
    intro _ hl b i hb h he
    have hr := hl r List.mem_cons_self
    have hx : ∀ y ∈ r, okC y.f0 := by obtain ⟨_, _, _, _, hx⟩ := hr; exact hx
    have hne : r ≠ [] := by obtain ⟨_, _, e, _⟩ := hr; rw [e]; simp
    cases l with
    | nil =>
      rw [slist_one] at h he
      have hs := h.right.left
      have f := hr.first hs
      have e1 : skip u i = i + b.size := skip_over h.left hb (fun q => by rw [f.2] at q; cases q.2)
      have hst := stepsAt hG hD hD0 r hne hx _ hs
      rw [ByteArray.size_append, ByteArray.size_append] at he
      refine .one (j := i + b.size + (srow G D r).size) (by rw [e1]; exact hst) ?_
      rw [skip_over h.right.right hT (fun q => by omega)]
      omega
    | cons r2 l =>
      have hr2 := hl r2 (List.mem_cons_of_mem _ List.mem_cons_self)
      rw [slist_more] at h he
      have hs := h.right.left.left
      have f := hr.first hs
      have e1 : skip u i = i + b.size := skip_over h.left hb (fun q => by rw [f.2] at q; cases q.2)
      have hst := stepsAt hG hD hD0 r hne hx _ hs
      have hc := h.right.left.right.left
      have ce := hC.eq
      have cs : C.size = hC.a.size + (1 + hC.b.size) := by
        have := congrArg ByteArray.size ce
        rw [ByteArray.size_append, ByteArray.size_append, size1] at this
        exact this
      have hc2 := hc
      rw [ce] at hc2
      have c1 := bt_of hc2.right
      have e2 : skip u (i + b.size + (srow G D r).size) = i + b.size + (srow G D r).size + hC.a.size := skip_over hc2.left hC.ha (fun q => by rw [c1.2] at q; exact absurd q.2 (by decide))
      have ea : b ++ ((srow G D r ++ (C ++ slist G D C (r2 :: l))) ++ T) = (b ++ (srow G D r ++ (hC.a ++ (⟨#[44]⟩ : By)))) ++ (hC.b ++ (slist G D C (r2 :: l) ++ T)) := by
        have : C ++ slist G D C (r2 :: l) = (hC.a ++ ((⟨#[44]⟩ : By) ++ hC.b)) ++ slist G D C (r2 :: l) := by rw [← ce]
        rw [this]
        simp only [ByteArray.append_assoc]
      rw [ea] at h he
      have ez : (b ++ (srow G D r ++ (hC.a ++ (⟨#[44]⟩ : By)))).size = b.size + ((srow G D r).size + (hC.a.size + 1)) := by rw [ByteArray.size_append, ByteArray.size_append, ByteArray.size_append, size1]
      have hnext := h.right
      have ei : i + (b ++ (srow G D r ++ (hC.a ++ (⟨#[44]⟩ : By)))).size = i + b.size + (srow G D r).size + hC.a.size + 1 := by omega
      rw [ei] at hnext
      have he2 : i + b.size + (srow G D r).size + hC.a.size + 1 + (hC.b ++ (slist G D C (r2 :: l) ++ T)).size = u.size := by
        rw [ByteArray.size_append, ez] at he
        omega
      have hrest := ih (by simp) (fun z hz => hl z (List.mem_cons_of_mem _ hz)) hC.b _ hC.hb hnext he2
      refine .more (j := i + b.size + (srow G D r).size) (by rw [e1]; exact hst) (by rw [e2]; exact c1.1) (by rw [e2]; exact c1.2) ?_
      rw [e2]
      exact hrest
/-- Read back. -/
theorem parse_slist {G D C L T : By} (hG : Mid G 62) (hD : Bl D) (hD0 : 0 < D.size) (hC : Mid C 44) (hL : Bl L) (hT : Bl T) {l : List (List Stp)} (hl : okL l) : parse (L ++ (slist G D C l ++ T)) = .ok l := by
  have h := rowsAt (u := L ++ (slist G D C l ++ T)) hG hD hD0 hC hT l hl.1 hl.2 L 0 hL (At.refl _) (Nat.zero_add _)
  have := rows_at h hl.2 ((L ++ (slist G D C l ++ T)).size + 1) [] (Nat.zero_le _) (by omega)
  unfold parse
  rw [this]
  rfl
abbrev Gs : By := ⟨#[32, 62, 32]⟩
abbrev Ds : By := ⟨#[32]⟩
abbrev Cs : By := ⟨#[44, 32]⟩
theorem bl32 : Bl (⟨#[32]⟩ : By) := by
  intro m hm
  have : m = 0 := by have : (⟨#[32]⟩ : By).size = 1 := rfl; omega
  subst this
  rfl
theorem bl0 : Bl (⟨#[]⟩ : By) := fun m hm => absurd hm (by have : (⟨#[]⟩ : By).size = 0 := rfl; omega)
def midG : Mid Gs 62 := ⟨⟨#[32]⟩, ⟨#[32]⟩, by apply data_ext; rw [cat_data, cat_data]; rfl, bl32, bl32⟩
def midC : Mid Cs 44 := ⟨⟨#[]⟩, ⟨#[32]⟩, by apply data_ext; rw [cat_data, cat_data]; rfl, bl0, bl32⟩
theorem sep_succ (s : By) (n : Nat) (b : Bool) : sep s (n + 1) b = s ++ (if b = true then Gs else Ds) := by
  unfold sep
  cases b with
  | true => rw [if_pos ⟨Nat.succ_pos n, rfl⟩, if_pos rfl]
  | false => rw [if_neg (fun q => by cases q.2), if_pos (Nat.succ_pos n), if_neg (by decide)]
theorem rtx_eq : ∀ (l : List Stp) (x : Stp) (n : Nat) (s : By), rtx s n (x :: l) = (sep s n x.f1) ++ srow Gs Ds (x :: l) := by
  intro l
  induction l with
  | nil => intro x n s; rw [rtx, rtx, body_eq, srow_one]
  | cons y l ih =>
    intro x n s
    rw [rtx, body_eq, ih, srow_more, sep_succ]
    simp only [ByteArray.append_assoc]
theorem rtx0 (r : List Stp) : rtx (⟨#[]⟩ : By) 0 r = srow Gs Ds r := by
  cases r with
  | nil => rfl
  | cons x l =>
    rw [rtx_eq]
    unfold sep
    rw [if_neg (fun q => absurd q.1 (by decide)), if_neg (by decide), nil_app]
theorem text_data : ∀ l : List (List Stp), Lib.join ((rowsTx l).map (·.data.toList)) [44, 32] = (slist Gs Ds Cs l).data.toList := by
  intro l
  induction l with
  | nil => rfl
  | cons r l ih =>
    cases l with
    | nil =>
      rw [slist_one, ← rtx0]
      unfold rowsTx Lib.join
      simp [List.intercalate]
    | cons r2 l =>
      rw [slist_more, cat_data, cat_data, ← ih, ← rtx0]
      unfold rowsTx Lib.join
      simp [List.intercalate]
theorem text_eq (l : List (List Stp)) : text l = slist Gs Ds Cs l := by
  unfold text
  rw [text_data]
/-- What may be told is read back from its text. -/
theorem parse_text {l : List (List Stp)} (hl : okL l) : parse (text l) = .ok l := by
  have := parse_slist midG bl32 (by decide) midC bl0 bl0 hl
  rw [nil_app, app_nil] at this
  rw [text_eq]
  exact this
theorem tk_size {t : Tst} (h : okN t ∨ okT t) : (tk t).size ≤ 90 := by
  rcases h with h | ⟨h | h | h, hn, _⟩ | ⟨h, hn, hv⟩
  · rw [tk1 h.1]; have := h.2.1.2.1; omega
  · rw [tk2 h, ByteArray.size_append, size1]; have := hn.2.1; omega
  · rw [tk3 h, ByteArray.size_append, size1]; have := hn.2.1; omega
  · rw [tk4 h, ByteArray.size_append, ByteArray.size_append, size1, size1]; have := hn.2.1; omega
  · rw [tk5 h]
    simp only [ByteArray.size_append, size1]
    have := hn.2.1
    have := hv.1
    omega
theorem tc_size (c : List Tst) : (∀ t ∈ c, okN t ∨ okT t) → (tc c).size ≤ 90 * c.length := by
  induction c with
  | nil => intro _; exact Nat.le_refl _
  | cons t c ih =>
    intro h
    have h1 := ih (fun x hx => h x (List.mem_cons_of_mem _ hx))
    have h2 := tk_size (h t List.mem_cons_self)
    rw [tc, ByteArray.size_append, List.length_cons]
    omega
theorem body_size {c : List Tst} (h : okC c) : (body c).size ≤ 90 * c.length + 1 := by
  unfold body
  split
  · rw [size1]; omega
  · have := tc_size c (fun t ht => by
      cases c with
      | nil => cases ht
      | cons a c =>
        rcases List.mem_cons.1 ht with e | e
        · rw [e]; exact h.1
        · exact .inr (h.2 t e))
    omega
theorem srow_size {M : Nat} (r : List Stp) : (∀ x ∈ r, okC x.f0 ∧ x.f0.length ≤ M) → (srow Gs Ds r).size ≤ (90 * M + 4) * r.length := by
  induction r with
  | nil => intro _; exact Nat.le_refl _
  | cons x r ih =>
    intro h
    have h1 := ih (fun y hy => h y (List.mem_cons_of_mem _ hy))
    have h2 := body_size (h x List.mem_cons_self).1
    have h3 := (h x List.mem_cons_self).2
    have h4 : (90 * M + 4) * (x :: r).length = (90 * M + 4) * r.length + (90 * M + 4) := by rw [List.length_cons, Nat.mul_succ]
    rw [h4]
    cases r with
    | nil =>
      rw [srow_one]
      omega
    | cons y r =>
      rw [srow_more, ByteArray.size_append, ByteArray.size_append]
      have h5 : (if y.f1 = true then Gs else Ds).size ≤ 3 := by
        cases y.f1 with
        | true => rw [if_pos rfl]; exact Nat.le_refl _
        | false => rw [if_neg (by decide)]; exact (by decide : (1 : Nat) ≤ 3)
      omega
theorem slist_size {M N : Nat} (l : List (List Stp)) : (∀ r ∈ l, r.length ≤ N ∧ ∀ x ∈ r, okC x.f0 ∧ x.f0.length ≤ M) → (slist Gs Ds Cs l).size ≤ ((90 * M + 4) * N + 2) * l.length := by
  induction l with
  | nil => intro _; exact Nat.le_refl _
  | cons r l ih =>
    intro h
    have h1 := ih (fun y hy => h y (List.mem_cons_of_mem _ hy))
    have h2 := srow_size r (h r List.mem_cons_self).2
    have h3 : (90 * M + 4) * r.length ≤ (90 * M + 4) * N := Nat.mul_le_mul_left _ (h r List.mem_cons_self).1
    have h4 : ((90 * M + 4) * N + 2) * (r :: l).length = ((90 * M + 4) * N + 2) * l.length + ((90 * M + 4) * N + 2) := by rw [List.length_cons, Nat.mul_succ]
    rw [h4]
    cases l with
    | nil =>
      rw [slist_one]
      omega
    | cons y r =>
      rw [slist_more, ByteArray.size_append, ByteArray.size_append, size2]
      omega
end Go.Proofs.Ytjiejmkkaekefaa.PureS
