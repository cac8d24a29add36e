
import Derived.Test.YtjiejmkkaekefaaPAx7
import Derived.Test.YtjiejmkkaekefaaMath


/-
  Selectors read: in plain words (a scan, a name, a value, a test in brackets, a compound, a row, rows); and the reader's own functions say just that.
-/
namespace Go.Proofs.Ytjiejmkkaekefaa.PureS
set_option linter.unusedVariables false
set_option linter.unusedSimpArgs false
open Go.RowKit Go.Proofs.Ytjiejmkkaekefaa.PA Go.Proofs.YtjiejmkkaekefaaW.PrintWords Go.Proofs.YtjiejmkkaekefaaW.PrintLast Go.Proofs.YtjiejmkkaekefaaW.PrintMore Go.Proofs.YtjiejmkkaekefaaH

abbrev By := ByteArray
abbrev Tst := S48
abbrev Stp := S46
theorem w64 {i : Int} (h0 : 0 ≤ i) (h1 : i < 4611686018427387904) : wrap64 i = i := by unfold wrap64; omega
/-- From some number of rounds on. -/
def Ev (P : Nat → Prop) : Prop := ∃ K, ∀ k, K ≤ k → P k
theorem Ev.of {P : Nat → Prop} (h : ∀ k, P k) : Ev P := ⟨0, fun k _ => h k⟩
theorem Ev.mono {P Q : Nat → Prop} (h : Ev P) (hq : ∀ k, P k → Q k) : Ev Q := by obtain ⟨K, h⟩ := h; exact ⟨K, fun k hk => hq k (h k hk)⟩
theorem Ev.and {P Q : Nat → Prop} (h : Ev P) (g : Ev Q) : Ev (fun k => P k ∧ Q k) := by
  obtain ⟨K, h⟩ := h
  obtain ⟨L, g⟩ := g
  exact ⟨max K L, fun k hk => ⟨h k (by omega), g k (by omega)⟩⟩
/-- One round more. -/
theorem Ev.succ {P Q : Nat → Prop} (h : Ev P) (hq : ∀ k, P k → Q (k + 1)) : Ev Q := by
  obtain ⟨K, h⟩ := h
  refine ⟨K + 1, fun k hk => ?_⟩
  obtain ⟨k, rfl⟩ : ∃ k', k = k' + 1 := ⟨k - 1, by omega⟩
  exact hq k (h k (by omega))
def blank (b : Int) : Bool := b == 9 || b == 10 || b == 12 || b == 13 || b == 32
def letter (b : Int) : Bool := decide (97 ≤ b ∧ b ≤ 122) || decide (65 ≤ b ∧ b ≤ 90)
def nameB (b : Int) : Bool := letter b || decide (48 ≤ b ∧ b ≤ 57) || b == 45 || b == 95
def noQuote (b : Int) : Bool := b != 34
def scan (p : Int → Bool) (s : By) : Nat → Nat → Nat
  | 0, i => i
  | d + 1, i => if i < s.size ∧ p (bt s i) = true then scan p s d (i + 1) else i
def stop (p : Int → Bool) (s : By) (i : Nat) : Nat := scan p s (s.size - i) i
theorem stop_step {p : Int → Bool} {s : By} {i : Nat} (h : i < s.size) (hp : p (bt s i) = true) : stop p s i = stop p s (i + 1) := by
  unfold stop
  obtain ⟨d, hd⟩ : ∃ d, s.size - i = d + 1 := ⟨s.size - i - 1, by omega⟩
  rw [hd, scan, if_pos ⟨h, hp⟩, show s.size - (i + 1) = d from by omega]
theorem stop_here {p : Int → Bool} {s : By} {i : Nat} (h : ¬ (i < s.size ∧ p (bt s i) = true)) : stop p s i = i := by
  unfold stop
  cases hd : s.size - i with
  | zero => rfl
  | succ d => rw [scan, if_neg h]
/-- What a scan says: by induction on what is left. -/
theorem stop_ind {s : By} {M : Nat → Prop} (p : Int → Bool) (h0 : ∀ i, ¬ (i < s.size ∧ p (bt s i) = true) → M i) (h1 : ∀ i, i < s.size → p (bt s i) = true → M (i + 1) → M i) : ∀ (d i : Nat), s.size - i ≤ d → M i := by
  intro d
  induction d with
  | zero => intro i hi; exact h0 i (fun h => by omega)
  | succ d ih =>
    intro i hi
    by_cases h : i < s.size ∧ p (bt s i) = true
    · exact h1 i h.1 h.2 (ih (i + 1) (by omega))
    · exact h0 i h
theorem stop_ge (p : Int → Bool) (s : By) (i : Nat) : i ≤ stop p s i := by
  refine stop_ind (s := s) (M := fun i => i ≤ stop p s i) p (fun i h => ?_) (fun i h hp ih => ?_) (s.size - i) i (Nat.le_refl _)
  · rw [stop_here h]; exact Nat.le_refl _
  · show i ≤ stop p s i
    rw [stop_step h hp]
    exact Nat.le_of_succ_le ih
theorem stop_le (p : Int → Bool) (s : By) (i : Nat) (hi : i ≤ s.size) : stop p s i ≤ s.size := by
  have := stop_ind (s := s) (M := fun i => i ≤ s.size → stop p s i ≤ s.size) p (fun i h hi => by rw [stop_here h]; exact hi) (fun i h hp ih hi => by rw [stop_step h hp]; exact ih h) (s.size - i) i (Nat.le_refl _)
  exact this hi
theorem stop_at (p : Int → Bool) (s : By) (i : Nat) : ¬ (stop p s i < s.size ∧ p (bt s (stop p s i)) = true) := by
  refine stop_ind (s := s) (M := fun i => ¬ (stop p s i < s.size ∧ p (bt s (stop p s i)) = true)) p (fun i h => ?_) (fun i h hp ih => ?_) (s.size - i) i (Nat.le_refl _)
  · rw [stop_here h]; exact h
  · show ¬ (stop p s i < s.size ∧ p (bt s (stop p s i)) = true)
    rw [stop_step h hp]; exact ih
theorem stop_in (p : Int → Bool) (s : By) (i : Nat) : ∀ m, i ≤ m → m < stop p s i → p (bt s m) = true := by
  refine stop_ind (s := s) (M := fun i => ∀ m, i ≤ m → m < stop p s i → p (bt s m) = true) p (fun i h m h1 h2 => ?_) (fun i h hp ih m h1 h2 => ?_) (s.size - i) i (Nat.le_refl _)
  · rw [stop_here h] at h2; omega
  · rw [stop_step h hp] at h2
    rcases Nat.eq_or_lt_of_le h1 with e | e
    · subst e; exact hp
    · exact ih m e h2
abbrev skip (s : By) (i : Nat) : Nat := stop blank s i
abbrev run (s : By) (i : Nat) : Nat := stop nameB s i
abbrev Res (α : Type) := Except Nat (α × Nat)
def isB (s : By) (i : Nat) (b : Int) : Prop := i < s.size ∧ bt s i = b
instance (s : By) (i : Nat) (b : Int) : Decidable (isB s i b) := by unfold isB; exact inferInstance
def name (s : By) (i : Nat) : Res By := if i < s.size ∧ letter (bt s i) = true then (if run s i ≤ i + 20 then .ok (s.extract i (run s i), run s i) else .error (i + 20)) else .error i
def value (s : By) (i : Nat) : Res By :=
  if isB s i 34 then (if stop noQuote s (i + 1) < s.size ∧ stop noQuote s (i + 1) ≤ i + 61 then .ok (s.extract (i + 1) (stop noQuote s (i + 1)), stop noQuote s (i + 1) + 1) else .error (min (stop noQuote s (i + 1)) (i + 61))) else name s i
def brackets (s : By) (i : Nat) : Res Tst :=
  match name s (skip s i) with
  | .error p => .error p
  | .ok (n, j) =>
    if isB s (skip s j) 61 then
      (match value s (skip s (skip s j + 1)) with
       | .error p => .error p
       | .ok (v, m) => if isB s (skip s m) 93 then .ok (⟨5, n, v⟩, skip s m + 1) else .error (skip s m))
    else if isB s (skip s j) 93 then .ok (⟨4, n, ⟨#[]⟩⟩, skip s j + 1) else .error (skip s j)
def tests (s : By) : Nat → List Tst → Nat → Res (List Tst)
  | 0, acc, i => .ok (acc, i)
  | d + 1, acc, i =>
    if isB s i 46 then (match name s (i + 1) with | .error p => .error p | .ok (n, j) => tests s d (acc ++ [⟨3, n, ⟨#[]⟩⟩]) j)
    else if isB s i 35 then (match name s (i + 1) with | .error p => .error p | .ok (n, j) => tests s d (acc ++ [⟨2, n, ⟨#[]⟩⟩]) j)
    else if isB s i 91 then (match brackets s (i + 1) with | .error p => .error p | .ok (t, j) => tests s d (acc ++ [t]) j)
    else .ok (acc, i)
def closed (i : Nat) : Res (List Tst) → Res (List Tst)
  | .error p => .error p
  | .ok (c, j) => if j = i then .error j else .ok (c, j)
def compound (s : By) (i : Nat) : Res (List Tst) :=
  if isB s i 42 then closed i (tests s (s.size + 1) [] (i + 1))
  else if i < s.size ∧ letter (bt s i) = true then (match name s i with | .error p => .error p | .ok (n, j) => closed i (tests s (s.size + 1) [⟨1, n, ⟨#[]⟩⟩] j))
  else closed i (tests s (s.size + 1) [] i)
def steps (s : By) : Nat → List Stp → Bool → Nat → Res (List Stp)
  | 0, _, _, _ => .error 0
  | d + 1, acc, child, i =>
    match compound s i with
    | .error p => .error p
    | .ok (c, k) =>
      if skip s k = s.size ∨ bt s (skip s k) = 44 then .ok (acc ++ [⟨c, child⟩], skip s k)
      else if bt s (skip s k) = 62 then steps s d (acc ++ [⟨c, child⟩]) true (skip s (skip s k + 1))
      else if k < skip s k then steps s d (acc ++ [⟨c, child⟩]) false (skip s k)
      else .error (skip s k)
def row (s : By) (i : Nat) : Res (List Stp) := steps s (s.size + 1) [] false (skip s i)
def rows (s : By) : Nat → List (List Stp) → Nat → Except Nat (List (List Stp))
  | 0, _, _ => .error 0
  | d + 1, acc, i =>
    match row s i with
    | .error p => .error p
    | .ok (r, j) => if isB s j 44 then rows s d (acc ++ [r]) (j + 1) else .ok (acc ++ [r])
def parse (s : By) : Except Nat (List (List Stp)) := rows s (s.size + 1) [] 0
/-- As the code tells it. -/
def cv {α : Type} (s : By) : Res α → Except Int (α × By × Int)
  | .error p => .error (p : Int)
  | .ok (a, j) => .ok (a, s, (j : Int))

theorem bt_out {s : By} {i : Nat} (h : s.size ≤ i) : bt s (i : Int) = 0 := by unfold bt; rw [dif_neg (by rw [Int.toNat_natCast]; omega)]
theorem took_yes {s : By} {i : Nat} {b : Int} (hs : s.size ≤ 140737488355328) (h : isB s i b) : sel_reader_took.f s i b = some (true, s, ((i + 1 : Nat) : Int)) := by
  obtain ⟨h1, h2⟩ := h
  unfold sel_reader_took.f
  rw [if_pos (by omega), if_pos (by omega), if_pos h2, w64 (by omega) (by omega)]
  rfl
theorem took_no {s : By} {i : Nat} {b : Int} (h : ¬ isB s i b) : sel_reader_took.f s i b = some (false, s, (i : Int)) := by
  unfold sel_reader_took.f
  by_cases h1 : i < s.size
  · rw [if_pos (by omega), if_pos (by omega), if_neg (fun e => h ⟨h1, e⟩)]
  · rw [if_neg (by omega)]
theorem next_eq {s : By} {i : Nat} (hi : i ≤ s.size) : sel_reader_next.f s i = some (bt s i, s, (i : Int)) := by
  unfold sel_reader_next.f
  by_cases h : i = s.size
  · rw [if_pos (by omega), bt_out (by omega)]
  · rw [if_neg (by omega), if_pos (by omega), if_pos (by omega)]
theorem letter_all : ∀ n : Fin 256, sel_letter.f ((n.val : Nat) : Int) = some (letter ((n.val : Nat) : Int)) := by decide +kernel
theorem letter_eq (s : By) (i : Int) : sel_letter.f (bt s i) = some (letter (bt s i)) := by
  obtain ⟨h0, h1⟩ := bt_range s i
  have := letter_all ⟨(bt s i).toNat, by omega⟩
  simp only [Int.toNat_of_nonneg h0] at this
  exact this
theorem blank_all : ∀ n : Fin 256, decide (0 ≤ Lib.indexByte [9, 10, 12, 13, 32] ((n.val : Nat) : Int).toNat.toUInt8) = blank ((n.val : Nat) : Int) := by decide +kernel
theorem index_eq (s : By) (i : Int) : (strings_IndexByte.f (⟨#[9, 10, 12, 13, 32]⟩ : ByteArray) (bt s i)).bind (fun t => some (decide (t ≥ 0))) = some (blank (bt s i)) := by
  obtain ⟨h0, h1⟩ := bt_range s i
  have := blank_all ⟨(bt s i).toNat, by omega⟩
  simp only [Int.toNat_of_nonneg h0] at this
  unfold strings_IndexByte.f
  rw [Option.bind_some, ← this]
theorem blanks_eq {s : By} (hs : s.size ≤ 140737488355328) (b : Nat) : ∀ (d i : Nat), s.size - i ≤ d → i ≤ s.size → Ev fun k => sel_reader_blanks.l0 k b s i = some (decide (((skip s i : Nat) : Int) > b), s, ((skip s i : Nat) : Int)) := by
  have key := stop_ind (s := s) (M := fun i => i ≤ s.size → Ev fun k => sel_reader_blanks.l0 k b s i = some (decide (((skip s i : Nat) : Int) > b), s, ((skip s i : Nat) : Int))) blank ?_ ?_
  · exact key
  · intro i h hi
    refine ⟨1, fun k hk => ?_⟩
    obtain ⟨k, rfl⟩ : ∃ k', k = k' + 1 := ⟨k - 1, by omega⟩
    rw [sel_reader_blanks.l0, show skip s i = i from stop_here h]
    by_cases h1 : i < s.size
    · rw [if_pos (by omega), if_pos (by omega)]
      have hb := index_eq s i
      obtain ⟨t, ht, hd⟩ := Option.bind_eq_some_iff.1 hb
      rw [ht, Option.bind_some]
      have hd := Option.some.inj hd
      have : blank (bt s i) = false := Bool.eq_false_iff.2 (fun e => h ⟨h1, e⟩)
      rw [this] at hd
      rw [if_neg (of_decide_eq_false hd)]
    · rw [if_neg (by omega)]
  · intro i h hp ih hi
    refine (ih h).succ fun k hk => ?_
    rw [sel_reader_blanks.l0, if_pos (by omega), if_pos (by omega)]
    have hb := index_eq s i
    obtain ⟨t, ht, hd⟩ := Option.bind_eq_some_iff.1 hb
    rw [ht, Option.bind_some]
    have hd := Option.some.inj hd
    rw [hp] at hd
    rw [if_pos (of_decide_eq_true hd), w64 (by omega) (by omega), show skip s i = skip s (i + 1) from stop_step h hp]
    exact hk
theorem blanks_f {s : By} (hs : s.size ≤ 140737488355328) {i : Nat} (hi : i ≤ s.size) : Ev fun k => sel_reader_blanks.f k s i = some (decide (i < skip s i), s, ((skip s i : Nat) : Int)) := by
  refine (blanks_eq hs i (s.size - i) i (Nat.le_refl _) hi).mono fun k hk => ?_
  unfold sel_reader_blanks.f
  rw [hk]
  congr 2
  exact decide_eq_decide.2 (by omega)
end Go.Proofs.Ytjiejmkkaekefaa.PureS
