/-
  What is read may be told; its text, with any blanks around commas and marks, is read back to it.
-/
import Derived.Test.YtjiejmkkaekefaaSelL
namespace Go.Proofs.Ytjiejmkkaekefaa.PureS
set_option linter.unusedVariables false
set_option linter.unusedSimpArgs false
open Go.RowKit Go.Proofs.Ytjiejmkkaekefaa.PA Go.Proofs.YtjiejmkkaekefaaW.PrintWords Go.Proofs.YtjiejmkkaekefaaW.PrintLast Go.Proofs.YtjiejmkkaekefaaW.PrintMore Go.Proofs.YtjiejmkkaekefaaH

theorem name_ok {s : By} {i : Nat} {n : By} {j : Nat} (h : name s i = .ok (n, j)) : NameOk n := by
  unfold name at h
  split at h
  · rename_i c1
    split at h
    · rename_i c2
      injection h with h
      injection h with h1 h2
      have hle := stop_le nameB s i (by omega)
      have hge := stop_ge nameB s i
      have hin := stop_in nameB s i
      have hfirst : nameB (bt s (i : Int)) = true := by unfold nameB; rw [c1.2]; rfl
      have hgt : i < run s i := by
        have : run s i = run s (i + 1) := stop_step c1.1 hfirst
        have h2 := stop_ge nameB s (i + 1)
        rw [this]
        exact h2
      have hs : (s.extract i (run s i)).size = run s i - i := by
        rw [ByteArray.size_extract]
        have : run s i ≤ s.size := hle
        omega
      rw [← h1]
      refine ⟨by omega, by omega, ?_, fun m hm => ?_⟩
      · have := bt_cut (u := s) (i := i) (j := run s i) hle (m := 0) (by omega)
        rw [Nat.add_zero] at this
        rw [show ((0 : Nat) : Int) = 0 from rfl] at this
        rw [this]
        exact c1.2
      · rw [bt_cut (j := run s i) hle (by omega)]
        exact hin _ (by omega) (by show i + m < run s i; omega)
    · cases h
  · cases h
theorem value_ok {s : By} {i : Nat} {n : By} {j : Nat} (h : value s i = .ok (n, j)) : ValOk n := by
  unfold value at h
  split at h
  · rename_i c1
    split at h
    · rename_i c2
      injection h with h
      injection h with h1 h2
      have hin := stop_in noQuote s (i + 1)
      have hs : (s.extract (i + 1) (stop noQuote s (i + 1))).size = stop noQuote s (i + 1) - (i + 1) := by
        rw [ByteArray.size_extract]
        omega
      rw [← h1]
      refine ⟨by omega, fun m hm => ?_⟩
      rw [bt_cut (by omega) (by omega)]
      have := hin (i + 1 + m) (by omega) (by omega)
      unfold noQuote at this
      exact bne_iff_ne.1 this
    · cases h
  · have hn := name_ok h
    refine ⟨by have := hn.2.1; omega, fun m hm e => ?_⟩
    have := hn.2.2.2 m hm
    rw [e] at this
    cases this
theorem brackets_ok {s : By} {i : Nat} {t : Tst} {j : Nat} (h : brackets s i = .ok (t, j)) : okT t := by
  unfold brackets at h
  split at h
  · cases h
  · rename_i n m hn
    have n1 := name_ok hn
    split at h
    · split at h
      · cases h
      · rename_i v q hv
        split at h
        · injection h with h
          injection h with h1 h2
          subst h1
          exact .inr ⟨rfl, n1, value_ok hv⟩
        · cases h
    · split at h
      · injection h with h
        injection h with h1 h2
        subst h1
        exact .inl ⟨.inr (.inr rfl), n1, rfl⟩
      · cases h
theorem tests_ok {s : By} : ∀ (d : Nat) (acc : List Tst) (i : Nat) {c : List Tst} {j : Nat}, tests s d acc i = .ok (c, j) → ∃ l, c = acc ++ l ∧ ∀ t ∈ l, okT t := by
  intro d
  induction d with
  | zero =>
    intro acc i c j h
    rw [tests] at h
    injection h with h
    injection h with h1 h2
    exact ⟨[], by rw [List.append_nil]; exact h1.symm, fun t ht => (by cases ht)⟩
  | succ d ih =>
    intro acc i c j h
    have up : ∀ {t : Tst} {k : Nat}, okT t → tests s d (acc ++ [t]) k = .ok (c, j) → ∃ l, c = acc ++ l ∧ ∀ t ∈ l, okT t := by
      intro t k ht hk
      obtain ⟨l, h1, h2⟩ := ih _ _ hk
      refine ⟨t :: l, by rw [h1, List.append_assoc]; rfl, fun x hx => ?_⟩
      rcases List.mem_cons.1 hx with e | e
      · rw [e]; exact ht
      · exact h2 x e
    rw [tests] at h
    split at h
    · split at h
      · cases h
      · rename_i n m hn
        exact up (.inl ⟨.inr (.inl rfl), name_ok hn, rfl⟩) h
    · split at h
      · split at h
        · cases h
        · rename_i n m hn
          exact up (.inl ⟨.inl rfl, name_ok hn, rfl⟩) h
      · split at h
        · split at h
          · cases h
          · rename_i t m hn
            exact up (brackets_ok hn) h
        · injection h with h
          injection h with h1 h2
          exact ⟨[], by rw [List.append_nil]; exact h1.symm, fun t ht => (by cases ht)⟩
theorem okC_all {l : List Tst} (h : ∀ t ∈ l, okT t) : okC l := by
  cases l with
  | nil => trivial
  | cons t l => exact ⟨.inr (h t List.mem_cons_self), fun x hx => h x (List.mem_cons_of_mem _ hx)⟩
theorem closed_ok {i : Nat} {r : Res (List Tst)} {c : List Tst} {j : Nat} (h : closed i r = .ok (c, j)) : r = .ok (c, j) := by
  cases r with
  | error p => cases h
  | ok x =>
    obtain ⟨c', j'⟩ := x
    unfold closed at h
    dsimp only at h
    split at h
    · cases h
    · exact h
theorem compound_ok {s : By} {i : Nat} {c : List Tst} {j : Nat} (h : compound s i = .ok (c, j)) : okC c := by
  unfold compound at h
  split at h
  · obtain ⟨l, h1, h2⟩ := tests_ok _ _ _ (closed_ok h)
    rw [h1]
    exact okC_all h2
  · split at h
    · split at h
      · cases h
      · rename_i n m hn
        obtain ⟨l, h1, h2⟩ := tests_ok _ _ _ (closed_ok h)
        rw [h1]
        exact ⟨.inl ⟨rfl, name_ok hn, rfl⟩, h2⟩
    · obtain ⟨l, h1, h2⟩ := tests_ok _ _ _ (closed_ok h)
      rw [h1]
      exact okC_all h2
theorem steps_ok {s : By} : ∀ (d i : Nat) (acc : List Stp) (child : Bool) {l : List Stp} {j : Nat}, steps s d acc child i = .ok (l, j) → ∃ x r, l = acc ++ x :: r ∧ x.f1 = child ∧ ∀ y ∈ x :: r, okC y.f0 := by
  intro d
  induction d with
  | zero => intro i acc child l j h; rw [steps] at h; cases h
  | succ d ih =>
    intro i acc child l j h
    rw [steps] at h
    cases e : compound s i with
    | error p => rw [e] at h; cases h
    | ok r =>
      obtain ⟨c, m⟩ := r
      rw [e] at h
      have hc := compound_ok e
      dsimp only at h
      have up : ∀ {b : Bool} {k : Nat}, steps s d (acc ++ [⟨c, child⟩]) b k = .ok (l, j) → ∃ x r, l = acc ++ x :: r ∧ x.f1 = child ∧ ∀ y ∈ x :: r, okC y.f0 := by
        intro b k hk
        obtain ⟨x, r, h1, h2, h3⟩ := ih _ _ _ hk
        refine ⟨⟨c, child⟩, x :: r, by rw [h1, List.append_assoc]; rfl, rfl, fun y hy => ?_⟩
        rcases List.mem_cons.1 hy with e | e
        · rw [e]; exact hc
        · exact h3 y e
      split at h
      · injection h with h
        injection h with h1 h2
        exact ⟨⟨c, child⟩, [], h1.symm, rfl, fun y hy => by rw [List.mem_singleton.1 hy]; exact hc⟩
      · split at h
        · exact up h
        · split at h
          · exact up h
          · cases h
theorem row_ok {s : By} {i : Nat} {l : List Stp} {j : Nat} (h : row s i = .ok (l, j)) : okR l := by
  obtain ⟨x, r, h1, h2, h3⟩ := steps_ok _ _ _ _ h
  rw [List.nil_append] at h1
  exact ⟨x, r, h1, h2, by rw [h1]; exact h3⟩
theorem rows_ok {s : By} : ∀ (d i : Nat) (acc : List (List Stp)) {l : List (List Stp)}, (∀ r ∈ acc, okR r) → rows s d acc i = .ok l → okL l := by
  intro d
  induction d with
  | zero => intro i acc l ha h; rw [rows] at h; cases h
  | succ d ih =>
    intro i acc l ha h
    rw [rows] at h
    cases e : row s i with
    | error p => rw [e] at h; cases h
    | ok r =>
      obtain ⟨q, m⟩ := r
      rw [e] at h
      have hb : ∀ r ∈ acc ++ [q], okR r := by
        intro r hr
        rcases List.mem_append.1 hr with hr | hr
        · exact ha r hr
        · rw [List.mem_singleton.1 hr]; exact row_ok e
      dsimp only at h
      split at h
      · exact ih _ _ hb h
      · injection h with h
        subst h
        exact ⟨by simp, hb⟩
theorem parse_okL {s : By} {l : List (List Stp)} (h : parse s = .ok l) : okL l := rows_ok _ _ _ (fun r hr => (by cases hr)) h
/-- Blanks alone. -/
def Bl (b : By) : Prop := ∀ m : Nat, m < b.size → blank (bt b m) = true
theorem skip_over {u b : By} {i : Nat} (h : At u i b) (hb : Bl b) (hn : ¬ (i + b.size < u.size ∧ blank (bt u ((i + b.size : Nat) : Int)) = true)) : skip u i = i + b.size := by
  refine stop_eq (by omega) h.le (fun q h1 h2 => ?_) hn
  obtain ⟨m, rfl⟩ : ∃ m, q = i + m := ⟨q - i, by omega⟩
  rw [h.get m (by omega)]
  exact hb m (by omega)
/-- What stands between: blanks, a mark, blanks. -/
structure Mid (G : By) (c : UInt8) where
  a : By
  b : By
  eq : G = a ++ ((⟨#[c]⟩ : By) ++ b)
  ha : Bl a
  hb : Bl b
def srow (G D : By) : List Stp → By
  | [] => (⟨#[]⟩ : By)
  | x :: l => body x.f0 ++ (match l with
    | [] => (⟨#[]⟩ : By)
    | y :: _ => (if y.f1 = true then G else D) ++ srow G D l)
theorem srow_one (G D : By) (x : Stp) : srow G D [x] = body x.f0 := by rw [srow]; exact app_nil _
theorem srow_more (G D : By) (x y : Stp) (l : List Stp) : srow G D (x :: y :: l) = body x.f0 ++ ((if y.f1 = true then G else D) ++ srow G D (y :: l)) := by rw [srow]
theorem srow_first {G D u : By} {y : Stp} {l : List Stp} {i : Nat} (hy : okC y.f0) (h : At u i (srow G D (y :: l))) : i < u.size ∧ blank (bt u (i : Int)) = false ∧ bt u (i : Int) ≠ 44 ∧ bt u (i : Int) ≠ 62 := by
  cases l with
  | nil => rw [srow_one] at h; exact body_first hy h
  | cons z l => rw [srow_more] at h; exact body_first hy h.left
theorem stepsAt {G D u : By} (hG : Mid G 62) (hD : Bl D) (hD0 : 0 < D.size) : ∀ (l : List Stp), l ≠ [] → (∀ x ∈ l, okC x.f0) → ∀ i, At u i (srow G D l) → StepsAt u i l (i + (srow G D l).size) := by
  intro l
  induction l with
  | nil => intro h; exact absurd rfl h
  | cons x l ih =>
    intro _ hl i h
    cases l with
    | nil =>
      rw [srow_one] at h ⊢
      exact .one h
    | cons y l =>
      rw [srow_more] at h ⊢
      have hr := h.right
      have hy := hl y (List.mem_cons_of_mem _ List.mem_cons_self)
      have hl' : ∀ z ∈ y :: l, okC z.f0 := fun z hz => hl z (List.mem_cons_of_mem _ hz)
      have hle := h.le
      rw [ByteArray.size_append, ByteArray.size_append] at hle
      cases hc : y.f1 with
      | true =>
        rw [hc, if_pos rfl] at hr hle h
        rw [if_pos rfl]
        have hg := hr.left
        have hb := hr.right
        have ge := hG.eq
        have gs : G.size = hG.a.size + (1 + hG.b.size) := by
          have := congrArg ByteArray.size ge
          rw [ByteArray.size_append, ByteArray.size_append, size1] at this
          exact this
        rw [ge] at hg
        have c1 := bt_of hg.right
        have hb2 := hg.right.right
        rw [size1] at hb2
        have f := srow_first hy hb
        have e1 : skip u (i + (body x.f0).size) = i + (body x.f0).size + hG.a.size := skip_over hg.left hG.ha (fun q => by rw [c1.2] at q; exact absurd q.2 (by decide))
        have ee : i + (body x.f0).size + hG.a.size + 1 + hG.b.size = i + (body x.f0).size + G.size := by omega
        have e2 : skip u (i + (body x.f0).size + hG.a.size + 1) = i + (body x.f0).size + G.size := by
          have := skip_over hb2 hG.hb (fun q => by rw [ee, f.2.1] at q; cases q.2)
          rw [ee] at this
          exact this
        refine .more (m := i + (body x.f0).size + G.size) h.left (fun _ => ⟨by rw [e1]; exact c1.1, by rw [e1]; exact c1.2, by rw [e1, e2]⟩) (fun q => by rw [hc] at q; cases q) ?_
        have := ih (by simp) hl' _ hb
        rw [ByteArray.size_append, ByteArray.size_append, show i + ((body x.f0).size + (G.size + (srow G D (y :: l)).size)) = i + (body x.f0).size + G.size + (srow G D (y :: l)).size from by omega]
        exact this
      | false =>
        rw [hc, if_neg (by decide)] at hr hle h
        rw [if_neg (by decide)]
        have hb := hr.right
        have f := srow_first hy hb
        have e1 : skip u (i + (body x.f0).size) = i + (body x.f0).size + D.size := skip_over hr.left hD (fun q => by rw [f.2.1] at q; cases q.2)
        refine .more (m := i + (body x.f0).size + D.size) h.left (fun q => by rw [hc] at q; cases q) (fun _ => ⟨by omega, by rw [e1]; exact f.1, by rw [e1]; exact f.2.2.1, by rw [e1]; exact f.2.2.2, by rw [e1]⟩) ?_
        have := ih (by simp) hl' _ hb
        rw [ByteArray.size_append, ByteArray.size_append, show i + ((body x.f0).size + (D.size + (srow G D (y :: l)).size)) = i + (body x.f0).size + D.size + (srow G D (y :: l)).size from by omega]
        exact this
def slist (G D C : By) : List (List Stp) → By
  | [] => (⟨#[]⟩ : By)
  | r :: l => srow G D r ++ (match l with
    | [] => (⟨#[]⟩ : By)
    | _ :: _ => C ++ slist G D C l)
theorem slist_one (G D C : By) (r : List Stp) : slist G D C [r] = srow G D r := by rw [slist]; exact app_nil _
theorem slist_more (G D C : By) (r r2 : List Stp) (l : List (List Stp)) : slist G D C (r :: r2 :: l) = srow G D r ++ (C ++ slist G D C (r2 :: l)) := by rw [slist]
theorem okR.first {G D u : By} {r : List Stp} (hr : okR r) {i : Nat} (h : At u i (srow G D r)) : i < u.size ∧ blank (bt u (i : Int)) = false := by
  obtain ⟨x, l, e, _, hx⟩ := hr
  subst e
  have := srow_first (hx x List.mem_cons_self) h
  exact ⟨this.1, this.2.1⟩
theorem rowsAt {G D C T u : By} (hG : Mid G 62) (hD : Bl D) (hD0 : 0 < D.size) (hC : Mid C 44) (hT : Bl T) : ∀ (l : List (List Stp)), l ≠ [] → (∀ r ∈ l, okR r) → ∀ (b : By) (i : Nat), Bl b → At u i (b ++ (slist G D C l ++ T)) → i + (b ++ (slist G D C l ++ T)).size = u.size → RowsAt u i l := by
  intro l
  induction l with
  | nil => intro h; exact absurd rfl h
  | cons r l ih =>
    intro _ hl b i hb h he
    have hr := hl r List.mem_cons_self
    have hx : ∀ y ∈ r, okC y.f0 := by obtain ⟨_, _, _, _, hx⟩ := hr; exact hx
    have hne : r ≠ [] := by obtain ⟨_, _, e, _⟩ := hr; rw [e]; simp
    cases l with
    | nil =>
      rw [slist_one] at h he
      have hs := h.right.left
      have f := hr.first hs
      have e1 : skip u i = i + b.size := skip_over h.left hb (fun q => by rw [f.2] at q; cases q.2)
      have hst := stepsAt hG hD hD0 r hne hx _ hs
      rw [ByteArray.size_append, ByteArray.size_append] at he
      refine .one (j := i + b.size + (srow G D r).size) (by rw [e1]; exact hst) ?_
      rw [skip_over h.right.right hT (fun q => by omega)]
      omega
    | cons r2 l =>
      have hr2 := hl r2 (List.mem_cons_of_mem _ List.mem_cons_self)
      rw [slist_more] at h he
      have hs := h.right.left.left
      have f := hr.first hs
      have e1 : skip u i = i + b.size := skip_over h.left hb (fun q => by rw [f.2] at q; cases q.2)
      have hst := stepsAt hG hD hD0 r hne hx _ hs
      have hc := h.right.left.right.left
      have ce := hC.eq
      have cs : C.size = hC.a.size + (1 + hC.b.size) := by
        have := congrArg ByteArray.size ce
        rw [ByteArray.size_append, ByteArray.size_append, size1] at this
        exact this
      have hc2 := hc
      rw [ce] at hc2
      have c1 := bt_of hc2.right
      have e2 : skip u (i + b.size + (srow G D r).size) = i + b.size + (srow G D r).size + hC.a.size := skip_over hc2.left hC.ha (fun q => by rw [c1.2] at q; exact absurd q.2 (by decide))
      have ea : b ++ ((srow G D r ++ (C ++ slist G D C (r2 :: l))) ++ T) = (b ++ (srow G D r ++ (hC.a ++ (⟨#[44]⟩ : By)))) ++ (hC.b ++ (slist G D C (r2 :: l) ++ T)) := by
        have : C ++ slist G D C (r2 :: l) = (hC.a ++ ((⟨#[44]⟩ : By) ++ hC.b)) ++ slist G D C (r2 :: l) := by rw [← ce]
        rw [this]
        simp only [ByteArray.append_assoc]
      rw [ea] at h he
      have ez : (b ++ (srow G D r ++ (hC.a ++ (⟨#[44]⟩ : By)))).size = b.size + ((srow G D r).size + (hC.a.size + 1)) := by rw [ByteArray.size_append, ByteArray.size_append, ByteArray.size_append, size1]
      have hnext := h.right
      have ei : i + (b ++ (srow G D r ++ (hC.a ++ (⟨#[44]⟩ : By)))).size = i + b.size + (srow G D r).size + hC.a.size + 1 := by omega
      rw [ei] at hnext
      have he2 : i + b.size + (srow G D r).size + hC.a.size + 1 + (hC.b ++ (slist G D C (r2 :: l) ++ T)).size = u.size := by
        rw [ByteArray.size_append, ez] at he
        omega
      have hrest := ih (by simp) (fun z hz => hl z (List.mem_cons_of_mem _ hz)) hC.b _ hC.hb hnext he2
      refine .more (j := i + b.size + (srow G D r).size) (by rw [e1]; exact hst) (by rw [e2]; exact c1.1) (by rw [e2]; exact c1.2) ?_
      rw [e2]
      exact hrest
/-- Read back. -/
theorem parse_slist {G D C L T : By} (hG : Mid G 62) (hD : Bl D) (hD0 : 0 < D.size) (hC : Mid C 44) (hL : Bl L) (hT : Bl T) {l : List (List Stp)} (hl : okL l) : parse (L ++ (slist G D C l ++ T)) = .ok l := by
  have h := rowsAt (u := L ++ (slist G D C l ++ T)) hG hD hD0 hC hT l hl.1 hl.2 L 0 hL (At.refl _) (Nat.zero_add _)
  have := rows_at h hl.2 ((L ++ (slist G D C l ++ T)).size + 1) [] (Nat.zero_le _) (by omega)
  unfold parse
  rw [this]
  rfl
abbrev Gs : By := ⟨#[32, 62, 32]⟩
abbrev Ds : By := ⟨#[32]⟩
abbrev Cs : By := ⟨#[44, 32]⟩
theorem bl32 : Bl (⟨#[32]⟩ : By) := by
  intro m hm
  have : m = 0 := by have : (⟨#[32]⟩ : By).size = 1 := rfl; omega
  subst this
  rfl
theorem bl0 : Bl (⟨#[]⟩ : By) := fun m hm => absurd hm (by have : (⟨#[]⟩ : By).size = 0 := rfl; omega)
def midG : Mid Gs 62 := ⟨⟨#[32]⟩, ⟨#[32]⟩, by apply data_ext; rw [cat_data, cat_data]; rfl, bl32, bl32⟩
def midC : Mid Cs 44 := ⟨⟨#[]⟩, ⟨#[32]⟩, by apply data_ext; rw [cat_data, cat_data]; rfl, bl0, bl32⟩
theorem sep_succ (s : By) (n : Nat) (b : Bool) : sep s (n + 1) b = s ++ (if b = true then Gs else Ds) := by
  unfold sep
  cases b with
  | true => rw [if_pos ⟨Nat.succ_pos n, rfl⟩, if_pos rfl]
  | false => rw [if_neg (fun q => by cases q.2), if_pos (Nat.succ_pos n), if_neg (by decide)]
theorem rtx_eq : ∀ (l : List Stp) (x : Stp) (n : Nat) (s : By), rtx s n (x :: l) = (sep s n x.f1) ++ srow Gs Ds (x :: l) := by
  intro l
  induction l with
  | nil => intro x n s; rw [rtx, rtx, body_eq, srow_one]
  | cons y l ih =>
    intro x n s
    rw [rtx, body_eq, ih, srow_more, sep_succ]
    simp only [ByteArray.append_assoc]
theorem rtx0 (r : List Stp) : rtx (⟨#[]⟩ : By) 0 r = srow Gs Ds r := by
  cases r with
  | nil => rfl
  | cons x l =>
    rw [rtx_eq]
    unfold sep
    rw [if_neg (fun q => absurd q.1 (by decide)), if_neg (by decide), nil_app]
theorem text_data : ∀ l : List (List Stp), Lib.join ((rowsTx l).map (·.data.toList)) [44, 32] = (slist Gs Ds Cs l).data.toList := by
  intro l
  induction l with
  | nil => rfl
  | cons r l ih =>
    cases l with
    | nil =>
      rw [slist_one, ← rtx0]
      unfold rowsTx Lib.join
      simp [List.intercalate]
    | cons r2 l =>
      rw [slist_more, cat_data, cat_data, ← ih, ← rtx0]
      unfold rowsTx Lib.join
      simp [List.intercalate]
theorem text_eq (l : List (List Stp)) : text l = slist Gs Ds Cs l := by
  unfold text
  rw [text_data]
/-- What may be told is read back from its text. -/
theorem parse_text {l : List (List Stp)} (hl : okL l) : parse (text l) = .ok l := by
  have := parse_slist midG bl32 (by decide) midC bl0 bl0 hl
  rw [nil_app, app_nil] at this
  rw [text_eq]
  exact this
theorem tk_size {t : Tst} (h : okN t ∨ okT t) : (tk t).size ≤ 90 := by
  rcases h with h | ⟨h | h | h, hn, _⟩ | ⟨h, hn, hv⟩
  · rw [tk1 h.1]; have := h.2.1.2.1; omega
  · rw [tk2 h, ByteArray.size_append, size1]; have := hn.2.1; omega
  · rw [tk3 h, ByteArray.size_append, size1]; have := hn.2.1; omega
  · rw [tk4 h, ByteArray.size_append, ByteArray.size_append, size1, size1]; have := hn.2.1; omega
  · rw [tk5 h]
    simp only [ByteArray.size_append, size1]
    have := hn.2.1
    have := hv.1
    omega
theorem tc_size (c : List Tst) : (∀ t ∈ c, okN t ∨ okT t) → (tc c).size ≤ 90 * c.length := by
  induction c with
  | nil => intro _; exact Nat.le_refl _
  | cons t c ih =>
    intro h
    have h1 := ih (fun x hx => h x (List.mem_cons_of_mem _ hx))
    have h2 := tk_size (h t List.mem_cons_self)
    rw [tc, ByteArray.size_append, List.length_cons]
    omega
theorem body_size {c : List Tst} (h : okC c) : (body c).size ≤ 90 * c.length + 1 := by
  unfold body
  split
  · rw [size1]; omega
  · have := tc_size c (fun t ht => by
      cases c with
      | nil => cases ht
      | cons a c =>
        rcases List.mem_cons.1 ht with e | e
        · rw [e]; exact h.1
        · exact .inr (h.2 t e))
    omega
theorem srow_size {M : Nat} (r : List Stp) : (∀ x ∈ r, okC x.f0 ∧ x.f0.length ≤ M) → (srow Gs Ds r).size ≤ (90 * M + 4) * r.length := by
  induction r with
  | nil => intro _; exact Nat.le_refl _
  | cons x r ih =>
    intro h
    have h1 := ih (fun y hy => h y (List.mem_cons_of_mem _ hy))
    have h2 := body_size (h x List.mem_cons_self).1
    have h3 := (h x List.mem_cons_self).2
    have h4 : (90 * M + 4) * (x :: r).length = (90 * M + 4) * r.length + (90 * M + 4) := by rw [List.length_cons, Nat.mul_succ]
    rw [h4]
    cases r with
    | nil =>
      rw [srow_one]
      omega
    | cons y r =>
      rw [srow_more, ByteArray.size_append, ByteArray.size_append]
      have h5 : (if y.f1 = true then Gs else Ds).size ≤ 3 := by
        cases y.f1 with
        | true => rw [if_pos rfl]; exact Nat.le_refl _
        | false => rw [if_neg (by decide)]; exact (by decide : (1 : Nat) ≤ 3)
      omega
theorem slist_size {M N : Nat} (l : List (List Stp)) : (∀ r ∈ l, r.length ≤ N ∧ ∀ x ∈ r, okC x.f0 ∧ x.f0.length ≤ M) → (slist Gs Ds Cs l).size ≤ ((90 * M + 4) * N + 2) * l.length := by
  induction l with
  | nil => intro _; exact Nat.le_refl _
  | cons r l ih =>
    intro h
    have h1 := ih (fun y hy => h y (List.mem_cons_of_mem _ hy))
    have h2 := srow_size r (h r List.mem_cons_self).2
    have h3 : (90 * M + 4) * r.length ≤ (90 * M + 4) * N := Nat.mul_le_mul_left _ (h r List.mem_cons_self).1
    have h4 : ((90 * M + 4) * N + 2) * (r :: l).length = ((90 * M + 4) * N + 2) * l.length + ((90 * M + 4) * N + 2) := by rw [List.length_cons, Nat.mul_succ]
    rw [h4]
    cases l with
    | nil =>
      rw [slist_one]
      omega
    | cons y r =>
      rw [slist_more, ByteArray.size_append, ByteArray.size_append, size2]
      omega
end Go.Proofs.Ytjiejmkkaekefaa.PureS
