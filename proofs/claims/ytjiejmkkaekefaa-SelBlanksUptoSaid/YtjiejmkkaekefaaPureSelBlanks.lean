/-
  Blanks at both ends, and around a comma and a >, change nothing.
-/
import Derived.Test.YtjiejmkkaekefaaPureSelBack
import Derived.Test.YtjiejmkkaekefaaPAx20
namespace Go.Proofs.Ytjiejmkkaekefaa.PureS
set_option linter.unusedVariables false
set_option linter.unusedSimpArgs false
open Go.RowKit Go.Proofs.Ytjiejmkkaekefaa.PA Go.Proofs.YtjiejmkkaekefaaW.PrintWords Go.Proofs.YtjiejmkkaekefaaW.PrintLast Go.Proofs.YtjiejmkkaekefaaW.PrintMore Go.Proofs.YtjiejmkkaekefaaH

/-- What the law's own loop lays behind one another: from one place to another. -/
def Wk (l : List (List Stp)) (b t : By) (i : Nat) (u : By) (q : Bool) (i' : Nat) (u' : By) (q' : Bool) : Prop :=
  u.size ≤ 5 * i → u'.size ≤ 5 * i' ∧ ∀ R, (Ev fun k => treillagelaw09_SelBlanks.l0 k l b t 0 u' q' (i' : Int) = some R) → Ev fun k => treillagelaw09_SelBlanks.l0 k l b t 0 u q (i : Int) = some R
section
variable {l : List (List Stp)} {b t : By}
theorem Wk.refl (i : Nat) (u : By) (q : Bool) : Wk l b t i u q i u q := fun h => ⟨h, fun R hR => hR⟩
theorem Wk.trans {i i' i'' : Nat} {u u' u'' : By} {q q' q'' : Bool} (h : Wk l b t i u q i' u' q') (g : Wk l b t i' u' q' i'' u'' q'') : Wk l b t i u q i'' u'' q'' := fun hu => by
  obtain ⟨h1, h2⟩ := h hu
  obtain ⟨g1, g2⟩ := g h1
  exact ⟨g1, fun R hR => h2 R (g2 R hR)⟩
theorem ext_size (t : By) {i : Nat} (hi : i < t.size) : (t.extract i (i + 1)).size = 1 := by rw [ByteArray.size_extract]; omega
theorem wk_plain (ht : t.size ≤ 1000000000000) (hb : b.size ≤ 2) {i : Nat} (hi : i < t.size) {u : By} {q : Bool} (h1 : bt t (i : Int) ≠ 34) (h2 : q = false → bt t (i : Int) ≠ 44 ∧ bt t (i : Int) ≠ 62) : Wk l b t i u q (i + 1) (u ++ t.extract i (i + 1)) q := fun hu => by
  have es := ext_size t hi
  refine ⟨by rw [ByteArray.size_append, es]; omega, fun R hR => hR.succ fun k hk => ?_⟩
  have ew : wrap64 ((i : Int) + 1) = ((i + 1 : Nat) : Int) := w64 (by omega) (by omega)
  rw [treillagelaw09_SelBlanks.l0]
  simp only [ew, Int.toNat_natCast, es]
  rw [if_pos (by omega), if_pos (by omega), if_neg h1]
  by_cases c1 : bt t (i : Int) = 44
  · cases q with
    | false => exact absurd c1 (h2 rfl).1
    | true => rw [if_pos c1, if_pos rfl, if_pos (by omega), if_pos (by omega), if_pos (by omega)]; exact hk
  · rw [if_neg c1]
    by_cases c2 : bt t (i : Int) = 62
    · cases q with
      | false => exact absurd c2 (h2 rfl).2
      | true => rw [if_pos c2, if_pos rfl, if_pos (by omega), if_pos (by omega), if_pos (by omega)]; exact hk
    · rw [if_neg c2, if_pos (by omega), if_pos (by omega), if_pos (by omega)]; exact hk
theorem wk_quote (ht : t.size ≤ 1000000000000) (hb : b.size ≤ 2) {i : Nat} (hi : i < t.size) {u : By} {q : Bool} (h1 : bt t (i : Int) = 34) : Wk l b t i u q (i + 1) (u ++ t.extract i (i + 1)) (!q) := fun hu => by
  have es := ext_size t hi
  refine ⟨by rw [ByteArray.size_append, es]; omega, fun R hR => hR.succ fun k hk => ?_⟩
  have ew : wrap64 ((i : Int) + 1) = ((i + 1 : Nat) : Int) := w64 (by omega) (by omega)
  rw [treillagelaw09_SelBlanks.l0]
  simp only [ew, Int.toNat_natCast, es]
  rw [if_pos (by omega), if_pos (by omega), if_pos h1, if_neg (by rw [h1]; decide), if_neg (by rw [h1]; decide), if_pos (by omega), if_pos (by omega), if_pos (by omega)]
  exact hk
theorem wk_mark (ht : t.size ≤ 1000000000000) (hb : b.size ≤ 2) {i : Nat} (hi : i < t.size) {u : By} (h1 : bt t (i : Int) = 44 ∨ bt t (i : Int) = 62) : Wk l b t i u false (i + 1) (((u ++ b) ++ t.extract i (i + 1)) ++ b) false := fun hu => by
  have es := ext_size t hi
  refine ⟨by simp only [ByteArray.size_append, es]; omega, fun R hR => hR.succ fun k hk => ?_⟩
  have ew : wrap64 ((i : Int) + 1) = ((i + 1 : Nat) : Int) := w64 (by omega) (by omega)
  rw [treillagelaw09_SelBlanks.l0]
  simp only [ew, Int.toNat_natCast, es]
  have s1 : (u ++ b).size = u.size + b.size := ByteArray.size_append
  have s2 : ((u ++ b) ++ t.extract i (i + 1)).size = u.size + b.size + 1 := by rw [ByteArray.size_append, s1, es]
  rcases h1 with h1 | h1
  · rw [if_pos (by omega), if_pos (by omega), if_neg (by rw [h1]; decide), if_pos h1, if_neg (by decide), if_pos (by omega), if_pos (by omega), if_pos (by omega), if_pos (by omega), if_pos (by omega)]
    exact hk
  · rw [if_pos (by omega), if_pos (by omega), if_neg (by rw [h1]; decide), if_neg (by rw [h1]; decide), if_pos h1, if_neg (by decide), if_pos (by omega), if_pos (by omega), if_pos (by omega), if_pos (by omega), if_pos (by omega)]
    exact hk
theorem ext_at {i : Nat} {x : By} (h : At t i x) {m : Nat} (hm : m < x.size) : t.extract (i + m) (i + m + 1) = x.extract m (m + 1) := by
  have hl := h.le
  have s1 := ext_size t (i := i + m) (by omega)
  have s2 := ext_size x hm
  refine by_ext (by omega) (fun p hp => ?_)
  have : p = 0 := by omega
  subst this
  rw [bt_cut (by omega) (by omega), bt_cut (by omega) (by omega)]
  exact h.get m hm
theorem ext_next (x : By) {m : Nat} (hm : m < x.size) : x.extract 0 m ++ x.extract m (m + 1) = x.extract 0 (m + 1) := by
  apply data_ext
  rw [cat_data, cut_data, cut_data, cut_data]
  simp only [List.drop_zero, Nat.sub_zero, Nat.add_sub_cancel_left]
  have hl : m < x.data.toList.length := by rw [len_data]; exact hm
  rw [List.take_succ_eq_append_getElem hl]
  congr 1
  rw [List.drop_eq_getElem_cons hl]
  rfl
theorem ext_all (x : By) : x.extract 0 x.size = x := by
  have := (At.refl x).ex
  rw [Nat.zero_add] at this
  exact this
theorem wk_piece (ht : t.size ≤ 1000000000000) (hb : b.size ≤ 2) {q : Bool} {x : By} (hx : ∀ m : Nat, m < x.size → bt x m ≠ 34 ∧ (q = false → bt x m ≠ 44 ∧ bt x m ≠ 62)) {i : Nat} (h : At t i x) (u : By) : Wk l b t i u q (i + x.size) (u ++ x) q := by
  have key : ∀ m, m ≤ x.size → Wk l b t i u q (i + m) (u ++ x.extract 0 m) q := by
    intro m
    induction m with
    | zero =>
      intro _
      have : u ++ x.extract 0 0 = u := by
        have e : x.extract 0 0 = (⟨#[]⟩ : By) := by apply data_ext; rw [cut_data]; rfl
        rw [e, app_nil]
      rw [this]
      exact Wk.refl _ _ _
    | succ m ih =>
      intro hm
      have hl := h.le
      have g := ih (by omega)
      have c := hx m (by omega)
      rw [← h.get m (by omega)] at c
      have s := wk_plain (l := l) (u := u ++ x.extract 0 m) ht hb (i := i + m) (by omega) c.1 c.2
      rw [ext_at h (by omega), ByteArray.append_assoc, ext_next x (by omega)] at s
      exact g.trans s
  have := key x.size (Nat.le_refl _)
  rw [ext_all] at this
  exact this
theorem wk_q (ht : t.size ≤ 1000000000000) (hb : b.size ≤ 2) {i : Nat} {q : Bool} (h : At t i (⟨#[34]⟩ : By)) (u : By) : Wk l b t i u q (i + 1) (u ++ (⟨#[34]⟩ : By)) (!q) := by
  have e := h.one
  have s := wk_quote (l := l) (u := u) (q := q) ht hb e.1 e.2
  have x := h.ex
  rw [size1] at x
  rw [x] at s
  exact s
theorem wk_m (ht : t.size ≤ 1000000000000) (hb : b.size ≤ 2) {i : Nat} {c : UInt8} (hc : c = 44 ∨ c = 62) (h : At t i (⟨#[c]⟩ : By)) (u : By) : Wk l b t i u false (i + 1) (u ++ (b ++ ((⟨#[c]⟩ : By) ++ b))) false := by
  have e := h.one
  have s := wk_mark (l := l) (u := u) ht hb e.1 (by rcases hc with g | g <;> subst g <;> first | exact .inl e.2 | exact .inr e.2)
  have x := h.ex
  rw [size1] at x
  rw [x] at s
  simp only [ByteArray.append_assoc] at s
  exact s
theorem one_ok {c : UInt8} (hc : c ≠ 34 ∧ c ≠ 44 ∧ c ≠ 62) : ∀ m : Nat, m < (⟨#[c]⟩ : By).size → bt (⟨#[c]⟩ : By) m ≠ 34 ∧ (false = false → bt (⟨#[c]⟩ : By) m ≠ 44 ∧ bt (⟨#[c]⟩ : By) m ≠ 62) := by
  intro m hm
  have : m = 0 := by have : (⟨#[c]⟩ : By).size = 1 := rfl; omega
  subst this
  have e : bt (⟨#[c]⟩ : By) ((0 : Nat) : Int) = (c.toNat : Int) := rfl
  rw [e]
  have n : ∀ d : UInt8, c ≠ d → (c.toNat : Int) ≠ (d.toNat : Int) := fun d hd q => hd (UInt8.toNat_inj.1 (by omega))
  exact ⟨n 34 hc.1, fun _ => ⟨n 44 hc.2.1, n 62 hc.2.2⟩⟩
theorem name_in {n : By} (hn : NameOk n) : ∀ m : Nat, m < n.size → bt n m ≠ 34 ∧ (false = false → bt n m ≠ 44 ∧ bt n m ≠ 62) := by
  intro m hm
  have := hn.2.2.2 m hm
  refine ⟨fun e => ?_, fun _ => ⟨fun e => ?_, fun e => ?_⟩⟩ <;> (rw [e] at this; cases this)
theorem wk_tk (ht : t.size ≤ 1000000000000) (hb : b.size ≤ 2) {x : Tst} (hx : okN x ∨ okT x) {i : Nat} (h : At t i (tk x)) (u : By) : Wk l b t i u false (i + (tk x).size) (u ++ tk x) false := by
  have o : ∀ {c : UInt8} {i : Nat}, (c ≠ 34 ∧ c ≠ 44 ∧ c ≠ 62) → At t i (⟨#[c]⟩ : By) → ∀ u : By, Wk l b t i u false (i + 1) (u ++ (⟨#[c]⟩ : By)) false := fun hc h u => wk_piece ht hb (one_ok hc) h u
  rcases hx with g | ⟨g | g | g, hn, _⟩ | ⟨g, hn, hv⟩
  · rw [tk1 g.1] at h ⊢
    exact wk_piece ht hb (name_in g.2.1) h u
  · rw [tk2 g] at h ⊢
    have h2 := h.right
    rw [size1] at h2
    rw [ByteArray.size_append, size1, ← Nat.add_assoc, ← ByteArray.append_assoc]
    exact (o (by decide) h.left u).trans (wk_piece ht hb (name_in hn) h2 _)
  · rw [tk3 g] at h ⊢
    have h2 := h.right
    rw [size1] at h2
    rw [ByteArray.size_append, size1, ← Nat.add_assoc, ← ByteArray.append_assoc]
    exact (o (by decide) h.left u).trans (wk_piece ht hb (name_in hn) h2 _)
  · rw [tk4 g] at h ⊢
    have h2 := h.right
    rw [size1] at h2
    rw [ByteArray.size_append, ByteArray.size_append, size1, size1, ← Nat.add_assoc, ← Nat.add_assoc, ← ByteArray.append_assoc, ← ByteArray.append_assoc]
    exact ((o (by decide) h.left u).trans (wk_piece ht hb (name_in hn) h2.left _)).trans (o (by decide) h2.right _)
  · rw [tk5 g] at h ⊢
    have h2 := h.right
    rw [size1] at h2
    have h3 := h2.right
    have h4 := h3.right
    rw [size1] at h4
    have h5 := h4.left.left.right
    rw [size1] at h5
    have h6 := h4.left.right
    rw [ByteArray.size_append, size1] at h6
    have h7 := h4.right
    rw [ByteArray.size_append, ByteArray.size_append, size1] at h7
    have s1 := o (by decide) h.left u
    have s2 := s1.trans (wk_piece ht hb (name_in hn) h2.left _)
    have s3 := s2.trans (o (by decide) h3.left _)
    have s4 := s3.trans (wk_q ht hb h4.left.left.left _)
    have s5 := s4.trans (wk_piece ht hb (q := true) (fun m hm => ⟨hv.2 m hm, fun q => by cases q⟩) h5 _)
    rw [show i + 1 + x.f1.size + 1 + (1 + x.f2.size) = i + 1 + x.f1.size + 1 + 1 + x.f2.size from by omega] at h6
    have s6 := s5.trans (wk_q ht hb h6 _)
    rw [show i + 1 + x.f1.size + 1 + (1 + x.f2.size + 1) = i + 1 + x.f1.size + 1 + 1 + x.f2.size + 1 from by omega] at h7
    have s7 := s6.trans (o (by decide) h7 _)
    simp only [ByteArray.append_assoc] at s7 ⊢
    simp only [ByteArray.size_append, size1]
    rw [show i + (1 + (x.f1.size + (1 + (1 + (x.f2.size + (1 + 1)))))) = i + 1 + x.f1.size + 1 + 1 + x.f2.size + 1 + 1 from by omega]
    exact s7
theorem wk_tc (ht : t.size ≤ 1000000000000) (hb : b.size ≤ 2) : ∀ (c : List Tst), (∀ x ∈ c, okN x ∨ okT x) → ∀ (i : Nat), At t i (tc c) → ∀ u : By, Wk l b t i u false (i + (tc c).size) (u ++ tc c) false := by
  intro c
  induction c with
  | nil => intro _ i h u; rw [tc, app_nil]; exact Wk.refl _ _ _
  | cons x c ih =>
    intro hc i h u
    rw [tc] at h ⊢
    rw [ByteArray.size_append, ← Nat.add_assoc, ← ByteArray.append_assoc]
    exact (wk_tk ht hb (hc x List.mem_cons_self) h.left u).trans (ih (fun y hy => hc y (List.mem_cons_of_mem _ hy)) _ h.right _)
theorem wk_body (ht : t.size ≤ 1000000000000) (hb : b.size ≤ 2) {c : List Tst} (hc : okC c) {i : Nat} (h : At t i (body c)) (u : By) : Wk l b t i u false (i + (body c).size) (u ++ body c) false := by
  unfold body at h ⊢
  by_cases e : c.length = 0
  · rw [if_pos e] at h ⊢
    exact wk_piece ht hb (one_ok (by decide)) h u
  · rw [if_neg e] at h ⊢
    refine wk_tc ht hb c (fun x hx => ?_) i h u
    cases c with
    | nil => cases hx
    | cons a c =>
      rcases List.mem_cons.1 hx with q | q
      · rw [q]; exact hc.1
      · exact .inr (hc.2 x q)
end
abbrev Gb (b : By) : By := (⟨#[32]⟩ : By) ++ ((b ++ ((⟨#[62]⟩ : By) ++ b)) ++ (⟨#[32]⟩ : By))
theorem gb_eq (b : By) : Gb b = (⟨#[32]⟩ : By) ++ ((b ++ ((⟨#[62]⟩ : By) ++ b)) ++ (⟨#[32]⟩ : By)) := rfl
abbrev Cb (b : By) : By := (b ++ ((⟨#[44]⟩ : By) ++ b)) ++ (⟨#[32]⟩ : By)
theorem three (a b c : UInt8) : (⟨#[a, b, c]⟩ : By) = (⟨#[a]⟩ : By) ++ ((⟨#[b]⟩ : By) ++ (⟨#[c]⟩ : By)) := by apply data_ext; rw [cat_data, cat_data]; rfl
section
variable {l0 : List (List Stp)} {b t : By}
theorem wk_srow (ht : t.size ≤ 1000000000000) (hb : b.size ≤ 2) : ∀ (r : List Stp), (∀ x ∈ r, okC x.f0) → ∀ (i : Nat), At t i (srow Gs Ds r) → ∀ u : By, Wk l0 b t i u false (i + (srow Gs Ds r).size) (u ++ srow (Gb b) Ds r) false := by
  have o : ∀ {i : Nat}, At t i (⟨#[32]⟩ : By) → ∀ u : By, Wk l0 b t i u false (i + 1) (u ++ (⟨#[32]⟩ : By)) false := fun h u => wk_piece ht hb (one_ok (by decide)) h u
  intro r
  induction r with
  | nil => intro _ i h u; rw [srow, srow, app_nil]; exact Wk.refl _ _ _
  | cons x r ih =>
    intro hr i h u
    cases r with
    | nil =>
      rw [srow_one] at h
      rw [srow_one, srow_one]
      exact wk_body ht hb (hr x List.mem_cons_self) h u
    | cons y r =>
      rw [srow_more] at h
      rw [srow_more, srow_more]
      have s1 := wk_body (l := l0) ht hb (hr x List.mem_cons_self) h.left u
      have hg := h.right.left
      have hn := h.right.right
      have s3 := ih (fun z hz => hr z (List.mem_cons_of_mem _ hz)) _ hn
      have s2 : ∀ u, Wk l0 b t (i + (body x.f0).size) u false (i + (body x.f0).size + (if y.f1 = true then Gs else Ds).size) (u ++ (if y.f1 = true then Gb b else Ds)) false := by
        intro u
        cases e : y.f1 with
        | true =>
          rw [e, if_pos rfl] at hg
          rw [if_pos rfl, if_pos rfl]
          have hg : At t (i + (body x.f0).size) (⟨#[32, 62, 32]⟩ : By) := hg
          rw [three] at hg
          have g2 := hg.right
          rw [size1] at g2
          have g3 := g2.right
          rw [size1] at g3
          have z := ((o hg.left u).trans (wk_m ht hb (.inr rfl) g2.left _)).trans (o g3 _)
          rw [gb_eq]
          simp only [ByteArray.append_assoc] at z ⊢
          exact z
        | false =>
          rw [e, if_neg (by decide)] at hg
          rw [if_neg (by decide), if_neg (by decide)]
          exact o hg u
      have z := (s1.trans (s2 _)).trans (s3 _)
      simp only [ByteArray.append_assoc, ByteArray.size_append, Nat.add_assoc] at z ⊢
      exact z
theorem wk_slist (ht : t.size ≤ 1000000000000) (hb : b.size ≤ 2) : ∀ (l : List (List Stp)), (∀ r ∈ l, ∀ x ∈ r, okC x.f0) → ∀ (i : Nat), At t i (slist Gs Ds Cs l) → ∀ u : By, Wk l0 b t i u false (i + (slist Gs Ds Cs l).size) (u ++ slist (Gb b) Ds (Cb b) l) false := by
  have o : ∀ {i : Nat}, At t i (⟨#[32]⟩ : By) → ∀ u : By, Wk l0 b t i u false (i + 1) (u ++ (⟨#[32]⟩ : By)) false := fun h u => wk_piece ht hb (one_ok (by decide)) h u
  intro l
  induction l with
  | nil => intro _ i h u; rw [slist, slist, app_nil]; exact Wk.refl _ _ _
  | cons r l ih =>
    intro hr i h u
    cases l with
    | nil =>
      rw [slist_one] at h
      rw [slist_one, slist_one]
      exact wk_srow ht hb r (hr r List.mem_cons_self) i h u
    | cons r2 l =>
      rw [slist_more] at h
      rw [slist_more, slist_more]
      have s1 := wk_srow (l0 := l0) ht hb r (hr r List.mem_cons_self) i h.left u
      have hg : At t (i + (srow Gs Ds r).size) (⟨#[44, 32]⟩ : By) := h.right.left
      have s3 := ih (fun z hz => hr z (List.mem_cons_of_mem _ hz)) _ h.right.right
      rw [two] at hg
      have g2 := hg.right
      rw [size1] at g2
      have s2 : ∀ u, Wk l0 b t (i + (srow Gs Ds r).size) u false (i + (srow Gs Ds r).size + Cs.size) (u ++ Cb b) false := by
        intro u
        have z := (wk_m (l := l0) ht hb (.inl rfl) hg.left u).trans (o g2 _)
        simp only [ByteArray.append_assoc] at z ⊢
        exact z
      have z := (s1.trans (s2 _)).trans (s3 _)
      simp only [ByteArray.append_assoc, ByteArray.size_append, Nat.add_assoc] at z ⊢
      exact z
end
theorem bl_app {a b : By} (ha : Bl a) (hb : Bl b) : Bl (a ++ b) := by
  intro m hm
  rw [ByteArray.size_append] at hm
  rw [bt_app]
  by_cases h : m < a.size
  · rw [if_pos h]; exact ha m h
  · rw [if_neg h]; exact hb _ (by omega)
def midGb {b : By} (hb : Bl b) : Mid (Gb b) 62 := ⟨(⟨#[32]⟩ : By) ++ b, b ++ (⟨#[32]⟩ : By), by rw [gb_eq]; simp only [ByteArray.append_assoc], bl_app bl32 hb, bl_app hb bl32⟩
def midCb {b : By} (hb : Bl b) : Mid (Cb b) 44 := ⟨b, b ++ (⟨#[32]⟩ : By), by simp only [ByteArray.append_assoc], hb, bl_app hb bl32⟩
end Go.Proofs.Ytjiejmkkaekefaa.PureS
namespace Go.Proofs.Ytjiejmkkaekefaa.Pure
open Go.RowKit Go.Proofs.Ytjiejmkkaekefaa.PA Go.Proofs.YtjiejmkkaekefaaW.PrintWords Go.Proofs.YtjiejmkkaekefaaW.PrintLast Go.Proofs.YtjiejmkkaekefaaW.PrintMore Go.Proofs.YtjiejmkkaekefaaH
open Go.Proofs.Ytjiejmkkaekefaa.PureS

abbrev five : List By := [(⟨#[32]⟩ : ByteArray), (⟨#[9]⟩ : ByteArray), (⟨#[10, 12]⟩ : ByteArray), (⟨#[13, 32]⟩ : ByteArray), (⟨#[32, 32]⟩ : ByteArray)]
theorem bl_of {b : By} (h : (b.data.toList.all fun c => PureS.blank (c.toNat : Int)) = true) : Bl b := by
  intro m hm
  have hl := len_data b
  rw [get_data, List.getElem?_eq_getElem (by omega)]
  exact List.all_eq_true.1 h _ (List.getElem_mem _)
theorem five_ok : ∀ i : Nat, i < 5 → Bl (rdOf ByteArray.empty five (i : Int)) ∧ (rdOf ByteArray.empty five (i : Int)).size ≤ 2 := by
  intro i hi
  have : i = 0 ∨ i = 1 ∨ i = 2 ∨ i = 3 ∨ i = 4 := by omega
  rcases this with h | h | h | h | h <;> subst h <;> exact ⟨bl_of (by decide), by decide⟩
theorem blanks_law (s : By) (by_ : Int) (hs : s.size ≤ 1048576) (hw : (Lit.int .u8 by_).wf = true) : ∃ k, treillagelaw09_SelBlanks.f k s by_ = some true := by
  obtain ⟨K0, h0⟩ := shown_f
  obtain ⟨K1, h1⟩ := parse_f (s := s) (by omega)
  have over : ∃ k, K1 ≤ k ∧ treillagelaw09_SelBlanks.j0 k by_ (told (parse s)).1 true = some true := by
    refine ⟨K0 + K1 + 1, by omega, ?_⟩
    rw [treillagelaw09_SelBlanks.j0, if_pos rfl, h0 (K0 + K1) (by omega)]
    rfl
  by_cases c : (s.size : Int) > 150
  · obtain ⟨k, hk1, hk⟩ := over
    refine ⟨k, ?_⟩
    unfold treillagelaw09_SelBlanks.f
    rw [h1 k hk1, Option.bind_some, if_pos c]
    exact hk
  cases e : parse s with
  | error p =>
    rw [e] at over
    obtain ⟨k, hk1, hk⟩ := over
    refine ⟨k, ?_⟩
    have e1 := h1 k hk1
    rw [e] at e1
    have n1 : (told (Except.error p : Except Nat (List (List Stp)))).2.2 = 90 := rfl
    unfold treillagelaw09_SelBlanks.f
    rw [e1, Option.bind_some, if_neg c, n1, if_neg (show ¬ ((90 : Int) = 0) by decide)]
    exact hk
  | ok l =>
    have hl := parse_okL e
    have hsm := parse_small (by omega) e
    have hsh := parse_short (by omega) e
    obtain ⟨hb0, hb1⟩ := wf_u8 hw
    have hm : 0 ≤ Int.tmod by_ 5 ∧ Int.tmod by_ 5 < 5 := by
      rw [Int.tmod_eq_emod_of_nonneg hb0]
      omega
    obtain ⟨j, hj⟩ : ∃ j : Nat, Int.tmod by_ 5 = (j : Int) := ⟨(Int.tmod by_ 5).toNat, by omega⟩
    have hj5 : j < 5 := by omega
    obtain ⟨hbl, hbs⟩ := five_ok j hj5
    obtain ⟨b, hbe⟩ : ∃ b, b = rdOf ByteArray.empty five (j : Int) := ⟨_, rfl⟩
    rw [← hbe] at hbl hbs
    obtain ⟨K2, h2⟩ := print_ok hsm hsh hl
    have hz := hsh.1
    have hk : ∀ r ∈ l, ∀ x ∈ r, okC x.f0 := fun r hr x hx => by
      obtain ⟨_, _, _, _, g⟩ := hl.2 r hr
      exact g x hx
    have at0 : At (text l) 0 (slist Gs Ds Cs l) := by rw [text_eq]; exact At.refl _
    have w := wk_slist (l0 := l) (b := b) (t := text l) hz hbs l hk 0 at0 (⟨#[]⟩ : By) (by show (0 : Nat) ≤ 5 * 0; omega)
    rw [Nat.zero_add, nil_app] at w
    obtain ⟨w1, w2⟩ := w
    have et : (slist Gs Ds Cs l).size = (text l).size := by rw [text_eq]
    rw [et] at w1 w2
    have hp := parse_slist (midGb hbl) bl32 (by decide) (midCb hbl) hbl hbl hl
    have hzz : ((b ++ slist (Gb b) Ds (Cb b) l) ++ b).size ≤ 1000000000000 ∨ True := .inr trivial
    obtain ⟨u, hu⟩ : ∃ u, u = slist (Gb b) Ds (Cb b) l := ⟨_, rfl⟩
    rw [← hu] at w1 w2 hp
    rw [← ByteArray.append_assoc] at hp
    have us : ((b ++ u) ++ b).size ≤ 1000000000000 := by
      have hz' : (text l).size ≤ 100000000000 := by
        rw [← et]
        obtain ⟨g1, g2⟩ := rows_small _ _ _ (Nat.zero_le _) (by simp) (fun r hr => (by cases hr)) e
        have a := slist_size (M := 300) (N := 300) l (fun r hr => ⟨by have := (g2 r hr).1; omega, fun x hx => ⟨hk r hr x hx, by have := (g2 r hr).2 x hx; omega⟩⟩)
        have : ((90 * 300 + 4) * 300 + 2) * l.length ≤ ((90 * 300 + 4) * 300 + 2) * 300 := Nat.mul_le_mul_left _ (by omega)
        omega
      rw [ByteArray.size_append, ByteArray.size_append]
      omega
    obtain ⟨K3, h3⟩ := parse_f (s := (b ++ u) ++ b) us
    obtain ⟨K4, h4⟩ := its_f hsm
    obtain ⟨K5, h5⟩ := same_refl (small_its hsm)
    have fin : Ev fun k => treillagelaw09_SelBlanks.l0 k l b (text l) 0 u false ((text l).size : Int) = some true := by
      refine ⟨K3 + K4 + K5 + 1, fun k hk => ?_⟩
      obtain ⟨k, rfl⟩ : ∃ k', k = k' + 1 := ⟨k - 1, by omega⟩
      have e3 := h3 k (by omega)
      rw [hp] at e3
      have n1 : (told (Except.ok l : Except Nat (List (List Stp)))) = (l, 0, 0) := rfl
      rw [ByteArray.size_append, ByteArray.size_append] at us
      have s1 : (b ++ u).size = b.size + u.size := ByteArray.size_append
      rw [treillagelaw09_SelBlanks.l0, if_neg (by omega), if_pos (by omega), if_pos (by omega), e3, Option.bind_some, n1, if_pos rfl, if_pos rfl, h4 k (by omega), Option.bind_some, Option.bind_some, h5 k (by omega)]
      rfl
    obtain ⟨K6, h6⟩ := w2 true fin
    refine ⟨K0 + K1 + K2 + K6 + 1, ?_⟩
    have e1 := h1 (K0 + K1 + K2 + K6 + 1) (by omega)
    rw [e] at e1
    have n1 : (told (Except.ok l : Except Nat (List (List Stp)))) = (l, 0, 0) := rfl
    unfold treillagelaw09_SelBlanks.f
    rw [e1, Option.bind_some, if_neg c, n1, if_pos rfl, h0 _ (by omega), Option.bind_some, treillagelaw09_SelBlanks.j0, if_neg (by decide), Option.bind_some, hj, if_pos (by omega), if_pos (by show (j : Int) < ((5 : Nat) : Int); omega), h2 _ (by omega), Option.bind_some, ← hbe]
    exact h6 (K0 + K1 + K2 + K6) (by omega)
end Go.Proofs.Ytjiejmkkaekefaa.Pure
