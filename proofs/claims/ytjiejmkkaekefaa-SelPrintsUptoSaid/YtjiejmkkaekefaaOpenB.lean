
import Derived.Test.YtjiejmkkaekefaaVH
import Derived.Test.YtjiejmkkaekefaaRows
import Derived.DataReads
import Derived.DataElems
import Derived.ProofKit
import Derived.SizedLaws

/-
  What came in, opened by its type, with its bulk (how many values and letters it holds): as Open, for a row under the bound.
-/
namespace Go.Proofs.YtjiejmkkaekefaaH
set_option linter.unusedVariables false
open Go.RowKit Go.Proofs.YtjiejmkkaekefaaW.PrintWords
open Go.Proofs.Ytjiejmkkaekefaa.Rows (uptoBulk uptoBulkAll)

/-- Whatever is read as type t reads as a value of the kind d; mu is at most its bulk. -/
def OpensB (P : Program) (t : TypeId) {α : Type} (d : Kd α) (mu : α → Nat) : Prop :=
  ∀ {H : Type} (enc : TypeId × Value → H) (w : World) (base : Nat) (spare : Nat → Bool) (held : Bool) (fuel : Nat) (cs : List Value) (dat : DataW H) (ps : List MemPlace),
    DataW.trod enc P w base spare held fuel t cs = some (dat, ps) → ∃ x, d.K w x cs ∧ mu x ≤ uptoBulk dat

section
variable {P : Program} {t e : TypeId} {α β : Type} {d : Kd α} {d2 : Kd β} {mu : α → Nat} {mu2 : β → Nat}
theorem opensB_int {k : IntKind} (hu : P.underlying t = some (.int k)) : OpensB P t (Kd.int k) (fun _ => 0) := by
  intro H enc w base spare held fuel cs dat ps ht
  cases fuel with
  | zero => simp [DataW.trod] at ht
  | succ f =>
    unfold DataW.trod at ht
    rw [hu] at ht
    split at ht <;> simp_all
    obtain ⟨⟨rfl, hwf⟩, _⟩ := ht
    exact ⟨_, rfl⟩
theorem opensB_bool (hu : P.underlying t = some .bool) : OpensB P t Kd.bool (fun _ => 0) := by
  intro H enc w base spare held fuel cs dat ps ht
  cases fuel with
  | zero => simp [DataW.trod] at ht
  | succ f =>
    unfold DataW.trod at ht
    rw [hu] at ht
    split at ht <;> simp_all
    first
      | (rename_i b; cases b <;> first | exact Or.inl rfl | exact Or.inr rfl)
      | (rename_i b _; cases b <;> first | exact Or.inl rfl | exact Or.inr rfl)
      | (rename_i b _ _ _; cases b <;> first | exact Or.inl rfl | exact Or.inr rfl)
      | (rename_i b _ _ _ _; cases b <;> first | exact Or.inl rfl | exact Or.inr rfl)
theorem opensB_string (hu : P.underlying t = some .string) : OpensB P t Kd.string (fun s => s.size + 1) := by
  intro H enc w base spare held fuel cs dat ps ht
  cases fuel with
  | zero => simp [DataW.trod] at ht
  | succ f =>
    unfold DataW.trod at ht
    rw [hu] at ht
    split at ht <;> simp_all
    obtain ⟨_, rfl, _⟩ := ht
    refine ⟨_, rfl, ?_⟩
    simp only [uptoBulk, Array.length_toList]
    exact Nat.le_refl _
theorem bulk_app {H : Type} (a b : List (DataW H)) : uptoBulkAll (a ++ b) = uptoBulkAll a + uptoBulkAll b := by
  induction a with
  | nil => simp [uptoBulkAll]
  | cons x a ih => simp only [List.cons_append, uptoBulkAll, ih]; omega
theorem bulk_pos {H : Type} (dat : DataW H) : 1 ≤ uptoBulk dat := by
  cases dat with
  | lit l => cases l <;> simp [uptoBulk]
  | _ => simp [uptoBulk]
theorem cellsB_get {w : World} {base : Nat} {a : Addr} {n : Nat} {cs : List Value} (h : w.cells? base a n = some cs) : cs.length = n ∧ ∀ i u, cs[i]? = some u → w.cell? (a.add i) = some u := by
  unfold World.cells? at h
  split at h
  · have hl := mapM_some_length h
    refine ⟨by simpa using hl, fun i u hu => ?_⟩
    have hi : i < n := by have := (List.getElem?_eq_some_iff.1 hu).1; simp at hl; omega
    have := mapM_some_get h i i (by simp [hi])
    rw [this, hu]
  · cases h
theorem addrB_add_add (a : Addr) (m n : Nat) : (a.add m).add n = a.add (m + n) := Addr.add_add a m n
theorem opensB_slice (h : OpensB P e d mu) (hu : P.underlying t = some (.slice e)) (hs : P.cellsOf e = d.sz) :
    OpensB P t (Kd.slice e d) (fun xs => (xs.map mu).sum + 1) := by
  intro H enc w base spare held fuel cs dat ps ht
  cases fuel with
  | zero => simp [DataW.trod] at ht
  | succ f =>
    unfold DataW.trod at ht
    rw [hu] at ht
    split at ht <;> try (simp_all; done)
    · rename_i heq
      injection heq with heq
      cases heq
      exact ⟨[], ⟨none, 0, rfl, Nat.le_refl _, Kd.C_nil d w⟩, bulk_pos dat⟩
    · rename_i e' a len cap heq
      injection heq with heq
      injection heq with heq
      subst heq
      simp only at ht
      split at ht
      · rename_i hb
        obtain ⟨elems, hel, hr⟩ := Option.bind_eq_some_iff.1 ht
        obtain ⟨rest, hre, hdat⟩ := Option.map_eq_some_iff.1 hr
        injection hdat with hd1 hd2
        subst hd1
        have hlen : elems.length = len := by have := mapM_some_length hel; simpa using this
        have key : ∀ i, (hi : i < elems.length) → ∃ x c, d.K w x c ∧ mu x ≤ uptoBulk (elems[i]).1 ∧ c.length = d.sz ∧ ∀ j u, c[j]? = some u → w.cell? (a.add (i * d.sz + j)) = some u := by
          intro i hi
          have h1 := mapM_some_get hel i i (by simp [show i < len by omega])
          rw [List.getElem?_eq_getElem (by omega)] at h1
          obtain ⟨c, hc, ht2⟩ := Option.bind_eq_some_iff.1 h1
          obtain ⟨hcl, hcc⟩ := cellsB_get hc
          obtain ⟨x, hk, hx⟩ := h enc w base spare held f c _ _ ht2
          refine ⟨x, c, hk, hx, by rw [hcl, hs], fun j u hj => ?_⟩
          rw [← hs, ← addrB_add_add]
          exact hcc j u hj
        have key2 : ∀ m, m ≤ len → ∃ xs : List α, xs.length = m ∧ (xs.map mu).sum ≤ uptoBulkAll ((elems.take m).map (·.1)) ∧ ∀ j p, xs[j]? = some p → ∃ c, c.length = d.sz ∧ d.K w p c ∧ ∀ i u, c[i]? = some u → w.cell? (a.add (j * d.sz + i)) = some u := by
          intro m
          induction m with
          | zero => intro _; exact ⟨[], rfl, Nat.zero_le _, fun j p hj => absurd hj (by simp)⟩
          | succ m ih =>
            intro hm
            obtain ⟨xs, h1, h2, h3⟩ := ih (by omega)
            obtain ⟨x, c, hk, hx, hcl, hcc⟩ := key m (by omega)
            refine ⟨xs ++ [x], by simp [h1], ?_, fun j p hj => ?_⟩
            · rw [List.take_succ_eq_append_getElem (show m < elems.length by omega), List.map_append, List.sum_append, List.map_append, bulk_app]
              simp only [List.map_cons, List.map_nil, List.sum_cons, List.sum_nil, uptoBulkAll]
              omega
            · by_cases hjm : j < m
              · rw [List.getElem?_append_left (by omega)] at hj
                exact h3 j p hj
              · rw [List.getElem?_append_right (by omega)] at hj
                have : j = m := by have := (List.getElem?_eq_some_iff.1 hj).1; simp at this; omega
                subst this
                rw [h1] at hj
                simp at hj
                subst hj
                exact ⟨c, hcl, hk, hcc⟩
        obtain ⟨xs, h1, h2, h3⟩ := key2 len (Nat.le_refl _)
        subst h1
        rw [List.take_of_length_le (by omega)] at h2
        exact ⟨xs, ⟨some a, cap, rfl, hb.2.1, rfl, by have := hb.2.2; simp only [maxLen] at this; omega, fun _ => ⟨a, rfl, h3⟩⟩, by simp only [uptoBulk]; omega⟩
      · cases ht
/-- A struct's fields, from the cell o on. -/
def OpensFsB (P : Program) (fs : List Field) (o : Nat) {α : Type} (d : Kd α) (mu : α → Nat) : Prop :=
  ∀ {H : Type} (enc : TypeId × Value → H) (w : World) (base : Nat) (spare : Nat → Bool) (held : Bool) (fuel : Nat) (cs : List Value) (xs : List (DataW H × List MemPlace)),
    (fs.mapM fun f => DataW.trod enc P w base spare held fuel f.type ((cs.drop f.offset).take (P.cellsOf f.type))) = some xs →
    cs.length = o + (fs.map fun f => P.cellsOf f.type).sum → ∃ x, d.K w x (cs.drop o) ∧ mu x ≤ uptoBulkAll (xs.map (·.1))
theorem opensFsB_one {f : Field} {o : Nat} (h : OpensB P f.type d mu) (ho : f.offset = o) : OpensFsB P [f] o d mu := by
  intro H enc w base spare held fuel cs xs hx hl
  subst ho
  simp only [List.mapM_cons, List.mapM_nil] at hx
  obtain ⟨y, hy, hr⟩ := Option.bind_eq_some_iff.1 hx
  obtain ⟨ys, hys, hr2⟩ := Option.bind_eq_some_iff.1 hr
  cases hys
  cases hr2
  have htake : (cs.drop f.offset).take (P.cellsOf f.type) = cs.drop f.offset := by
    refine List.take_of_length_le ?_
    simp at hl
    simp [hl]
  rw [htake] at hy
  obtain ⟨a, ha, hm⟩ := h enc w base spare held fuel _ y.1 y.2 hy
  exact ⟨a, ha, by simp only [List.map_cons, uptoBulkAll]; omega⟩
theorem opensFsB_cons {f : Field} {fs : List Field} {o : Nat} (h : OpensB P f.type d mu) (hr : OpensFsB P fs (o + P.cellsOf f.type) d2 mu2) (ho : f.offset = o) : OpensFsB P (f :: fs) o (Kd.pair d d2) (fun x => mu x.1 + mu2 x.2) := by
  intro H enc w base spare held fuel cs xs hx hl
  subst ho
  rw [List.mapM_cons] at hx
  obtain ⟨y, hy, hx2⟩ := Option.bind_eq_some_iff.1 hx
  obtain ⟨ys, hys, hx3⟩ := Option.bind_eq_some_iff.1 hx2
  cases hx3
  obtain ⟨a, ha, hwa⟩ := h enc w base spare held fuel _ y.1 y.2 hy
  obtain ⟨b, hb, hwb⟩ := hr enc w base spare held fuel cs ys hys (by rw [hl]; simp; omega)
  refine ⟨(a, b), ⟨_, _, ?_, ha, hb⟩, by simp only [List.map_cons, uptoBulkAll]; omega⟩
  rw [← List.drop_drop, List.take_append_drop]
theorem opensFsB_iso {fs : List Field} {o : Nat} (h : OpensFsB P fs o d mu) (f : β → α) (g : α → β) (hg : ∀ x, f (g x) = x) : OpensFsB P fs o (Kd.iso d f) (fun y => mu (f y)) := by
  intro H enc w base spare held fuel cs xs hx hl
  obtain ⟨x, h1, h2⟩ := h enc w base spare held fuel cs xs hx hl
  exact ⟨g x, show d.K w (f (g x)) _ by rw [hg]; exact h1, show mu (f (g x)) ≤ _ by rw [hg]; exact h2⟩
theorem opensB_struct {fs : Array Field} (hu : P.underlying t = some (.struct fs)) (hc : P.cellsOf t = (fs.toList.map fun f => P.cellsOf f.type).sum) (h : OpensFsB P fs.toList 0 d mu) : OpensB P t d (fun x => mu x + 1) := by
  intro H enc w base spare held fuel cs dat ps ht
  cases fuel with
  | zero => simp [DataW.trod] at ht
  | succ f =>
    unfold DataW.trod at ht
    rw [hu] at ht
    simp only at ht
    split at ht
    · rename_i hl
      obtain ⟨xs, hx, he⟩ := Option.map_eq_some_iff.1 ht
      injection he with h1 h2
      subst h1
      have := h enc w base spare held f cs xs hx (by rw [hl, hc]; simp)
      obtain ⟨x, hk, hm⟩ := this
      exact ⟨x, by simpa using hk, by simp only [uptoBulk]; omega⟩
    · cases ht
end
end Go.Proofs.YtjiejmkkaekefaaH
