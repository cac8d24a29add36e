/-
  What came in, opened by its type: numbers, texts, structs, arrays, slices, one within the other, as the print's kinds (Kd) tell them; with how long each slice may be.
-/
import Derived.Test.YtjnfllaonkeefaaH
import Derived.DataReads
import Derived.DataElems
import Derived.ProofKit
import Derived.SizedLaws
namespace Go.Proofs.YtjnfllaonkeefaaH
set_option linter.unusedVariables false
open Go.RowKit Go.Proofs.YtjnfllaonkeefaaW.PrintWords

/-- Whatever is read as type t reads as a value of the kind d; wf is what is known of it besides. -/
def Opens (P : Program) (t : TypeId) {α : Type} (d : Kd α) (wf : α → Prop) : Prop :=
  ∀ {H : Type} (enc : TypeId × Value → H) (w : World) (base : Nat) (spare : Nat → Bool) (held : Bool) (fuel : Nat) (cs : List Value) (dat : DataW H) (ps : List MemPlace),
    DataW.trod enc P w base spare held fuel t cs = some (dat, ps) → (∀ n ∈ DataW.weights P t dat, n ≤ reachBytes) → ∃ x, d.K w x cs ∧ wf x

section
variable {P : Program} {t e : TypeId} {α β : Type} {d : Kd α} {d2 : Kd β} {wf : α → Prop} {wf2 : β → Prop}
theorem Opens.mono (h : Opens P t d wf) {wf' : α → Prop} (hm : ∀ x, wf x → wf' x) : Opens P t d wf' := by
  intro H enc w base spare held fuel cs dat ps ht hw
  obtain ⟨x, h1, h2⟩ := h enc w base spare held fuel cs dat ps ht hw
  exact ⟨x, h1, hm x h2⟩
theorem opens_int {k : IntKind} (hu : P.underlying t = some (.int k)) : Opens P t (Kd.int k) (fun n => (Lit.int k n).wf = true) := by
  intro H enc w base spare held fuel cs dat ps ht hw
  cases fuel with
  | zero => simp [DataW.trod] at ht
  | succ f =>
    unfold DataW.trod at ht
    rw [hu] at ht
    split at ht <;> simp_all
    obtain ⟨⟨rfl, hwf⟩, _⟩ := ht
    exact ⟨_, rfl, hwf⟩
theorem opens_bool (hu : P.underlying t = some .bool) : Opens P t Kd.bool (fun _ => True) := by
  intro H enc w base spare held fuel cs dat ps ht hw
  cases fuel with
  | zero => simp [DataW.trod] at ht
  | succ f =>
    unfold DataW.trod at ht
    rw [hu] at ht
    split at ht <;> simp_all
    first
      | (rename_i b; cases b <;> first | exact Or.inl rfl | exact Or.inr rfl)
      | (rename_i b _; cases b <;> first | exact Or.inl rfl | exact Or.inr rfl)
      | (rename_i b _ _ _; cases b <;> first | exact Or.inl rfl | exact Or.inr rfl)
      | (rename_i b _ _ _ _; cases b <;> first | exact Or.inl rfl | exact Or.inr rfl)
theorem opens_string (hu : P.underlying t = some .string) : Opens P t Kd.string (fun s => s.size ≤ 140737488351232) := by
  intro H enc w base spare held fuel cs dat ps ht hw
  cases fuel with
  | zero => simp [DataW.trod] at ht
  | succ f =>
    unfold DataW.trod at ht
    rw [hu] at ht
    split at ht <;> simp_all
    obtain ⟨_, rfl, _⟩ := ht
    refine ⟨_, rfl, ?_⟩
    have := hw _ (by simp [DataW.weights]; rfl)
    simpa [reachBytes] using this
theorem weightsAll_mem {H : Type} {P : Program} {e : TypeId} {l : List (DataW H)} {x : DataW H} (hx : x ∈ l) {n : Nat} (hn : n ∈ DataW.weights P e x) : n ∈ DataW.weightsAll P e l := by
  induction l with
  | nil => cases hx
  | cons y l ih =>
    rw [DataW.weightsAll, List.mem_append]
    rcases List.mem_cons.1 hx with rfl | hx
    · exact .inl hn
    · exact .inr (ih hx)
theorem cells_get {w : World} {base : Nat} {a : Addr} {n : Nat} {cs : List Value} (h : w.cells? base a n = some cs) : cs.length = n ∧ ∀ i u, cs[i]? = some u → w.cell? (a.add i) = some u := by
  unfold World.cells? at h
  split at h
  · have hl := mapM_some_length h
    refine ⟨by simpa using hl, fun i u hu => ?_⟩
    have hi : i < n := by have := (List.getElem?_eq_some_iff.1 hu).1; simp at hl; omega
    have := mapM_some_get h i i (by simp [hi])
    rw [this, hu]
  · cases h
theorem addr_add_add (a : Addr) (m n : Nat) : (a.add m).add n = a.add (m + n) := Addr.add_add a m n
theorem opens_slice (h : Opens P e d wf) (hu : P.underlying t = some (.slice e)) (hs : P.cellsOf e = d.sz) :
    Opens P t (Kd.slice e d) (fun xs => xs.length * P.bytesOf e ≤ 140737488351232 ∧ ∀ x ∈ xs, wf x) := by
  intro H enc w base spare held fuel cs dat ps ht hw
  cases fuel with
  | zero => simp [DataW.trod] at ht
  | succ f =>
    unfold DataW.trod at ht
    rw [hu] at ht
    split at ht <;> try (simp_all; done)
    · rename_i heq
      injection heq with heq
      cases heq
      exact ⟨[], ⟨none, 0, rfl, Nat.le_refl _, Kd.C_nil d w⟩, by simp, fun x hx => by cases hx⟩
    · rename_i e' a len cap heq
      injection heq with heq
      injection heq with heq
      subst heq
      simp only at ht
      split at ht
      · rename_i hb
        obtain ⟨elems, hel, hr⟩ := Option.bind_eq_some_iff.1 ht
        obtain ⟨rest, hre, hdat⟩ := Option.map_eq_some_iff.1 hr
        injection hdat with hd1 hd2
        subst hd1
        have hlen : elems.length = len := by have := mapM_some_length hel; simpa using this
        have hweights : ∀ y ∈ elems, ∀ n ∈ DataW.weights P e y.1, n ≤ reachBytes := by
          intro y hy n hn
          refine hw n ?_
          rw [DataW.weights, hu]
          exact List.mem_cons_of_mem _ (List.mem_append_left _ (weightsAll_mem (List.mem_map_of_mem hy) hn))
        have hsize : len * P.bytesOf e ≤ 140737488351232 := by
          have := hw ((elems.map (·.1)).length * P.bytesOf e + (rest.map (·.1)).length * P.bytesOf e) (by rw [DataW.weights, hu, ← Nat.add_mul]; exact List.mem_cons_self)
          simp only [List.length_map, hlen, reachBytes] at this
          omega
        have key : ∀ i, i < len → ∃ x c, d.K w x c ∧ wf x ∧ c.length = d.sz ∧ ∀ j u, c[j]? = some u → w.cell? (a.add (i * d.sz + j)) = some u := by
          intro i hi
          have h1 := mapM_some_get hel i i (by simp [hi])
          rw [List.getElem?_eq_getElem (by omega)] at h1
          obtain ⟨c, hc, ht2⟩ := Option.bind_eq_some_iff.1 h1
          obtain ⟨hcl, hcc⟩ := cells_get hc
          obtain ⟨x, hk, hx⟩ := h enc w base spare held f c _ _ ht2 (hweights _ (List.getElem_mem _))
          refine ⟨x, c, hk, hx, by rw [hcl, hs], fun j u hj => ?_⟩
          rw [← hs, ← addr_add_add]
          exact hcc j u hj
        have key2 : ∀ m, m ≤ len → ∃ xs : List α, xs.length = m ∧ (∀ x ∈ xs, wf x) ∧ ∀ j p, xs[j]? = some p → ∃ c, c.length = d.sz ∧ d.K w p c ∧ ∀ i u, c[i]? = some u → w.cell? (a.add (j * d.sz + i)) = some u := by
          intro m
          induction m with
          | zero => intro _; exact ⟨[], rfl, fun x hx => absurd hx (by simp), fun j p hj => absurd hj (by simp)⟩
          | succ m ih =>
            intro hm
            obtain ⟨xs, h1, h2, h3⟩ := ih (by omega)
            obtain ⟨x, c, hk, hx, hcl, hcc⟩ := key m (by omega)
            refine ⟨xs ++ [x], by simp [h1], fun y hy => ?_, fun j p hj => ?_⟩
            · rcases List.mem_append.1 hy with hy | hy
              · exact h2 y hy
              · rw [List.mem_singleton.1 hy]; exact hx
            · by_cases hjm : j < m
              · rw [List.getElem?_append_left (by omega)] at hj
                exact h3 j p hj
              · rw [List.getElem?_append_right (by omega)] at hj
                have : j = m := by have := (List.getElem?_eq_some_iff.1 hj).1; simp at this; omega
                subst this
                rw [h1] at hj
                simp at hj
                subst hj
                exact ⟨c, hcl, hk, hcc⟩
        obtain ⟨xs, h1, h2, h3⟩ := key2 len (Nat.le_refl _)
        subst h1
        exact ⟨xs, ⟨some a, cap, rfl, hb.2.1, rfl, by have := hb.2.2; simp only [maxLen] at this; omega, fun _ => ⟨a, rfl, h3⟩⟩, hsize, h2⟩
      · cases ht
/-- A struct's fields, from the cell o on. -/
def OpensFs (P : Program) (fs : List Field) (o : Nat) {α : Type} (d : Kd α) (wf : α → Prop) : Prop :=
  ∀ {H : Type} (enc : TypeId × Value → H) (w : World) (base : Nat) (spare : Nat → Bool) (held : Bool) (fuel : Nat) (cs : List Value) (xs : List (DataW H × List MemPlace)),
    (fs.mapM fun f => DataW.trod enc P w base spare held fuel f.type ((cs.drop f.offset).take (P.cellsOf f.type))) = some xs →
    (∀ n ∈ DataW.weightsEach P (fs.map (·.type)) (xs.map (·.1)), n ≤ reachBytes) → cs.length = o + (fs.map fun f => P.cellsOf f.type).sum → ∃ x, d.K w x (cs.drop o) ∧ wf x
theorem opensFs_one {f : Field} {o : Nat} (h : Opens P f.type d wf) (ho : f.offset = o) : OpensFs P [f] o d wf := by
  intro H enc w base spare held fuel cs xs hx hw hl
  subst ho
  simp only [List.mapM_cons, List.mapM_nil] at hx
  obtain ⟨y, hy, hr⟩ := Option.bind_eq_some_iff.1 hx
  obtain ⟨ys, hys, hr2⟩ := Option.bind_eq_some_iff.1 hr
  cases hys
  cases hr2
  have htake : (cs.drop f.offset).take (P.cellsOf f.type) = cs.drop f.offset := by
    refine List.take_of_length_le ?_
    simp at hl
    simp [hl]
  rw [htake] at hy
  exact h enc w base spare held fuel _ y.1 y.2 hy (fun n hn => hw n (by simp [DataW.weightsEach, hn]))
theorem opensFs_cons {f : Field} {fs : List Field} {o : Nat} (h : Opens P f.type d wf) (hr : OpensFs P fs (o + P.cellsOf f.type) d2 wf2) (ho : f.offset = o) : OpensFs P (f :: fs) o (Kd.pair d d2) (fun x => wf x.1 ∧ wf2 x.2) := by
  intro H enc w base spare held fuel cs xs hx hw hl
  subst ho
  rw [List.mapM_cons] at hx
  obtain ⟨y, hy, hx2⟩ := Option.bind_eq_some_iff.1 hx
  obtain ⟨ys, hys, hx3⟩ := Option.bind_eq_some_iff.1 hx2
  cases hx3
  have hw1 : ∀ n ∈ DataW.weights P f.type y.1, n ≤ reachBytes := fun n hn => hw n (by simp [DataW.weightsEach, hn])
  have hw2 : ∀ n ∈ DataW.weightsEach P (fs.map (·.type)) (ys.map (·.1)), n ≤ reachBytes := fun n hn => hw n (by rw [List.map_cons, List.map_cons, DataW.weightsEach]; exact List.mem_append_right _ hn)
  obtain ⟨a, ha, hwa⟩ := h enc w base spare held fuel _ y.1 y.2 hy hw1
  obtain ⟨b, hb, hwb⟩ := hr enc w base spare held fuel cs ys hys hw2 (by rw [hl]; simp; omega)
  refine ⟨(a, b), ⟨_, _, ?_, ha, hb⟩, hwa, hwb⟩
  rw [← List.drop_drop, List.take_append_drop]
theorem opensFs_iso {fs : List Field} {o : Nat} (h : OpensFs P fs o d wf) (f : β → α) (g : α → β) (hg : ∀ x, f (g x) = x) : OpensFs P fs o (Kd.iso d f) (fun y => wf (f y)) := by
  intro H enc w base spare held fuel cs xs hx hw hl
  obtain ⟨x, h1, h2⟩ := h enc w base spare held fuel cs xs hx hw hl
  exact ⟨g x, show d.K w (f (g x)) _ by rw [hg]; exact h1, show wf (f (g x)) by rw [hg]; exact h2⟩
theorem opens_iso (h : Opens P t d wf) (f : β → α) (g : α → β) (hg : ∀ x, f (g x) = x) : Opens P t (Kd.iso d f) (fun y => wf (f y)) := by
  intro H enc w base spare held fuel cs dat ps ht hw
  obtain ⟨x, h1, h2⟩ := h enc w base spare held fuel cs dat ps ht hw
  exact ⟨g x, show d.K w (f (g x)) _ by rw [hg]; exact h1, show wf (f (g x)) by rw [hg]; exact h2⟩
theorem opens_struct {fs : Array Field} (hu : P.underlying t = some (.struct fs)) (hc : P.cellsOf t = (fs.toList.map fun f => P.cellsOf f.type).sum) (h : OpensFs P fs.toList 0 d wf) : Opens P t d wf := by
  intro H enc w base spare held fuel cs dat ps ht hw
  cases fuel with
  | zero => simp [DataW.trod] at ht
  | succ f =>
    unfold DataW.trod at ht
    rw [hu] at ht
    simp only at ht
    split at ht
    · rename_i hl
      obtain ⟨xs, hx, he⟩ := Option.map_eq_some_iff.1 ht
      injection he with h1 h2
      subst h1
      have := h enc w base spare held f cs xs hx (fun n hn => hw n (by rw [DataW.weights, hu]; exact hn)) (by rw [hl, hc]; simp)
      simpa using this
    · cases ht
end
end Go.Proofs.YtjnfllaonkeefaaH
