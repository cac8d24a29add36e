/-
  What holds of cells, putters and the taker whoever goes when; one step of a putter, one of the taker.
-/
import Derived.Test.YtcjkjlopbjijaaaQueueM
namespace Go.Proofs.Ytcjkjlopbjijaaa.PQ
set_option linter.unusedVariables false
set_option linter.unusedSimpArgs false
open Go.RowKit Go.Proofs.YtcjkjlopbjijaaaW.PrintWords Go.Proofs.YtcjkjlopbjijaaaW.PrintLast Go.Proofs.YtcjkjlopbjijaaaW.PrintMore Go.Proofs.YtcjkjlopbjijaaaH

theorem rdP_set_self {l : List Putter} {k : Nat} (h : k < l.length) (x : Putter) : rdP (l.set k x) k = x := by
  unfold rdP rd_T54
  rw [Int.toNat_natCast, List.getD_eq_getElem?_getD, List.getElem?_set_self h]
  rfl
theorem rdP_set_ne {l : List Putter} {k j : Nat} (h : j ≠ k) (x : Putter) : rdP (l.set k x) j = rdP l j := by
  unfold rdP rd_T54
  rw [Int.toNat_natCast, List.getD_eq_getElem?_getD, List.getD_eq_getElem?_getD, List.getElem?_set_ne (Ne.symm h)]
/-- A place that is claimed: its putter fills it, shows it, or is done. -/
def Own (item : Nat → Int) (m : List Int) (N p : Nat) (j : Nat) (x : Putter) : Prop :=
  (x.f0 = 3 ∧ x.f1 = p ∧ sq m N p = p) ∨ (x.f0 = 4 ∧ x.f1 = p ∧ sq m N p = p ∧ im m N p = item j) ∨ (x.f0 = 5 ∧ sq m N p = p + 1 ∧ im m N p = item j)
structure Inv (N n : Nat) (item : Nat → Int) (m : List Int) (l : List Putter) (ts : Int) (H : Nat) (ti : Int) (C : List Nat) : Prop where
  hm : m.length = 5 + 2 * N
  hl : l.length = n
  tail : rd m 4 = C.length
  lo : H ≤ C.length
  hi : C.length ≤ H + N
  nd : C.Nodup
  lt : ∀ j ∈ C, j < n
  its : ∀ j : Nat, j < n → (rdP l j).f2 = item j
  out : ∀ j : Nat, j < n → (j ∉ C ∧ ((rdP l j).f0 = 0 ∨ (rdP l j).f0 = 1 ∨ (rdP l j).f0 = 2 ∨ (rdP l j).f0 = 6)) ∨ (j ∈ C ∧ ((rdP l j).f0 = 3 ∨ (rdP l j).f0 = 4 ∨ (rdP l j).f0 = 5))
  pos : ∀ j : Nat, j < n → ((rdP l j).f0 = 1 ∨ (rdP l j).f0 = 2) → ∃ q : Nat, (rdP l j).f1 = q ∧ q ≤ C.length ∧ ((rdP l j).f0 = 2 → q = C.length → C.length < H + N)
  old : ∀ p j : Nat, C[p]? = some j → p < H → (rdP l j).f0 = 5
  cur : ∀ p j : Nat, C[p]? = some j → H ≤ p → Own item m N p j (rdP l j)
  free : ∀ p : Nat, C.length ≤ p → p < H + N → sq m N p = p
  tk : ts = 0 ∨ (ts = 1 ∧ H < C.length ∧ sq m N H = H + 1) ∨ (ts = 2 ∧ H < C.length ∧ sq m N H = H + 1 ∧ ∀ j : Nat, C[H]? = some j → ti = item j)
/-- How many steps of its own a putter goes yet, if nobody claims. -/
def phi (x : Putter) (T : Nat) : Nat := if x.f0 = 0 then 5 else if x.f0 = 1 then (if x.f1 = T then 4 else 7) else if x.f0 = 2 then (if x.f1 = T then 3 else 6) else if x.f0 = 3 then 2 else if x.f0 = 4 then 1 else 0
theorem nodup_length {C : List Nat} {n : Nat} (h : C.Nodup) (hlt : ∀ j ∈ C, j < n) : C.length ≤ n := by
  induction n generalizing C with
  | zero =>
    cases C with
    | nil => exact Nat.le_refl _
    | cons a C => exact absurd (hlt a List.mem_cons_self) (Nat.not_lt_zero _)
  | succ n ih =>
    have h1 := ih (C := C.erase n) (h.erase n) (fun j hj => by
      have h2 := (h.mem_erase_iff).1 hj
      have h3 := hlt j h2.2
      omega)
    rw [List.length_erase] at h1
    split at h1 <;> omega
section
variable {N n : Nat} {item : Nat → Int} {m : List Int} {l : List Putter} {ts : Int} {H : Nat} {ti : Int} {C : List Nat}
theorem Inv.cn (I : Inv N n item m l ts H ti C) : C.length ≤ n := nodup_length I.nd I.lt
theorem pos_mod {s : Int} {N : Nat} (hs : pw s = N) (q : Nat) : 5 + 2 * ((q % N : Nat) : Int) = 3 + 2 * 1 + 2 * ((q : Int) % pw s) := by rw [hs]; omega
theorem not_mem_get {C : List Nat} {p j k : Nat} (h : C[p]? = some j) (hk : k ∉ C) : j ≠ k := fun e => hk (e ▸ List.mem_of_getElem? h)
/-- The places of a putter in C. -/
theorem Inv.at {k : Nat} (I : Inv N n item m l ts H ti C) (hk : k < n) (h : (rdP l k).f0 = 3 ∨ (rdP l k).f0 = 4) : ∃ p, C[p]? = some k ∧ H ≤ p ∧ p < C.length ∧ (rdP l k).f1 = p ∧ sq m N p = p := by
  rcases I.out k hk with ⟨_, h1⟩ | ⟨h1, _⟩
  · omega
  obtain ⟨p, hp⟩ := List.getElem?_of_mem h1
  have hpl : p < C.length := (List.getElem?_eq_some_iff.1 hp).1
  have hH : H ≤ p := by
    rcases Nat.lt_or_ge p H with h2 | h2
    · have := I.old p k hp h2; omega
    · exact h2
  rcases I.cur p k hp hH with ⟨_, a, b⟩ | ⟨_, a, b, _⟩ | ⟨a, _⟩
  · exact ⟨p, hp, hH, hpl, a, b⟩
  · exact ⟨p, hp, hH, hpl, a, b⟩
  · omega
/-- A putter that keeps what it is but for what no place asks of it: state 0, 1, 2 or 6 before and behind. -/
theorem Inv.turn {k : Nat} (I : Inv N n item m l ts H ti C) (hk : k < n) (hC : k ∉ C) (x : Putter) (hx : x.f0 = 0 ∨ x.f0 = 1 ∨ x.f0 = 2 ∨ x.f0 = 6) (h2 : x.f2 = item k)
    (hp : (x.f0 = 1 ∨ x.f0 = 2) → ∃ q : Nat, x.f1 = q ∧ q ≤ C.length ∧ (x.f0 = 2 → q = C.length → C.length < H + N)) : Inv N n item m (l.set k x) ts H ti C := by
  have hkl : k < l.length := by rw [I.hl]; exact hk
  refine ⟨I.hm, by rw [List.length_set, I.hl], I.tail, I.lo, I.hi, I.nd, I.lt, fun j hj => ?_, fun j hj => ?_, fun j hj => ?_, fun p j h hpH => ?_, fun p j h hpH => ?_, I.free, I.tk⟩
  · by_cases e : j = k
    · subst e; rw [rdP_set_self hkl]; exact h2
    · rw [rdP_set_ne e]; exact I.its j hj
  · by_cases e : j = k
    · subst e; rw [rdP_set_self hkl]; exact .inl ⟨hC, hx⟩
    · rw [rdP_set_ne e]; exact I.out j hj
  · by_cases e : j = k
    · subst e; rw [rdP_set_self hkl]; exact hp
    · rw [rdP_set_ne e]; exact I.pos j hj
  · rw [rdP_set_ne (not_mem_get h hC)]; exact I.old p j h hpH
  · rw [rdP_set_ne (not_mem_get h hC)]; exact I.cur p j h hpH
/-- What one step of a putter that wants something comes to. -/
structure Step (N n : Nat) (item : Nat → Int) (s : Int) (m : List Int) (l : List Putter) (ts : Int) (H : Nat) (ti : Int) (C : List Nat) (k : Nat) : Prop where
  go : ∃ (kd cell o nw v : Int) (b : Bool) (m' : List Int) (C' : List Nat), queue_Want.f 1 s (rdP l k).f0 (rdP l k).f1 (rdP l k).f2 = some (kd, cell, o, nw, true) ∧ mem_Do.f m kd cell o nw = some (m', v, b) ∧
    Inv N n item m' (l.set k ⟨gotS (rdP l k).f0 (rdP l k).f1 v b, if (rdP l k).f0 = 0 then v else (rdP l k).f1, (rdP l k).f2⟩) ts H ti C' ∧
    ((C' = C ∧ ¬((rdP l k).f0 = 2 ∧ gotS (rdP l k).f0 (rdP l k).f1 v b = 3)) ∨ (C' = C ++ [k] ∧ (rdP l k).f0 = 2 ∧ gotS (rdP l k).f0 (rdP l k).f1 v b = 3)) ∧
    (gotS (rdP l k).f0 (rdP l k).f1 v b = 6 → C'.length = H + N) ∧
    phi ⟨gotS (rdP l k).f0 (rdP l k).f1 v b, if (rdP l k).f0 = 0 then v else (rdP l k).f1, (rdP l k).f2⟩ C'.length + 3 * (n - C'.length) + 1 ≤ phi (rdP l k) C.length + 3 * (n - C.length)
theorem Inv.step {s : Int} (hs : Lay 1 s) (hN : pw s = N) (hN2 : 2 ≤ N) (hN3 : N ≤ 16) (hn : n ≤ 100) {k : Nat} (I : Inv N n item m l ts H ti C) (hk : k < n) (hw : (rdP l k).f0 ≠ 5 ∧ (rdP l k).f0 ≠ 6) : Step N n item s m l ts H ti C k := by
  have hkl : k < l.length := by rw [I.hl]; exact hk
  have hml := I.hm
  have hcn := I.cn
  have hit := I.its k hk
  have hst : (rdP l k).f0 = 0 ∨ (rdP l k).f0 = 1 ∨ (rdP l k).f0 = 2 ∨ (rdP l k).f0 = 3 ∨ (rdP l k).f0 = 4 := by
    rcases I.out k hk with ⟨_, h⟩ | ⟨_, h⟩ <;> omega
  have hpos := I.pos k hk
  have hout := I.out k hk
  have hat := I.at hk
  obtain ⟨x, hx⟩ : ∃ x, x = rdP l k := ⟨_, rfl⟩
  obtain ⟨st, po, it⟩ := x
  refine ⟨?_⟩
  rw [← hx] at hw hst hit hpos hout hat ⊢
  dsimp only at hw hst hit hpos hout hat ⊢
  rcases hst with rfl | rfl | rfl | rfl | rfl
  · -- looks
    refine ⟨_, _, _, _, rd m 4, true, m, C, want_0 hs _ _, do_load (by omega) (by omega), ?_, ?_, ?_, ?_⟩
    · have hC : k ∉ C := by rcases hout with ⟨h, _⟩ | ⟨_, h⟩ <;> first | exact h | omega
      exact I.turn hk hC _ (.inr (.inl rfl)) hit (fun _ => ⟨C.length, by show (if (0 : Int) = 0 then rd m 4 else po) = _; rw [if_pos rfl, I.tail], Nat.le_refl _, fun h => by cases h⟩)
    · exact .inl ⟨rfl, fun h => by cases h.1⟩
    · intro h; cases h
    · show phi ⟨1, if (0 : Int) = 0 then rd m 4 else po, it⟩ _ + _ + 1 ≤ phi ⟨0, po, it⟩ _ + _
      rw [if_pos rfl, I.tail]
      simp [phi]
      omega
  · -- sees
    obtain ⟨q, rfl, hq1, _⟩ := hpos (.inl rfl)
    have hC : k ∉ C := by rcases hout with ⟨h, _⟩ | ⟨_, h⟩ <;> first | exact h | omega
    have hadr := pos_mod hN q
    have hqm := Nat.mod_lt q (show 0 < N by omega)
    have hsq : sq m N q = rd m (3 + 2 * 1 + 2 * ((q : Int) % pw s)) := by unfold sq; rw [hadr]
    refine ⟨_, _, _, _, sq m N q, true, m, C, want_1 hs _ (by omega) (by omega), by rw [hsq]; exact do_load (by omega) (by omega), ?_, ?_, ?_, ?_⟩
    · have hg : gotS 1 q (sq m N q) true = if sq m N q < q then 6 else if sq m N q > q then 0 else 2 := rfl
      rw [hg]
      by_cases h1 : sq m N q < q
      · rw [if_pos h1]; exact I.turn hk hC _ (.inr (.inr (.inr rfl))) hit (fun h => by rcases h with h | h <;> cases h)
      rw [if_neg h1]
      by_cases h2 : sq m N q > q
      · rw [if_pos h2]; exact I.turn hk hC _ (.inl rfl) hit (fun h => by rcases h with h | h <;> cases h)
      rw [if_neg h2]
      refine I.turn hk hC _ (.inr (.inr (.inl rfl))) hit (fun _ => ⟨q, rfl, hq1, fun _ hqT => ?_⟩)
      rcases Nat.lt_or_ge C.length (H + N) with h3 | h3
      · exact h3
      · have h4 : C.length = H + N := Nat.le_antisymm I.hi h3
        have h5 : (C)[H]? = some (C[H]'(by omega)) := List.getElem?_eq_getElem _
        have h6 : sq m N q = sq m N H := by unfold sq; rw [hqT, h4, Nat.add_mod_right]
        have h7 : sq m N H = H ∨ sq m N H = H + 1 := by rcases I.cur H _ h5 (Nat.le_refl _) with ⟨_, _, h⟩ | ⟨_, _, h, _⟩ | ⟨_, h, _⟩ <;> omega
        omega
    · exact .inl ⟨rfl, fun h => by cases h.1⟩
    · intro h6
      have hlt : sq m N q < q := by
        have hg : gotS 1 q (sq m N q) true = if sq m N q < q then 6 else if sq m N q > q then 0 else 2 := rfl
        rw [hg] at h6
        by_cases h1 : sq m N q < q
        · exact h1
        · rw [if_neg h1] at h6; split at h6 <;> cases h6
      rcases Nat.lt_or_ge q H with h1 | h1
      · obtain ⟨r, r1, r2, r3, r4⟩ := mod_up (show 0 < N by omega) h1
        have h2 : sq m N q = sq m N r := by unfold sq; rw [r3]
        have h3 : sq m N r = r ∨ sq m N r = r + 1 := by
          rcases Nat.lt_or_ge r C.length with h4 | h4
          · have h5 : (C)[r]? = some (C[r]'h4) := List.getElem?_eq_getElem _
            rcases I.cur r _ h5 r1 with ⟨_, _, h⟩ | ⟨_, _, h, _⟩ | ⟨_, h, _⟩ <;> omega
          · exact .inl (I.free r h4 r2)
        omega
      · rcases Nat.lt_or_ge q C.length with h2 | h2
        · have h5 : (C)[q]? = some (C[q]'h2) := List.getElem?_eq_getElem _
          have : sq m N q = q ∨ sq m N q = q + 1 := by rcases I.cur q _ h5 h1 with ⟨_, _, h⟩ | ⟨_, _, h, _⟩ | ⟨_, h, _⟩ <;> omega
          omega
        · have hqe : q = C.length := by omega
          rcases Nat.lt_or_ge C.length (H + N) with h3 | h3
          · have := I.free q h2 (by omega); omega
          · exact Nat.le_antisymm I.hi h3
    · have hg : gotS 1 q (sq m N q) true = if sq m N q < q then 6 else if sq m N q > q then 0 else 2 := rfl
      rw [hg]
      show phi ⟨_, q, it⟩ _ + _ + 1 ≤ phi ⟨1, q, it⟩ _ + _
      by_cases h1 : sq m N q < q
      · rw [if_pos h1]; simp [phi]; split <;> omega
      rw [if_neg h1]
      by_cases h2 : sq m N q > q
      · rw [if_pos h2]
        have hne : ¬ (q : Int) = C.length := by
          intro e
          rcases Nat.lt_or_ge C.length (H + N) with h3 | h3
          · have := I.free q (by omega) (by omega); omega
          · have h4 : C.length = H + N := Nat.le_antisymm I.hi h3
            have h5 : (C)[H]? = some (C[H]'(by omega)) := List.getElem?_eq_getElem _
            have h6 : sq m N q = sq m N H := by unfold sq; rw [show q = H + N from by omega, Nat.add_mod_right]
            have h7 : sq m N H = H ∨ sq m N H = H + 1 := by rcases I.cur H _ h5 (Nat.le_refl _) with ⟨_, _, h⟩ | ⟨_, _, h, _⟩ | ⟨_, h, _⟩ <;> omega
            omega
        simp [phi]; rw [if_neg hne]; omega
      rw [if_neg h2]
      simp [phi]; split <;> omega
  · -- claims
    obtain ⟨q, rfl, hq1, hq2⟩ := hpos (.inr rfl)
    have hC : k ∉ C := by rcases hout with ⟨h, _⟩ | ⟨_, h⟩ <;> first | exact h | omega
    by_cases hc : rd m 4 = (q : Int)
    · have hqT : q = C.length := by have := I.tail; omega
      have hroom := hq2 rfl hqT
      have hwr : IntKind.u64.wrap ((q : Int) + 1) = q + 1 := wraps_u64 _ (by omega) (by omega)
      refine ⟨_, _, _, _, rd m 4, true, m.set 4 (q + 1), C ++ [k], want_2 hs _ _, by rw [hwr]; exact (do_cas (i := 2 + 2 * 1) (by omega) (by omega) (by omega)).trans (if_pos hc), ?_, ?_, ?_, ?_⟩
      · show Inv N n item (m.set 4 (q + 1)) (l.set k ⟨3, q, it⟩) ts H ti (C ++ [k])
        have hsq := sq_tail hml hN2 (q + 1)
        have him := im_tail hml hN2 (q + 1)
        have hfree := I.free q (by omega) (by omega)
        refine ⟨by rw [List.length_set, hml], by rw [List.length_set, I.hl], by rw [tail_tail hml hN2, List.length_append]; simp; omega, by rw [List.length_append]; have := I.lo; omega, by rw [List.length_append]; simp; omega, ?_, ?_, fun j hj => ?_, fun j hj => ?_, fun j hj hj2 => ?_, fun p j h hpH => ?_, fun p j h hpH => ?_, fun p h1 h2 => ?_, ?_⟩
        · rw [List.nodup_append]
          exact ⟨I.nd, by simp, fun a ha b hb => by rw [List.mem_singleton] at hb; intro e; exact hC (by rw [← hb, ← e]; exact ha)⟩
        · intro j hj
          rcases List.mem_append.1 hj with h | h
          · exact I.lt j h
          · rw [List.mem_singleton.1 h]; exact hk
        · by_cases e : j = k
          · subst e; rw [rdP_set_self hkl]; exact hit
          · rw [rdP_set_ne e]; exact I.its j hj
        · by_cases e : j = k
          · subst e; rw [rdP_set_self hkl]; exact .inr ⟨by simp, .inl rfl⟩
          · rw [rdP_set_ne e]
            rcases I.out j hj with ⟨h, h'⟩ | ⟨h, h'⟩
            · exact .inl ⟨by simp [h, e], h'⟩
            · exact .inr ⟨by simp [h], h'⟩
        · by_cases e : j = k
          · subst e; rw [rdP_set_self hkl] at hj2; rcases hj2 with h | h <;> cases h
          · rw [rdP_set_ne e] at hj2 ⊢
            obtain ⟨r, r1, r2, _⟩ := I.pos j hj hj2
            refine ⟨r, r1, by rw [List.length_append]; simp; omega, fun _ hr => ?_⟩
            rw [List.length_append] at hr
            simp at hr
            omega
        · rcases Nat.lt_or_ge p C.length with h1 | h1
          · rw [List.getElem?_append_left h1] at h
            rw [rdP_set_ne (not_mem_get h hC)]
            exact I.old p j h hpH
          · have := I.lo; omega
        · rcases Nat.lt_or_ge p C.length with h1 | h1
          · rw [List.getElem?_append_left h1] at h
            rw [rdP_set_ne (not_mem_get h hC)]
            have := I.cur p j h hpH
            unfold Own at this ⊢
            rw [hsq, him]
            exact this
          · rw [List.getElem?_append_right h1] at h
            have hp0 : p - C.length = 0 := by
              rcases Nat.eq_zero_or_pos (p - C.length) with h3 | h3
              · exact h3
              · rw [List.getElem?_eq_none (by simp; omega)] at h; cases h
            rw [hp0] at h
            obtain rfl : k = j := by simpa using h
            have hpq : p = q := by omega
            rw [rdP_set_self hkl, hpq]
            exact .inl ⟨rfl, rfl, by rw [hsq]; exact hfree⟩
        · rw [List.length_append] at h1
          simp at h1
          rw [hsq]
          exact I.free p (by omega) h2
        · rcases I.tk with h | ⟨h, h1, h2⟩ | ⟨h, h1, h2, h3⟩
          · exact .inl h
          · exact .inr (.inl ⟨h, by rw [List.length_append]; omega, by rw [hsq]; exact h2⟩)
          · exact .inr (.inr ⟨h, by rw [List.length_append]; omega, by rw [hsq]; exact h2, fun j hj => by rw [List.getElem?_append_left h1] at hj; exact h3 j hj⟩)
      · exact .inr ⟨rfl, rfl, rfl⟩
      · intro h; cases h
      · show phi ⟨3, q, it⟩ _ + _ + 1 ≤ phi ⟨2, q, it⟩ _ + _
        have hlt : C.length < n := by
          have h1 : (C ++ [k]).Nodup := by
            rw [List.nodup_append]
            exact ⟨I.nd, by simp, fun a ha b hb => by rw [List.mem_singleton] at hb; intro e; exact hC (by rw [← hb, ← e]; exact ha)⟩
          have h2 := nodup_length (n := n) h1 (fun j hj => by rcases List.mem_append.1 hj with h | h <;> first | exact I.lt j h | (rw [List.mem_singleton.1 h]; exact hk))
          rw [List.length_append] at h2
          simp at h2
          omega
        rw [List.length_append]
        simp [phi, hqT]
        omega
    · refine ⟨_, _, _, _, rd m 4, false, m, C, want_2 hs _ _, (do_cas (i := 2 + 2 * 1) (by omega) (by omega) (by omega)).trans (if_neg hc), ?_, .inl ⟨rfl, fun h => by cases h.2⟩, (fun h => by cases h), ?_⟩
      · exact I.turn hk hC _ (.inl rfl) hit (fun h => by rcases h with h | h <;> cases h)
      · show phi ⟨0, q, it⟩ _ + _ + 1 ≤ phi ⟨2, q, it⟩ _ + _
        have hne : ¬ (q : Int) = C.length := by have := I.tail; omega
        simp [phi]
        rw [if_neg hne]
        omega
  · -- fills
    obtain ⟨p, hp, hpH, hpl, rfl, hsp⟩ := hat (.inl rfl)
    have hadr := pos_mod hN p
    have hpm := Nat.mod_lt p (show 0 < N by omega)
    have hidx : 3 + 2 * 1 + 2 * ((p : Int) % pw s) + 1 = 6 + 2 * ((p % N : Nat) : Int) := by omega
    have hin : k ∈ C := List.mem_of_getElem? hp
    refine ⟨_, _, _, _, _, true, m.set (6 + 2 * ((p % N : Nat) : Int)).toNat it, C, want_3 hs _ (by omega) (by omega), by rw [hidx]; exact do_store (by omega) (by omega) (by omega), ?_, .inl ⟨rfl, fun h => by cases h.1⟩, (fun h => by cases h), ?_⟩
    · show Inv N n item _ (l.set k ⟨4, p, it⟩) ts H ti C
      have hsq := sq_item hml hN2 p it
      have him := im_item hml hN2 p it
      refine ⟨by rw [List.length_set, hml], by rw [List.length_set, I.hl], by rw [tail_item hml hN2]; exact I.tail, I.lo, I.hi, I.nd, I.lt, fun j hj => ?_, fun j hj => ?_, fun j hj hj2 => ?_, fun q j h hqH => ?_, fun q j h hqH => ?_, fun q h1 h2 => by rw [hsq]; exact I.free q h1 h2, ?_⟩
      · by_cases e : j = k
        · subst e; rw [rdP_set_self hkl]; exact hit
        · rw [rdP_set_ne e]; exact I.its j hj
      · by_cases e : j = k
        · subst e; rw [rdP_set_self hkl]; exact .inr ⟨hin, .inr (.inl rfl)⟩
        · rw [rdP_set_ne e]; exact I.out j hj
      · by_cases e : j = k
        · subst e; rw [rdP_set_self hkl] at hj2; rcases hj2 with h | h <;> cases h
        · rw [rdP_set_ne e] at hj2 ⊢; exact I.pos j hj hj2
      · by_cases e : j = k
        · subst e; have := I.old q j h hqH; rw [← hx] at this; cases this
        · rw [rdP_set_ne e]; exact I.old q j h hqH
      · have hql : q < C.length := (List.getElem?_eq_some_iff.1 h).1
        by_cases e : j = k
        · subst e
          have hqp : q = p := (List.getElem?_inj hql I.nd).1 (h.trans hp.symm)
          subst hqp
          rw [rdP_set_self hkl]
          refine .inr (.inl ⟨rfl, rfl, by rw [hsq]; exact hsp, ?_⟩)
          rw [him, if_pos rfl]
          exact hit
        · rw [rdP_set_ne e]
          have hne : q % N ≠ p % N := fun hh => by
            have hqp := mod_inj (H := H) (N := N) hqH (by have := I.hi; omega) hpH (by have := I.hi; omega) hh
            subst hqp
            rw [h] at hp
            exact e (by injection hp)
          have := I.cur q j h hqH
          unfold Own at this ⊢
          rw [hsq, him, if_neg hne]
          exact this
      · rcases I.tk with h | ⟨h, h1, h2⟩ | ⟨h, h1, h2, h3⟩
        · exact .inl h
        · exact .inr (.inl ⟨h, h1, by rw [hsq]; exact h2⟩)
        · exact .inr (.inr ⟨h, h1, by rw [hsq]; exact h2, h3⟩)
    · show phi ⟨4, p, it⟩ _ + _ + 1 ≤ phi ⟨3, p, it⟩ _ + _
      simp [phi]
      omega
  · -- shows
    obtain ⟨p, hp, hpH, hpl, rfl, hsp⟩ := hat (.inr rfl)
    have hadr := pos_mod hN p
    have hpm := Nat.mod_lt p (show 0 < N by omega)
    have hin : k ∈ C := List.mem_of_getElem? hp
    have hwr : IntKind.u64.wrap ((p : Int) + 1) = p + 1 := wraps_u64 _ (by omega) (by omega)
    have himp : im m N p = item k := by
      rcases I.cur p k hp hpH with ⟨h, _⟩ | ⟨_, _, _, h⟩ | ⟨h, _⟩
      · rw [← hx] at h; cases h
      · exact h
      · rw [← hx] at h; cases h
    refine ⟨_, _, _, _, _, true, m.set (5 + 2 * ((p % N : Nat) : Int)).toNat (p + 1), C, want_4 hs _ (by omega) (by omega), by rw [hwr, ← hadr]; exact do_store (by omega) (by omega) (by omega), ?_, .inl ⟨rfl, fun h => by cases h.1⟩, (fun h => by cases h), ?_⟩
    · show Inv N n item _ (l.set k ⟨5, p, it⟩) ts H ti C
      have hsq := sq_seq hml hN2 p (p + 1)
      have him := im_seq hml hN2 p (p + 1)
      have hmod : ∀ q, H ≤ q → q < H + N → q ≠ p → q % N ≠ p % N := fun q h1 h2 h3 hh => h3 (mod_inj h1 h2 hpH (by have := I.hi; omega) hh)
      refine ⟨by rw [List.length_set, hml], by rw [List.length_set, I.hl], by rw [tail_seq hml hN2]; exact I.tail, I.lo, I.hi, I.nd, I.lt, fun j hj => ?_, fun j hj => ?_, fun j hj hj2 => ?_, fun q j h hqH => ?_, fun q j h hqH => ?_, fun q h1 h2 => ?_, ?_⟩
      · by_cases e : j = k
        · subst e; rw [rdP_set_self hkl]; exact hit
        · rw [rdP_set_ne e]; exact I.its j hj
      · by_cases e : j = k
        · subst e; rw [rdP_set_self hkl]; exact .inr ⟨hin, .inr (.inr rfl)⟩
        · rw [rdP_set_ne e]; exact I.out j hj
      · by_cases e : j = k
        · subst e; rw [rdP_set_self hkl] at hj2; rcases hj2 with h | h <;> cases h
        · rw [rdP_set_ne e] at hj2 ⊢; exact I.pos j hj hj2
      · by_cases e : j = k
        · subst e; have := I.old q j h hqH; rw [← hx] at this; cases this
        · rw [rdP_set_ne e]; exact I.old q j h hqH
      · have hql : q < C.length := (List.getElem?_eq_some_iff.1 h).1
        by_cases e : j = k
        · subst e
          have hqp : q = p := (List.getElem?_inj hql I.nd).1 (h.trans hp.symm)
          subst hqp
          rw [rdP_set_self hkl]
          refine .inr (.inr ⟨rfl, by rw [hsq, if_pos rfl], by rw [him]; exact himp⟩)
        · rw [rdP_set_ne e]
          have hne : q % N ≠ p % N := hmod q hqH (by have := I.hi; omega) (fun e2 => by
            subst e2
            rw [h] at hp
            exact e (by injection hp))
          have := I.cur q j h hqH
          unfold Own at this ⊢
          rw [hsq, him, if_neg hne]
          exact this
      · rw [hsq, if_neg (hmod q (by have := I.lo; omega) h2 (by omega))]
        exact I.free q h1 h2
      · have hHp : ∀ h2 : sq m N H = H + 1, H ≠ p := fun h2 e => by subst e; omega
        rcases I.tk with h | ⟨h, h1, h2⟩ | ⟨h, h1, h2, h3⟩
        · exact .inl h
        · exact .inr (.inl ⟨h, h1, by rw [hsq, if_neg (hmod H (Nat.le_refl _) (by omega) (hHp h2))]; exact h2⟩)
        · exact .inr (.inr ⟨h, h1, by rw [hsq, if_neg (hmod H (Nat.le_refl _) (by omega) (hHp h2))]; exact h2, h3⟩)
    · show phi ⟨5, p, it⟩ _ + _ + 1 ≤ phi ⟨4, p, it⟩ _ + _
      simp [phi]
      omega
/-- One step of the taker. -/
theorem Inv.take {s : Int} (hs : Lay 1 s) (hN : pw s = N) (hN2 : 2 ≤ N) (hN3 : N ≤ 16) (hn : n ≤ 100) (I : Inv N n item m l ts H ti C) :
    ∃ (kd cell o nw v : Int) (b : Bool) (m' : List Int) (ts' : Int) (H' : Nat) (ti' : Int) (tk : Bool), queue_Next.f 1 s ts H ti = some (kd, cell, o, nw) ∧ mem_Do.f m kd cell o nw = some (m', v, b) ∧ givenS ts H ti v = (ts', (H' : Int), ti', tk) ∧
    Inv N n item m' l ts' H' ti' C ∧ ((tk = false ∧ H' = H) ∨ (tk = true ∧ H' = H + 1 ∧ ∃ j, C[H]? = some j ∧ ti' = item j ∧ (rdP l j).f0 = 5)) ∧
    ((∀ j, j < n → (rdP l j).f0 = 5 ∨ (rdP l j).f0 = 6) → H < C.length → 3 * ((C.length : Int) - H') - ts' + 1 ≤ 3 * ((C.length : Int) - H) - ts) ∧ (H = C.length → H' = H) := by
  have hml := I.hm
  have hcn := I.cn
  have hadr := pos_mod hN H
  have hHm := Nat.mod_lt H (show 0 < N by omega)
  have hlo := I.lo
  have hwr : IntKind.u64.wrap ((H : Int) + 1) = H + 1 := wraps_u64 _ (by omega) (by omega)
  rcases I.tk with rfl | ⟨rfl, h1, h2⟩ | ⟨rfl, h1, h2, h3⟩
  · have hsq : sq m N H = rd m (3 + 2 * 1 + 2 * ((H : Int) % pw s)) := by unfold sq; rw [hadr]
    by_cases h : sq m N H = H + 1
    · have hlt : H < C.length := by
        rcases Nat.lt_or_ge H C.length with h4 | h4
        · exact h4
        · have := I.free H h4 (by omega); omega
      refine ⟨_, _, _, _, sq m N H, true, m, 1, H, ti, false, next_0 hs _ (by omega) (by omega), by rw [hsq]; exact do_load (by omega) (by omega), by simp [givenS, hwr, h], ?_, .inl ⟨rfl, rfl⟩, fun _ _ => by omega, fun _ => rfl⟩
      exact ⟨I.hm, I.hl, I.tail, I.lo, I.hi, I.nd, I.lt, I.its, I.out, I.pos, I.old, I.cur, I.free, .inr (.inl ⟨rfl, hlt, h⟩)⟩
    · refine ⟨_, _, _, _, sq m N H, true, m, 0, H, ti, false, next_0 hs _ (by omega) (by omega), by rw [hsq]; exact do_load (by omega) (by omega), by simp [givenS, hwr, h], I, .inl ⟨rfl, rfl⟩, fun hd hlt => ?_, fun _ => rfl⟩
      have h5 : (C)[H]? = some (C[H]'hlt) := List.getElem?_eq_getElem _
      have hj := I.lt _ (List.mem_of_getElem? h5)
      rcases I.cur H _ h5 (Nat.le_refl _) with ⟨h6, _⟩ | ⟨h6, _⟩ | ⟨_, h6, _⟩
      · rcases hd _ hj with h7 | h7 <;> omega
      · rcases hd _ hj with h7 | h7 <;> omega
      · exact absurd h6 h
  · have h5 : (C)[H]? = some (C[H]'h1) := List.getElem?_eq_getElem _
    have hidx : 3 + 2 * 1 + 2 * ((H : Int) % pw s) + 1 = 6 + 2 * ((H % N : Nat) : Int) := by omega
    have him : im m N H = item (C[H]'h1) := by rcases I.cur H _ h5 (Nat.le_refl _) with ⟨_, _, h⟩ | ⟨_, _, h, _⟩ | ⟨_, _, h⟩ <;> first | exact h | omega
    refine ⟨_, _, _, _, im m N H, true, m, 2, H, im m N H, false, next_1 hs _ (by omega) (by omega), by rw [hidx]; exact do_load (by omega) (by omega), by simp [givenS], ?_, .inl ⟨rfl, rfl⟩, fun _ _ => by omega, fun _ => rfl⟩
    exact ⟨I.hm, I.hl, I.tail, I.lo, I.hi, I.nd, I.lt, I.its, I.out, I.pos, I.old, I.cur, I.free, .inr (.inr ⟨rfl, h1, h2, fun j hj => by rw [h5] at hj; injection hj with hj; rw [him, hj]⟩)⟩
  · have h5 : (C)[H]? = some (C[H]'h1) := List.getElem?_eq_getElem _
    have hst : (rdP l (C[H]'h1)).f0 = 5 := by rcases I.cur H _ h5 (Nat.le_refl _) with ⟨_, _, h⟩ | ⟨_, _, h, _⟩ | ⟨h, _⟩ <;> first | exact h | omega
    have hwr2 : IntKind.u64.wrap ((H : Int) + pw s) = ((H + N : Nat) : Int) := by rw [hN]; exact wraps_u64 _ (by omega) (by omega)
    have hsq := sq_seq hml hN2 H ((H + N : Nat) : Int)
    have him := im_seq hml hN2 H ((H + N : Nat) : Int)
    have hmod : ∀ q, H < q → q < H + N → q % N ≠ H % N := fun q a1 a2 hh => by have := mod_inj (H := H) (N := N) (by omega) a2 (Nat.le_refl _) (by omega) hh; omega
    refine ⟨_, _, _, _, _, true, m.set (5 + 2 * ((H % N : Nat) : Int)).toNat ((H + N : Nat) : Int), 0, H + 1, ti, true, next_2 hs _ (by decide) (by omega) (by omega), by rw [hwr2, ← hadr]; exact do_store (by omega) (by omega) (by omega), by simp [givenS, hwr], ?_, .inr ⟨rfl, rfl, _, h5, h3 _ h5, hst⟩, fun _ _ => by omega, fun h => by omega⟩
    refine ⟨by rw [List.length_set, hml], I.hl, by rw [tail_seq hml hN2]; exact I.tail, h1, by have := I.hi; omega, I.nd, I.lt, I.its, I.out, fun j hj hj2 => ?_, fun p j h hp => ?_, fun p j h hp => ?_, fun p a1 a2 => ?_, .inl rfl⟩
    · obtain ⟨r, r1, r2, r3⟩ := I.pos j hj hj2
      exact ⟨r, r1, r2, fun a b => by have := r3 a b; omega⟩
    · rcases Nat.lt_or_ge p H with h6 | h6
      · exact I.old p j h h6
      · obtain rfl : p = H := by omega
        rw [h5] at h
        injection h with h
        rw [← h]; exact hst
    · have := I.cur p j h (by omega)
      have hpl : p < C.length := (List.getElem?_eq_some_iff.1 h).1
      unfold Own at this ⊢
      rw [hsq, him, if_neg (hmod p (by omega) (by have := I.hi; omega))]
      exact this
    · rw [hsq]
      rcases Nat.lt_or_ge p (H + N) with h6 | h6
      · rw [if_neg (hmod p (by omega) h6)]
        exact I.free p a1 h6
      · obtain rfl : p = H + N := by omega
        rw [if_pos (by rw [Nat.add_mod_right])]
end

end Go.Proofs.Ytcjkjlopbjijaaa.PQ
