/-
  What is retired while a reader holds an epoch is told by no Advance until that reader lets it go: the rounds of EpochHolds.
-/
import Derived.Test.YtjnfllaonkeefaaPHx5
import Derived.Test.YtjnfllaonkeefaaWfEpochHolds
import Derived.Test.YtjnfllaonkeefaaMath
namespace Go.Proofs.Ytjnfllaonkeefaa.epochHolds
set_option linter.unusedVariables false
set_option linter.unusedSimpArgs false
open Go.RowKit Go.Proofs.Ytjnfllaonkeefaa.PH Go.Proofs.YtjnfllaonkeefaaW.PrintWords Go.Proofs.YtjnfllaonkeefaaW.PrintLast Go.Proofs.YtjnfllaonkeefaaW.PrintMore Go.Proofs.YtjnfllaonkeefaaH

abbrev Old := S64
abbrev Act := S42
theorem w64 {i : Int} (h0 : 0 ≤ i) (h1 : i < 4611686018427387904) : wrap64 i = i := by unfold wrap64; omega
/-- Three of a number's bits: less than four. -/
theorem and3 (x : Int) : ∃ r : Nat, r < 4 ∧ Go.bits .and .i64 x 3 = (r : Int) := by
  refine ⟨(BitVec.ofInt 64 x &&& BitVec.ofInt 64 3).toNat, ?_, ?_⟩
  · rw [BitVec.toNat_and]
    exact Nat.lt_of_le_of_lt Nat.and_le_right (by decide)
  · have h : (BitVec.ofInt 64 x &&& BitVec.ofInt 64 3).toNat < 4 := by
      rw [BitVec.toNat_and]
      exact Nat.lt_of_le_of_lt Nat.and_le_right (by decide)
    show IntKind.i64.wrap ((BitVec.ofInt 64 x &&& BitVec.ofInt 64 3).toNat : Int) = _
    rw [show IntKind.i64.wrap ((BitVec.ofInt 64 x &&& BitVec.ofInt 64 3).toNat : Int) = wrap64 ((BitVec.ofInt 64 x &&& BitVec.ofInt 64 3).toNat : Int) from i64_w _]
    exact w64 (by omega) (by omega)
/-- Who held something, of a handle: one of four readers. -/
def cel (s : S60) (q : Nat) : Bool := match q with | 0 => s.f0 | 1 => s.f1 | 2 => s.f2 | _ => s.f3
def clr (s : S60) (q : Nat) : S60 := match q with | 0 => ⟨false, s.f1, s.f2, s.f3⟩ | 1 => ⟨s.f0, false, s.f2, s.f3⟩ | 2 => ⟨s.f0, s.f1, false, s.f3⟩ | _ => ⟨s.f0, s.f1, s.f2, false⟩
theorem cel_clr (s : S60) (r q : Nat) (hr : r < 4) (hq : q < 4) (h : cel (clr s r) q = true) : cel s q = true ∧ q ≠ r := by
  match r, q, hr, hq with
  | 0, 0, _, _ => cases h
  | 0, 1, _, _ => exact ⟨h, by decide⟩
  | 0, 2, _, _ => exact ⟨h, by decide⟩
  | 0, 3, _, _ => exact ⟨h, by decide⟩
  | 1, 0, _, _ => exact ⟨h, by decide⟩
  | 1, 1, _, _ => cases h
  | 1, 2, _, _ => exact ⟨h, by decide⟩
  | 1, 3, _, _ => exact ⟨h, by decide⟩
  | 2, 0, _, _ => exact ⟨h, by decide⟩
  | 2, 1, _, _ => exact ⟨h, by decide⟩
  | 2, 2, _, _ => cases h
  | 2, 3, _, _ => exact ⟨h, by decide⟩
  | 3, 0, _, _ => exact ⟨h, by decide⟩
  | 3, 1, _, _ => exact ⟨h, by decide⟩
  | 3, 2, _, _ => exact ⟨h, by decide⟩
  | 3, 3, _, _ => cases h
def hd (held : List S60) (h q : Nat) : Bool := cel (held.getD h z60) q
theorem rd60 (held : List S60) (h : Nat) : rd_T60 held (h : Int) = held.getD h z60 := by unfold rd_T60; rw [Int.toNat_natCast]
theorem hd_out {held : List S60} {h q : Nat} (hh : held.length ≤ h) (hq : q < 4) : hd held h q = false := by
  unfold hd
  rw [List.getD_eq_getElem?_getD, List.getElem?_eq_none hh]
  match q, hq with
  | 0, _ => rfl
  | 1, _ => rfl
  | 2, _ => rfl
  | 3, _ => rfl
theorem hd_set {held : List S60} {j : Nat} (hj : j < held.length) (s : S60) (h q : Nat) : hd (held.set j s) h q = if h = j then cel s q else hd held h q := by
  unfold hd
  rw [List.getD_eq_getElem?_getD, List.getD_eq_getElem?_getD]
  by_cases c : h = j
  · subst c
    rw [if_pos rfl, List.getElem?_set_self hj]
    rfl
  · rw [if_neg c, List.getElem?_set_ne (fun e => c e.symm)]
theorem hd_append {held : List S60} (s : S60) (h q : Nat) (hh : h < held.length) : hd (held ++ [s]) h q = hd held h q := by
  unfold hd
  rw [List.getD_eq_getElem?_getD, List.getD_eq_getElem?_getD, List.getElem?_append_left hh]
theorem hd_last {held : List S60} (s : S60) (q : Nat) : hd (held ++ [s]) held.length q = cel s q := by
  unfold hd
  rw [List.getD_eq_getElem?_getD, List.getElem?_append_right (Nat.le_refl _), Nat.sub_self]
  rfl
theorem rd_nat (p : List Int) (q : Nat) : rd p (q : Int) = p.getD q 0 := by unfold rd; rw [Int.toNat_natCast]
theorem rd_set {p : List Int} {r : Nat} (hr : r < p.length) (v : Int) (q : Nat) : rd (p.set r v) (q : Int) = if q = r then v else rd p (q : Int) := by
  rw [rd_nat, rd_nat, List.getD_eq_getElem?_getD, List.getD_eq_getElem?_getD]
  by_cases c : q = r
  · subst c
    rw [if_pos rfl, List.getElem?_set_self hr]
    rfl
  · rw [if_neg c, List.getElem?_set_ne (fun e => c e.symm)]
theorem rd_mem {p : List Int} {q : Nat} (hq : q < p.length) : rd p (q : Int) ∈ p := by
  rw [rd_nat, List.getD_eq_getElem?_getD, List.getElem?_eq_getElem hq]
  exact List.getElem_mem hq
/-- What holds between two rounds. -/
structure Inv (now : Int) (pins : List Int) (l : List Old) (held : List S60) : Prop where
  len : pins.length = 4
  pin : ∀ p ∈ pins, 0 ≤ p ∧ p ≤ now + 1
  old : ∀ o ∈ l, 0 ≤ o.f0 ∧ o.f0 ≤ now ∧ o.f1.f1 = [] ∧ ∃ h : Nat, o.f1.f0 = [(h : Int)] ∧ h < held.length ∧ ∀ q, q < 4 → hd held h q = true → rd pins (q : Int) ≠ 0 ∧ rd pins (q : Int) ≤ o.f0 + 1
def flat (l : List Old) : List Int := l.flatMap (fun o => o.f1.f0)
theorem flat_length {l : List Old} (h : ∀ o ∈ l, o.f1.f0.length = 1) : (flat l).length = l.length := by
  induction l with
  | nil => rfl
  | cons a l ih =>
    have h1 := h a (List.mem_cons_self)
    have h2 := ih (fun o ho => h o (List.mem_cons_of_mem _ ho))
    simp only [flat, List.flatMap_cons, List.length_append, List.length_cons] at *
    omega
theorem adv_loop (now : Int) (pins : List Int) (l : List Old) (hn0 : 0 ≤ now) (hn1 : now < 1000) (hone : ∀ o ∈ l, o.f1.f1 = [] ∧ o.f1.f0.length = 1) (hlo : ∀ o ∈ l, 0 ≤ o.f0 ∧ o.f0 ≤ now) (hl : l.length ≤ 200) :
    ∀ (d k i : Nat) (cs : List Int), i + d = l.length → d + 1 ≤ k → cs.length ≤ i →
      ∃ j, i ≤ j ∧ j ≤ l.length ∧ epoch_Advance.l0 k i now pins l cs [] = some (now, pins, l.drop j, cs ++ flat ((l.take j).drop i), [], true) ∧ (∀ o ∈ (l.take j).drop i, 2 ≤ now - o.f0) := by
  intro d
  induction d with
  | zero =>
    intro k i cs he hk hc
    obtain ⟨k, rfl⟩ : ∃ k', k = k' + 1 := ⟨k - 1, by omega⟩
    have e0 : (l.take i).drop i = [] := by simp
    refine ⟨i, Nat.le_refl _, by omega, ?_, fun o ho => by rw [e0] at ho; cases ho⟩
    rw [epoch_Advance.l0, if_neg (by omega), if_pos (by omega), if_pos (by omega), e0]
    simp [flat]
  | succ d ih =>
    intro k i cs he hk hc
    obtain ⟨k, rfl⟩ : ∃ k', k = k' + 1 := ⟨k - 1, by omega⟩
    have hi : i < l.length := by omega
    have hrd : rd_T64 l (i : Int) = l[i] := by
      unfold rd_T64
      rw [Int.toNat_natCast, List.getD_eq_getElem?_getD, List.getElem?_eq_getElem hi]
      rfl
    have hm := List.getElem_mem hi
    have h1 := hone _ hm
    have h2 := hlo _ hm
    rw [epoch_Advance.l0, if_pos (by omega), if_pos (by omega), hrd, wraps_u64 _ (by omega) (by omega), h1.1]
    by_cases c : now - (l[i]).f0 ≥ 2
    · rw [if_pos c, if_pos (by omega), if_pos (by simp), w64 (by omega) (by omega)]
      obtain ⟨j, hj1, hj2, hj3, hj4⟩ := ih k (i + 1) (cs ++ (l[i]).f1.f0) (by omega) (by omega) (by rw [List.length_append]; omega)
      have e1 : (l.take j).drop i = l[i] :: (l.take j).drop (i + 1) := by
        rw [List.drop_eq_getElem_cons (by rw [List.length_take]; omega), List.getElem_take]
      refine ⟨j, by omega, hj2, ?_, fun o ho => ?_⟩
      · rw [List.append_nil, show ((i : Int) + 1) = ((i + 1 : Nat) : Int) from rfl, hj3, e1]
        simp [flat]
      · rw [e1] at ho
        rcases List.mem_cons.1 ho with rfl | ho
        · exact c
        · exact hj4 o ho
    · have e0 : (l.take i).drop i = [] := by simp
      rw [if_neg c, if_pos (by omega)]
      refine ⟨i, Nat.le_refl _, by omega, ?_, fun o ho => by rw [e0] at ho; cases ho⟩
      rw [e0]
      simp [flat]
/-- An Advance: nothing, or what was left two epochs ago, which nobody holds. -/
theorem advance_some {now : Int} {pins : List Int} {l : List Old} {held : List S60} (h : Inv now pins l held) (hn0 : 0 ≤ now) (hn1 : now < 900) (hl : l.length ≤ 200) {k : Nat} (hk : l.length + 1 ≤ k) :
    ∃ now' l' rs b, epoch_Advance.f k now pins l = some (now', pins, l', rs, [], b) ∧ Inv now' pins l' held ∧ 0 ≤ now' ∧ now' ≤ now + 1 ∧ l'.length ≤ l.length ∧ rs.length ≤ l.length ∧ (∀ x ∈ rs, ∃ g : Nat, x = (g : Int) ∧ g < held.length ∧ ∀ q, q < 4 → hd held g q = false) := by
  unfold epoch_Advance.f epoch_May.f
  simp only [Option.bind_some]
  cases hp : pins.all (pinMay now) with
  | false => exact ⟨now, l, [], false, by simp, h, hn0, by omega, Nat.le_refl _, by simp, fun x hx => by cases hx⟩
  | true =>
    rw [if_pos rfl, wraps_u64 (now + 1) (by omega) (by omega)]
    have hone : ∀ o ∈ l, o.f1.f1 = [] ∧ o.f1.f0.length = 1 := fun o ho => by
      obtain ⟨_, _, h3, g, h4, _⟩ := h.old o ho
      exact ⟨h3, by rw [h4]; rfl⟩
    obtain ⟨j, _, hj2, hj3, hj4⟩ := adv_loop (now + 1) pins l (by omega) (by omega) hone (fun o ho => by have := h.old o ho; omega) hl l.length k 0 [] (by omega) hk (by simp)
    have e0 : (l.take j).drop 0 = l.take j := rfl
    rw [e0] at hj3 hj4
    refine ⟨now + 1, l.drop j, flat (l.take j), true, ?_, ?_, by omega, by omega, by rw [List.length_drop]; omega, ?_, ?_⟩
    · have : ((0 : Nat) : Int) = 0 := rfl
      rw [this] at hj3
      simpa using hj3
    · refine ⟨h.len, fun p hp => by have := h.pin p hp; omega, fun o ho => ?_⟩
      obtain ⟨h1, h2, h3⟩ := h.old o (List.mem_of_mem_drop ho)
      exact ⟨h1, by omega, h3⟩
    · rw [flat_length (fun o ho => (hone o (List.mem_of_mem_take ho)).2), List.length_take]; omega
    · intro x hx
      obtain ⟨o, ho, hxo⟩ := List.mem_flatMap.1 hx
      obtain ⟨h1, h2, h3, g, h4, h5, h6⟩ := h.old o (List.mem_of_mem_take ho)
      rw [h4, List.mem_singleton] at hxo
      refine ⟨g, hxo, h5, fun q hq => ?_⟩
      cases hc : hd held g q with
      | false => rfl
      | true =>
        obtain ⟨h7, h8⟩ := h6 q hq hc
        have h9 := hj4 o ho
        have hm := rd_mem (p := pins) (q := q) (by rw [h.len]; exact hq)
        have h10 := List.all_eq_true.1 hp _ hm
        have h11 := h.pin _ hm
        unfold pinMay at h10
        rw [wraps_u64 _ (by omega) (by omega)] at h10
        rcases Bool.or_eq_true _ _ ▸ h10 with h10 | h10
        · exact absurd (beq_iff_eq.1 h10) h7
        · have := beq_iff_eq.1 h10
          omega
theorem pin_some {now : Int} {pins : List Int} {l : List Old} {held : List S60} (h : Inv now pins l held) (hn0 : 0 ≤ now) (hn1 : now < 900) (r : Nat) (hr : r < 4) (s : Int) (hs : 0 ≤ s) :
    ∃ p b, epoch_Pin.f now pins l r s = some (now, p, l, b) ∧ Inv now p l held := by
  unfold epoch_Pin.f
  rw [if_neg (by rw [h.len]; omega), if_pos (by rw [h.len]; omega), Int.toNat_natCast]
  split
  · rename_i c
    rw [wraps_u64 _ (by omega) (by omega)]
    refine ⟨_, _, rfl, by rw [List.length_set]; exact h.len, fun p hp => ?_, fun o ho => ?_⟩
    · rcases List.mem_or_eq_of_mem_set hp with hp | hp
      · exact h.pin p hp
      · omega
    · obtain ⟨h1, h2, h3, g, h4, h5, h6⟩ := h.old o ho
      refine ⟨h1, h2, h3, g, h4, h5, fun q hq hc => ?_⟩
      have h7 := h6 q hq hc
      rw [rd_set (by rw [h.len]; exact hr)]
      by_cases e : q = r
      · subst e
        exact absurd c.1 h7.1
      · rw [if_neg e]
        exact h7
  · exact ⟨_, _, rfl, h⟩
theorem unpin_some {now : Int} {pins : List Int} {l : List Old} {held held' : List S60} (h : Inv now pins l held) (hn0 : 0 ≤ now) (r : Nat) (hr : r < 4) (hlen : held'.length = held.length) (hh : ∀ g q, q < 4 → hd held' g q = true → hd held g q = true ∧ q ≠ r) :
    ∃ p b, epoch_Unpin.f now pins l r = some (now, p, l, b) ∧ Inv now p l held' := by
  have old : ∀ p : List Int, (∀ q : Nat, q ≠ r → rd p (q : Int) = rd pins (q : Int)) → ∀ o ∈ l, 0 ≤ o.f0 ∧ o.f0 ≤ now ∧ o.f1.f1 = [] ∧ ∃ h : Nat, o.f1.f0 = [(h : Int)] ∧ h < held'.length ∧ ∀ q, q < 4 → hd held' h q = true → rd p (q : Int) ≠ 0 ∧ rd p (q : Int) ≤ o.f0 + 1 := by
    intro p hp o ho
    obtain ⟨h1, h2, h3, g, h4, h5, h6⟩ := h.old o ho
    refine ⟨h1, h2, h3, g, h4, by omega, fun q hq hc => ?_⟩
    obtain ⟨h7, h8⟩ := hh g q hq hc
    rw [hp q h8]
    exact h6 q hq h7
  unfold epoch_Unpin.f
  rw [if_neg (by rw [h.len]; omega), if_pos (by rw [h.len]; omega), Int.toNat_natCast]
  split
  · refine ⟨_, _, rfl, by rw [List.length_set]; exact h.len, fun p hp => ?_, old _ (fun q hq => by rw [rd_set (by rw [h.len]; exact hr), if_neg hq])⟩
    rcases List.mem_or_eq_of_mem_set hp with hp | hp
    · exact h.pin p hp
    · omega
  · exact ⟨_, _, rfl, h.len, h.pin, old _ (fun _ _ => rfl)⟩
/-- A reader that lets go is taken out of what holds each handle. -/
theorem clears (x0 : List Act) (x5 : Int) (r : Nat) (hr : r < 4) (now : Int) (pins : List Int) (l : List Old) : ∀ (d k j : Nat) (held : List S60), j + d = held.length → held.length ≤ 200 → d + 1 ≤ k →
    ∃ k' held', k' + d + 1 = k ∧ held'.length = held.length ∧ (∀ g q, q < 4 → hd held' g q = true → hd held g q = true ∧ (j ≤ g → q ≠ r)) ∧ treillagelaw14_EpochHolds.l1 k x0 held x5 r j now pins l = treillagelaw14_EpochHolds.l0 k' x0 held' (wrap64 (x5 + 1)) now pins l := by
  intro d
  induction d with
  | zero =>
    intro k j held he hl hk
    obtain ⟨k, rfl⟩ : ∃ k', k = k' + 1 := ⟨k - 1, by omega⟩
    refine ⟨k, held, by omega, rfl, fun g q hq hc => ⟨hc, fun hg => ?_⟩, ?_⟩
    · rw [hd_out (by omega) hq] at hc
      cases hc
    · rw [treillagelaw14_EpochHolds.l1, if_neg (by omega)]
  | succ d ih =>
    intro k j held he hl hk
    obtain ⟨k, rfl⟩ : ∃ k', k = k' + 1 := ⟨k - 1, by omega⟩
    have hj : j < held.length := by omega
    obtain ⟨k', held', g1, g2, g3, g4⟩ := ih k (j + 1) (held.set j (clr (held.getD j z60) r)) (by rw [List.length_set]; omega) (by rw [List.length_set]; exact hl) (by omega)
    refine ⟨k', held', by omega, by rw [g2, List.length_set], fun g q hq hc => ?_, ?_⟩
    · obtain ⟨h1, h2⟩ := g3 g q hq hc
      rw [hd_set hj] at h1
      by_cases e : g = j
      · rw [if_pos e] at h1
        obtain ⟨h3, h4⟩ := cel_clr _ _ _ hr hq h1
        exact ⟨by unfold hd; rw [e]; exact h3, fun _ => h4⟩
      · rw [if_neg e] at h1
        exact ⟨h1, fun hg => h2 (by omega)⟩
    · rw [← g4, treillagelaw14_EpochHolds.l1, if_pos (by omega), if_pos (by omega), if_pos (by omega), if_pos (by omega), w64 (i := (j : Int) + 1) (by omega) (by omega), Int.toNat_natCast, rd60]
      match r, hr with
      | 0, _ => rw [if_pos (by decide)]; rfl
      | 1, _ => rw [if_neg (by decide), if_pos (by decide)]; rfl
      | 2, _ => rw [if_neg (by decide), if_neg (by decide), if_pos (by decide)]; rfl
      | 3, _ => rw [if_neg (by decide), if_neg (by decide), if_neg (by decide)]; rfl
/-- What is told is held by nobody. -/
theorem tells (x0 : List Act) (x5 : Int) (now : Int) (pins : List Int) (l : List Old) (held : List S60) (hl : held.length ≤ 200) (rs : List Int) (hrs : rs.length ≤ 200) (hx : ∀ x ∈ rs, ∃ g : Nat, x = (g : Int) ∧ g < held.length ∧ ∀ q, q < 4 → hd held g q = false) : ∀ (d k j : Nat), j + d = rs.length → d + 1 ≤ k →
    ∃ k', k' + d + 1 = k ∧ treillagelaw14_EpochHolds.l3 k x0 held x5 j now pins l rs [] = treillagelaw14_EpochHolds.l0 k' x0 held (wrap64 (x5 + 1)) now pins l := by
  intro d
  induction d with
  | zero =>
    intro k j he hk
    obtain ⟨k, rfl⟩ : ∃ k', k = k' + 1 := ⟨k - 1, by omega⟩
    exact ⟨k, by omega, by rw [treillagelaw14_EpochHolds.l3, if_neg (by omega)]⟩
  | succ d ih =>
    intro k j he hk
    obtain ⟨k, rfl⟩ : ∃ k', k = k' + 1 := ⟨k - 1, by omega⟩
    obtain ⟨k', g1, g2⟩ := ih k (j + 1) (by omega) (by omega)
    refine ⟨k', by omega, ?_⟩
    obtain ⟨g, h1, h2, h3⟩ := hx _ (rd_mem (p := rs) (q := j) (by omega))
    have h0 := h3 0 (by decide)
    have h01 := h3 1 (by decide)
    have h02 := h3 2 (by decide)
    have h03 := h3 3 (by decide)
    have f0 : (held.getD g z60).f0 = false := h0
    have f1 : (held.getD g z60).f1 = false := h01
    have f2 : (held.getD g z60).f2 = false := h02
    have f3 : (held.getD g z60).f3 = false := h03
    rw [treillagelaw14_EpochHolds.l3, if_pos (by omega), if_pos (by omega), h1, wraps_u64 _ (by omega) (by omega), if_neg (by omega), if_pos (by omega), if_pos (by omega), rd60, f0, f1, f2, f3, if_neg (by decide), w64 (by omega) (by omega)]
    exact g2
theorem retire_eq (now : Int) (pins : List Int) (l : List Old) (x : Int) (hl : l.length ≤ 200) : epoch_Retire.f now pins l [x] [] = some (now, pins, l ++ [⟨now, ⟨[x], []⟩⟩]) := by
  unfold epoch_Retire.f
  rw [if_neg (by simp), if_pos (by omega)]
theorem retires (x0 : List Act) (x5 : Int) (now : Int) (pins : List Int) (l : List Old) (held : List S60) (hp : pins.length = 4) (hl : l.length ≤ 200) (hh : held.length ≤ 200) (k : Nat) :
    treillagelaw14_EpochHolds.l2 (k + 5) x0 held x5 0 now pins l false false false false = treillagelaw14_EpochHolds.l0 k x0 (held ++ [⟨rd pins 0 != 0, rd pins 1 != 0, rd pins 2 != 0, rd pins 3 != 0⟩]) (wrap64 (x5 + 1)) now pins (l ++ [⟨now, ⟨[(held.length : Int)], []⟩⟩]) := by
  rw [treillagelaw14_EpochHolds.l2, if_pos (by decide), if_pos (by decide), if_pos (by rw [hp]; decide), if_pos rfl, show wrap64 (0 + 1) = 1 from by unfold wrap64; omega]
  rw [treillagelaw14_EpochHolds.l2, if_pos (by decide), if_pos (by decide), if_pos (by rw [hp]; decide), if_neg (by decide), if_pos rfl, show wrap64 (1 + 1) = 2 from by unfold wrap64; omega]
  rw [treillagelaw14_EpochHolds.l2, if_pos (by decide), if_pos (by decide), if_pos (by rw [hp]; decide), if_neg (by decide), if_neg (by decide), if_pos rfl, show wrap64 (2 + 1) = 3 from by unfold wrap64; omega]
  rw [treillagelaw14_EpochHolds.l2, if_pos (by decide), if_pos (by decide), if_pos (by rw [hp]; decide), if_neg (by decide), if_neg (by decide), if_neg (by decide), show wrap64 (3 + 1) = 4 from by unfold wrap64; omega]
  rw [treillagelaw14_EpochHolds.l2, if_neg (by decide), wraps_u64 _ (by omega) (by omega), retire_eq now pins l _ hl]
  simp only [Option.bind_some]
  rw [if_pos (by omega)]
theorem wrap_ge (x : Int) : 0 ≤ IntKind.u64.wrap x := by rw [IntKind.wrap_u64]; exact Int.emod_nonneg _ (by decide)
theorem goes (x0 : List Act) (hx : x0.length ≤ 100) : ∀ (d k i : Nat) (pins : List Int) (l : List Old) (now : Int) (held : List S60), i + d = x0.length → (d + 1) * 300 ≤ k → Inv now pins l held → 0 ≤ now → now ≤ i → l.length ≤ i → held.length ≤ i →
    treillagelaw14_EpochHolds.l0 k x0 held i now pins l = some true := by
  intro d
  induction d with
  | zero =>
    intro k i pins l now held he hk hi h0 h1 hl hm
    obtain ⟨k, rfl⟩ : ∃ k', k = k' + 1 := ⟨k - 1, by omega⟩
    rw [treillagelaw14_EpochHolds.l0, if_neg (by omega)]
  | succ d ih =>
    intro k i pins l now held he hk hi h0 h1 hl hm
    obtain ⟨k, rfl⟩ : ∃ k', k = k' + 1 := ⟨k - 1, by omega⟩
    obtain ⟨D, hD⟩ : ∃ D, D = (d + 1) * 300 := ⟨_, rfl⟩
    have hk3 : D + 299 ≤ k := by omega
    clear hk
    have next : ∀ (k' : Nat) (pins' : List Int) (l' : List Old) (now' : Int) (held' : List S60), D ≤ k' → Inv now' pins' l' held' → 0 ≤ now' → now' ≤ (i : Int) + 1 → l'.length ≤ i + 1 → held'.length ≤ i + 1 → treillagelaw14_EpochHolds.l0 k' x0 held' ((i : Int) + 1) now' pins' l' = some true :=
      fun k' pins' l' now' held' g1 g2 g3 g4 g5 g6 => ih k' (i + 1) pins' l' now' held' (by omega) (hD ▸ g1) g2 g3 (by omega) g5 g6
    clear hD
    have hn9 : now < 900 := by omega
    have hn1 : now ≤ (i : Int) + 1 := by omega
    have hl1 : l.length ≤ i + 1 := by omega
    have hm1 : held.length ≤ i + 1 := by omega
    have hD1 : D ≤ k := by omega
    obtain ⟨r, hr, er⟩ := and3 (rd_T42 x0 i).f1
    rw [treillagelaw14_EpochHolds.l0, if_pos (by omega), if_pos (by omega), if_pos (by rw [hi.len]; decide), er]
    clear er
    have ew : Unit → wrap64 ((i : Int) + 1) = (i : Int) + 1 := fun _ => w64 (by omega) (by omega)
    split
    · obtain ⟨p, b, e, hp'⟩ := pin_some hi h0 hn9 r hr (IntKind.u64.wrap (now - (mn now (Int.tmod ((rd_T42 x0 i).f2) 2)))) (wrap_ge _)
      rw [e]
      simp only [Option.bind_some]
      rw [ew ()]
      exact next k p l now held hD1 hp' h0 hn1 hl1 hm1
    · split
      · obtain ⟨k', held', g1, g2, g3, _⟩ := clears x0 i r hr now pins l held.length k 0 held (by omega) (by omega) (by omega)
        obtain ⟨p, b, e, hp'⟩ := unpin_some hi h0 r hr g2 (fun g q hq hc => ⟨(g3 g q hq hc).1, (g3 g q hq hc).2 (Nat.zero_le _)⟩)
        rw [e]
        simp only [Option.bind_some]
        obtain ⟨k2, held2, f1, f2, f3, f4⟩ := clears x0 i r hr now p l held.length k 0 held (by omega) (by omega) (by omega)
        obtain ⟨p2, b2, e2, hp2⟩ := unpin_some hi h0 r hr f2 (fun g q hq hc => ⟨(f3 g q hq hc).1, (f3 g q hq hc).2 (Nat.zero_le _)⟩)
        rw [e] at e2
        have ep : p = p2 := congrArg (fun z => z.2.1) (Option.some.inj e2)
        rw [show (0 : Int) = ((0 : Nat) : Int) from rfl, f4, ew ()]
        exact next k2 p l now held2 (by omega) (by rw [ep]; exact hp2) h0 (by omega) (by omega) (by omega)
      · split
        · obtain ⟨k, rfl⟩ : ∃ k', k = k' + 5 := ⟨k - 5, by omega⟩
          rw [retires x0 i now pins l held hi.len (by omega) (by omega) k, ew ()]
          refine next k pins _ now _ (by omega) ⟨hi.len, hi.pin, fun o ho => ?_⟩ h0 (by omega) (by rw [List.length_append]; simp; omega) (by rw [List.length_append]; simp; omega)
          rcases List.mem_append.1 ho with ho | ho
          · obtain ⟨h1, h2, h3, g, h4, h5, h6⟩ := hi.old o ho
            refine ⟨h1, h2, h3, g, h4, by rw [List.length_append]; omega, fun q hq hc => ?_⟩
            rw [hd_append _ _ _ h5] at hc
            exact h6 q hq hc
          · rw [List.mem_singleton.1 ho]
            refine ⟨h0, Int.le_refl _, rfl, held.length, rfl, by rw [List.length_append]; simp, fun q hq hc => ?_⟩
            rw [hd_last] at hc
            have hb : rd pins (q : Int) ≤ now + 1 := (hi.pin _ (rd_mem (by rw [hi.len]; exact hq))).2
            refine ⟨?_, hb⟩
            match q, hq with
            | 0, _ => exact bne_iff_ne.1 hc
            | 1, _ => exact bne_iff_ne.1 hc
            | 2, _ => exact bne_iff_ne.1 hc
            | 3, _ => exact bne_iff_ne.1 hc
        · obtain ⟨now', l', rs, b, ha, hi', hn1, hn2, hl', hrs, hx'⟩ := advance_some hi h0 (by omega) (by omega) (show l.length + 1 ≤ k by omega)
          rw [ha]
          simp only [Option.bind_some]
          obtain ⟨k', g1, g2⟩ := tells x0 i now' pins l' held (by omega) rs (by omega) hx' rs.length k 0 (by omega) (by omega)
          rw [show (0 : Int) = ((0 : Nat) : Int) from rfl, g2, ew ()]
          exact next k' pins l' now' held (by omega) hi' hn1 (by omega) (by omega) (by omega)
theorem bounded_some (l : List Act) (hl : l.length ≤ 4611686018427387903) : ∀ (d k i : Nat), i + d = l.length → d + 1 ≤ k → ∃ b, treillagelaw14_bounded.l0 k l i = some b ∧ (b = true → l.length ≤ 100) := by
  intro d
  induction d with
  | zero =>
    intro k i he hk
    obtain ⟨k, rfl⟩ : ∃ k', k = k' + 1 := ⟨k - 1, by omega⟩
    rw [treillagelaw14_bounded.l0, if_neg (by omega)]
    exact ⟨_, rfl, fun h => by have := of_decide_eq_true h; omega⟩
  | succ d ih =>
    intro k i he hk
    obtain ⟨k, rfl⟩ : ∃ k', k = k' + 1 := ⟨k - 1, by omega⟩
    rw [treillagelaw14_bounded.l0, if_pos (by omega), if_pos (by omega), w64 (i := (i : Int) + 1) (by omega) (by omega)]
    split
    · exact ⟨false, rfl, fun h => by cases h⟩
    · exact ih k (i + 1) (by omega) (by omega)
theorem pure : ∀ (x0 : List Act), (x0.length * Try.prog.bytesOf 42 ≤ 140737488351232 ∧ ∀ y0_ ∈ x0, wf42 y0_) → ∃ k : Nat, PH.treillagelaw14_EpochHolds.f k x0 = some true := by
  intro x0 hx
  have hlen : x0.length ≤ 4611686018427387903 := by
    have := hx.1
    rw [bytes42] at this
    omega
  obtain ⟨K, hK⟩ : ∃ K, K = (x0.length + 1) * 300 := ⟨_, rfl⟩
  refine ⟨K + 1, ?_⟩
  unfold treillagelaw14_EpochHolds.f treillagelaw14_bounded.f
  obtain ⟨b, hb, hb2⟩ := bounded_some x0 hlen x0.length (K + 1) 0 (by omega) (by omega)
  have hb' : treillagelaw14_bounded.l0 (K + 1) x0 0 = some b := hb
  rw [hb']
  have hs : treillagelaw14_shown.f = some true := rfl
  cases b with
  | false =>
    simp only [Option.bind_some, Bool.false_eq_true, if_false]
    rw [treillagelaw14_EpochHolds.j0, if_pos rfl, hs]
    rfl
  | true =>
    simp only [Option.bind_some, if_true, hs, Bool.not_true]
    rw [treillagelaw14_EpochHolds.j0, if_neg (by simp), show epoch_New.f 4 = some (0, [0, 0, 0, 0], []) from rfl]
    simp only [Option.bind_some]
    exact goes x0 (hb2 rfl) x0.length K 0 [0, 0, 0, 0] [] 0 [] (by omega) (by omega) ⟨rfl, fun p hp => (by simp at hp; omega), fun o ho => (by cases ho)⟩ (by omega) (by omega) (by simp) (by simp)
end Go.Proofs.Ytjnfllaonkeefaa.epochHolds
