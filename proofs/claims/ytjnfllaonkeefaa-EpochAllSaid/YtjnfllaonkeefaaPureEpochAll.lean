/-
  When nobody holds anything two Advances tell all that waits, each once, in its order: the rounds of EpochAll.
-/
import Derived.Test.YtjnfllaonkeefaaPEx4
import Derived.Test.YtjnfllaonkeefaaWfEpochAll
import Derived.Test.YtjnfllaonkeefaaMath
namespace Go.Proofs.Ytjnfllaonkeefaa.epochAll
set_option linter.unusedVariables false
set_option linter.unusedSimpArgs false
open Go.RowKit Go.Proofs.Ytjnfllaonkeefaa.PE Go.Proofs.YtjnfllaonkeefaaW.PrintWords Go.Proofs.YtjnfllaonkeefaaW.PrintLast Go.Proofs.YtjnfllaonkeefaaW.PrintMore Go.Proofs.YtjnfllaonkeefaaH

abbrev Old := S64
abbrev Act := S42
theorem w64 {i : Int} (h0 : 0 ≤ i) (h1 : i < 4611686018427387904) : wrap64 i = i := by unfold wrap64; omega
/-- What waits: handles of chunks alone, one each, from epochs that rise; none older than the epoch before. -/
structure Waits (now : Int) (l : List Old) : Prop where
  one : ∀ o ∈ l, o.f1.f0 = [] ∧ o.f1.f1.length = 1
  lo : ∀ o ∈ l, 0 ≤ o.f0 ∧ now - 1 ≤ o.f0 ∧ o.f0 ≤ now
  up : l.Pairwise (fun a b => a.f0 ≤ b.f0)
def flat (l : List Old) : List Int := l.flatMap (fun o => o.f1.f1)
theorem flat_length {l : List Old} (h : ∀ o ∈ l, o.f1.f1.length = 1) : (flat l).length = l.length := by
  induction l with
  | nil => rfl
  | cons a l ih =>
    have h1 := h a (List.mem_cons_self)
    have h2 := ih (fun o ho => h o (List.mem_cons_of_mem _ ho))
    simp only [flat, List.flatMap_cons, List.length_append, List.length_cons] at *
    omega
theorem adv_loop (now : Int) (pins : List Int) (l : List Old) (hn0 : 0 ≤ now) (hn1 : now < 1000) (hone : ∀ o ∈ l, o.f1.f0 = [] ∧ o.f1.f1.length = 1) (hlo : ∀ o ∈ l, 0 ≤ o.f0 ∧ o.f0 ≤ now) (hl : l.length ≤ 200) :
    ∀ (d k i : Nat) (cs : List Int), i + d = l.length → d + 1 ≤ k → cs.length ≤ i →
      ∃ j, i ≤ j ∧ j ≤ l.length ∧ epoch_Advance.l0 k i now pins l [] cs = some (now, pins, l.drop j, [], cs ++ flat ((l.take j).drop i), true) ∧ (∀ h : j < l.length, now - (l[j]).f0 < 2) := by
  intro d
  induction d with
  | zero =>
    intro k i cs he hk hc
    obtain ⟨k, rfl⟩ : ∃ k', k = k' + 1 := ⟨k - 1, by omega⟩
    refine ⟨i, Nat.le_refl _, by omega, ?_, fun h => by omega⟩
    rw [epoch_Advance.l0, if_neg (by omega), if_pos (by omega), if_pos (by omega)]
    have : (l.take i).drop i = [] := by simp
    rw [this]
    simp [flat]
  | succ d ih =>
    intro k i cs he hk hc
    obtain ⟨k, rfl⟩ : ∃ k', k = k' + 1 := ⟨k - 1, by omega⟩
    have hi : i < l.length := by omega
    have hrd : rd_T64 l (i : Int) = l[i] := by
      unfold rd_T64
      rw [Int.toNat_natCast, List.getD_eq_getElem?_getD, List.getElem?_eq_getElem hi]
      rfl
    have hm := List.getElem_mem hi
    have h1 := hone _ hm
    have h2 := hlo _ hm
    rw [epoch_Advance.l0, if_pos (by omega), if_pos (by omega), hrd, wraps_u64 _ (by omega) (by omega), h1.1]
    by_cases c : now - (l[i]).f0 ≥ 2
    · rw [if_pos c, if_pos (by simp), if_pos (by omega), w64 (by omega) (by omega)]
      obtain ⟨j, hj1, hj2, hj3, hj4⟩ := ih k (i + 1) (cs ++ (l[i]).f1.f1) (by omega) (by omega) (by rw [List.length_append]; omega)
      refine ⟨j, by omega, hj2, ?_, hj4⟩
      rw [List.append_nil, show ((i : Int) + 1) = ((i + 1 : Nat) : Int) from rfl, hj3]
      have : (l.take j).drop i = l[i] :: (l.take j).drop (i + 1) := by
        rw [List.drop_eq_getElem_cons (by rw [List.length_take]; omega), List.getElem_take]
      rw [this]
      simp [flat]
    · rw [if_neg c, if_pos (by omega)]
      refine ⟨i, Nat.le_refl _, by omega, ?_, fun _ => by omega⟩
      have : (l.take i).drop i = [] := by simp
      rw [this]
      simp [flat]
theorem waits_drop {now : Int} {l : List Old} (h : Waits now l) {j : Nat} (hj : ∀ hh : j < l.length, (now + 1) - (l[j]).f0 < 2) : Waits (now + 1) (l.drop j) := by
  refine ⟨fun o ho => h.one o (List.mem_of_mem_drop ho), fun o ho => ?_, h.up.drop⟩
  have hm := List.mem_of_mem_drop ho
  have h1 := h.lo o hm
  refine ⟨h1.1, ?_, by omega⟩
  have hlt : j < l.length := by
    rcases Nat.lt_or_ge j l.length with hlt | hge
    · exact hlt
    · rw [List.drop_eq_nil_of_le hge] at ho; cases ho
  have h2 := hj hlt
  have hup := h.up.drop (i := j)
  rw [List.drop_eq_getElem_cons hlt] at ho hup
  rcases List.mem_cons.1 ho with rfl | ho
  · omega
  · have := (List.pairwise_cons.1 hup).1 o ho
    omega
theorem advance_some {now : Int} {pins : List Int} {l : List Old} (h : Waits now l) (hn0 : 0 ≤ now) (hn1 : now < 900) (hl : l.length ≤ 200) {k : Nat} (hk : l.length + 1 ≤ k) :
    (pins.all (pinMay now) = false ∧ epoch_Advance.f k now pins l = some (now, pins, l, [], [], false)) ∨
    (pins.all (pinMay now) = true ∧ ∃ j, j ≤ l.length ∧ epoch_Advance.f k now pins l = some (now + 1, pins, l.drop j, [], flat (l.take j), true) ∧ Waits (now + 1) (l.drop j) ∧ ((∀ o ∈ l, o.f0 < now) → l.drop j = [])) := by
  unfold epoch_Advance.f epoch_May.f
  simp only [Option.bind_some]
  cases hp : pins.all (pinMay now) with
  | false => exact .inl ⟨rfl, by simp⟩
  | true =>
    refine .inr ⟨rfl, ?_⟩
    rw [if_pos rfl, wraps_u64 (now + 1) (by omega) (by omega)]
    obtain ⟨j, _, hj2, hj3, hj4⟩ := adv_loop (now + 1) pins l (by omega) (by omega) h.one (fun o ho => by have := h.lo o ho; omega) hl l.length k 0 [] (by omega) hk (by simp)
    refine ⟨j, hj2, ?_, waits_drop h hj4, fun hold => ?_⟩
    · have : ((0 : Nat) : Int) = 0 := rfl
      rw [this] at hj3
      simpa using hj3
    · rcases Nat.lt_or_ge j l.length with hlt | hge
      · have h1 := hj4 hlt
        have h2 := hold _ (List.getElem_mem hlt)
        omega
      · exact List.drop_eq_nil_of_le hge
theorem pin_some (now : Int) (pins : List Int) (l : List Old) (r s : Int) (hp : pins.length = 4) : ∃ p b, epoch_Pin.f now pins l r s = some (now, p, l, b) ∧ p.length = 4 := by
  unfold epoch_Pin.f
  split
  · exact ⟨_, _, rfl, hp⟩
  · rw [if_pos (by omega)]
    split
    · exact ⟨_, _, rfl, by rw [List.length_set]; exact hp⟩
    · exact ⟨_, _, rfl, hp⟩
theorem unpin_some (now : Int) (pins : List Int) (l : List Old) (r : Int) (hp : pins.length = 4) : ∃ p b, epoch_Unpin.f now pins l r = some (now, p, l, b) ∧ p.length = 4 ∧ (0 ≤ r → r < 4 → p = pins.set r.toNat 0) := by
  unfold epoch_Unpin.f
  split
  · exact ⟨_, _, rfl, hp, fun h1 h2 => by omega⟩
  · rename_i hr
    rw [if_pos (by omega)]
    split
    · exact ⟨_, _, rfl, by rw [List.length_set]; exact hp, fun _ _ => rfl⟩
    · rename_i h
      refine ⟨_, _, rfl, hp, fun h1 h2 => ?_⟩
      have h := Classical.not_not.mp h
      unfold rd at h
      rw [List.getD_eq_getElem?_getD, List.getElem?_eq_getElem (by omega)] at h
      have h : pins[r.toNat]'(by omega) = 0 := h
      rw [← h, List.set_getElem_self]

def seq (m : Nat) : List Int := (List.range m).map (fun i => ((i + 1 : Nat) : Int))
theorem seq_length (m : Nat) : (seq m).length = m := by simp [seq]
theorem seq_rd {m i : Nat} (h : i < m) : rd (seq m) (i : Int) = (i : Int) + 1 := by
  unfold rd seq
  rw [Int.toNat_natCast, List.getD_eq_getElem?_getD]
  simp [h]
theorem seq_succ (m : Nat) : seq (m + 1) = seq m ++ [((m + 1 : Nat) : Int)] := by simp [seq, List.range_succ]
theorem flat_append (a b : List Old) : flat (a ++ b) = flat a ++ flat b := by simp [flat]
theorem flat_split (l : List Old) (j : Nat) : flat (l.take j) ++ flat (l.drop j) = flat l := by rw [← flat_append, List.take_append_drop]
theorem tells (m : Nat) (hm : m ≤ 200) (now : Int) (pins : List Int) : ∀ (d k i : Nat), i + d = m → d + 1 ≤ k → treillagelaw14_EpochAll.l3 k (seq m) ((m : Int) + 1) i now pins [] = some true := by
  intro d
  induction d with
  | zero =>
    intro k i he hk
    obtain ⟨k, rfl⟩ : ∃ k', k = k' + 1 := ⟨k - 1, by omega⟩
    rw [treillagelaw14_EpochAll.l3, seq_length, if_neg (by omega), if_pos (by rfl), show (m : Int) + 1 - 1 = m from by omega]
    simp
  | succ d ih =>
    intro k i he hk
    obtain ⟨k, rfl⟩ : ∃ k', k = k' + 1 := ⟨k - 1, by omega⟩
    rw [treillagelaw14_EpochAll.l3, seq_length, if_pos (by omega), if_pos (by omega), seq_rd (by omega), w64 (by omega) (by omega), wraps_u64 _ (by omega) (by omega), if_pos rfl]
    exact ih k (i + 1) (by omega) (by omega)
theorem all_zero (now : Int) : ([0, 0, 0, 0] : List Int).all (pinMay now) = true := by simp [pinMay]
theorem lasts {now : Int} {l : List Old} (h : Waits now l) (h0 : 0 ≤ now) (h1 : now ≤ 100) (hl : l.length ≤ 100) {told : List Int} {m : Nat} (hm : m ≤ 100) (ht : told ++ flat l = seq m) {k : Nat} (hk : 250 ≤ k) :
    treillagelaw14_EpochAll.l2 k told ((m : Int) + 1) 0 now [0, 0, 0, 0] l = some true := by
  obtain ⟨k, rfl⟩ : ∃ k', k = k' + 3 := ⟨k - 3, by omega⟩
  have hlen : told.length + l.length = m := by
    have := congrArg List.length ht
    rw [List.length_append, flat_length (fun o ho => (h.one o ho).2), seq_length] at this
    exact this
  rw [show k + 3 = (k + 2) + 1 from rfl, treillagelaw14_EpochAll.l2, if_pos (by decide)]
  rcases advance_some (pins := [0, 0, 0, 0]) h h0 (by omega) (by omega) (show l.length + 1 ≤ k + 2 by omega) with ⟨hf, _⟩ | ⟨_, j, hj, ha, hw, _⟩
  · rw [all_zero] at hf; cases hf
  rw [ha]
  have hfl : (flat (l.take j)).length ≤ l.length := by
    rw [flat_length (fun o ho => (h.one o (List.mem_of_mem_take ho)).2), List.length_take]; omega
  simp only [Option.bind_some, if_true]
  rw [if_pos (by omega), show wrap64 (0 + 1) = 1 from by unfold wrap64; omega, show k + 2 = (k + 1) + 1 from rfl, treillagelaw14_EpochAll.l2, if_pos (by decide)]
  have hdl : (l.drop j).length ≤ l.length := by rw [List.length_drop]; omega
  rcases advance_some (pins := [0, 0, 0, 0]) hw (by omega) (by omega) (by omega) (show (l.drop j).length + 1 ≤ k + 1 by omega) with ⟨hf, _⟩ | ⟨_, j2, hj2, ha2, hw2, hz⟩
  · rw [all_zero] at hf; cases hf
  have hz2 := hz (fun o ho => by have := h.lo o (List.mem_of_mem_drop ho); omega)
  rw [ha2]
  have htk : (l.drop j).take j2 = l.drop j := by
    have := List.take_append_drop j2 (l.drop j)
    rwa [hz2, List.append_nil] at this
  have hfl2 : (flat (l.drop j)).length ≤ l.length := by
    rw [flat_length (fun o ho => (h.one o (List.mem_of_mem_drop ho)).2)]; exact hdl
  simp only [Option.bind_some, if_true, htk, hz2]
  rw [if_pos (by rw [List.length_append]; omega), show wrap64 (1 + 1) = 2 from by unfold wrap64; omega, treillagelaw14_EpochAll.l2, if_neg (by decide), List.append_assoc, flat_split, ht]
  exact tells m (by omega) _ _ m k 0 (by omega) (by omega)
theorem zeros_of {p : List Int} (hp : p.length = 4) : (((p.set 0 0).set 1 0).set 2 0).set 3 0 = [0, 0, 0, 0] := by
  match p, hp with
  | [a, b, c, d], _ => rfl
theorem lets_go {now : Int} {l : List Old} {pins : List Int} (hp : pins.length = 4) (h : Waits now l) (h0 : 0 ≤ now) (h1 : now ≤ 100) (hl : l.length ≤ 100) {told : List Int} {m : Nat} (hm : m ≤ 100) (ht : told ++ flat l = seq m) {k : Nat} (hk : 260 ≤ k) :
    treillagelaw14_EpochAll.l1 k told ((m : Int) + 1) 0 now pins l = some true := by
  obtain ⟨k, rfl⟩ : ∃ k', k = k' + 5 := ⟨k - 5, by omega⟩
  obtain ⟨p1, b1, e1, hp1, q1⟩ := unpin_some now pins l 0 hp
  obtain ⟨p2, b2, e2, hp2, q2⟩ := unpin_some now p1 l 1 hp1
  obtain ⟨p3, b3, e3, hp3, q3⟩ := unpin_some now p2 l 2 hp2
  obtain ⟨p4, b4, e4, hp4, q4⟩ := unpin_some now p3 l 3 hp3
  rw [treillagelaw14_EpochAll.l1, if_pos (by decide), e1]
  simp only [Option.bind_some]
  rw [show wrap64 (0 + 1) = 1 from by unfold wrap64; omega, treillagelaw14_EpochAll.l1, if_pos (by decide), e2]
  simp only [Option.bind_some]
  rw [show wrap64 (1 + 1) = 2 from by unfold wrap64; omega, treillagelaw14_EpochAll.l1, if_pos (by decide), e3]
  simp only [Option.bind_some]
  rw [show wrap64 (2 + 1) = 3 from by unfold wrap64; omega, treillagelaw14_EpochAll.l1, if_pos (by decide), e4]
  simp only [Option.bind_some]
  rw [show wrap64 (3 + 1) = 4 from by unfold wrap64; omega, treillagelaw14_EpochAll.l1, if_neg (by decide)]
  have : p4 = [0, 0, 0, 0] := by
    rw [q4 (by decide) (by decide), q3 (by decide) (by decide), q2 (by decide) (by decide), q1 (by decide) (by decide)]
    exact zeros_of hp
  rw [this]
  exact lasts h h0 h1 hl hm ht (by omega)
theorem retire_eq (now : Int) (pins : List Int) (l : List Old) (x : Int) (hl : l.length ≤ 200) : epoch_Retire.f now pins l [] [x] = some (now, pins, l ++ [⟨now, ⟨[], [x]⟩⟩]) := by
  unfold epoch_Retire.f
  rw [if_neg (by simp), if_pos (by omega)]
theorem goes (x0 : List Act) (hx : x0.length ≤ 100) : ∀ (d k i m : Nat) (told pins : List Int) (l : List Old) (now : Int), i + d = x0.length → d + 300 ≤ k → pins.length = 4 → Waits now l → 0 ≤ now → now ≤ i → l.length ≤ i → m ≤ i → told ++ flat l = seq m →
    treillagelaw14_EpochAll.l0 k x0 told ((m : Int) + 1) i now pins l = some true := by
  intro d
  induction d with
  | zero =>
    intro k i m told pins l now he hk hp hw h0 h1 hl hm ht
    obtain ⟨k, rfl⟩ : ∃ k', k = k' + 1 := ⟨k - 1, by omega⟩
    rw [treillagelaw14_EpochAll.l0, if_neg (by omega)]
    exact lets_go hp hw h0 (by omega) (by omega) (by omega) ht (by omega)
  | succ d ih =>
    intro k i m told pins l now he hk hp hw h0 h1 hl hm ht
    obtain ⟨k, rfl⟩ : ∃ k', k = k' + 1 := ⟨k - 1, by omega⟩
    rw [treillagelaw14_EpochAll.l0, if_pos (by omega), if_pos (by omega), w64 (i := (i : Int) + 1) (by omega) (by omega)]
    have next : ∀ (m' : Nat) (told' pins' : List Int) (l' : List Old) (now' : Int), pins'.length = 4 → Waits now' l' → 0 ≤ now' → now' ≤ (i : Int) + 1 → l'.length ≤ i + 1 → m' ≤ i + 1 → told' ++ flat l' = seq m' → treillagelaw14_EpochAll.l0 k x0 told' ((m' : Int) + 1) ((i : Int) + 1) now' pins' l' = some true :=
      fun m' told' pins' l' now' g1 g2 g3 g4 g5 g6 g7 => ih k (i + 1) m' told' pins' l' now' (by omega) (by omega) g1 g2 g3 (by omega) g5 g6 g7
    split
    · obtain ⟨p, b, e, hp'⟩ := pin_some now pins l (Go.bits .and .i64 (rd_T42 x0 i).f1 3) now hp
      rw [e]
      exact next m told p l now hp' hw h0 (by omega) (by omega) (by omega) ht
    · split
      · obtain ⟨p, b, e, hp', _⟩ := unpin_some now pins l (Go.bits .and .i64 (rd_T42 x0 i).f1 3) hp
        rw [e]
        exact next m told p l now hp' hw h0 (by omega) (by omega) (by omega) ht
      · split
        · rw [retire_eq now pins l _ (by omega)]
          simp only [Option.bind_some]
          rw [wraps_u64 ((m : Int) + 1 + 1) (by omega) (by omega)]
          refine next (m + 1) told pins _ now hp ⟨?_, ?_, ?_⟩ h0 (by omega) (by rw [List.length_append]; simp; omega) (by omega) ?_
          · intro o ho
            rcases List.mem_append.1 ho with ho | ho
            · exact hw.one o ho
            · rw [List.mem_singleton.1 ho]; exact ⟨rfl, rfl⟩
          · intro o ho
            rcases List.mem_append.1 ho with ho | ho
            · exact hw.lo o ho
            · rw [List.mem_singleton.1 ho]
              show 0 ≤ now ∧ now - 1 ≤ now ∧ now ≤ now
              omega
          · refine List.pairwise_append.2 ⟨hw.up, List.pairwise_singleton _ _, fun a ha b hb => ?_⟩
            rw [List.mem_singleton.1 hb]
            exact (hw.lo a ha).2.2
          · rw [flat_append, ← List.append_assoc, ht, seq_succ]
            rfl
        · rcases advance_some (pins := pins) hw h0 (by omega) (by omega) (show l.length + 1 ≤ k by omega) with ⟨_, ha⟩ | ⟨_, j, hj, ha, hw', _⟩
          · rw [ha]
            have hlen : told.length ≤ m := by
              have := congrArg List.length ht
              rw [List.length_append, seq_length] at this
              omega
            simp only [Option.bind_some, List.append_nil, List.length_nil]
            rw [if_pos (by omega)]
            exact next m told pins l now hp hw h0 (by omega) (by omega) (by omega) ht
          · rw [ha]
            have hlen : told.length + (flat (l.take j)).length ≤ m := by
              have := congrArg List.length ht
              rw [← flat_split l j, List.length_append, List.length_append, seq_length] at this
              omega
            simp only [Option.bind_some]
            rw [if_pos (by omega)]
            exact next m _ pins _ (now + 1) hp hw' (by omega) (by omega) (by rw [List.length_drop]; omega) (by omega) (by rw [List.append_assoc, flat_split, ht])
theorem bounded_some (l : List Act) (hl : l.length ≤ 4611686018427387903) : ∀ (d k i : Nat), i + d = l.length → d + 1 ≤ k → ∃ b, treillagelaw14_bounded.l0 k l i = some b ∧ (b = true → l.length ≤ 100) := by
  intro d
  induction d with
  | zero =>
    intro k i he hk
    obtain ⟨k, rfl⟩ : ∃ k', k = k' + 1 := ⟨k - 1, by omega⟩
    rw [treillagelaw14_bounded.l0, if_neg (by omega)]
    exact ⟨_, rfl, fun h => by have := of_decide_eq_true h; omega⟩
  | succ d ih =>
    intro k i he hk
    obtain ⟨k, rfl⟩ : ∃ k', k = k' + 1 := ⟨k - 1, by omega⟩
    rw [treillagelaw14_bounded.l0, if_pos (by omega), if_pos (by omega), w64 (i := (i : Int) + 1) (by omega) (by omega)]
    split
    · exact ⟨false, rfl, fun h => by cases h⟩
    · exact ih k (i + 1) (by omega) (by omega)
theorem pure : ∀ (x0 : List Act), (x0.length * Try.prog.bytesOf 42 ≤ 140737488351232 ∧ ∀ y0_ ∈ x0, wf42 y0_) → ∃ k : Nat, PE.treillagelaw14_EpochAll.f k x0 = some true := by
  intro x0 hx
  have hlen : x0.length ≤ 4611686018427387903 := by
    have := hx.1
    rw [bytes42] at this
    omega
  obtain ⟨K, hK⟩ : ∃ K, K = x0.length + 400 := ⟨_, rfl⟩
  refine ⟨K + 1, ?_⟩
  unfold treillagelaw14_EpochAll.f treillagelaw14_bounded.f
  obtain ⟨b, hb, hb2⟩ := bounded_some x0 hlen x0.length (K + 1) 0 (by omega) (by omega)
  have hb' : treillagelaw14_bounded.l0 (K + 1) x0 0 = some b := hb
  rw [hb']
  have hs : treillagelaw14_shown.f = some true := rfl
  cases b with
  | false =>
    simp only [Option.bind_some, Bool.false_eq_true, if_false]
    rw [treillagelaw14_EpochAll.j0, if_pos rfl, hs]
    rfl
  | true =>
    simp only [Option.bind_some, if_true, hs, Bool.not_true]
    rw [treillagelaw14_EpochAll.j0, if_neg (by simp), show epoch_New.f 4 = some (0, [0, 0, 0, 0], []) from rfl]
    simp only [Option.bind_some]
    exact goes x0 (hb2 rfl) x0.length K 0 0 [] [0, 0, 0, 0] [] 0 (by omega) (by omega) rfl ⟨fun o ho => (by cases ho), fun o ho => (by cases ho), List.Pairwise.nil⟩ (by omega) (by omega) (by simp) (by omega) rfl
end Go.Proofs.Ytjnfllaonkeefaa.epochAll
