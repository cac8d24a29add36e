
import Derived.Test.YtjiejmkkaekefaaSelC
import Derived.Test.YtjiejmkkaekefaaPAx21
/-
  A name alone is one row of one step with one test of its type; with a mark ahead it is an id, or a class.
-/
namespace Go.Proofs.Ytjiejmkkaekefaa.PureS
set_option linter.unusedVariables false
set_option linter.unusedSimpArgs false
open Go.RowKit Go.Proofs.Ytjiejmkkaekefaa.PA Go.Proofs.YtjiejmkkaekefaaW.PrintWords Go.Proofs.YtjiejmkkaekefaaW.PrintLast Go.Proofs.YtjiejmkkaekefaaW.PrintMore Go.Proofs.YtjiejmkkaekefaaH

set_option maxRecDepth 100000 in
theorem shown60 : treillagelaw09_shown.f 60 = some true := by kernel_rfl
theorem mono_le {α : Type} {f : Nat → Option α} (hm : ∀ k, LeO (f k) (f (k + 1))) {K : Nat} {r : α} (h : f K = some r) : ∀ k, K ≤ k → f k = some r := by
  intro k hk
  induction k with
  | zero => rwa [Nat.le_zero.1 hk] at h
  | succ k ih =>
    rcases Nat.eq_or_lt_of_le hk with e | e
    · rwa [← e]
    · exact hm k r (ih (Nat.le_of_lt_succ e))
theorem shown_f : Ev fun k => treillagelaw09_shown.f k = some true := ⟨60, mono_le treillagelaw09_shown.mono shown60⟩
theorem bt_data (s : By) (i : Nat) : bt s (i : Int) = ((s.data.toList[i]?).map (fun b => (b.toNat : Int))).getD 0 := by
  unfold bt
  rw [Int.toNat_natCast]
  by_cases h : i < s.size
  · rw [dif_pos h]
    have h2 : i < s.data.toList.length := by rw [Array.length_toList]; exact h
    rw [List.getElem?_eq_getElem h2]
    simp [ByteArray.getElem_eq_getElem_data]
  · rw [dif_neg h]
    have h2 : s.data.toList.length ≤ i := by rw [Array.length_toList]; exact Nat.le_of_not_lt h
    rw [List.getElem?_eq_none h2]
    rfl
theorem size_mark (m : UInt8) (s : By) : ((⟨#[m]⟩ : By) ++ s).size = s.size + 1 := by
  rw [ByteArray.size_append]
  show 1 + s.size = s.size + 1
  omega
theorem mark_data (m : UInt8) (s : By) : ((⟨#[m]⟩ : By) ++ s).data.toList = m :: s.data.toList := by
  rw [ByteArray.data_append, Array.toList_append]
  rfl
theorem bt_mark (m : UInt8) (s : By) (i : Nat) : bt ((⟨#[m]⟩ : By) ++ s) ((i + 1 : Nat) : Int) = bt s (i : Int) := by
  rw [bt_data, bt_data, mark_data, List.getElem?_cons_succ]
theorem bt_mark0 (m : UInt8) (s : By) : bt ((⟨#[m]⟩ : By) ++ s) ((0 : Nat) : Int) = (m.toNat : Int) := by
  rw [bt_data, mark_data, List.getElem?_cons_zero]
  rfl
theorem by_ext {a b : By} (h : a.data.toList = b.data.toList) : a = b := by
  cases a
  cases b
  simp only [ByteArray.mk.injEq]
  exact Array.toList_inj.1 h
theorem extract_mark (m : UInt8) (s : By) : ((⟨#[m]⟩ : By) ++ s).extract 1 (s.size + 1) = s := by
  apply by_ext
  rw [ByteArray.data_extract, Array.toList_extract, mark_data]
  have : s.size = s.data.toList.length := by rw [Array.length_toList]; rfl
  simp
  rw [this, List.take_length]
theorem extract_all (s : By) : s.extract 0 s.size = s := by
  apply by_ext
  rw [ByteArray.data_extract, Array.toList_extract]
  have : s.size = s.data.toList.length := by rw [Array.length_toList]; rfl
  simp
  rw [this, List.take_length]
/-- A name from a place to the end. -/
structure Named (s : By) (i : Nat) : Prop where
  lt : i < s.size
  le : s.size ≤ i + 20
  first : letter (bt s i) = true
  all : ∀ m, i ≤ m → m < s.size → nameB (bt s m) = true
theorem named_name {s : By} {i : Nat} (h : Named s i) : name s i = .ok (s.extract i s.size, s.size) := by
  have hr : run s i = s.size := by
    have h1 := stop_le nameB s i (Nat.le_of_lt h.lt)
    have h2 := stop_ge nameB s i
    have h3 := stop_at nameB s i
    rcases Nat.eq_or_lt_of_le h1 with e | e
    · exact e
    · exact absurd ⟨e, h.all _ h2 e⟩ h3
  unfold name
  rw [if_pos ⟨h.lt, h.first⟩, hr, if_pos h.le]
theorem at_end {s : By} {b : Int} : ¬ isB s s.size b := fun h => Nat.lt_irrefl _ h.1
theorem tests_end (s : By) (d : Nat) (acc : List Tst) : tests s d acc s.size = .ok (acc, s.size) := by
  cases d with
  | zero => rfl
  | succ d => rw [tests, if_neg at_end, if_neg at_end, if_neg at_end]
theorem letter_no {b : Int} (h : letter b = true) : b ≠ 42 ∧ blank b = false := by
  unfold letter at h
  unfold blank
  simp only [Bool.or_eq_true, decide_eq_true_eq] at h
  refine ⟨by omega, ?_⟩
  simp only [Bool.or_eq_false_iff, beq_eq_false_iff_ne]
  omega
/-- One compound from the beginning to the end. -/
theorem parse_one {s : By} {t : Tst} (h0 : 0 < s.size) (hb : blank (bt s (0 : Nat)) = false) (hc : compound s 0 = .ok ([t], s.size)) : parse s = .ok [[⟨[t], false⟩]] := by
  have e0 : skip s 0 = 0 := stop_here (fun h => by rw [hb] at h; cases h.2)
  have e1 : skip s s.size = s.size := stop_here (fun h => Nat.lt_irrefl _ h.1)
  have hr : row s 0 = .ok ([⟨[t], false⟩], s.size) := by
    unfold row
    rw [e0, steps, hc]
    dsimp only
    rw [e1, if_pos (Or.inl rfl)]
    rfl
  unfold parse
  rw [rows, hr]
  dsimp only
  rw [if_neg at_end]
  rfl
theorem parse_name {s : By} (h : Named s 0) : parse s = .ok [[⟨[⟨1, s, ⟨#[]⟩⟩], false⟩]] := by
  obtain ⟨h1, h2⟩ := letter_no h.first
  refine parse_one h.lt h2 ?_
  unfold compound
  rw [if_neg (fun hh => h1 hh.2), if_pos ⟨h.lt, h.first⟩, named_name h]
  dsimp only
  rw [tests_end, extract_all]
  unfold closed
  dsimp only
  rw [if_neg (Nat.ne_of_gt h.lt)]
theorem named_mark {s : By} (h : Named s 0) (m : UInt8) : Named ((⟨#[m]⟩ : By) ++ s) 1 := by
  have hs := size_mark m s
  refine ⟨by have := h.lt; omega, by have := h.le; omega, ?_, fun q h1 h2 => ?_⟩
  · rw [bt_mark]; exact h.first
  · obtain ⟨q, rfl⟩ : ∃ q', q = q' + 1 := ⟨q - 1, by omega⟩
    rw [bt_mark]
    exact h.all q (Nat.zero_le _) (by omega)
theorem parse_mark {s : By} (h : Named s 0) (m : UInt8) (q : Int) (hq : (m.toNat : Int) = 35 ∧ q = 2 ∨ (m.toNat : Int) = 46 ∧ q = 3) : parse ((⟨#[m]⟩ : By) ++ s) = .ok [[⟨[⟨q, s, ⟨#[]⟩⟩], false⟩]] := by
  obtain ⟨T, hT⟩ : ∃ T, T = (⟨#[m]⟩ : By) ++ s := ⟨_, rfl⟩
  have hn := named_name (named_mark h m)
  have h0 := bt_mark0 m s
  have hx : ((⟨#[m]⟩ : By) ++ s).extract 1 ((⟨#[m]⟩ : By) ++ s).size = s := by rw [size_mark]; exact extract_mark m s
  rw [hx] at hn
  have hs : 0 < ((⟨#[m]⟩ : By) ++ s).size := by rw [size_mark]; omega
  rw [← hT] at hn h0 hs ⊢
  refine parse_one hs ?_ ?_
  · rw [h0]
    rcases hq with ⟨e, _⟩ | ⟨e, _⟩ <;> rw [e] <;> rfl
  · unfold compound
    rw [if_neg (fun hh => by have := hh.2; rw [h0] at this; omega), if_neg (fun hh => by have := hh.2; rw [h0] at this; rcases hq with ⟨e, _⟩ | ⟨e, _⟩ <;> rw [e] at this <;> cases this), tests]
    rcases hq with ⟨e, rfl⟩ | ⟨e, rfl⟩
    · rw [if_neg (fun hh => by have := hh.2; rw [h0] at this; omega), if_pos ⟨hs, by rw [h0]; exact e⟩, hn]
      dsimp only
      rw [tests_end]
      unfold closed
      dsimp only
      rw [if_neg (Nat.ne_of_gt hs)]
      rfl
    · rw [if_pos ⟨hs, by rw [h0]; exact e⟩, hn]
      dsimp only
      rw [tests_end]
      unfold closed
      dsimp only
      rw [if_neg (Nat.ne_of_gt hs)]
      rfl
theorem rletter_all : ∀ n : Fin 256, treillageref02_letter.f ((n.val : Nat) : Int) = some (letter ((n.val : Nat) : Int)) := by decide +kernel
theorem rletter_eq (s : By) (i : Int) : treillageref02_letter.f (bt s i) = some (letter (bt s i)) := by
  obtain ⟨h0, h1⟩ := bt_range s i
  have := rletter_all ⟨(bt s i).toNat, by omega⟩
  simp only [Int.toNat_of_nonneg h0] at this
  exact this
/-- What the reference calls a name: nothing else is needed here. -/
theorem rname_l0 {s : By} (hs : s.size ≤ 1000000000000) : ∀ (d i : Nat), s.size - i ≤ d → i ≤ s.size → ∃ b, (Ev fun k => treillageref02_Name.l0 k s i = some b) ∧ (b = true → 1 ≤ s.size ∧ s.size ≤ 20 ∧ (∀ m, i ≤ m → m < s.size → nameB (bt s m) = true) ∧ (i = 0 → letter (bt s (0 : Nat)) = true)) := by
  intro d
  induction d with
  | zero =>
    intro i hd hi
    refine ⟨if (s.size : Int) ≥ 1 then decide ((s.size : Int) ≤ 20) else false, ⟨1, fun k hk => ?_⟩, fun h => ?_⟩
    · obtain ⟨k, rfl⟩ : ∃ k', k = k' + 1 := ⟨k - 1, by omega⟩
      rw [treillageref02_Name.l0, if_neg (by omega)]
      split <;> rfl
    · split at h
      · have := of_decide_eq_true h
        exact ⟨by omega, by omega, fun m h1 h2 => by omega, fun h0 => by omega⟩
      · cases h
  | succ d ih =>
    intro i hd hi
    by_cases hlt : i < s.size
    · obtain ⟨b, hb, hp⟩ := ih (i + 1) (by omega) hlt
      have go : (nameB (bt s i) = true) → (i = 0 → letter (bt s (0 : Nat)) = true) → (b = true → 1 ≤ s.size ∧ s.size ≤ 20 ∧ (∀ m, i ≤ m → m < s.size → nameB (bt s m) = true) ∧ (i = 0 → letter (bt s (0 : Nat)) = true)) := by
        intro h1 h2 h3
        obtain ⟨q1, q2, q3, _⟩ := hp h3
        refine ⟨q1, q2, fun m h4 h5 => ?_, h2⟩
        rcases Nat.eq_or_lt_of_le h4 with e | e
        · subst e; exact h1
        · exact q3 m e h5
      have step : ∀ {P : Prop} [Decidable P] {k : Nat}, treillageref02_Name.l0 k s ((i + 1 : Nat) : Int) = some b → treillageref02_Name.l0 k s (wrap64 ((i : Int) + 1)) = some b := by
        intro P _ k h
        rw [w64 (by omega) (by omega)]
        exact h
      by_cases c1 : letter (bt s i) = true
      · refine ⟨b, hb.succ fun k hk => ?_, go (by unfold nameB; rw [c1]; rfl) (fun h0 => by subst h0; exact c1)⟩
        rw [treillageref02_Name.l0, if_pos (by omega), if_pos (by omega), rletter_eq, Option.bind_some, if_pos c1]
        exact step (P := True) hk
      · have hl : letter (bt s i) = false := Bool.eq_false_iff.2 c1
        have no : ∃ b', (Ev fun k => treillageref02_Name.l0 k s i = some b') ∧ ((nameB (bt s i) = true ∧ i ≠ 0 ∧ b' = b) ∨ b' = false) := by
          by_cases c2 : i = 0
          · refine ⟨false, ⟨1, fun k hk => ?_⟩, Or.inr rfl⟩
            obtain ⟨k, rfl⟩ : ∃ k', k = k' + 1 := ⟨k - 1, by omega⟩
            rw [treillageref02_Name.l0, if_pos (by omega), if_pos (by omega), rletter_eq, Option.bind_some, if_neg c1, if_pos (by omega)]
          · by_cases c3 : nameB (bt s i) = true
            · refine ⟨b, hb.succ fun k hk => ?_, Or.inl ⟨c3, c2, rfl⟩⟩
              have hk := step (P := True) hk
              rw [treillageref02_Name.l0, if_pos (by omega), if_pos (by omega), rletter_eq, Option.bind_some, if_neg c1, if_neg (by omega)]
              unfold nameB at c3
              rw [hl] at c3
              simp only [Bool.false_or, Bool.or_eq_true, decide_eq_true_eq, beq_iff_eq] at c3
              split
              · split
                · exact hk
                · split
                  · exact hk
                  · omega
              · split
                · split
                  · exact hk
                  · split
                    · exact hk
                    · omega
                · exact hk
            · refine ⟨false, ⟨1, fun k hk => ?_⟩, Or.inr rfl⟩
              obtain ⟨k, rfl⟩ : ∃ k', k = k' + 1 := ⟨k - 1, by omega⟩
              rw [treillageref02_Name.l0, if_pos (by omega), if_pos (by omega), rletter_eq, Option.bind_some, if_neg c1, if_neg (by omega)]
              unfold nameB at c3
              rw [hl] at c3
              simp only [Bool.false_or, Bool.or_eq_true, decide_eq_true_eq, beq_iff_eq] at c3
              split
              · split
                · omega
                · split
                  · omega
                  · rfl
              · split
                · split
                  · omega
                  · split
                    · omega
                    · rfl
                · omega
        obtain ⟨b', hb', hc⟩ := no
        refine ⟨b', hb', fun h => ?_⟩
        rcases hc with ⟨h1, h2, h3⟩ | h3
        · exact go h1 (fun h0 => absurd h0 h2) (h3 ▸ h)
        · rw [h3] at h; cases h
    · exact (ih i (by omega) hi)
theorem names (s : By) (hs : s.size ≤ 1048576) : ∃ k, treillagelaw09_SelNames.f k s = some true := by
  have z1 := size_mark 35 s
  have z2 := size_mark 46 s
  obtain ⟨K1, h1⟩ := parse_f (s := s) (by omega)
  obtain ⟨K2, h2⟩ := parse_f (s := (⟨#[35]⟩ : By) ++ s) (by omega)
  obtain ⟨K3, h3⟩ := parse_f (s := (⟨#[46]⟩ : By) ++ s) (by omega)
  obtain ⟨K4, h4⟩ := shown_f
  obtain ⟨b, ⟨K5, h5⟩, hp⟩ := rname_l0 (s := s) (by omega) s.size 0 (by omega) (Nat.zero_le _)
  obtain ⟨k, hk⟩ : ∃ k, k = K1 + K2 + K3 + K4 + K5 := ⟨_, rfl⟩
  refine ⟨k + 1, ?_⟩
  have e4 := h4 k (by omega)
  unfold treillagelaw09_SelNames.f
  rw [h1 (k + 1) (by omega), Option.bind_some, if_pos (by omega), h2 (k + 1) (by omega), Option.bind_some, h3 (k + 1) (by omega), Option.bind_some]
  by_cases c : (s.size : Int) > 100
  · rw [if_pos c, treillagelaw09_SelNames.j0, if_pos rfl, e4]
    rfl
  · rw [if_neg c]
    unfold treillageref02_Name.f
    have e5 : treillageref02_Name.l0 (k + 1) s 0 = some b := h5 (k + 1) (by omega)
    rw [e5, Option.bind_some]
    cases b with
    | false =>
      rw [treillagelaw09_SelNames.j0, if_pos (by decide), e4]
      rfl
    | true =>
      obtain ⟨q1, q2, q3, q4⟩ := hp rfl
      have hn : Named s 0 := ⟨by omega, by omega, q4 rfl, q3⟩
      have p1 := parse_name hn
      have p2 := parse_mark hn 35 2 (Or.inl ⟨rfl, rfl⟩)
      have p3 := parse_mark hn 46 3 (Or.inr ⟨rfl, rfl⟩)
      rw [treillagelaw09_SelNames.j0, if_neg (by decide)]
      have t1 : told (parse s) = ([[⟨[⟨1, s, ⟨#[]⟩⟩], false⟩]], 0, 0) := by rw [p1]; rfl
      have t2 : told (parse ((⟨#[35]⟩ : By) ++ s)) = ([[⟨[⟨2, s, ⟨#[]⟩⟩], false⟩]], 0, 0) := by rw [p2]; rfl
      have t3 : told (parse ((⟨#[46]⟩ : By) ++ s)) = ([[⟨[⟨3, s, ⟨#[]⟩⟩], false⟩]], 0, 0) := by rw [p3]; rfl
      rw [t1, t2, t3]
      have x1 : rd_T48 [(⟨1, s, ⟨#[]⟩⟩ : Tst)] 0 = ⟨1, s, ⟨#[]⟩⟩ := rfl
      have x2 : rd_T48 [(⟨2, s, ⟨#[]⟩⟩ : Tst)] 0 = ⟨2, s, ⟨#[]⟩⟩ := rfl
      have x3 : rd_T48 [(⟨3, s, ⟨#[]⟩⟩ : Tst)] 0 = ⟨3, s, ⟨#[]⟩⟩ := rfl
      have y : ∀ t : Tst, rd_T46 [(⟨[t], false⟩ : Stp)] 0 = ⟨[t], false⟩ := fun _ => rfl
      have z : ∀ l : List Stp, rd_L6 [l] 0 = l := fun _ => rfl
      have e : (⟨#[]⟩ : By).toList = [] := by rw [ByteArray.toList_eq]
      simp [x1, x2, x3, y, z, e, e4]
end Go.Proofs.Ytjiejmkkaekefaa.PureS
