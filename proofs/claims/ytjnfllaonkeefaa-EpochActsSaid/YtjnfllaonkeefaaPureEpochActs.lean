/-
  Whatever is pinned, retired, and advanced: a state is the document's, and so is what it tells.
-/
import Derived.Test.YtjnfllaonkeefaaPAx10
import Derived.Test.YtjnfllaonkeefaaWfEpochActs
namespace Go.Proofs.Ytjnfllaonkeefaa.epochActs
set_option linter.unusedVariables false
set_option linter.unusedSimpArgs false
open Go.RowKit Go.Proofs.Ytjnfllaonkeefaa.PA Go.Proofs.YtjnfllaonkeefaaW.PrintWords Go.Proofs.YtjnfllaonkeefaaW.PrintLast Go.Proofs.YtjnfllaonkeefaaW.PrintMore Go.Proofs.YtjnfllaonkeefaaH

abbrev Old := S64
abbrev ROld := S68
abbrev Act := S42
abbrev U64 (x : Int) : Prop := 0 <= x /\ x < 18446744073709551616
theorem u_wrap (x : Int) : U64 (IntKind.u64.wrap x) := by rw [IntKind.wrap_u64]; unfold U64; omega
theorem uw {n : Int} (h0 : 0 <= n) (h1 : n < 18446744073709551616) : IntKind.u64.wrap n = n := by rw [IntKind.wrap_u64]; omega
theorem w64 {i : Int} (h0 : 0 <= i) (h1 : i < 4611686018427387904) : wrap64 i = i := by unfold wrap64; omega
def cv (o : Old) : ROld := ⟨o.f0, ⟨o.f1.f0, o.f1.f1⟩⟩
theorem rd_cv (l : List Old) (i : Int) : rd_T68 (l.map cv) i = cv (rd_T64 l i) := by
  unfold rd_T68 rd_T64
  rw [List.getD_eq_getElem?_getD, List.getD_eq_getElem?_getD, List.getElem?_map]
  cases l[i.toNat]? <;> rfl
theorem rd_at {l : List Old} {i : Nat} (hi : i < l.length) : rd_T64 l (i : Int) = l[i] := by
  unfold rd_T64
  rw [Int.toNat_natCast, List.getD_eq_getElem?_getD, List.getElem?_eq_getElem hi]
  rfl
theorem rdr_at {l : List ROld} {i : Nat} (hi : i < l.length) : rd_T68 l (i : Int) = l[i] := by
  unfold rd_T68
  rw [Int.toNat_natCast, List.getD_eq_getElem?_getD, List.getElem?_eq_getElem hi]
  rfl
theorem rda_at {l : List Act} {i : Nat} (hi : i < l.length) : rd_T42 l (i : Int) = l[i] := by
  unfold rd_T42
  rw [Int.toNat_natCast, List.getD_eq_getElem?_getD, List.getElem?_eq_getElem hi]
  rfl
theorem rdi_at {l : List Int} {i : Nat} (hi : i < l.length) : rd l (i : Int) = l[i] := by
  unfold rd
  rw [Int.toNat_natCast, List.getD_eq_getElem?_getD, List.getElem?_eq_getElem hi]
  rfl
theorem czc (i : Nat) : ((i : Int) + 1) = ((i + 1 : Nat) : Int) := rfl
theorem tnx {α : Type} {l : List α} {i : Nat} (hi : i < l.length) : l.take (i + 1) = l.take i ++ [l[i]] := by
  rw [List.take_add_one, List.getElem?_eq_getElem hi]; rfl
theorem hfm (l : List Int) : ∀ (d k : Nat) (i : Int), 0 <= i -> i + d = l.length -> d + 1 <= k -> l.length <= 4000000000 -> treillageref03_Handles.l0 k l l i = some true := by
  intro d
  induction d with
  | zero =>
    intro k i hi he hk hl
    obtain ⟨k, rfl⟩ : ∃ k', k = k' + 1 := ⟨k - 1, by omega⟩
    rw [treillageref03_Handles.l0, if_neg (by omega)]
  | succ d ih =>
    intro k i hi he hk hl
    obtain ⟨k, rfl⟩ : ∃ k', k = k' + 1 := ⟨k - 1, by omega⟩
    rw [treillageref03_Handles.l0, if_pos (by omega), if_pos hi, if_pos (by omega), if_pos rfl, show wrap64 (i + 1) = i + 1 from by unfold wrap64; omega]
    exact ih k (i + 1) (by omega) (by omega) (by omega) hl
theorem hrf (l : List Int) {k : Nat} (hk : l.length + 1 <= k) (hl : l.length <= 10000) : treillageref03_Handles.f k l l = some true := by
  unfold treillageref03_Handles.f
  rw [if_pos rfl]
  exact hfm l l.length k 0 (by omega) (by omega) hk (by omega)
theorem grf (a b : List Int) {k : Nat} (ha : a.length <= 6000) (hb : b.length <= 6000) (hk : 6001 <= k) : treillageref12_SameGone.f k a b a b = some true := by
  unfold treillageref12_SameGone.f
  rw [hrf a (by omega) (by omega), hrf b (by omega) (by omega)]
  rfl
theorem slp (now : Int) (pins : List Int) (l : List ROld) (hl : l.length <= 100) (hs : ∀ o ∈ l, o.f1.f0.length <= 60 /\ o.f1.f1.length <= 60) :
    ∀ (d k i : Nat), i + d = l.length -> d + 6010 <= k -> treillageref14_Same.l0 k i now pins l now pins l = some true := by
  intro d
  induction d with
  | zero =>
    intro k i he hk
    obtain ⟨k, rfl⟩ : ∃ k', k = k' + 1 := ⟨k - 1, by omega⟩
    rw [treillageref14_Same.l0, if_neg (by omega)]
  | succ d ih =>
    intro k i he hk
    obtain ⟨k, rfl⟩ : ∃ k', k = k' + 1 := ⟨k - 1, by omega⟩
    have hi : i < l.length := by omega
    have h1 := hs _ (List.getElem_mem hi)
    rw [treillageref14_Same.l0, if_pos (by omega), if_pos (by omega), if_pos (by omega), if_pos rfl, rdr_at hi, grf _ _ (by omega) (by omega) (by omega), w64 (by omega) (by omega)]
    simp only [Option.bind_some, if_true]
    exact ih k (i + 1) (by omega) (by omega)
theorem srf (now : Int) (pins : List Int) (l : List ROld) (hp : pins.length <= 4) (hl : l.length <= 100) (hs : ∀ o ∈ l, o.f1.f0.length <= 60 /\ o.f1.f1.length <= 60) {k : Nat} (hk : 6200 <= k) :
    treillageref14_Same.f k now pins l now pins l = some true := by
  obtain ⟨k, rfl⟩ : ∃ k', k = k' + 1 := ⟨k - 1, by omega⟩
  unfold treillageref14_Same.f
  rw [if_pos rfl, hrf pins (by omega) (by omega)]
  simp only [Option.bind_some, if_true, bne_self_eq_false]
  rw [treillageref14_Same.j0, if_neg (by decide)]
  exact slp now pins l hl hs l.length k 0 (by omega) (by omega)
theorem ilp (now : Int) (pins : List Int) (l : List Old) (hl : l.length <= 100) :
    ∀ (d k i : Nat), i + d = l.length -> d + 1 <= k -> treillagelaw14_its.l0 k i now pins l now pins ((l.take i).map cv) = some (now, pins, l.map cv) := by
  intro d
  induction d with
  | zero =>
    intro k i he hk
    obtain ⟨k, rfl⟩ : ∃ k', k = k' + 1 := ⟨k - 1, by omega⟩
    rw [treillagelaw14_its.l0, if_neg (by omega), List.take_of_length_le (by omega)]
  | succ d ih =>
    intro k i he hk
    obtain ⟨k, rfl⟩ : ∃ k', k = k' + 1 := ⟨k - 1, by omega⟩
    have hi : i < l.length := by omega
    rw [treillagelaw14_its.l0, if_pos (by omega), if_pos (by omega), if_pos (by rw [List.length_map, List.length_take]; omega), rd_at hi, w64 (by omega) (by omega)]
    have e : (l.take i).map cv ++ [(⟨(l[i]).f0, ⟨(l[i]).f1.f0, (l[i]).f1.f1⟩⟩ : ROld)] = (l.take (i + 1)).map cv := by
      rw [tnx hi, List.map_append]; rfl
    rw [e]
    exact ih k (i + 1) (by omega) (by omega)
theorem iok (now : Int) (pins : List Int) (l : List Old) (hl : l.length <= 100) {k : Nat} (hk : 101 <= k) : treillagelaw14_its.f k now pins l = some (now, pins, l.map cv) := by
  unfold treillagelaw14_its.f
  exact ilp now pins l hl l.length k 0 (by omega) (by omega)
structure Inv (i : Nat) (now : Int) (pins : List Int) (l : List Old) : Prop where
  n0 : 0 <= now
  n1 : now <= i
  p1 : pins.length <= 4
  pu : ∀ p ∈ pins, U64 p
  ll : l.length <= i
  lo : ∀ o ∈ l, 0 <= o.f0 /\ o.f0 <= now
  ls : ∀ o ∈ l, o.f1.f0.length <= 60 /\ o.f1.f1.length <= 60
  up : l.Pairwise (fun a b => a.f0 <= b.f0)
theorem Inv.lsr {i : Nat} {now : Int} {pins : List Int} {l : List Old} (h : Inv i now pins l) : ∀ o ∈ l.map cv, o.f1.f0.length <= 60 /\ o.f1.f1.length <= 60 := by
  intro o ho
  obtain ⟨a, ha, rfl⟩ := List.mem_map.1 ho
  exact h.ls a ha
theorem mlp (now : Int) (pins : List Int) (l : List ROld) (h0 : 0 <= now) (h1 : now <= 1000) (hp : pins.length <= 4) (hu : ∀ p ∈ pins, U64 p) :
    ∀ (d k i : Nat), i + d = pins.length -> d + 1 <= k -> treillageref14_May.l0 k i now pins l = some ((pins.drop i).all (pinMay now)) := by
  intro d
  induction d with
  | zero =>
    intro k i he hk
    obtain ⟨k, rfl⟩ : ∃ k', k = k' + 1 := ⟨k - 1, by omega⟩
    rw [treillageref14_May.l0, if_neg (by omega), List.drop_eq_nil_of_le (by omega)]
    rfl
  | succ d ih =>
    intro k i he hk
    obtain ⟨k, rfl⟩ : ∃ k', k = k' + 1 := ⟨k - 1, by omega⟩
    have hi : i < pins.length := by omega
    have hz := hu _ (List.getElem_mem hi)
    unfold U64 at hz
    rw [treillageref14_May.l0, if_pos (by omega), if_pos (by omega), rdi_at hi, w64 (by omega) (by omega), List.drop_eq_getElem_cons hi, List.all_cons, czc, ih k (i + 1) (by omega) (by omega), uw (n := now + 1) (by omega) (by omega)]
    unfold pinMay
    by_cases c : pins[i] = 0
    · rw [if_pos c]; simp [c]
    rw [if_neg c, uw (n := pins[i] - 1) (by omega) (by omega)]
    by_cases c2 : pins[i] = now + 1
    · rw [if_pos c2, c2]
      have : (now + 1 - 1 == now) = true := by simp
      rw [this]; simp
    · rw [if_neg c2]
      have e1 : (pins[i] == 0) = false := by simpa using c
      have e2 : (pins[i] - 1 == now) = false := by
        simp only [beq_eq_false_iff_ne]; omega
      rw [e1, e2]; rfl
theorem mrf {i : Nat} {now : Int} {pins : List Int} {l : List Old} (h : Inv i now pins l) (hi : i <= 100) (lr : List ROld) {k : Nat} (hk : 6 <= k) : treillageref14_May.f k now pins lr = some (pins.all (pinMay now)) := by
  unfold treillageref14_May.f
  have := mlp now pins lr h.n0 (by have := h.n1; omega) h.p1 h.pu pins.length k 0 (by omega) (by have := h.p1; omega)
  simpa using this
theorem rrs (n : Int) (pins : List Int) (l : List Old) (rs cs : List Int) (hl : l.length <= 100) (hn : 0 <= n) (hn1 : n <= 1000) (hlo : ∀ o ∈ l, 0 <= o.f0 /\ o.f0 <= n) :
    ∀ (d k i : Nat) (left : List ROld), i + d = l.length -> d + 1 <= k -> left.length <= i -> (∀ (j : Nat) (hj : j < l.length), i <= j -> ¬ (l[j]).f0 + 2 <= n) ->
      treillageref14_Advance.l0 k left i n pins (l.map cv) rs cs = some (n, pins, left ++ (l.drop i).map cv, rs, cs, true) := by
  intro d
  induction d with
  | zero =>
    intro k i left he hk hll hj
    obtain ⟨k, rfl⟩ : ∃ k', k = k' + 1 := ⟨k - 1, by omega⟩
    rw [treillageref14_Advance.l0, if_neg (by rw [List.length_map]; omega), List.drop_eq_nil_of_le (by omega)]
    simp
  | succ d ih =>
    intro k i left he hk hll hj
    obtain ⟨k, rfl⟩ : ∃ k', k = k' + 1 := ⟨k - 1, by omega⟩
    have hi : i < l.length := by omega
    have h1 := hlo _ (List.getElem_mem hi)
    have h2 := hj i hi (Nat.le_refl _)
    rw [treillageref14_Advance.l0, if_pos (by rw [List.length_map]; omega), if_pos (by omega), rd_cv, rd_at hi, show (cv l[i]).f0 = (l[i]).f0 from rfl, uw (n := (l[i]).f0 + 2) (by omega) (by omega), if_neg h2, if_pos (by omega), w64 (by omega) (by omega), czc]
    rw [ih k (i + 1) _ (by omega) (by omega) (by rw [List.length_append]; simp; omega) (fun j hj' hle => hj j hj' (by omega)), List.drop_eq_getElem_cons hi, List.map_cons, List.append_assoc]
    rfl
theorem abt (n : Int) (pins : List Int) (l : List Old) (hl : l.length <= 100) (hn : 0 <= n) (hn1 : n <= 1000) (hlo : ∀ o ∈ l, 0 <= o.f0 /\ o.f0 <= n) (hs : ∀ o ∈ l, o.f1.f0.length <= 60 /\ o.f1.f1.length <= 60) (hup : l.Pairwise (fun a b => a.f0 <= b.f0)) :
    ∀ (d k i : Nat) (rs cs : List Int), i + d = l.length -> d + 1 <= k -> rs.length <= 60 * i -> cs.length <= 60 * i ->
      ∃ (j : Nat) (R C : List Int), R.length <= 6000 /\ C.length <= 6000 /\ epoch_Advance.l0 k i n pins l rs cs = some (n, pins, l.drop j, R, C, true) /\ treillageref14_Advance.l0 k [] i n pins (l.map cv) rs cs = some (n, pins, (l.drop j).map cv, R, C, true) := by
  intro d
  induction d with
  | zero =>
    intro k i rs cs he hk hr hc
    obtain ⟨k, rfl⟩ : ∃ k', k = k' + 1 := ⟨k - 1, by omega⟩
    refine ⟨i, rs, cs, by omega, by omega, ?_, ?_⟩
    · rw [epoch_Advance.l0, if_neg (by omega), if_pos (by omega), if_pos (by omega)]
      rfl
    · rw [rrs n pins l rs cs hl hn hn1 hlo 0 (k + 1) i [] (by omega) (by omega) (by simp) (fun j hj hle => by omega)]
      rfl
  | succ d ih =>
    intro k i rs cs he hk hr hc
    obtain ⟨k, rfl⟩ : ∃ k', k = k' + 1 := ⟨k - 1, by omega⟩
    have hi : i < l.length := by omega
    have h1 := hlo _ (List.getElem_mem hi)
    have h2 := hs _ (List.getElem_mem hi)
    by_cases c : (l[i]).f0 + 2 <= n
    · obtain ⟨j, R, C, a1, a2, a3, a4⟩ := ih k (i + 1) (rs ++ (l[i]).f1.f0) (cs ++ (l[i]).f1.f1) (by omega) (by omega) (by rw [List.length_append]; omega) (by rw [List.length_append]; omega)
      refine ⟨j, R, C, a1, a2, ?_, ?_⟩
      · rw [epoch_Advance.l0, if_pos (by omega), if_pos (by omega), rd_at hi, uw (n := n - (l[i]).f0) (by omega) (by omega), if_pos (by omega), if_pos (by omega), if_pos (by omega), w64 (by omega) (by omega), czc]
        exact a3
      · rw [treillageref14_Advance.l0, if_pos (by rw [List.length_map]; omega), if_pos (by omega), rd_cv, rd_at hi, show (cv l[i]).f0 = (l[i]).f0 from rfl, show (cv l[i]).f1.f0 = (l[i]).f1.f0 from rfl, show (cv l[i]).f1.f1 = (l[i]).f1.f1 from rfl, uw (n := (l[i]).f0 + 2) (by omega) (by omega), if_pos c, if_pos (by omega), if_pos (by omega), w64 (by omega) (by omega), czc]
        exact a4
    · refine ⟨i, rs, cs, by omega, by omega, ?_, ?_⟩
      · rw [epoch_Advance.l0, if_pos (by omega), if_pos (by omega), rd_at hi, uw (n := n - (l[i]).f0) (by omega) (by omega), if_neg (by omega), if_pos (by omega)]
        rfl
      · rw [rrs n pins l rs cs hl hn hn1 hlo (d + 1) (k + 1) i [] (by omega) (by omega) (by simp) (fun j hj hle => ?_)]
        · rfl
        · rcases Nat.lt_or_ge i j with hlt | hge
          · have := List.pairwise_iff_getElem.1 hup i j hi hj hlt
            omega
          · obtain rfl : i = j := by omega
            exact c
theorem adv_ok {i : Nat} {now : Int} {pins : List Int} {l : List Old} (h : Inv i now pins l) (hi : i < 100) {k : Nat} (hk : 200 <= k) :
    ∃ now' l' R C b, epoch_Advance.f k now pins l = some (now', pins, l', R, C, b) /\ treillageref14_Advance.f k now pins (l.map cv) = some (now', pins, l'.map cv, R, C, b) /\ Inv (i + 1) now' pins l' /\ R.length <= 6000 /\ C.length <= 6000 := by
  have hn0 := h.n0
  have hn1 := h.n1
  have hll := h.ll
  unfold epoch_Advance.f treillageref14_Advance.f epoch_May.f
  rw [mrf h (by omega) _ (by omega)]
  simp only [Option.bind_some]
  cases hp : pins.all (pinMay now) with
  | false =>
    refine ⟨now, l, [], [], false, by simp, by simp, ⟨hn0, by omega, h.p1, h.pu, by omega, h.lo, h.ls, h.up⟩, by simp, by simp⟩
  | true =>
    rw [if_pos rfl, if_pos rfl, uw (n := now + 1) (by omega) (by omega)]
    obtain ⟨j, R, C, a1, a2, a3, a4⟩ := abt (now + 1) pins l (by omega) (by omega) (by omega) (fun o ho => by have := h.lo o ho; omega) h.ls h.up l.length k 0 [] [] (by omega) (by omega) (by simp) (by simp)
    exact ⟨now + 1, l.drop j, R, C, true, a3, a4, ⟨by omega, by omega, h.p1, h.pu, by rw [List.length_drop]; omega, fun o ho => by have := h.lo o (List.mem_of_mem_drop ho); omega, fun o ho => h.ls o (List.mem_of_mem_drop ho), h.up.drop⟩, a1, a2⟩
theorem set_u {pins : List Int} (h : ∀ p ∈ pins, U64 p) {x : Int} (hx : U64 x) (n : Nat) : ∀ p ∈ pins.set n x, U64 p := by
  intro p hp
  rcases List.mem_or_eq_of_mem_set hp with h' | h'
  · exact h p h'
  · rw [h']; exact hx
theorem pin_ok {i : Nat} {now : Int} {pins : List Int} {l : List Old} (h : Inv i now pins l) (r s : Int) :
    ∃ p b, epoch_Pin.f now pins l r s = some (now, p, l, b) /\ treillageref14_Pin.f now pins (l.map cv) r s = some (now, p, l.map cv, b) /\ Inv (i + 1) now p l := by
  have hp := h.p1
  have hI : Inv (i + 1) now pins l := ⟨h.n0, by have := h.n1; omega, h.p1, h.pu, by have := h.ll; omega, h.lo, h.ls, h.up⟩
  by_cases c1 : r < 0
  · exact ⟨pins, false, by unfold epoch_Pin.f; rw [if_pos (.inl c1)], by unfold treillageref14_Pin.f; rw [if_pos c1], hI⟩
  by_cases c2 : r >= (pins.length : Int)
  · exact ⟨pins, false, by unfold epoch_Pin.f; rw [if_pos (.inr c2)], by unfold treillageref14_Pin.f; rw [if_neg c1, if_pos c2], hI⟩
  have c12 : ¬(r < 0 \/ (pins.length : Int) <= r) := by omega
  have c8 : pins.length * 8 <= 140737488351232 := by omega
  have r0 : 0 <= r := by omega
  have r1 : r < (pins.length : Int) := by omega
  by_cases c3 : rd pins r = 0
  · by_cases c4 : s > now
    · exact ⟨pins, false, by unfold epoch_Pin.f; rw [if_neg c12, if_pos c8, if_neg (fun hh => by have := hh.2; omega)], by unfold treillageref14_Pin.f; rw [if_neg c1, if_neg c2, if_pos r0, if_pos r1, if_pos c3, if_pos c4], hI⟩
    · refine ⟨pins.set r.toNat (IntKind.u64.wrap (s + 1)), true, by unfold epoch_Pin.f; rw [if_neg c12, if_pos c8, if_pos ⟨c3, by omega⟩], ?_, ⟨hI.n0, hI.n1, by rw [List.length_set]; exact hp, set_u h.pu (u_wrap _) _, hI.ll, h.lo, h.ls, h.up⟩⟩
      unfold treillageref14_Pin.f
      rw [if_neg c1, if_neg c2, if_pos r0, if_pos r1, if_pos c3, if_neg c4]
      simp only [Option.bind_some, List.nil_append, List.length_nil, Nat.zero_add]
      rw [if_pos (by omega), if_pos r1]
  · exact ⟨pins, false, by unfold epoch_Pin.f; rw [if_neg c12, if_pos c8, if_neg (fun hh => c3 hh.1)], by unfold treillageref14_Pin.f; rw [if_neg c1, if_neg c2, if_pos r0, if_pos r1, if_neg c3], hI⟩
theorem upo {i : Nat} {now : Int} {pins : List Int} {l : List Old} (h : Inv i now pins l) (r : Int) :
    ∃ p b, epoch_Unpin.f now pins l r = some (now, p, l, b) /\ treillageref14_Unpin.f now pins (l.map cv) r = some (now, p, l.map cv, b) /\ Inv (i + 1) now p l := by
  have hp := h.p1
  have hI : Inv (i + 1) now pins l := ⟨h.n0, by have := h.n1; omega, h.p1, h.pu, by have := h.ll; omega, h.lo, h.ls, h.up⟩
  by_cases c1 : r < 0
  · exact ⟨pins, false, by unfold epoch_Unpin.f; rw [if_pos (.inl c1)], by unfold treillageref14_Unpin.f; rw [if_pos c1], hI⟩
  by_cases c2 : r >= (pins.length : Int)
  · exact ⟨pins, false, by unfold epoch_Unpin.f; rw [if_pos (.inr c2)], by unfold treillageref14_Unpin.f; rw [if_neg c1, if_pos c2], hI⟩
  have c12 : ¬(r < 0 \/ (pins.length : Int) <= r) := by omega
  have c8 : pins.length * 8 <= 140737488351232 := by omega
  have r0 : 0 <= r := by omega
  have r1 : r < (pins.length : Int) := by omega
  by_cases c3 : rd pins r = 0
  · exact ⟨pins, false, by unfold epoch_Unpin.f; rw [if_neg c12, if_pos c8, if_neg (fun hh => hh c3)], by unfold treillageref14_Unpin.f; rw [if_neg c1, if_neg c2, if_pos r0, if_pos r1, if_pos c3], hI⟩
  · refine ⟨pins.set r.toNat 0, true, by unfold epoch_Unpin.f; rw [if_neg c12, if_pos c8, if_pos c3], ?_, ⟨hI.n0, hI.n1, by rw [List.length_set]; exact hp, set_u h.pu (by decide) _, hI.ll, h.lo, h.ls, h.up⟩⟩
    unfold treillageref14_Unpin.f
    rw [if_neg c1, if_neg c2, if_pos r0, if_pos r1, if_neg c3]
    simp only [Option.bind_some, List.nil_append, List.length_nil, Nat.zero_add]
    rw [if_pos (by omega), if_pos r1]
theorem rto {i : Nat} {now : Int} {pins : List Int} {l : List Old} (h : Inv i now pins l) (hi : i < 100) (a b : List Int) (ha : a.length + b.length <= 60) :
    ∃ l', epoch_Retire.f now pins l a b = some (now, pins, l') /\ treillageref14_Retire.f now pins (l.map cv) a b = some (now, pins, l'.map cv) /\ Inv (i + 1) now pins l' := by
  have hl := h.ll
  have hn := h.n0
  unfold epoch_Retire.f treillageref14_Retire.f
  rw [w64 (i := (a.length : Int) + b.length) (by omega) (by omega)]
  by_cases c : a.length = 0 /\ b.length = 0
  · exact ⟨l, by rw [if_pos c], by rw [if_neg (by omega)], ⟨h.n0, by have := h.n1; omega, h.p1, h.pu, by omega, h.lo, h.ls, h.up⟩⟩
  · refine ⟨l ++ [⟨now, ⟨a, b⟩⟩], by rw [if_neg c, if_pos (by omega)], ?_, ⟨h.n0, by have := h.n1; omega, h.p1, h.pu, by rw [List.length_append]; simp; omega, fun o ho => ?_, fun o ho => ?_, ?_⟩⟩
    · rw [if_pos (by omega)]
      simp only [Option.bind_some, List.nil_append, List.length_nil, Nat.zero_add, List.length_map, List.length_cons]
      rw [if_pos (by omega), if_pos (by omega), List.map_append]
      rfl
    · rcases List.mem_append.1 ho with ho | ho
      · exact h.lo o ho
      · rw [List.mem_singleton.1 ho]; exact ⟨hn, Int.le_refl _⟩
    · rcases List.mem_append.1 ho with ho | ho
      · exact h.ls o ho
      · rw [List.mem_singleton.1 ho]; exact ⟨show a.length <= 60 by omega, show b.length <= 60 by omega⟩
    · rw [List.pairwise_append]
      refine ⟨h.up, List.pairwise_singleton _ _, fun x hx y hy => ?_⟩
      rw [List.mem_singleton.1 hy]
      exact (h.lo x hx).2
theorem new_ok (r : Int) : ∃ pins, epoch_New.f r = some (0, pins, []) /\ treillageref14_New.f r = some (0, pins, []) /\ Inv 0 0 pins [] := by
  have e1 : mx 0 (mn r 4) = mn (mx r 0) 4 := by unfold mx mn; (repeat' split) <;> omega
  have h0 : 0 <= mn (mx r 0) 4 := by unfold mx mn; (repeat' split) <;> omega
  have h4 : mn (mx r 0) 4 <= 4 := by unfold mx mn; (repeat' split) <;> omega
  unfold epoch_New.f treillageref14_New.f
  rw [e1]
  generalize mn (mx r 0) 4 = m at *
  have hm : m = 0 \/ m = 1 \/ m = 2 \/ m = 3 \/ m = 4 := by omega
  refine ⟨List.replicate m.toNat 0, by rw [if_pos h0, if_pos (by omega)], ?_, ⟨Int.le_refl _, Int.le_refl _, by rw [List.length_replicate]; omega, fun p hp => ?_, Nat.le_refl _, (fun o ho => by cases ho), (fun o ho => by cases ho), List.Pairwise.nil⟩⟩
  · rcases hm with rfl | rfl | rfl | rfl | rfl <;> first | rfl | kernel_rfl
  · rw [(List.mem_replicate.1 hp).2]; exact (by decide : U64 0)
theorem bdd (l : List Act) (hl : l.length <= 4611686018427387903) (hg : ∀ o ∈ l, o.f3.f0.length <= 140737488351232 /\ o.f3.f1.length <= 140737488351232) : ∀ (d k i : Nat), i + d = l.length -> d + 1 <= k ->
    ∃ b, treillagelaw14_bounded.l0 k l i = some b /\ (b = true -> l.length <= 100 /\ ∀ (j : Nat) (hj : j < l.length), i <= j -> (l[j]).f3.f0.length + (l[j]).f3.f1.length <= 60) := by
  intro d
  induction d with
  | zero =>
    intro k i he hk
    obtain ⟨k, rfl⟩ : ∃ k', k = k' + 1 := ⟨k - 1, by omega⟩
    rw [treillagelaw14_bounded.l0, if_neg (by omega)]
    exact ⟨_, rfl, fun h => ⟨by have := of_decide_eq_true h; omega, fun j hj hle => by omega⟩⟩
  | succ d ih =>
    intro k i he hk
    obtain ⟨k, rfl⟩ : ∃ k', k = k' + 1 := ⟨k - 1, by omega⟩
    have hi : i < l.length := by omega
    have h1 := hg _ (List.getElem_mem hi)
    rw [treillagelaw14_bounded.l0, if_pos (by omega), if_pos (by omega), rda_at hi, w64 (i := ((l[i]).f3.f0.length : Int) + (l[i]).f3.f1.length) (by omega) (by omega), w64 (i := (i : Int) + 1) (by omega) (by omega), czc]
    by_cases c : ((l[i]).f3.f0.length : Int) + (l[i]).f3.f1.length > 60
    · exact ⟨false, by rw [if_pos c], fun h => by cases h⟩
    · rw [if_neg c]
      obtain ⟨b, hb, hb2⟩ := ih k (i + 1) (by omega) (by omega)
      refine ⟨b, hb, fun h => ⟨(hb2 h).1, fun j hj hle => ?_⟩⟩
      rcases Nat.lt_or_ge i j with hlt | hge
      · exact (hb2 h).2 j hj hlt
      · obtain rfl : i = j := by omega
        omega
theorem acts_ok (l : List Act) (hl : l.length <= 100) (hg : ∀ (j : Nat) (hj : j < l.length), (l[j]).f3.f0.length + (l[j]).f3.f1.length <= 60) :
    ∀ (d k i : Nat) (now : Int) (pins : List Int) (q : List Old), i + d = l.length -> 2 * d + 7000 <= k -> Inv i now pins q -> treillagelaw14_EpochActs.l0 k l i now pins q now pins (q.map cv) = some true := by
  intro d
  induction d with
  | zero =>
    intro k i now pins q he hk h
    obtain ⟨k, rfl⟩ : ∃ k', k = k' + 1 := ⟨k - 1, by omega⟩
    rw [treillagelaw14_EpochActs.l0, if_neg (by omega)]
  | succ d ih =>
    intro k i now pins q he hk h
    obtain ⟨k, rfl⟩ : ∃ k', k = k' + 2 := ⟨k - 2, by omega⟩
    have hi : i < l.length := by omega
    have h1 := hg i hi
    have tail : ∀ (b : Bool) (now' : Int) (p' : List Int) (q' : List Old) (R C : List Int), Inv (i + 1) now' p' q' -> R.length <= 6000 -> C.length <= 6000 ->
        treillagelaw14_EpochActs.j2 (k + 1) l i b b now' p' q' now' p' (q'.map cv) R C R C = some true := by
      intro b now' p' q' R C h' hR hC
      have hq := h'.ll
      rw [treillagelaw14_EpochActs.j2, if_neg (by simp), grf R C hR hC (by omega), iok now' p' q' (by omega) (by omega)]
      simp only [Option.bind_some, if_true]
      rw [srf now' p' (q'.map cv) h'.p1 (by rw [List.length_map]; omega) h'.lsr (by omega), mrf h' (by omega) _ (by omega)]
      unfold epoch_May.f
      simp only [Option.bind_some, if_true, bne_self_eq_false, Bool.false_eq_true, if_false]
      rw [w64 (by omega) (by omega), czc]
      exact ih k (i + 1) now' p' q' (by omega) (by omega) h'
    rw [treillagelaw14_EpochActs.l0, if_pos (by omega), if_pos (by omega), rda_at hi]
    by_cases c0 : (l[i]).f0 = 0
    · rw [if_pos c0]
      obtain ⟨p, b, e1, e2, h'⟩ := pin_ok h (l[i]).f1 (IntKind.u64.wrap (now - (l[i]).f2))
      rw [e1, e2]
      simp only [Option.bind_some]
      exact tail b now p q [] [] h' (by simp) (by simp)
    rw [if_neg c0]
    by_cases c1 : (l[i]).f0 = 1
    · rw [if_pos c1]
      obtain ⟨p, b, e1, e2, h'⟩ := upo h (l[i]).f1
      rw [e1, e2]
      simp only [Option.bind_some]
      exact tail b now p q [] [] h' (by simp) (by simp)
    rw [if_neg c1]
    by_cases c2 : (l[i]).f0 = 2
    · rw [if_pos c2]
      obtain ⟨q', e1, e2, h'⟩ := rto h (by omega) (l[i]).f3.f0 (l[i]).f3.f1 h1
      rw [e1, e2]
      simp only [Option.bind_some]
      exact tail true now pins q' [] [] h' (by simp) (by simp)
    rw [if_neg c2]
    obtain ⟨now', q', R, C, b, e1, e2, h', hR, hC⟩ := adv_ok h (by omega) (k := k + 1) (by omega)
    rw [e1, e2]
    simp only [Option.bind_some]
    exact tail b now' pins q' R C h' hR hC
theorem pure : ∀ (x0 : Int) (x1 : List S42), (Lit.int .i64 x0).wf = true -> (x1.length * Try.prog.bytesOf 42 <= 140737488351232 /\ ∀ y0_ ∈ x1, wf42 y0_) -> ∃ k : Nat, PA.treillagelaw14_EpochActs.f k x0 x1 = some true := by
  intro x0 x1 _ hx
  have hlen : x1.length <= 4611686018427387903 := by have := hx.1; rw [bytes42] at this; omega
  have hg : ∀ o ∈ x1, o.f3.f0.length <= 140737488351232 /\ o.f3.f1.length <= 140737488351232 := by
    intro o ho
    have h3 := (hx.2 o ho).2.2.2
    have a := h3.1.1
    have b := h3.2.1
    rw [bytes22] at a b
    omega
  obtain ⟨K, hK⟩ : ∃ K, K = x1.length + 8000 := ⟨_, rfl⟩
  refine ⟨K + 1, ?_⟩
  obtain ⟨b, hb, hb2⟩ := bdd x1 hlen hg x1.length (K + 1) 0 (by omega) (by omega)
  have hb' : treillagelaw14_bounded.l0 (K + 1) x1 0 = some b := hb
  have hs : treillagelaw14_shown.f = some true := rfl
  unfold treillagelaw14_EpochActs.f treillagelaw14_bounded.f
  rw [hb', hs]
  simp only [Option.bind_some, Bool.not_true]
  cases b with
  | false =>
    rw [if_neg (by decide), treillagelaw14_EpochActs.j0, if_pos rfl, hs]
    rfl
  | true =>
    obtain ⟨h100, h60⟩ := hb2 rfl
    obtain ⟨pins, e1, e2, h'⟩ := new_ok x0
    rw [if_pos rfl, treillagelaw14_EpochActs.j0, if_neg (by decide), e1, e2]
    simp only [Option.bind_some]
    exact acts_ok x1 h100 (fun j hj => h60 j hj (Nat.zero_le _)) x1.length K 0 0 pins [] (by omega) (by omega) h'
end Go.Proofs.Ytjnfllaonkeefaa.epochActs
