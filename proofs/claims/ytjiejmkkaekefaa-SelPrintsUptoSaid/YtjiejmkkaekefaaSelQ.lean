
import Derived.Test.YtjiejmkkaekefaaSelM
import Derived.Test.YtjiejmkkaekefaaSelT
import Derived.Test.YtjiejmkkaekefaaPAx34
/-
  The reference's Print in plain words: the same text, and whether it is read back to the same.
-/
namespace Go.Proofs.Ytjiejmkkaekefaa.PureS
set_option linter.unusedVariables false
set_option linter.unusedSimpArgs false
open Go.RowKit Go.Proofs.Ytjiejmkkaekefaa.PA Go.Proofs.YtjiejmkkaekefaaW.PrintWords Go.Proofs.YtjiejmkkaekefaaW.PrintLast Go.Proofs.YtjiejmkkaekefaaW.PrintMore Go.Proofs.YtjiejmkkaekefaaH

theorem rtext_f {t : Tst} (h : (tk t).size ≤ 1000000000000) : treillageref09_print.f t.f0 t.f1 t.f2 = some (tk t) := text_f h
def tr (t : RTst) : Tst := ⟨t.f0, t.f1, t.f2⟩
def sr (x : RStp) : Stp := ⟨x.f0.map tr, x.f1⟩
theorem sr_rs (x : Stp) : sr (rs x) = x := by
  unfold sr rs
  dsimp only
  rw [List.map_map, show tr ∘ rt = id from rfl, List.map_id]
theorem its_inj {a b : List (List Stp)} (h : its a = its b) : a = b := by
  have e : ∀ l : List (List Stp), (its l).map (fun r => r.map sr) = l := by
    intro l
    unfold its
    rw [List.map_map]
    have : ((fun r : List RStp => r.map sr) ∘ fun r : List Stp => r.map rs) = id := by
      funext r
      show (r.map rs).map sr = r
      rw [List.map_map, show sr ∘ rs = id from funext sr_rs, List.map_id]
    rw [this, List.map_id]
  rw [← e a, ← e b, h]
theorem its_len2 (l : List (List Stp)) : (its l).length = l.length := by unfold its; rw [List.length_map]
theorem its_at {l : List (List Stp)} {i : Nat} (h : i < l.length) : rd_L13 (its l) (i : Int) = l[i].map rs := by
  rw [rdL13 (by rw [its_len2]; exact h)]
  unfold its
  rw [List.getElem_map]
theorem row_at2 {r : List Stp} {j : Nat} (h : j < r.length) : rd_T61 (r.map rs) (j : Int) = rs r[j] := by
  rw [rdT61 (by rw [List.length_map]; exact h), List.getElem_map]
theorem tst_at {c : List Tst} {n : Nat} (h : n < c.length) : rd_T62 (c.map rt) (n : Int) = rt c[n] := by
  rw [rdT62 (by rw [List.length_map]; exact h), List.getElem_map]
theorem rprint_l2 {l : List (List Stp)} {i j : Nat} (hi : i < l.length) (hj : j < l[i].length) (hj9 : j ≤ 1000000000) (hc : l[i][j].f0.length ≤ 1000000000) {R : By × Int} :
    ∀ (d n : Nat) (s : By), l[i][j].f0.length - n ≤ d → n ≤ l[i][j].f0.length → (tcat s (l[i][j].f0.drop n)).size ≤ 1000000000000 → (Ev fun k => treillageref09_Print.l1 k (its l) (tcat s (l[i][j].f0.drop n)) i ((j + 1 : Nat) : Int) = some R) → Ev fun k => treillageref09_Print.l2 k (its l) s i j n = some R := by
  have hil : (its l).length = l.length := its_len2 l
  have hrl : (l[i].map rs).length = l[i].length := List.length_map ..
  have hcl : (rs l[i][j]).f0.length = l[i][j].f0.length := List.length_map ..
  intro d
  induction d with
  | zero =>
    intro n s hd hn hz hr
    rw [List.drop_of_length_le (by omega)] at hr
    refine hr.succ fun k hk => ?_
    rw [treillageref09_Print.l2]
    simp only [its_at hi, row_at2 hj]
    rw [if_pos (by omega), if_pos (by omega), if_pos (by omega), if_pos (by omega), if_neg (by omega), wn hj9]
    exact hk
  | succ d ih =>
    intro n s hd hn hz hr
    by_cases h : n < l[i][j].f0.length
    · rw [List.drop_eq_getElem_cons h, tcat] at hz hr
      have z := tcat_le (l[i][j].f0.drop (n + 1)) (s ++ tk l[i][j].f0[n])
      rw [ByteArray.size_append] at z
      refine (ih (n + 1) _ (by omega) h hz hr).succ fun k hk => ?_
      have e : rd_T62 (rs l[i][j]).f0 (n : Int) = rt l[i][j].f0[n] := tst_at h
      rw [treillageref09_Print.l2]
      simp only [its_at hi, row_at2 hj, e]
      rw [if_pos (by omega), if_pos (by omega), if_pos (by omega), if_pos (by omega), if_pos (by omega), if_pos (by omega)]
      have e2 : treillageref09_print.f (rt l[i][j].f0[n]).f0 (rt l[i][j].f0[n]).f1 (rt l[i][j].f0[n]).f2 = some (tk l[i][j].f0[n]) := rtext_f (by omega)
      rw [e2, Option.bind_some, if_pos (by omega), wn (by omega)]
      exact hk
    · exact ih n s (by omega) hn hz hr
theorem rprint_l1 {l : List (List Stp)} {i : Nat} (hi : i < l.length) (hi9 : i ≤ 1000000000) (hr9 : l[i].length ≤ 1000000000) (hx : ∀ x ∈ l[i], x.f0.length ≤ 1000000000) {R : By × Int} :
    ∀ (d j : Nat) (s : By), l[i].length - j ≤ d → j ≤ l[i].length → (rtx s j (l[i].drop j)).size ≤ 1000000000000 → (Ev fun k => treillageref09_Print.l0 k (its l) (rtx s j (l[i].drop j)) ((i + 1 : Nat) : Int) = some R) → Ev fun k => treillageref09_Print.l1 k (its l) s i j = some R := by
  have hil : (its l).length = l.length := its_len2 l
  have hrl : (l[i].map rs).length = l[i].length := List.length_map ..
  intro d
  induction d with
  | zero =>
    intro j s hd hj hz hr
    rw [List.drop_of_length_le (by omega)] at hr
    refine hr.succ fun k hk => ?_
    rw [treillageref09_Print.l1]
    simp only [its_at hi]
    rw [if_pos (by omega), if_pos (by omega), if_neg (by omega), wn hi9]
    exact hk
  | succ d ih =>
    intro j s hd hj hz hr
    by_cases h : j < l[i].length
    · rw [List.drop_eq_getElem_cons h, rtx] at hz hr
      have hcl : (rs l[i][j]).f0.length = l[i][j].f0.length := List.length_map ..
      have hz0 : (tcat (star (sep s j l[i][j].f1) l[i][j].f0) l[i][j].f0).size ≤ 1000000000000 := Nat.le_trans (rtx_le (l[i].drop (j + 1)) _ (j + 1)) hz
      have hz1 : (star (sep s j l[i][j].f1) l[i][j].f0).size ≤ 1000000000000 := Nat.le_trans (tcat_le l[i][j].f0 _) hz0
      have hz2 : (sep s j l[i][j].f1).size ≤ 1000000000000 := Nat.le_trans (star_le _ l[i][j].f0) hz1
      have h1 := ih (j + 1) _ (by omega) h hz hr
      have h2 : Ev fun k => treillageref09_Print.l2 k (its l) (star (sep s j l[i][j].f1) l[i][j].f0) i j 0 = some R := rprint_l2 hi h (by omega) (hx _ (List.getElem_mem h)) _ 0 _ (Nat.le_refl _) (Nat.zero_le _) (by rw [List.drop_zero]; exact hz0) (by rw [List.drop_zero]; exact h1)
      have h3 : Ev fun k => treillageref09_Print.j4 k (its l) (sep s j l[i][j].f1) i j = some R := by
        refine (h2.succ (Q := fun k => treillageref09_Print.j5 k (its l) (star (sep s j l[i][j].f1) l[i][j].f0) i j = some R) fun k hk => by rw [treillageref09_Print.j5]; exact hk).succ fun k hk => ?_
        rw [treillageref09_Print.j4]
        simp only [its_at hi, row_at2 h]
        rw [if_pos (by omega), if_pos (by omega), if_pos (by omega), if_pos (by omega)]
        unfold star at hk hz1
        by_cases e : l[i][j].f0.length = 0
        · rw [if_pos e, ByteArray.size_append, size1] at hz1
          rw [if_pos e] at hk
          rw [if_pos (by omega), if_pos (by omega)]
          exact hk
        · rw [if_neg e] at hk
          rw [if_neg (by omega)]
          exact hk
      have up : ∀ b : Bool, (b = true ↔ 0 < j ∧ l[i][j].f1 = true) → Ev fun k => treillageref09_Print.j3 k (its l) s i j b = some R := by
        intro b hb
        refine h3.succ fun k hk => ?_
        rw [treillageref09_Print.j3]
        unfold sep at hk hz2
        by_cases e : 0 < j ∧ l[i][j].f1 = true
        · rw [if_pos e, ByteArray.size_append, size3] at hz2
          rw [if_pos e] at hk
          rw [if_pos (hb.2 e), if_pos (by omega)]
          exact hk
        · rw [if_neg e] at hk hz2
          rw [if_neg (fun q => e (hb.1 q))]
          by_cases e2 : 0 < j
          · rw [if_pos e2, ByteArray.size_append, size1] at hz2
            rw [if_pos e2] at hk
            rw [if_pos (by omega), if_pos (by omega)]
            exact hk
          · rw [if_neg e2] at hk
            rw [if_neg (by omega)]
            exact hk
      by_cases e : 0 < j
      · refine (up l[i][j].f1 ⟨fun q => ⟨e, q⟩, fun q => q.2⟩).succ fun k hk => ?_
        rw [treillageref09_Print.l1]
        simp only [its_at hi, row_at2 h]
        rw [if_pos (by omega), if_pos (by omega), if_pos (by omega), if_pos (by omega), if_pos (by omega)]
        exact hk
      · refine (up false ⟨fun q => (by cases q), fun q => absurd q.1 e⟩).succ fun k hk => ?_
        rw [treillageref09_Print.l1]
        simp only [its_at hi, row_at2 h]
        rw [if_pos (by omega), if_pos (by omega), if_pos (by omega), if_neg (by omega)]
        exact hk
    · exact ih j s (by omega) hj hz hr
def csep (s : By) (i : Nat) : By := if 0 < i then s ++ Cs else s
def ltx (s : By) (i : Nat) : List (List Stp) → By
  | [] => s
  | r :: l => ltx (rtx (csep s i) 0 r) (i + 1) l
theorem ltx_le (l : List (List Stp)) : ∀ (s : By) (i : Nat), s.size ≤ (ltx s i l).size := by
  induction l with
  | nil => intro s i; exact Nat.le_refl _
  | cons r l ih =>
    intro s i
    have h1 : s.size ≤ (csep s i).size := by
      unfold csep
      split
      · rw [ByteArray.size_append]; omega
      · exact Nat.le_refl _
    exact Nat.le_trans h1 (Nat.le_trans (rtx_le r _ 0) (ih _ _))
theorem rtx_zero (s : By) (r : List Stp) : rtx s 0 r = s ++ srow Gs Ds r := by
  cases r with
  | nil => rw [srow]; exact (app_nil s).symm
  | cons x l =>
    rw [rtx_eq]
    unfold sep
    rw [if_neg (fun q => absurd q.1 (by decide)), if_neg (by decide)]
theorem ltx_succ (l : List (List Stp)) : ∀ (r : List Stp) (s : By) (i : Nat), ltx s (i + 1) (r :: l) = s ++ (Cs ++ slist Gs Ds Cs (r :: l)) := by
  induction l with
  | nil => intro r s i; rw [ltx, ltx, rtx_zero, slist_one]; unfold csep; rw [if_pos (Nat.succ_pos i), ByteArray.append_assoc]
  | cons r2 l ih =>
    intro r s i
    rw [ltx, ih, rtx_zero, slist_more]
    unfold csep
    rw [if_pos (Nat.succ_pos i)]
    simp only [ByteArray.append_assoc]
theorem ltx_text (l : List (List Stp)) : ltx (⟨#[]⟩ : By) 0 l = text l := by
  rw [text_eq]
  cases l with
  | nil => rfl
  | cons r l =>
    rw [ltx, rtx_zero]
    have : csep (⟨#[]⟩ : By) 0 = (⟨#[]⟩ : By) := rfl
    rw [this, nil_app]
    cases l with
    | nil => rw [ltx, slist_one]
    | cons r2 l => rw [ltx_succ, slist_more]
theorem rprint_f {l : List (List Stp)} (h : Small l) (hz : (text l).size ≤ 1000000000000) : ∃ r, (Ev fun k => treillageref09_Print.f k (its l) = some (if r = true then (text l, 0) else ((⟨#[]⟩ : By), 1))) ∧ (r = true ↔ parse (text l) = .ok l) := by
  have hil : (its l).length = l.length := its_len2 l
  have fin : ∃ r, (Ev fun k => treillageref09_Print.l0 k (its l) (text l) l.length = some (if r = true then (text l, 0) else ((⟨#[]⟩ : By), 1))) ∧ (r = true ↔ parse (text l) = .ok l) := by
    have hp := rparse_f (s := text l) (by omega)
    cases e : parse (text l) with
    | error p =>
      rw [e] at hp
      refine ⟨false, hp.succ fun k hk => ?_, ⟨fun q => (by cases q), fun q => (by cases q)⟩⟩
      rw [treillageref09_Print.l0, if_neg (by omega), hk, Option.bind_some]
      rfl
    | ok m =>
      rw [e] at hp
      obtain ⟨r, hr, hq⟩ := same_f (x1 := its m) (small_its h)
      refine ⟨r, (hp.and hr).succ fun k hk => ?_, ?_⟩
      · rw [treillageref09_Print.l0, if_neg (by omega), hk.1, Option.bind_some]
        have n1 : (rtold (Except.ok m : Except Nat (List (List Stp)))) = (its m, 0, 0) := rfl
        rw [n1, if_pos rfl, hk.2, Option.bind_some]
        cases r <;> rfl
      · rw [hq]
        exact ⟨fun q => by rw [its_inj q], fun q => (by injection q with q; rw [q])⟩
  obtain ⟨r, hr, hq⟩ := fin
  refine ⟨r, ?_, hq⟩
  have key : ∀ (d i : Nat) (s : By), l.length - i ≤ d → i ≤ l.length → ltx s i (l.drop i) = text l → Ev fun k => treillageref09_Print.l0 k (its l) s i = some (if r = true then (text l, 0) else ((⟨#[]⟩ : By), 1)) := by
    intro d
    induction d with
    | zero =>
      intro i s hd hi hs
      have e : i = l.length := by omega
      subst e
      rw [List.drop_of_length_le (Nat.le_refl _), ltx] at hs
      subst hs
      exact hr
    | succ d ih =>
      intro i s hd hi' hs
      by_cases hi : i < l.length
      · rw [List.drop_eq_getElem_cons hi, ltx] at hs
        have h1 := ih (i + 1) _ (by omega) hi hs
        have hm := h.2 _ (List.getElem_mem hi)
        have hl := h.1
        have hz1 : (rtx (csep s i) 0 l[i]).size ≤ 1000000000000 := by
          have := ltx_le (l.drop (i + 1)) (rtx (csep s i) 0 l[i]) (i + 1)
          rw [hs] at this
          omega
        have hz2 := Nat.le_trans (rtx_le l[i] (csep s i) 0) hz1
        have h2 := rprint_l1 hi (by omega) hm.1 hm.2 _ 0 (csep s i) (Nat.le_refl _) (Nat.zero_le _) (by rw [List.drop_zero]; exact hz1) (by rw [List.drop_zero]; exact h1)
        refine (h2.succ (Q := fun k => treillageref09_Print.j1 k (its l) (csep s i) i = some (if r = true then (text l, 0) else ((⟨#[]⟩ : By), 1))) fun k hk => by rw [treillageref09_Print.j1]; exact hk).succ fun k hk => ?_
        rw [treillageref09_Print.l0, if_pos (by omega)]
        unfold csep at hk hz2
        by_cases e : 0 < i
        · rw [if_pos e, ByteArray.size_append, size2] at hz2
          rw [if_pos e] at hk
          rw [if_pos (by omega), if_pos (by omega)]
          exact hk
        · rw [if_neg e] at hk
          rw [if_neg (by omega)]
          exact hk
      · exact ih i s (by omega) hi' hs
  have := key l.length 0 (⟨#[]⟩ : By) (by omega) (Nat.zero_le _) (by rw [List.drop_zero]; exact ltx_text l)
  unfold treillageref09_Print.f
  exact this
end Go.Proofs.Ytjiejmkkaekefaa.PureS
