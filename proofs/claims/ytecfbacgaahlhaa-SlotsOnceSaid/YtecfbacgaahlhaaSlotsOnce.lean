/-
  SlotsOnce: no handle is told twice, and none is 0; as many are live as were taken, and not given back: the walk, and the plain law in it (written by wip/gen/gen_slots_once.py). No condition.
-/
import Derived.Test.YtecfbacgaahlhaaPAx4
import Derived.Test.YtecfbacgaahlhaaSlotsM
import Derived.Maps.Own
import Derived.Maps.OwnOps
import Derived.Maps.OwnSet
import Derived.Maps.Views
import Derived.WalkKit
namespace Go.Proofs.Ytecfbacgaahlhaa.slotsOnce
set_option linter.unusedVariables false
set_option linter.unusedSimpArgs false
open Go.RowKit Go.Maps Go.Proofs.Ytecfbacgaahlhaa.PA Go.Proofs.Ytecfbacgaahlhaa.Pure Go.Proofs.YtecfbacgaahlhaaW.PrintWords Go.Proofs.YtecfbacgaahlhaaW.PrintLast Go.Proofs.YtecfbacgaahlhaaW.PrintMore Go.Proofs.YtecfbacgaahlhaaH

abbrev Da := DataW Unit
theorem law34 : Keyed Try.prog 34 := int_keyed Try.underlying34
theorem zero3 (w : World) : (zeroValue 3).run Try.prog w = .ok (.int .i64 0) w := by kernel_rfl
def getc (D : Da) (i : Int) : Int := match D.atKey (.int .u64 i) (.lit (.int .i64 0)) with
  | .lit (.int .i64 c) => c
  | _ => 0
def bump (D : Da) (i : Int) : Da := D.put (.int .u64 i) (.lit (.int .i64 (wrap64 (getc D i + 1))))
theorem getc_eq {D : Da} {i c : Int} (h : D.atKey (.int .u64 i) (.lit (.int .i64 0)) = .lit (.int .i64 c)) : getc D i = c := by unfold getc; rw [h]
theorem bump_eq {D : Da} {i c : Int} (h : D.atKey (.int .u64 i) (.lit (.int .i64 0)) = .lit (.int .i64 c)) : bump D i = D.put (.int .u64 i) (.lit (.int .i64 (wrap64 (c + 1)))) := by unfold bump; rw [getc_eq h]
theorem getc_same {D : Da} (h : IsMap D) (i : Int) : getc (bump D i) i = wrap64 (getc D i + 1) := by
  unfold getc bump
  rw [atKey_put_same h (by trivial)]
  rfl
theorem getc_other {D : Da} {i k : Int} (h : k ≠ i) : getc (bump D i) k = getc D k := by
  unfold getc bump
  rw [atKey_put_other (by intro e; injection e with e1 e2; exact h e2)]
def OKP (gs bm : Nat) (v : Value) (k : Nat) : Prop := k ≠ gs ∧ k ≠ bm ∧ some k ≠ v.ownBlock
theorem okp_ok {gs bm : Nat} {v : Value} {W : World} (h1 : gs < W.heap.size) (h2 : bm < W.heap.size) (h3 : ∀ k, v.ownBlock = some k → k < W.heap.size) {k : Nat} (h : ((OKP gs bm v k ∨ OKP gs bm v k ∨ OKP gs bm v k) ∨ W.heap.size ≤ k)) : OKP gs bm v k := by
  rcases h with (h | h | h) | h
  · exact h
  · exact h
  · exact h
  · exact ⟨by omega, by omega, fun e => by have := h3 k e.symm; omega⟩
abbrev Owns (w : World) (b n : Nat) (D : Da) : Prop := w.ownsMap Try.prog 34 (plainElem (H := Unit) Try.prog 3) b n D
theorem own_below {w w1 : World} {b n : Nat} {D : Da} (h : Owns w b n D) (hb : Below w.heap.size w w1) : Owns w1 b n D := by
  obtain ⟨es, clock, h1, h2⟩ := h
  exact ⟨es, clock, blk_below h1 hb, h2⟩
theorem own_grown {w w1 : World} {b n : Nat} {D : Da} (h : Owns w b n D) {row : Option Nat} (hg : w.grownBy w1 row) (hne : some b ≠ row) : Owns w1 b n D := by
  obtain ⟨es, clock, h1, h2⟩ := h
  exact ⟨es, clock, (hg.block b (blk_lt h1) hne).trans h1, h2⟩
theorem own_set {w : World} {b n : Nat} {D : Da} (h : Owns w b n D) {p : Addr} (hp : b = p.block → False) (u : Value) : Owns (w.setCell p u) b n D := by
  obtain ⟨es, clock, h1, h2⟩ := h
  exact ⟨es, clock, (Below.heap_setCell w p u b hp).trans h1, h2⟩
theorem own_drew {w : World} {b n : Nat} {D : Da} (h : Owns w b n D) : Owns w.drew b n D := h
theorem u16_rng (v : Int) : 0 ≤ IntKind.u16.wrap v ∧ IntKind.u16.wrap v < 65536 := by
  simp [IntKind.wrap, IntKind.bits, IntKind.signed]
  omega
theorem own_lt {w : World} {b n : Nat} {D : Da} (h : Owns w b n D) : b < w.heap.size := by
  obtain ⟨es, clock, h1, h2⟩ := h
  exact blk_lt h1
theorem w01 : wrap64 (0 + 1) = 1 := by unfold wrap64; omega
theorem shown3 : treillagelaw03_shown.f = some true := by decide +kernel
/-- What holds at the loop's head. -/
structure PI (N j : Nat) (g : List Int) (u : List Bool) (f Ls T : List Int) : Prop where
  inv : Inv N (1 + (j : Int)) g u f
  live : ∀ x ∈ Ls, ∃ i : Nat, i < N ∧ u.getD i false = true ∧ x = hd g i
  nd : Ls.Nodup
  cnt : Ls.length = u.count true
  told : ∀ x ∈ T, ∃ (i : Nat) (q : Int), i < N ∧ x = q * 16777216 + (i : Int) ∧ 1 ≤ q ∧ q ≤ g.getD i 0 ∧ (u.getD i false = false → q < g.getD i 0)
theorem PI.next {N j : Nat} {g u f Ls T} (h : PI N j g u f Ls T) : PI N (j + 1) g u f Ls T := ⟨h.inv.mono (by omega), h.live, h.nd, h.cnt, h.told⟩
theorem PI.sum {N j : Nat} {g u f Ls T} (h : PI N j g u f Ls T) : f.length + Ls.length = N := by rw [h.cnt]; exact h.inv.hc
theorem PI.alls {N j : Nat} {g u f Ls T} (h : PI N j g u f Ls T) : (alls g u N).length = Ls.length := by rw [alls_lenN h.inv, h.cnt]
theorem PI.first {n : Nat} (hn : n ≤ 500) : PI n 0 (List.replicate n 1) (List.replicate n false) ((List.range n).reverse.map Int.ofNat) [] [] := by
  refine ⟨new_inv hn, (fun x hx => by cases hx), List.nodup_nil, ?_, (fun x hx => by cases hx)⟩
  rw [List.count_replicate]
  rfl
/-- A slot is taken. -/
theorem PI.take {N j : Nat} {g u f Ls T} (h : PI N j g u f Ls T) (hj : j ≤ 150) {i : Nat} (hi : i < N) (hui : u.getD i true = false) (hI : Inv N (1 + (j : Int)) g (u.set i true) (f.take (f.length - 1))) :
    PI N (j + 1) g (u.set i true) (f.take (f.length - 1)) (Ls ++ [hd g i]) (hd g i :: T) ∧ hd g i ∉ T := by
  have hui' : u.getD i false = false := by rw [getD_tf u (by rw [h.inv.hu]; exact hi) false true]; exact hui
  have hr := hd_rng h.inv (by omega) hi
  have hnt : hd g i ∉ T := by
    intro hm
    obtain ⟨i2, q, h1, h2, h3, h4, h5⟩ := h.told _ hm
    have hN := h.inv.hN
    unfold hd at h2
    have e : i2 = i := by omega
    subst e
    have := h5 hui'
    omega
  have hnl : hd g i ∉ Ls := by
    intro hm
    obtain ⟨i2, h1, h2, h3⟩ := h.live _ hm
    have hN := h.inv.hN
    unfold hd at h3
    have e : i2 = i := by omega
    subst e
    rw [hui'] at h2
    cases h2
  refine ⟨⟨hI.mono (by omega), fun x hx => ?_, ?_, ?_, fun x hx => ?_⟩, hnt⟩
  · rw [List.mem_append, List.mem_singleton] at hx
    rcases hx with hx | rfl
    · obtain ⟨i2, h1, h2, h3⟩ := h.live _ hx
      refine ⟨i2, h1, ?_, h3⟩
      by_cases e : i = i2
      · subst e; exact Pure.getD_set_self _ _ _ _ (by rw [h.inv.hu]; exact hi)
      · rw [Pure.getD_set_ne _ _ _ _ _ e]; exact h2
    · exact ⟨i, hi, Pure.getD_set_self _ _ _ _ (by rw [h.inv.hu]; exact hi), rfl⟩
  · rw [List.nodup_append]
    refine ⟨h.nd, by simp, fun a ha b hb e => ?_⟩
    rw [List.mem_singleton] at hb
    subst hb
    subst e
    exact hnl ha
  · rw [count_set_true u i (by rw [h.inv.hu]; exact hi) hui, List.length_append, List.length_singleton, h.cnt]
  · rw [List.mem_cons] at hx
    rcases hx with rfl | hx
    · have := h.inv.hM i hi
      refine ⟨i, g.getD i 0, hi, rfl, by omega, Int.le_refl _, fun hf => ?_⟩
      rw [Pure.getD_set_self _ _ _ _ (by rw [h.inv.hu]; exact hi)] at hf
      cases hf
    · obtain ⟨i2, q, h1, h2, h3, h4, h5⟩ := h.told _ hx
      refine ⟨i2, q, h1, h2, h3, h4, fun hf => ?_⟩
      by_cases e : i = i2
      · subst e
        rw [Pure.getD_set_self _ _ _ _ (by rw [h.inv.hu]; exact hi)] at hf
        cases hf
      · rw [Pure.getD_set_ne _ _ _ _ _ e] at hf
        exact h5 hf
/-- A handle is given back. -/
theorem PI.give {N j : Nat} {g u f Ls T} (h : PI N j g u f Ls T) (hj : j ≤ 150) {k : Nat} (hk : k < Ls.length) : ∃ i : Nat, i < N ∧ u.getD i false = true ∧ Ls.getD k 0 = hd g i ∧
    PI N (j + 1) (g.set i (g.getD i 0 + 1)) (u.set i false) (f ++ [(i : Int)]) (Ls.take k ++ Ls.drop (k + 1)) T := by
  have hN := h.inv.hN
  have hm : Ls.getD k 0 ∈ Ls := by
    rw [List.getD_eq_getElem?_getD, List.getElem?_eq_getElem hk]
    exact List.getElem_mem hk
  obtain ⟨i, hi, hui, he⟩ := h.live _ hm
  refine ⟨i, hi, hui, he, ?_⟩
  have hI := (give_eq h.inv (by omega) hi hui).2
  have hsp : Ls = Ls.take k ++ Ls.getD k 0 :: Ls.drop (k + 1) := by
    have e := List.take_append_drop k Ls
    rw [List.drop_eq_getElem_cons hk] at e
    rw [List.getD_eq_getElem?_getD, List.getElem?_eq_getElem hk]
    exact e.symm
  have hnd := h.nd
  rw [hsp, List.nodup_append] at hnd
  have hnd2 := hnd.2.1
  rw [List.nodup_cons] at hnd2
  have hout : ∀ x ∈ Ls.take k ++ Ls.drop (k + 1), x ∈ Ls ∧ x ≠ Ls.getD k 0 := by
    intro x hx
    rw [List.mem_append] at hx
    rcases hx with hx | hx
    · exact ⟨List.mem_of_mem_take hx, hnd.2.2 x hx _ List.mem_cons_self⟩
    · exact ⟨List.mem_of_mem_drop hx, fun e => hnd2.1 (e ▸ hx)⟩
  refine ⟨by have := hI; rwa [show 1 + (j : Int) + 1 = 1 + ((j + 1 : Nat) : Int) from by omega] at this, fun x hx => ?_, ?_, ?_, fun x hx => ?_⟩
  · obtain ⟨hx1, hx2⟩ := hout x hx
    obtain ⟨i2, h1, h2, h3⟩ := h.live _ hx1
    have e : i ≠ i2 := by
      intro e
      subst e
      exact hx2 (h3.trans he.symm)
    refine ⟨i2, h1, by rw [Pure.getD_set_ne _ _ _ _ _ e]; exact h2, ?_⟩
    unfold hd at h3 ⊢
    rw [Pure.getD_set_ne _ _ _ _ _ e]
    exact h3
  · rw [List.nodup_append]
    exact ⟨hnd.1, hnd2.2, fun a ha b hb => hnd.2.2 a ha b (List.mem_cons_of_mem _ hb)⟩
  · have h1 := count_set_false u i (by rw [h.inv.hu]; exact hi) hui
    have h2 := h.cnt
    rw [List.length_append, List.length_take, List.length_drop]
    omega
  · obtain ⟨i2, q, h1, h2, h3, h4, h5⟩ := h.told _ hx
    by_cases e : i = i2
    · subst e
      refine ⟨i, q, h1, h2, h3, ?_, fun _ => ?_⟩ <;> rw [Pure.getD_set_self _ _ _ _ (by rw [h.inv.hg]; exact hi)] <;> omega
    · refine ⟨i2, q, h1, h2, h3, by rw [Pure.getD_set_ne _ _ _ _ _ e]; exact h4, fun hf => ?_⟩
      rw [Pure.getD_set_ne _ _ _ _ _ e] at hf
      rw [Pure.getD_set_ne _ _ _ _ _ e]
      exact h5 hf

set_option maxHeartbeats 6400000 in
set_option maxRecDepth 100000 in
theorem walk1 (a0 : Int) (AA : Option Addr) (ca : Nat) (acts : List Int) (N : Nat) (hN : Int.tmod (wrap64 a0) 20 = (N : Int)) (hN2 : N ≤ 20) (w : World) (hr : Kd.C (Kd.int .u16) w AA acts.length acts) (hc : acts.length ≤ ca) (hl : acts.length ≤ 150) :
    Calls Try.prog 3 #[.int .u8 a0, .slice AA acts.length ca] w fun e w' => e = .returned (.bool true) ∧ Below w.heap.size w w' := by
  have hmm := @run_makeMap Try.prog
  have hu := Try.underlying28
  have hum := Try.underlying32
  have HR := Aside0.mk hr
  have hl' : ¬ (150 : Int) < (acts.length : Int) := by omega
  obtain ⟨g, u, f, hnew, hP⟩ : ∃ g u f, slots_New.f (N : Int) = some (g, u, f, 0) ∧ PI N 0 g u f [] [] := ⟨_, _, _, new_eq (by omega), PI.first (by omega)⟩
  have HNew := Aside0.mk hnew
  have HP := Aside0.mk hP
  clear hr hnew hP
  have HB := Below.refl w.heap.size w
  go_enter Try.func3, Try.ntmps3
  go_wp2_with (first
    | (go_at_call 14; refine (treillagelaw03_shown.calls true _ shown3).mono ?_; rintro e ws ⟨rfl, hb_⟩; replace HB := below_step HB hb_; clear hb_)
    | (go_at_call 15; refine (slots_New.calls (N : Int) g u f 0 _ HNew.out).mono ?_; rintro e wn ⟨v0, v1, v2, rfl, hV0, hV1, hV2, hb_⟩; obtain ⟨A0, c0, e0_⟩ := Kd.V_slice hV0; subst e0_; obtain ⟨A1, c1, e1_⟩ := Kd.V_slice hV1; subst e1_; obtain ⟨A2, c2, e2_⟩ := Kd.V_slice hV2; subst e2_; obtain ⟨nz, hnz⟩ : ∃ n_, n_ = wn.heap.size := ⟨_, rfl⟩; have HV0 := Aside0.mk (Kd.V_mono (Kd.V_bound hV0) (fun k_ h_ => (by rw [hnz]; exact h_.2 : k_ < nz))); have HV1 := Aside0.mk (Kd.V_mono (Kd.V_bound hV1) (fun k_ h_ => (by rw [hnz]; exact h_.2 : k_ < nz))); have HV2 := Aside0.mk (Kd.V_mono (Kd.V_bound hV2) (fun k_ h_ => (by rw [hnz]; exact h_.2 : k_ < nz))); replace HB := below_step HB hb_; have HZ : nz ≤ wn.heap.size := Nat.le_of_eq hnz; clear hV0 hV1 hV2 hb_ hnz)
    | ((with_reducible refine gate_dst (N := 5) rfl ?_); (with_reducible refine gate_ (.alloc 28) rfl ?_); refine box_event (N := 5) rfl rfl (cs := #[.slice none 0 0, .slice none 0 0, .slice none 0 0]) (t := 28) (by first | (go_simp; done) | (go_simp; rfl)) ?_; intro gs hg_ ws_ hbs hbl_; have HGs : w.heap.size ≤ gs := (by rw [hg_]; exact Nat.le_trans (by first | exact Nat.le_refl _ | exact HB.size) (Nat.le_refl _)); have HZs : nz ≤ gs := (by rw [hg_]; exact HZ); replace HV0 := Aside0.mk (Kd.V_below HV0.out hbl_); replace HV1 := Aside0.mk (Kd.V_below HV1.out hbl_); replace HV2 := Aside0.mk (Kd.V_below HV2.out hbl_); clear HZ; replace HB := below_step (blw HB) hbl_; clear hg_ hbl_; have hqs_0 : ws_.cell? ⟨gs, 0, none⟩ = some (.slice none 0 0) := (blk_cell hbs 0).trans rfl; have hqs_1 : ws_.cell? ⟨gs, 1, none⟩ = some (.slice none 0 0) := (blk_cell hbs 1).trans rfl; have hqs_2 : ws_.cell? ⟨gs, 2, none⟩ = some (.slice none 0 0) := (blk_cell hbs 2).trans rfl)
    | ((with_reducible refine gate_ (.store 28 (.tmp 5) (.tmp 29)) rfl ?_); refine blk_store_all (w0 := w) (base := w.heap.size) (u := .agg #[.slice A0 g.length c0, .slice A1 u.length c1, .slice A2 f.length c2]) (seg := [.slice A0 g.length c0, .slice A1 u.length c1, .slice A2 f.length c2]) rfl rfl rfl rfl rfl rfl ?h1_ ?ht_ (by exact hbs) (by rfl) (blw HB) HGs ?_; (case ht_ => kernel_rfl); (case h1_ => intro q_ hq_; simp only [List.mem_cons, List.not_mem_nil, or_false] at hq_; rcases hq_ with rfl | rfl | rfl <;> rfl); intro ws_2 hb2_ HB2_ hgr_; clear hqs_0 hqs_1 hqs_2; replace hbs := hb2_; replace HV0 := Aside0.mk (Kd.V_grown HV0.out hgr_ (fun k_ hk_ e_ => by injection e_ with e_; omega)); replace HV1 := Aside0.mk (Kd.V_grown HV1.out hgr_ (fun k_ hk_ e_ => by injection e_ with e_; omega)); replace HV2 := Aside0.mk (Kd.V_grown HV2.out hgr_ (fun k_ hk_ e_ => by injection e_ with e_; omega)); replace HB := HB2_; clear hb2_ HB2_ hgr_; have hqs_0 : ws_2.cell? ⟨gs, 0, none⟩ = some (.slice A0 g.length c0) := (blk_cell hbs 0).trans rfl; have hqs_1 : ws_2.cell? ⟨gs, 1, none⟩ = some (.slice A1 u.length c1) := (blk_cell hbs 1).trans rfl; have hqs_2 : ws_2.cell? ⟨gs, 2, none⟩ = some (.slice A2 f.length c2) := (blk_cell hbs 2).trans rfl))
  have hlt_ := blk_lt hbs
  have hown0 := World.ownsMap_made (H := Unit) ws_2 Try.prog 34 (plainElem (H := Unit) Try.prog 3)
  have hown := own_below hown0 (below_alloc (Below.refl _ _) (.cells #[] 34))
  have hsz : (ws_2.alloc (.map #[] 0)).heap.size = ws_2.heap.size + 1 := by show (ws_2.heap.push _).size = _; exact Array.size_push _
  have hLb := blk_new (ws_2.alloc (.map #[] 0)) (.cells #[] 34)
  rw [hsz] at hLb
  have hbs2 := blk_alloc (blk_alloc hbs (.map #[] 0)) (.cells #[] 34)
  have HB2 := below_alloc (below_alloc HB (.map #[] 0)) (.cells #[] 34)
  have hbz := HB.size
  have HL : Kd.R (Kd.int .u64) 34 ((ws_2.alloc (.map #[] 0)).alloc (.cells #[] 34)) w.heap.size (fun _ => True) (.slice (some ⟨ws_2.heap.size + 1, 0, none⟩) ([] : List Int).length 0) [] := blk_R (enc := Value.int .u64) (h1 := fun _ => rfl) [] hLb (by omega) (by simp) trivial
  have HNL : some ws_2.heap.size ≠ (Value.slice (some ⟨ws_2.heap.size + 1, 0, none⟩) ([] : List Int).length 0).ownBlock := by simp [Value.ownBlock]
  have HNS : gs ≠ ws_2.heap.size := by omega
  have hkk : ∀ k_, k_ < nz → k_ ≠ gs ∧ k_ ≠ ws_2.heap.size ∧ some k_ ≠ (Value.slice (some ⟨ws_2.heap.size + 1, 0, none⟩) ([] : List Int).length 0).ownBlock := fun k_ h_ => ⟨by omega, by omega, by simp [Value.ownBlock]; omega⟩
  have HV0x := Kd.V_mono (Kd.V_alloc (Kd.V_alloc HV0.out (.map #[] 0)) (.cells #[] 34)) hkk
  have HV1x := Kd.V_mono (Kd.V_alloc (Kd.V_alloc HV1.out (.map #[] 0)) (.cells #[] 34)) hkk
  have HV2x := Kd.V_mono (Kd.V_alloc (Kd.V_alloc HV2.out (.map #[] 0)) (.cells #[] 34)) hkk
  have HGM : w.heap.size ≤ ws_2.heap.size := hbz
  clear hbs HB HV0 HV1 HV2 hkk hown0 hsz hLb hlt_ hbz HZs hqs_0 hqs_1 hqs_2
  go_loopw [8, 9] (fun vL vi wr => ∃ (j n : Nat) (Ls g f T : List Int) (u' : List Bool) (AL A0 A1 A2 : Option Addr) (cL c0 c1 c2 : Nat) (D : Da), j ≤ acts.length ∧ n ≤ j ∧ vi = .int .i64 j ∧ vL = .slice AL Ls.length cL ∧ PI N j g u' f Ls T ∧ (∀ x, x ∉ T → getc D x = 0) ∧ Owns wr ws_2.heap.size n D ∧ some ws_2.heap.size ≠ (.slice AL Ls.length cL : Value).ownBlock ∧ Kd.R (Kd.int .u64) 34 wr w.heap.size (fun _ => True) (.slice AL Ls.length cL) Ls ∧ Kd.V (Kd.int .u64) 34 wr w.heap.size (OKP gs ws_2.heap.size (.slice AL Ls.length cL)) (.slice A0 g.length c0) g ∧ Kd.V Kd.bool 4 wr w.heap.size (OKP gs ws_2.heap.size (.slice AL Ls.length cL)) (.slice A1 u'.length c1) u' ∧ Kd.V (Kd.int .i64) 3 wr w.heap.size (OKP gs ws_2.heap.size (.slice AL Ls.length cL)) (.slice A2 f.length c2) f ∧ wr.heap[gs]? = some (.cells #[.slice A0 g.length c0, .slice A1 u'.length c1, .slice A2 f.length c2] 28 (0, 0)) ∧ Below w.heap.size w wr) (fun _ v _ => acts.length - (intOf v).toNat)
  case atStart => exact ⟨0, 0, [], g, f, [], u, _, A0, A1, A2, _, c0, c1, c2, _, Nat.zero_le _, Nat.le_refl _, rfl, rfl, HP.out, (fun x _ => rfl), hown, HNL, HL, HV0x, HV1x, HV2x, hbs2, HB2⟩
  case round =>
    clear hown HNL HL HV0x HV1x HV2x hbs2 HB2 HP HNew
    obtain ⟨j, n, Ls, G, Fq, T, U, AL, B0, B1, B2, cL, d0, d1, d2, D, hj, hnj, rfl, rfl, hP, hD, hown, HNL, HL, hV0, hV1, hV2, hbs, HB⟩ := hrel
    have HPj := Aside0.mk hP
    have HDj := Aside0.mk hD
    clear hP hD
    have hbm_ : ws_2.heap.size = ws_2.heap.size := rfl
    by_cases hlt : j < acts.length
    · obtain ⟨ad, eA, hx⟩ := Kd.at_int HR.out (j : Int) (by omega) (by omega)
      subst eA
      replace hx := (HB.cell (World.block_lt_of_cell? w _ hx)).trans hx
      rw [Int.toNat_natCast] at hx
      obtain ⟨x, hxe⟩ : ∃ x, x = rd acts (j : Int) := ⟨_, rfl⟩
      rw [← hxe] at hx
      clear hxe
      have hlt' : (j : Int) < (acts.length : Int) := by omega
      have hj150 : j ≤ 150 := by omega
      have hqs_0 : wr.cell? ⟨gs, 0, none⟩ = some (.slice B0 G.length d0) := (blk_cell hbs 0).trans rfl
      have hqs_1 : wr.cell? ⟨gs, 1, none⟩ = some (.slice B1 U.length d1) := (blk_cell hbs 1).trans rfl
      have hqs_2 : wr.cell? ⟨gs, 2, none⟩ = some (.slice B2 Fq.length d2) := (blk_cell hbs 2).trans rfl
      have hsum := HPj.out.sum
      by_cases c1 : 0 < Int.tmod x 3
      · rcases Nat.eq_zero_or_pos Fq.length with h0 | hp
        · have hT := take_full (g := G) (u := U) h0
          have HT := Aside0.mk hT
          have hRA := HPj.out.alls
          obtain ⟨RA, hRAe⟩ : ∃ R, R = alls G U N := ⟨_, rfl⟩
          rw [← hRAe] at hRA
          have hAll := all_eq HPj.out.inv (by omega)
          rw [← hRAe] at hAll
          have HAll := Aside0.mk hAll
          have HFL := Aside0.mk (show wrap64 ((N : Int) - (Ls.length : Int)) = (Fq.length : Int) from (by unfold wrap64; omega))
          have hnl : ¬ (Ls.length : Int) < (N : Int) := by omega
          have hnlb : decide ((Ls.length : Int) < (N : Int)) = false := decide_eq_false hnl
          clear hT hAll hRAe hsum h0
          go_wp2_with (first
    | (go_at_call 16; have hlt1_ := blk_lt hbs; have hlt2_ := own_lt hown; have hlt3_ := (fun k_ h_ => (Kd.R_bound HL).1 k_ h_); refine (slots_Take.calls (OKP gs ws_2.heap.size (.slice AL Ls.length cL)) B0 d0 G (OKP gs ws_2.heap.size (.slice AL Ls.length cL)) B1 d1 U (OKP gs ws_2.heap.size (.slice AL Ls.length cL)) B2 d2 Fq G U Fq 0 2 _ hV0 hV1 hV2 HT.out).mono ?_; rintro e wt ⟨v0, v1, v2, rfl, hW0, hW1, hW2, hb_⟩; obtain ⟨C0, e0, ec_⟩ := Kd.V_slice hW0; subst ec_; obtain ⟨C1, e1, ec_⟩ := Kd.V_slice hW1; subst ec_; obtain ⟨C2, e2, ec_⟩ := Kd.V_slice hW2; subst ec_; obtain ⟨nt, hnt⟩ : ∃ n_, n_ = wt.heap.size := ⟨_, rfl⟩; have HZt : nt ≤ wt.heap.size := Nat.le_of_eq hnt; have hX0 := Kd.V_mono (Kd.V_bound hW0) (fun k_ h_ => (⟨okp_ok hlt1_ hlt2_ (fun k_ h_ => (hlt3_ k_ h_).2.2.1) h_.1, (by rw [hnt]; exact h_.2)⟩ : (OKP gs ws_2.heap.size (.slice AL Ls.length cL)) k_ ∧ k_ < nt)); have hX1 := Kd.V_mono (Kd.V_bound hW1) (fun k_ h_ => (⟨okp_ok hlt1_ hlt2_ (fun k_ h_ => (hlt3_ k_ h_).2.2.1) h_.1, (by rw [hnt]; exact h_.2)⟩ : (OKP gs ws_2.heap.size (.slice AL Ls.length cL)) k_ ∧ k_ < nt)); have hX2 := Kd.V_mono (Kd.V_bound hW2) (fun k_ h_ => (⟨okp_ok hlt1_ hlt2_ (fun k_ h_ => (hlt3_ k_ h_).2.2.1) h_.1, (by rw [hnt]; exact h_.2)⟩ : (OKP gs ws_2.heap.size (.slice AL Ls.length cL)) k_ ∧ k_ < nt)); clear hW0 hW1 hW2 hV0 hV1 hV2 hlt1_ hlt2_ hlt3_ hnt; have hV0 := hX0; have hV1 := hX1; have hV2 := hX2; clear hX0 hX1 hX2 hqs_0 hqs_1 hqs_2 hx; replace hbs := blk_below hbs hb_; replace HL := Kd.R_below HL hb_; replace hown := own_below hown hb_; replace HB := below_step HB hb_; clear hb_; have hqs_0 : wt.cell? ⟨gs, 0, none⟩ = some (.slice B0 G.length d0) := (blk_cell hbs 0).trans rfl; have hqs_1 : wt.cell? ⟨gs, 1, none⟩ = some (.slice B1 U.length d1) := (blk_cell hbs 1).trans rfl; have hqs_2 : wt.cell? ⟨gs, 2, none⟩ = some (.slice B2 Fq.length d2) := (blk_cell hbs 2).trans rfl)
    | ((with_reducible refine gate_dst (N := 10) rfl ?_); (with_reducible refine gate_ (.alloc 28) rfl ?_); refine box_event (N := 10) rfl rfl (cs := #[.slice none 0 0, .slice none 0 0, .slice none 0 0]) (t := 28) (by first | (go_simp; done) | (go_simp; rfl)) ?_; intro gt hg_ wt_ hbt hbl_; have HGt : w.heap.size ≤ gt := (by rw [hg_]; exact Nat.le_trans (by first | exact Nat.le_refl _ | exact HB.size) (Nat.le_refl _)); have HNt_s : gt ≠ gs := (by rw [hg_]; exact Nat.ne_of_gt (blk_lt (by exact hbs))); clear hqs_0 hqs_1 hqs_2; replace hbs := blk_below (by exact hbs) hbl_; have hqs_0 : wt_.cell? ⟨gs, 0, none⟩ = some (.slice B0 G.length d0) := (blk_cell hbs 0).trans rfl; have hqs_1 : wt_.cell? ⟨gs, 1, none⟩ = some (.slice B1 U.length d1) := (blk_cell hbs 1).trans rfl; have hqs_2 : wt_.cell? ⟨gs, 2, none⟩ = some (.slice B2 Fq.length d2) := (blk_cell hbs 2).trans rfl; have HZtt : nt ≤ gt := (by rw [hg_]; exact HZt); have HNtm : gt ≠ ws_2.heap.size := (by rw [hg_]; exact Nat.ne_of_gt (own_lt hown)); replace hV0 := Kd.V_below hV0 hbl_; replace hV1 := Kd.V_below hV1 hbl_; replace hV2 := Kd.V_below hV2 hbl_; replace HL := Kd.R_below HL hbl_; replace hown := own_below hown hbl_; clear HZt; replace HB := below_step (blw HB) hbl_; clear hg_ hbl_; have hqt_0 : wt_.cell? ⟨gt, 0, none⟩ = some (.slice none 0 0) := (blk_cell hbt 0).trans rfl; have hqt_1 : wt_.cell? ⟨gt, 1, none⟩ = some (.slice none 0 0) := (blk_cell hbt 1).trans rfl; have hqt_2 : wt_.cell? ⟨gt, 2, none⟩ = some (.slice none 0 0) := (blk_cell hbt 2).trans rfl)
    | ((with_reducible refine gate_ (.store 28 (.tmp 10) (.tmp 50)) rfl ?_); have hbt0_ := hbt; refine blk_store_all (w0 := w) (base := w.heap.size) (u := .agg #[.slice C0 G.length e0, .slice C1 U.length e1, .slice C2 Fq.length e2]) (seg := [.slice C0 G.length e0, .slice C1 U.length e1, .slice C2 Fq.length e2]) rfl rfl rfl rfl rfl rfl ?h1_ ?ht_ (by exact hbt) (by rfl) (blw HB) HGt ?_; (case ht_ => kernel_rfl); (case h1_ => intro q_ hq_; simp only [List.mem_cons, List.not_mem_nil, or_false] at hq_; rcases hq_ with rfl | rfl | rfl <;> rfl); intro wt_2 hb2_ HB2_ hgr_; clear hqs_0 hqs_1 hqs_2; replace hbs := blk_grown (by exact hbs) hgr_ (fun e_ => by injection e_ with e_; exact HNt_s.symm e_); clear hqt_0 hqt_1 hqt_2; replace hbt := hb2_; replace hV0 := Kd.V_grown hV0 hgr_ (fun k_ hk_ e_ => by injection e_ with e_; have h_ := hk_.2; omega); replace hV1 := Kd.V_grown hV1 hgr_ (fun k_ hk_ e_ => by injection e_ with e_; have h_ := hk_.2; omega); replace hV2 := Kd.V_grown hV2 hgr_ (fun k_ hk_ e_ => by injection e_ with e_; have h_ := hk_.2; omega); replace HL := Kd.R_grown2 HL rfl hgr_ (fun k e_ => by injection e_ with e_; subst e_; exact Kd.R_ne HL hbt0_ (by decide)); replace hown := own_grown hown hgr_ (fun e_ => by injection e_ with e_; exact HNtm e_.symm); replace HB := HB2_; clear hb2_ HB2_ hgr_; have hqs_0 : wt_2.cell? ⟨gs, 0, none⟩ = some (.slice B0 G.length d0) := (blk_cell hbs 0).trans rfl; have hqs_1 : wt_2.cell? ⟨gs, 1, none⟩ = some (.slice B1 U.length d1) := (blk_cell hbs 1).trans rfl; have hqs_2 : wt_2.cell? ⟨gs, 2, none⟩ = some (.slice B2 Fq.length d2) := (blk_cell hbs 2).trans rfl; have hqt_0 : wt_2.cell? ⟨gt, 0, none⟩ = some (.slice C0 G.length e0) := (blk_cell hbt 0).trans rfl; have hqt_1 : wt_2.cell? ⟨gt, 1, none⟩ = some (.slice C1 U.length e1) := (blk_cell hbt 1).trans rfl; have hqt_2 : wt_2.cell? ⟨gt, 2, none⟩ = some (.slice C2 Fq.length e2) := (blk_cell hbt 2).trans rfl)
    | ((with_reducible refine gate_ (.store 28 (.tmp 5) (.tmp 80)) rfl ?_); have hbs0_ := hbs; refine blk_store_all (w0 := w) (base := w.heap.size) (u := .agg #[.slice C0 G.length e0, .slice C1 U.length e1, .slice C2 Fq.length e2]) (seg := [.slice C0 G.length e0, .slice C1 U.length e1, .slice C2 Fq.length e2]) rfl rfl rfl rfl rfl rfl ?h1_ ?ht_ (by exact hbs) (by rfl) (blw HB) HGs ?_; (case ht_ => kernel_rfl); (case h1_ => intro q_ hq_; simp only [List.mem_cons, List.not_mem_nil, or_false] at hq_; rcases hq_ with rfl | rfl | rfl <;> rfl); intro ws_3 hb2_ HB2_ hgr_; clear hqs_0 hqs_1 hqs_2; replace hbs := hb2_; clear hqt_0 hqt_1 hqt_2; replace hbt := blk_grown (by exact hbt) hgr_ (fun e_ => by injection e_ with e_; exact HNt_s e_); replace hV0 := Kd.V_grown hV0 hgr_ (fun k_ hk_ e_ => by injection e_ with e_; exact hk_.1.1 e_); replace hV1 := Kd.V_grown hV1 hgr_ (fun k_ hk_ e_ => by injection e_ with e_; exact hk_.1.1 e_); replace hV2 := Kd.V_grown hV2 hgr_ (fun k_ hk_ e_ => by injection e_ with e_; exact hk_.1.1 e_); replace HL := Kd.R_grown2 HL rfl hgr_ (fun k e_ => by injection e_ with e_; subst e_; exact Kd.R_ne HL hbs0_ (by decide)); replace hown := own_grown hown hgr_ (fun e_ => by injection e_ with e_; exact HNS e_.symm); replace HB := HB2_; clear hb2_ HB2_ hgr_; have hqs_0 : ws_3.cell? ⟨gs, 0, none⟩ = some (.slice C0 G.length e0) := (blk_cell hbs 0).trans rfl; have hqs_1 : ws_3.cell? ⟨gs, 1, none⟩ = some (.slice C1 U.length e1) := (blk_cell hbs 1).trans rfl; have hqs_2 : ws_3.cell? ⟨gs, 2, none⟩ = some (.slice C2 Fq.length e2) := (blk_cell hbs 2).trans rfl; have hqt_0 : ws_3.cell? ⟨gt, 0, none⟩ = some (.slice C0 G.length e0) := (blk_cell hbt 0).trans rfl; have hqt_1 : ws_3.cell? ⟨gt, 1, none⟩ = some (.slice C1 U.length e1) := (blk_cell hbt 1).trans rfl; have hqt_2 : ws_3.cell? ⟨gt, 2, none⟩ = some (.slice C2 Fq.length e2) := (blk_cell hbt 2).trans rfl)
    | (go_at_call 18; refine (slots_All.calls C0 e0 G C1 e1 U C2 e2 Fq RA _ (Kd.V_reads' hV0).2.2 (Kd.V_reads' hV0).2.1 (Kd.V_reads' hV1).2.2 (Kd.V_reads' hV1).2.1 (Kd.V_reads' hV2).2.2 (Kd.V_reads' hV2).2.1 HAll.out).mono ?_; rintro e wa ⟨v0_, rfl, hRv, hb_⟩; obtain ⟨AR, cR, e_⟩ := Kd.R_slice hRv; subst e_; clear hRv; clear hqs_0 hqs_1 hqs_2 hqt_0 hqt_1 hqt_2; replace hbs := blk_below hbs hb_; replace hbt := blk_below hbt hb_; replace hV0 := Kd.V_below hV0 hb_; replace hV1 := Kd.V_below hV1 hb_; replace hV2 := Kd.V_below hV2 hb_; replace HL := Kd.R_below HL hb_; replace hown := own_below hown hb_; replace HB := below_step HB hb_; clear hb_; have hqs_0 : wa.cell? ⟨gs, 0, none⟩ = some (.slice C0 G.length e0) := (blk_cell hbs 0).trans rfl; have hqs_1 : wa.cell? ⟨gs, 1, none⟩ = some (.slice C1 U.length e1) := (blk_cell hbs 1).trans rfl; have hqs_2 : wa.cell? ⟨gs, 2, none⟩ = some (.slice C2 Fq.length e2) := (blk_cell hbs 2).trans rfl; have hfl_ := HFL.out))
          clear hfl_ hN
          refine ⟨⟨j + 1, n, Ls, G, Fq, T, U, AL, C0, C1, C2, cL, e0, e1, e2, D, by omega, by omega, by go_num, rfl, HPj.out.next, HDj.out, hown, HNL, HL, Kd.V_mono hV0 (fun k_ h_ => h_.1), Kd.V_mono hV1 (fun k_ h_ => h_.1), Kd.V_mono hV2 (fun k_ h_ => h_.1), hbs, HB⟩, ?_⟩
          simp [intOf]; omega
        · obtain ⟨i, hi, hfx, hui, hT, hI⟩ := take_eq HPj.out.inv (by omega) hp
          obtain ⟨hP2, hnT⟩ := HPj.out.take hj150 hi hui hI
          have hr_ := hd_rng HPj.out.inv (by omega) hi
          obtain ⟨hh, hhe⟩ : ∃ h, h = hd G i := ⟨_, rfl⟩
          obtain ⟨U2, hU2⟩ : ∃ u2, u2 = U.set i true := ⟨_, rfl⟩
          obtain ⟨F2, hF2⟩ : ∃ f2, f2 = Fq.take (Fq.length - 1) := ⟨_, rfl⟩
          obtain ⟨L2, hL2⟩ : ∃ l2, l2 = Ls ++ [hh] := ⟨_, rfl⟩
          rw [← hhe] at hT hP2 hnT hr_
          rw [← hU2, ← hF2] at hT
          rw [← hU2, ← hF2, ← hL2] at hP2
          have HT := Aside0.mk hT
          have HL2 := Aside0.mk hL2
          have HP2 := Aside0.mk hP2
          have HNT := Aside0.mk hnT
          have HC0 := Aside0.mk (HDj.out hh hnT)
          have HIM := Aside0.mk (World.ownsMap.isMap hown)
          have HWF := Aside0.mk (show (Lit.int .u64 hh).wf = true from WalkArith.wf_u64 (by omega))
          have hh0 : ¬ hh = 0 := by omega
          have hh0b : (hh == 0) = false := by simpa using hh0
          have HLm := Aside0.mk (show (Ls.length + 1) * 8 ≤ 140737488355328 by omega)
          have HNJ := Aside0.mk (show n ≤ 150 by omega)
          have hRA := hP2.alls
          obtain ⟨RA, hRAe⟩ : ∃ R, R = alls G U2 N := ⟨_, rfl⟩
          rw [← hRAe] at hRA
          have hAll := all_eq hP2.inv (by omega)
          rw [← hRAe] at hAll
          have HAll := Aside0.mk hAll
          have hs2 := hP2.sum
          have HFL := Aside0.mk (show wrap64 ((N : Int) - (L2.length : Int)) = (F2.length : Int) from (by unfold wrap64; omega))
          have hnl : (Ls.length : Int) < (N : Int) := by omega
          have hnlb : decide ((Ls.length : Int) < (N : Int)) = true := decide_eq_true hnl
          clear hT hAll hRAe hsum hL2 hP2 hnT hhe hU2 hF2 hI hr_ hs2 hui hfx hi hp hh0
          go_wp2_with (first
    | (go_at_call 16; have hlt1_ := blk_lt hbs; have hlt2_ := own_lt hown; have hlt3_ := (fun k_ h_ => (Kd.R_bound HL).1 k_ h_); refine (slots_Take.calls (OKP gs ws_2.heap.size (.slice AL Ls.length cL)) B0 d0 G (OKP gs ws_2.heap.size (.slice AL Ls.length cL)) B1 d1 U (OKP gs ws_2.heap.size (.slice AL Ls.length cL)) B2 d2 Fq G U2 F2 hh 0 _ hV0 hV1 hV2 HT.out).mono ?_; rintro e wt ⟨v0, v1, v2, rfl, hW0, hW1, hW2, hb_⟩; obtain ⟨C0, e0, ec_⟩ := Kd.V_slice hW0; subst ec_; obtain ⟨C1, e1, ec_⟩ := Kd.V_slice hW1; subst ec_; obtain ⟨C2, e2, ec_⟩ := Kd.V_slice hW2; subst ec_; obtain ⟨nt, hnt⟩ : ∃ n_, n_ = wt.heap.size := ⟨_, rfl⟩; have HZt : nt ≤ wt.heap.size := Nat.le_of_eq hnt; have hX0 := Kd.V_mono (Kd.V_bound hW0) (fun k_ h_ => (⟨okp_ok hlt1_ hlt2_ (fun k_ h_ => (hlt3_ k_ h_).2.2.1) h_.1, (by rw [hnt]; exact h_.2)⟩ : (OKP gs ws_2.heap.size (.slice AL Ls.length cL)) k_ ∧ k_ < nt)); have hX1 := Kd.V_mono (Kd.V_bound hW1) (fun k_ h_ => (⟨okp_ok hlt1_ hlt2_ (fun k_ h_ => (hlt3_ k_ h_).2.2.1) h_.1, (by rw [hnt]; exact h_.2)⟩ : (OKP gs ws_2.heap.size (.slice AL Ls.length cL)) k_ ∧ k_ < nt)); have hX2 := Kd.V_mono (Kd.V_bound hW2) (fun k_ h_ => (⟨okp_ok hlt1_ hlt2_ (fun k_ h_ => (hlt3_ k_ h_).2.2.1) h_.1, (by rw [hnt]; exact h_.2)⟩ : (OKP gs ws_2.heap.size (.slice AL Ls.length cL)) k_ ∧ k_ < nt)); clear hW0 hW1 hW2 hV0 hV1 hV2 hlt1_ hlt2_ hlt3_ hnt; have hV0 := hX0; have hV1 := hX1; have hV2 := hX2; clear hX0 hX1 hX2 hqs_0 hqs_1 hqs_2 hx; replace hbs := blk_below hbs hb_; replace HL := Kd.R_below HL hb_; replace hown := own_below hown hb_; replace HB := below_step HB hb_; clear hb_; have hqs_0 : wt.cell? ⟨gs, 0, none⟩ = some (.slice B0 G.length d0) := (blk_cell hbs 0).trans rfl; have hqs_1 : wt.cell? ⟨gs, 1, none⟩ = some (.slice B1 U.length d1) := (blk_cell hbs 1).trans rfl; have hqs_2 : wt.cell? ⟨gs, 2, none⟩ = some (.slice B2 Fq.length d2) := (blk_cell hbs 2).trans rfl)
    | ((with_reducible refine gate_dst (N := 10) rfl ?_); (with_reducible refine gate_ (.alloc 28) rfl ?_); refine box_event (N := 10) rfl rfl (cs := #[.slice none 0 0, .slice none 0 0, .slice none 0 0]) (t := 28) (by first | (go_simp; done) | (go_simp; rfl)) ?_; intro gt hg_ wt_ hbt hbl_; have HGt : w.heap.size ≤ gt := (by rw [hg_]; exact Nat.le_trans (by first | exact Nat.le_refl _ | exact HB.size) (Nat.le_refl _)); have HNt_s : gt ≠ gs := (by rw [hg_]; exact Nat.ne_of_gt (blk_lt (by exact hbs))); clear hqs_0 hqs_1 hqs_2; replace hbs := blk_below (by exact hbs) hbl_; have hqs_0 : wt_.cell? ⟨gs, 0, none⟩ = some (.slice B0 G.length d0) := (blk_cell hbs 0).trans rfl; have hqs_1 : wt_.cell? ⟨gs, 1, none⟩ = some (.slice B1 U.length d1) := (blk_cell hbs 1).trans rfl; have hqs_2 : wt_.cell? ⟨gs, 2, none⟩ = some (.slice B2 Fq.length d2) := (blk_cell hbs 2).trans rfl; have HZtt : nt ≤ gt := (by rw [hg_]; exact HZt); have HNtm : gt ≠ ws_2.heap.size := (by rw [hg_]; exact Nat.ne_of_gt (own_lt hown)); replace hV0 := Kd.V_below hV0 hbl_; replace hV1 := Kd.V_below hV1 hbl_; replace hV2 := Kd.V_below hV2 hbl_; replace HL := Kd.R_below HL hbl_; replace hown := own_below hown hbl_; clear HZt; replace HB := below_step (blw HB) hbl_; clear hg_ hbl_; have hqt_0 : wt_.cell? ⟨gt, 0, none⟩ = some (.slice none 0 0) := (blk_cell hbt 0).trans rfl; have hqt_1 : wt_.cell? ⟨gt, 1, none⟩ = some (.slice none 0 0) := (blk_cell hbt 1).trans rfl; have hqt_2 : wt_.cell? ⟨gt, 2, none⟩ = some (.slice none 0 0) := (blk_cell hbt 2).trans rfl)
    | ((with_reducible refine gate_ (.store 28 (.tmp 10) (.tmp 50)) rfl ?_); have hbt0_ := hbt; refine blk_store_all (w0 := w) (base := w.heap.size) (u := .agg #[.slice C0 G.length e0, .slice C1 U2.length e1, .slice C2 F2.length e2]) (seg := [.slice C0 G.length e0, .slice C1 U2.length e1, .slice C2 F2.length e2]) rfl rfl rfl rfl rfl rfl ?h1_ ?ht_ (by exact hbt) (by rfl) (blw HB) HGt ?_; (case ht_ => kernel_rfl); (case h1_ => intro q_ hq_; simp only [List.mem_cons, List.not_mem_nil, or_false] at hq_; rcases hq_ with rfl | rfl | rfl <;> rfl); intro wt_2 hb2_ HB2_ hgr_; clear hqs_0 hqs_1 hqs_2; replace hbs := blk_grown (by exact hbs) hgr_ (fun e_ => by injection e_ with e_; exact HNt_s.symm e_); clear hqt_0 hqt_1 hqt_2; replace hbt := hb2_; replace hV0 := Kd.V_grown hV0 hgr_ (fun k_ hk_ e_ => by injection e_ with e_; have h_ := hk_.2; omega); replace hV1 := Kd.V_grown hV1 hgr_ (fun k_ hk_ e_ => by injection e_ with e_; have h_ := hk_.2; omega); replace hV2 := Kd.V_grown hV2 hgr_ (fun k_ hk_ e_ => by injection e_ with e_; have h_ := hk_.2; omega); replace HL := Kd.R_grown2 HL rfl hgr_ (fun k e_ => by injection e_ with e_; subst e_; exact Kd.R_ne HL hbt0_ (by decide)); replace hown := own_grown hown hgr_ (fun e_ => by injection e_ with e_; exact HNtm e_.symm); replace HB := HB2_; clear hb2_ HB2_ hgr_; have hqs_0 : wt_2.cell? ⟨gs, 0, none⟩ = some (.slice B0 G.length d0) := (blk_cell hbs 0).trans rfl; have hqs_1 : wt_2.cell? ⟨gs, 1, none⟩ = some (.slice B1 U.length d1) := (blk_cell hbs 1).trans rfl; have hqs_2 : wt_2.cell? ⟨gs, 2, none⟩ = some (.slice B2 Fq.length d2) := (blk_cell hbs 2).trans rfl; have hqt_0 : wt_2.cell? ⟨gt, 0, none⟩ = some (.slice C0 G.length e0) := (blk_cell hbt 0).trans rfl; have hqt_1 : wt_2.cell? ⟨gt, 1, none⟩ = some (.slice C1 U2.length e1) := (blk_cell hbt 1).trans rfl; have hqt_2 : wt_2.cell? ⟨gt, 2, none⟩ = some (.slice C2 F2.length e2) := (blk_cell hbt 2).trans rfl)
    | ((with_reducible refine gate_dst (N := 66) rfl ?_); at_lookup; refine wpList_lookup_own_int _ rfl _ _ 32 rfl 34 3 .i64 law34 Try.underlying32 Try.underlying3 (zero3 _) ws_2.heap.size _ _ rfl hown _ _ rfl (keyOf_int_mk Try.underlying34 HWF.out) ?_; intro c_ hat hwc)
    | (at_mapUpdate; refine wpList_mapUpdate_own _ rfl _ _ _ 32 rfl 34 3 law34 Try.underlying32 _ ws_2.heap.size _ _ rfl hown (by unfold maxLen; have h_ := HNJ.out; omega) _ _ _ rfl rfl (keyOf_int_mk Try.underlying34 HWF.out) _ [] (plainElem_int Try.underlying3 (wrap64_wf _)) ?_; intro w1 hown1 hgrow1; rw [← bump_eq hat] at hown1; clear hat hwc; replace hown := hown1; clear hown1 hqs_0 hqs_1 hqs_2 hqt_0 hqt_1 hqt_2; replace hbs := blk_grown hbs hgrow1 (fun e_ => by injection e_ with e_; exact HNS e_); replace hbt := blk_grown hbt hgrow1 (fun e_ => by injection e_ with e_; exact HNtm e_); replace hV0 := Kd.V_grown hV0 hgrow1 (fun k_ hk_ e_ => by injection e_ with e_; exact hk_.1.2.1 e_); replace hV1 := Kd.V_grown hV1 hgrow1 (fun k_ hk_ e_ => by injection e_ with e_; exact hk_.1.2.1 e_); replace hV2 := Kd.V_grown hV2 hgrow1 (fun k_ hk_ e_ => by injection e_ with e_; exact hk_.1.2.1 e_); replace HL := Kd.R_grown2 HL rfl hgrow1 (fun k e_ => by injection e_ with e_; subst e_; exact HNL); replace HB := HB.grown hgrow1 HB.size (fun j hj => by cases hj; exact HGM); clear hgrow1; have hqs_0 : w1.cell? ⟨gs, 0, none⟩ = some (.slice B0 G.length d0) := (blk_cell hbs 0).trans rfl; have hqs_1 : w1.cell? ⟨gs, 1, none⟩ = some (.slice B1 U.length d1) := (blk_cell hbs 1).trans rfl; have hqs_2 : w1.cell? ⟨gs, 2, none⟩ = some (.slice B2 Fq.length d2) := (blk_cell hbs 2).trans rfl; have hqt_0 : w1.cell? ⟨gt, 0, none⟩ = some (.slice C0 G.length e0) := (blk_cell hbt 0).trans rfl; have hqt_1 : w1.cell? ⟨gt, 1, none⟩ = some (.slice C1 U2.length e1) := (blk_cell hbt 1).trans rfl; have hqt_2 : w1.cell? ⟨gt, 2, none⟩ = some (.slice C2 F2.length e2) := (blk_cell hbt 2).trans rfl)
    | ((with_reducible refine gate_dst (N := 70) rfl ?_); at_lookup; refine wpList_lookup_own_int _ rfl _ _ 32 rfl 34 3 .i64 law34 Try.underlying32 Try.underlying3 (zero3 _) ws_2.heap.size _ _ rfl hown _ _ rfl (keyOf_int_mk Try.underlying34 HWF.out) ?_; intro c2_ hat2 hwc2; obtain rfl : c2_ = 1 := (getc_eq hat2).symm.trans (by rw [getc_same HIM.out, HC0.out]; exact w01); clear hat2 hwc2)
    | ((with_reducible refine gate_dst (N := 79) rfl ?_); refine Kd.R_append (Kd.int .u64) (w0 := w) w.heap.size rfl (.tmp 76) (.tmp 78) 24 34 (.int .u64 0) 8 rfl Try.underlying24 (by kernel_rfl) rfl (by decide) (by omega) _ Ls hh [.int .u64 hh] (fun _ => True) (fun _ => False) rfl rfl rfl (fun _ hk => hk.elim) (fun _ _ => trivial) HL HB HB.size HLm.out ?_; intro vn wn HLn hb_ hg_ hat_; rw [← HL2.out] at HLn; have hlt4_ := own_lt hown; have HNLn : some ws_2.heap.size ≠ vn.ownBlock := (by rcases hat_ with h_ | ⟨b_, h1_, h2_⟩ <;> first | (rw [h_]; exact HNL) | (rw [h1_]; intro e_; injection e_ with e_; omega)); clear hqs_0 hqs_1 hqs_2 hqt_0 hqt_1 hqt_2; replace hbs := blk_grown hbs hg_ (Kd.R_ne HL hbs (by decide)); replace hbt := blk_grown hbt hg_ (Kd.R_ne HL hbt (by decide)); replace hown := own_grown hown hg_ HNL; have hX0 := Kd.V_mono (Kd.V_after (Kd.V_mono hV0 (ok' := fun k_ => (k_ ≠ gs ∧ k_ ≠ ws_2.heap.size ∧ k_ < nt) ∧ some k_ ≠ (Value.slice AL Ls.length cL).ownBlock) (fun k_ h_ => ⟨⟨h_.1.1, h_.1.2.1, h_.2⟩, h_.1.2.2⟩)) hg_ hat_) (ok' := fun k_ => OKP gs ws_2.heap.size vn k_ ∧ k_ < nt) (fun k_ h_ => ⟨⟨h_.1.1, h_.1.2.1, h_.2⟩, h_.1.2.2⟩); have hX1 := Kd.V_mono (Kd.V_after (Kd.V_mono hV1 (ok' := fun k_ => (k_ ≠ gs ∧ k_ ≠ ws_2.heap.size ∧ k_ < nt) ∧ some k_ ≠ (Value.slice AL Ls.length cL).ownBlock) (fun k_ h_ => ⟨⟨h_.1.1, h_.1.2.1, h_.2⟩, h_.1.2.2⟩)) hg_ hat_) (ok' := fun k_ => OKP gs ws_2.heap.size vn k_ ∧ k_ < nt) (fun k_ h_ => ⟨⟨h_.1.1, h_.1.2.1, h_.2⟩, h_.1.2.2⟩); have hX2 := Kd.V_mono (Kd.V_after (Kd.V_mono hV2 (ok' := fun k_ => (k_ ≠ gs ∧ k_ ≠ ws_2.heap.size ∧ k_ < nt) ∧ some k_ ≠ (Value.slice AL Ls.length cL).ownBlock) (fun k_ h_ => ⟨⟨h_.1.1, h_.1.2.1, h_.2⟩, h_.1.2.2⟩)) hg_ hat_) (ok' := fun k_ => OKP gs ws_2.heap.size vn k_ ∧ k_ < nt) (fun k_ h_ => ⟨⟨h_.1.1, h_.1.2.1, h_.2⟩, h_.1.2.2⟩); clear hV0 hV1 hV2 HL HB HNL hg_ hat_ hlt4_; have hV0 := hX0; have hV1 := hX1; have hV2 := hX2; have HL := HLn; have HB := hb_; have HNL := HNLn; clear hX0 hX1 hX2 HLn hb_ HNLn; obtain ⟨AN, cN, en_⟩ := Kd.R_slice HL; subst en_; have hqs_0 : wn.cell? ⟨gs, 0, none⟩ = some (.slice B0 G.length d0) := (blk_cell hbs 0).trans rfl; have hqs_1 : wn.cell? ⟨gs, 1, none⟩ = some (.slice B1 U.length d1) := (blk_cell hbs 1).trans rfl; have hqs_2 : wn.cell? ⟨gs, 2, none⟩ = some (.slice B2 Fq.length d2) := (blk_cell hbs 2).trans rfl; have hqt_0 : wn.cell? ⟨gt, 0, none⟩ = some (.slice C0 G.length e0) := (blk_cell hbt 0).trans rfl; have hqt_1 : wn.cell? ⟨gt, 1, none⟩ = some (.slice C1 U2.length e1) := (blk_cell hbt 1).trans rfl; have hqt_2 : wn.cell? ⟨gt, 2, none⟩ = some (.slice C2 F2.length e2) := (blk_cell hbt 2).trans rfl)
    | ((with_reducible refine gate_ (.store 28 (.tmp 5) (.tmp 80)) rfl ?_); have hbs0_ := hbs; refine blk_store_all (w0 := w) (base := w.heap.size) (u := .agg #[.slice C0 G.length e0, .slice C1 U2.length e1, .slice C2 F2.length e2]) (seg := [.slice C0 G.length e0, .slice C1 U2.length e1, .slice C2 F2.length e2]) rfl rfl rfl rfl rfl rfl ?h1_ ?ht_ (by exact hbs) (by rfl) (blw HB) HGs ?_; (case ht_ => kernel_rfl); (case h1_ => intro q_ hq_; simp only [List.mem_cons, List.not_mem_nil, or_false] at hq_; rcases hq_ with rfl | rfl | rfl <;> rfl); intro ws_3 hb2_ HB2_ hgr_; clear hqs_0 hqs_1 hqs_2; replace hbs := hb2_; clear hqt_0 hqt_1 hqt_2; replace hbt := blk_grown (by exact hbt) hgr_ (fun e_ => by injection e_ with e_; exact HNt_s e_); replace hV0 := Kd.V_grown hV0 hgr_ (fun k_ hk_ e_ => by injection e_ with e_; exact hk_.1.1 e_); replace hV1 := Kd.V_grown hV1 hgr_ (fun k_ hk_ e_ => by injection e_ with e_; exact hk_.1.1 e_); replace hV2 := Kd.V_grown hV2 hgr_ (fun k_ hk_ e_ => by injection e_ with e_; exact hk_.1.1 e_); replace HL := Kd.R_grown2 HL rfl hgr_ (fun k e_ => by injection e_ with e_; subst e_; exact Kd.R_ne HL hbs0_ (by decide)); replace hown := own_grown hown hgr_ (fun e_ => by injection e_ with e_; exact HNS e_.symm); replace HB := HB2_; clear hb2_ HB2_ hgr_; have hqs_0 : ws_3.cell? ⟨gs, 0, none⟩ = some (.slice C0 G.length e0) := (blk_cell hbs 0).trans rfl; have hqs_1 : ws_3.cell? ⟨gs, 1, none⟩ = some (.slice C1 U2.length e1) := (blk_cell hbs 1).trans rfl; have hqs_2 : ws_3.cell? ⟨gs, 2, none⟩ = some (.slice C2 F2.length e2) := (blk_cell hbs 2).trans rfl; have hqt_0 : ws_3.cell? ⟨gt, 0, none⟩ = some (.slice C0 G.length e0) := (blk_cell hbt 0).trans rfl; have hqt_1 : ws_3.cell? ⟨gt, 1, none⟩ = some (.slice C1 U2.length e1) := (blk_cell hbt 1).trans rfl; have hqt_2 : ws_3.cell? ⟨gt, 2, none⟩ = some (.slice C2 F2.length e2) := (blk_cell hbt 2).trans rfl)
    | (go_at_call 18; refine (slots_All.calls C0 e0 G C1 e1 U2 C2 e2 F2 RA _ (Kd.V_reads' hV0).2.2 (Kd.V_reads' hV0).2.1 (Kd.V_reads' hV1).2.2 (Kd.V_reads' hV1).2.1 (Kd.V_reads' hV2).2.2 (Kd.V_reads' hV2).2.1 HAll.out).mono ?_; rintro e wa ⟨v0_, rfl, hRv, hb_⟩; obtain ⟨AR, cR, e_⟩ := Kd.R_slice hRv; subst e_; clear hRv; clear hqs_0 hqs_1 hqs_2 hqt_0 hqt_1 hqt_2; replace hbs := blk_below hbs hb_; replace hbt := blk_below hbt hb_; replace hV0 := Kd.V_below hV0 hb_; replace hV1 := Kd.V_below hV1 hb_; replace hV2 := Kd.V_below hV2 hb_; replace HL := Kd.R_below HL hb_; replace hown := own_below hown hb_; replace HB := below_step HB hb_; clear hb_; have hqs_0 : wa.cell? ⟨gs, 0, none⟩ = some (.slice C0 G.length e0) := (blk_cell hbs 0).trans rfl; have hqs_1 : wa.cell? ⟨gs, 1, none⟩ = some (.slice C1 U2.length e1) := (blk_cell hbs 1).trans rfl; have hqs_2 : wa.cell? ⟨gs, 2, none⟩ = some (.slice C2 F2.length e2) := (blk_cell hbs 2).trans rfl; have hfl_ := HFL.out))
          clear hfl_ hN
          refine ⟨⟨j + 1, n + 1, L2, G, F2, hh :: T, U2, AN, C0, C1, C2, cN, e0, e1, e2, bump D hh, by omega, by omega, by go_num, rfl, HP2.out, (fun y hy => by rw [getc_other (fun e_ => hy (by rw [e_]; exact List.mem_cons_self))]; exact HDj.out y (fun hm => hy (List.mem_cons_of_mem _ hm))), hown, HNL, HL, Kd.V_mono hV0 (fun k_ h_ => h_.1), Kd.V_mono hV1 (fun k_ h_ => h_.1), Kd.V_mono hV2 (fun k_ h_ => h_.1), hbs, HB⟩, ?_⟩
          simp [intOf]; omega
      · rcases Nat.eq_zero_or_pos Ls.length with h0 | hp
        · obtain rfl : Ls = [] := List.eq_nil_of_length_eq_zero h0
          have hRA := HPj.out.alls
          obtain ⟨RA, hRAe⟩ : ∃ R, R = alls G U N := ⟨_, rfl⟩
          rw [← hRAe] at hRA
          have hRA0 : RA.length = 0 := hRA
          have hAll := all_eq HPj.out.inv (by omega)
          rw [← hRAe] at hAll
          have HAll := Aside0.mk hAll
          have HFL := Aside0.mk (show ((Fq.length : Int) != (N : Int)) = false from (by have h_ := hsum; rw [List.length_nil] at h_; rw [show Fq.length = N by omega]; simp))
          clear hAll hRAe hsum h0 hRA
          go_wp2_with (first
    | (go_at_call 18; refine (slots_All.calls B0 d0 G B1 d1 U B2 d2 Fq RA _ (Kd.V_reads' hV0).2.2 (Kd.V_reads' hV0).2.1 (Kd.V_reads' hV1).2.2 (Kd.V_reads' hV1).2.1 (Kd.V_reads' hV2).2.2 (Kd.V_reads' hV2).2.1 HAll.out).mono ?_; rintro e wa ⟨v0_, rfl, hRv, hb_⟩; obtain ⟨AR, cR, e_⟩ := Kd.R_slice hRv; subst e_; clear hRv; clear hx; clear hqs_0 hqs_1 hqs_2; replace hbs := blk_below hbs hb_; replace hV0 := Kd.V_below hV0 hb_; replace hV1 := Kd.V_below hV1 hb_; replace hV2 := Kd.V_below hV2 hb_; replace HL := Kd.R_below HL hb_; replace hown := own_below hown hb_; replace HB := below_step HB hb_; clear hb_; have hqs_0 : wa.cell? ⟨gs, 0, none⟩ = some (.slice B0 G.length d0) := (blk_cell hbs 0).trans rfl; have hqs_1 : wa.cell? ⟨gs, 1, none⟩ = some (.slice B1 U.length d1) := (blk_cell hbs 1).trans rfl; have hqs_2 : wa.cell? ⟨gs, 2, none⟩ = some (.slice B2 Fq.length d2) := (blk_cell hbs 2).trans rfl; have hfl_ := HFL.out))
          clear hfl_ hN
          refine ⟨⟨j + 1, n, [], G, Fq, T, U, AL, B0, B1, B2, cL, d0, d1, d2, D, by omega, by omega, by go_num, rfl, HPj.out.next, HDj.out, hown, HNL, HL, hV0, hV1, hV2, hbs, HB⟩, ?_⟩
          simp [intOf]; omega
        · obtain ⟨v, hv⟩ : ∃ v, v = IntKind.u16.wrap (Int.tdiv x 3) := ⟨_, rfl⟩
          have hvr := u16_rng (Int.tdiv x 3)
          rw [← hv] at hvr
          have q0 := Int.emod_nonneg v (b := (Ls.length : Int)) (by omega)
          have q1 := Int.emod_lt_of_pos v (b := (Ls.length : Int)) (by omega)
          obtain ⟨k, hk⟩ : ∃ k : Nat, v % (Ls.length : Int) = (k : Int) := ⟨(v % (Ls.length : Int)).toNat, by omega⟩
          have hkl : k < Ls.length := by omega
          have hq : Int.tmod (wrap64 (IntKind.u16.wrap (Int.tdiv x 3))) (Ls.length : Int) = (k : Int) := by rw [← hv, show wrap64 v = v from by unfold wrap64; omega, Int.tmod_eq_emod_of_nonneg hvr.1, hk]
          clear hv hvr q0 q1 hk
          obtain ⟨i, hi, hui, hLk, hP2⟩ := HPj.out.give hj150 hkl
          obtain ⟨hG, hI⟩ := give_eq HPj.out.inv (by omega) hi hui
          obtain ⟨hh, hhe⟩ : ∃ h, h = hd G i := ⟨_, rfl⟩
          obtain ⟨G2, hG2⟩ : ∃ g2, g2 = G.set i (G.getD i 0 + 1) := ⟨_, rfl⟩
          obtain ⟨U2, hU2⟩ : ∃ u2, u2 = U.set i false := ⟨_, rfl⟩
          obtain ⟨F2, hF2⟩ : ∃ f2, f2 = Fq ++ [(i : Int)] := ⟨_, rfl⟩
          obtain ⟨L2, hL2⟩ : ∃ l2, l2 = Ls.take k ++ Ls.drop (k + 1) := ⟨_, rfl⟩
          rw [← hhe] at hG hLk
          rw [← hG2, ← hU2, ← hF2] at hG
          rw [← hG2, ← hU2, ← hF2, ← hL2] at hP2
          have HG := Aside0.mk hG
          have HL2 := Aside0.mk hL2
          have HP2 := Aside0.mk hP2
          have hRA := hP2.alls
          obtain ⟨RA, hRAe⟩ : ∃ R, R = alls G2 U2 N := ⟨_, rfl⟩
          rw [← hRAe] at hRA
          have hAll := all_eq hP2.inv (by omega)
          rw [← hRAe] at hAll
          have HAll := Aside0.mk hAll
          have hs2 := hP2.sum
          have HKL := Aside0.mk hkl
          have HLm2 := Aside0.mk (show Ls.length ≤ 500 by omega)
          obtain ⟨adL, eL, hxl⟩ := Kd.at_int (Kd.R_reads' HL).2.2 (k : Int) (by omega) (by omega)
          rw [Int.toNat_natCast, show rd Ls (k : Int) = hh from by unfold rd; rw [Int.toNat_natCast]; exact hLk] at hxl
          subst eL
          have HCL := Aside0.mk (Kd.R_reads' HL).2.1
          obtain ⟨AB, hAB⟩ : ∃ A : Option Addr, A = (if cL = k + 1 then some adL else (some adL).map (·.add ((k + 1) * 1))) := ⟨_, rfl⟩
          have HAB := Aside0.mk hAB
          obtain ⟨i0_, hi0_, _, hsz0_, _⟩ := info_parts (show (Try.prog.info? 34).map (fun i => (i.zero, i.size, i.bytes)) = some (some (.int .u64 0), 1, 8) from by kernel_rfl)
          have HCA := Aside0.mk (show ∀ W : World, (Instr.slice 24 (.slice (some adL) Ls.length cL) none (some (.int .i64 (k : Int))) none).run Try.prog W = .ok (.slice (some adL) k cL) W from fun W => (by have h_ := cut_to (P := Try.prog) 24 34 .i64 Try.underlying24 hi0_ (some adL) Ls.length cL (k : Int) (by omega) (by omega) HCL.out W; rw [Int.toNat_natCast] at h_; exact h_))
          have HCB := Aside0.mk (show ∀ W : World, (Instr.slice 24 (.slice (some adL) Ls.length cL) (some (.int .i64 ((k : Int) + 1))) none none).run Try.prog W = .ok (.slice AB (Ls.length - (k + 1)) (cL - (k + 1))) W from fun W => (by have h_ := cut_from (P := Try.prog) 24 34 .i64 Try.underlying24 hi0_ 1 hsz0_ (some adL) Ls.length cL ((k : Int) + 1) (by omega) (by omega) W; rw [show ((k : Int) + 1).toNat = k + 1 from by omega, ← hAB] at h_; exact h_))
          have hk1_ : (k : Int) < (Ls.length : Int) := by omega
          have hn1_ : ¬ (Ls.length : Int) = 0 := by omega
          have hn2_ : 0 < Ls.length := hp
          have HKW := Aside0.mk (show wrap64 ((k : Int) + 1) = (k : Int) + 1 from (by clear hq; unfold wrap64; omega))
          have HFL := Aside0.mk (show wrap64 ((N : Int) - (L2.length : Int)) = (F2.length : Int) from (by clear hq; unfold wrap64; omega))
          have HQ := Aside0.mk hq
          clear hG hAll hRAe hsum hL2 hP2 hhe hG2 hU2 hF2 hI hs2 hui hi hp hLk hi0_ hsz0_ hAB hkl hq
          have hq := HQ.out
          go_upto_region 23 with fail
          clear hq hx
          try (simp only [Act.put, List.setIfInBounds_toArray, List.set_cons_zero, List.set_cons_succ])
          refine start_ (n := 12) (S := fun w' => w'.cell? ⟨gs, 0, none⟩ = some (.slice B0 G.length d0) ∧ w'.cell? ⟨gs, 1, none⟩ = some (.slice B1 U.length d1) ∧ w'.cell? ⟨gs, 2, none⟩ = some (.slice B2 Fq.length d2) ∧ w'.cell? (adL.add k) = some (.int .u64 hh)) (ds := [10]) #[false, false, false, false, false, false, false, false, false, false, false, false] (by kernel_rfl) rfl rfl ⟨(blk_cell (blk_drew hbs) 0).trans rfl, (blk_cell (blk_drew hbs) 1).trans rfl, (blk_cell (blk_drew hbs) 2).trans rfl, hxl⟩ (fun hHeld => ?_)
          replace hbs := blk_drew hbs
          have HB1 := below_drew1 HB
          have HL1 := Kd.R_drew HL
          have hY0 := Kd.V_drew hV0
          have hY1 := Kd.V_drew hV1
          have hY2 := Kd.V_drew hV2
          have hown1 : Owns wr.drew ws_2.heap.size n D := hown
          have hxl1 : wr.drew.cell? (adL.add k) = some (.int .u64 hh) := hxl
          clear HB HL hV0 hV1 hV2 hown hxl hqs_0 hqs_1 hqs_2
          have HL := HL1
          have hV0 := hY0
          have hV1 := hY1
          have hV2 := hY2
          have hown := hown1
          have hxl := hxl1
          clear HL1 hY0 hY1 hY2 hown1 hxl1
          generalize wr.drew = wd at hbs HB1 HL hV0 hV1 hV2 hown hxl hHeld ⊢
          refine take_ (i := 0) (N := some 94) (v := ?_) (a' := ?_) #[true, false, false, false, false, false, false, false, false, false, false, false] rfl rfl (by kernel_rfl) (fun _ _ _ h => h) (Or.inl ⟨by rfl, ?_⟩) hHeld ?_ ?_
          rotate_left
          · rintro w' ⟨s0, s1, s2, s3⟩
            go_simp
            with_reducible rfl
          rotate_left
          · simp only [Act.put, List.setIfInBounds_toArray, List.set_cons_zero, List.set_cons_succ, i64_w, i32_w]
            rfl
          refine pure_ (i := 1) (N := some 95) (v := ?_) (a' := ?_) #[true, true, false, false, false, false, false, false, false, false, false, false] rfl rfl (by kernel_rfl) (fun _ _ _ h => h) (Or.inl ⟨by rfl, ?_⟩) ?_ ?_
          rotate_left
          · intro w'
            go_simp
            with_reducible rfl
          rotate_left
          · simp only [Act.put, List.setIfInBounds_toArray, List.set_cons_zero, List.set_cons_succ, i64_w, i32_w]
            rfl
          refine pure_ (i := 2) (N := some 96) (v := ?_) (a' := ?_) #[true, true, true, false, false, false, false, false, false, false, false, false] rfl rfl (by kernel_rfl) (fun _ _ _ h => h) (Or.inl ⟨by rfl, ?_⟩) ?_ ?_
          rotate_left
          · intro w'
            go_simp
            with_reducible rfl
          rotate_left
          · simp only [Act.put, List.setIfInBounds_toArray, List.set_cons_zero, List.set_cons_succ, i64_w, i32_w]
            rfl
          refine pure_ (i := 3) (N := some 97) (v := ?_) (a' := ?_) #[true, true, true, true, false, false, false, false, false, false, false, false] rfl rfl (by kernel_rfl) (fun _ _ _ h => h) (Or.inl ⟨by rfl, ?_⟩) ?_ ?_
          rotate_left
          · intro w'
            go_simp
            with_reducible rfl
          rotate_left
          · simp only [Act.put, List.setIfInBounds_toArray, List.set_cons_zero, List.set_cons_succ, i64_w, i32_w]
            rfl
          refine take_ (i := 4) (N := some 98) (v := ?_) (a' := ?_) #[true, true, true, true, true, false, false, false, false, false, false, false] rfl rfl (by kernel_rfl) (fun _ _ _ h => h) (Or.inl ⟨by rfl, ?_⟩) hHeld ?_ ?_
          rotate_left
          · rintro w' ⟨s0, s1, s2, s3⟩
            go_simp
            with_reducible rfl
          rotate_left
          · simp only [Act.put, List.setIfInBounds_toArray, List.set_cons_zero, List.set_cons_succ, i64_w, i32_w]
            rfl
          refine two_ (i := 5) (j := 9) (Ni := some 99) (Nj := some 14) #[true, true, true, true, true, true, false, false, false, false, false, false] #[true, true, true, true, true, false, false, false, false, true, false, false] rfl rfl rfl rfl (by kernel_rfl) (by decide) (by decide) (fun K hK => ?_) (fun K hK => ?_)
          · skip
            have hlt1_ := blk_lt hbs
            have hlt2_ := own_lt hown
            have hlt3_ := (fun k_ h_ => (Kd.R_bound HL).1 k_ h_)
            refine goes_ Try.func17 (by kernel_rfl) rfl #[.agg #[.slice B0 G.length d0, .slice B1 U.length d1, .slice B2 Fq.length d2], .int .u64 hh] (by rfl) rfl rfl (by first | rfl | kernel_rfl | simp [Act.eval]) ?_
            refine (slots_Give.calls (OKP gs ws_2.heap.size (.slice (some adL) Ls.length cL)) B0 d0 G (OKP gs ws_2.heap.size (.slice (some adL) Ls.length cL)) B1 d1 U (OKP gs ws_2.heap.size (.slice (some adL) Ls.length cL)) B2 d2 Fq hh G2 U2 F2 0 _ hV0 hV1 hV2 HG.out).mono ?_
            rintro e wt ⟨v0, v1, v2, rfl, hW0, hW1, hW2, hb_⟩
            obtain ⟨C0, e0, ec_⟩ := Kd.V_slice hW0
            subst ec_
            obtain ⟨C1, e1, ec_⟩ := Kd.V_slice hW1
            subst ec_
            obtain ⟨C2, e2, ec_⟩ := Kd.V_slice hW2
            subst ec_
            have hX0 := Kd.V_mono hW0 (ok' := (OKP gs ws_2.heap.size (.slice (some adL) Ls.length cL))) (fun k_ h_ => okp_ok hlt1_ hlt2_ (fun k_ h_ => (hlt3_ k_ h_).2.2.1) h_)
            have hX1 := Kd.V_mono hW1 (ok' := (OKP gs ws_2.heap.size (.slice (some adL) Ls.length cL))) (fun k_ h_ => okp_ok hlt1_ hlt2_ (fun k_ h_ => (hlt3_ k_ h_).2.2.1) h_)
            have hX2 := Kd.V_mono hW2 (ok' := (OKP gs ws_2.heap.size (.slice (some adL) Ls.length cL))) (fun k_ h_ => okp_ok hlt1_ hlt2_ (fun k_ h_ => (hlt3_ k_ h_).2.2.1) h_)
            clear hV0 hV1 hV2 hW0 hW1 hW2 hlt1_ hlt2_ hlt3_
            have hV0 := hX0
            have hV1 := hX1
            have hV2 := hX2
            clear hX0 hX1 hX2
            refine ⟨_, rfl, ?_⟩
            replace hbs := blk_below hbs hb_
            replace HL := Kd.R_below HL hb_
            replace hown := own_below hown hb_
            replace HB1 := below_step HB1 hb_
            replace hxl := (hb_.cell (World.block_lt_of_cell? _ _ hxl)).trans hxl
            clear hb_
            refine hK.out _ _ ⟨(blk_cell hbs 0).trans rfl, (blk_cell hbs 1).trans rfl, (blk_cell hbs 2).trans rfl, hxl⟩ (fun hHeld => ?_)
            clear hK K
            refine norm_ (a' := ?_) ?_ ?_
            rotate_left
            · show Act.put _ (some 99) _ = _
              simp only [Act.put, List.setIfInBounds_toArray, List.set_cons_zero, List.set_cons_succ, i64_w, i32_w]
              rfl
            refine pure_ (i := 6) (N := some 93) (v := ?_) (a' := ?_) #[true, true, true, true, true, true, true, false, false, false, false, false] rfl rfl (by kernel_rfl) (fun _ _ _ h => h) (Or.inl ⟨by rfl, ?_⟩) ?_ ?_
            rotate_left
            · intro w'
              go_simp
              with_reducible rfl
            rotate_left
            · simp only [Act.put, List.setIfInBounds_toArray, List.set_cons_zero, List.set_cons_succ, i64_w, i32_w]
              rfl
            refine pure_ (i := 7) (N := some 100) (v := ?_) (a' := ?_) #[true, true, true, true, true, true, true, true, false, false, false, false] rfl rfl (by kernel_rfl) (fun _ _ _ h => h) (Or.inl ⟨by rfl, ?_⟩) ?_ ?_
            rotate_left
            · intro w'
              go_simp
              with_reducible rfl
            rotate_left
            · simp only [Act.put, List.setIfInBounds_toArray, List.set_cons_zero, List.set_cons_succ, i64_w, i32_w]
              rfl
            refine pure_ (i := 8) (N := some 101) (v := ?_) (a' := ?_) #[true, true, true, true, true, true, true, true, true, false, false, false] rfl rfl (by kernel_rfl) (fun _ _ _ h => h) (Or.inl ⟨by rfl, ?_⟩) ?_ ?_
            rotate_left
            · intro w'
              go_simp
              with_reducible rfl
            rotate_left
            · simp only [Act.put, List.setIfInBounds_toArray, List.set_cons_zero, List.set_cons_succ, i64_w, i32_w]
              rfl
            refine one_ (i := 9) (N := some 14) #[true, true, true, true, true, true, true, true, true, true, false, false] rfl rfl (by kernel_rfl) (by decide) (fun K hK => ?_)
            obtain ⟨gt, hgt⟩ : ∃ g_, g_ = wt.heap.size := ⟨_, rfl⟩
            have HNt_s : gt ≠ gs := (by rw [hgt]; exact Nat.ne_of_gt (blk_lt hbs))
            have HNtm : gt ≠ ws_2.heap.size := (by rw [hgt]; exact Nat.ne_of_gt (own_lt hown))
            have HGt : w.heap.size ≤ gt := (by rw [hgt]; exact HB1.size)
            have hbt : (wt.alloc (.cells #[.slice none 0 0, .slice none 0 0, .slice none 0 0] 28)).heap[gt]? = some (.cells #[.slice none 0 0, .slice none 0 0, .slice none 0 0] 28) := (by rw [hgt]; exact blk_new _ _)
            refine event_step (w1 := wt.alloc (.cells #[.slice none 0 0, .slice none 0 0, .slice none 0 0] 28)) (v := .pointer (some ⟨wt.heap.size, 0, none⟩)) (by rfl) ?_ ?_
            · go_simp <;> rfl
            rw [← hgt]
            have hX0 := Kd.V_alloc (Kd.V_elderB hV0 gt (Nat.le_of_eq hgt.symm)) (.cells #[.slice none 0 0, .slice none 0 0, .slice none 0 0] 28)
            have hX1 := Kd.V_alloc (Kd.V_elderB hV1 gt (Nat.le_of_eq hgt.symm)) (.cells #[.slice none 0 0, .slice none 0 0, .slice none 0 0] 28)
            have hX2 := Kd.V_alloc (Kd.V_elderB hV2 gt (Nat.le_of_eq hgt.symm)) (.cells #[.slice none 0 0, .slice none 0 0, .slice none 0 0] 28)
            have HB2 := below_alloc HB1 (.cells #[.slice none 0 0, .slice none 0 0, .slice none 0 0] 28)
            replace HL := Kd.R_alloc HL (.cells #[.slice none 0 0, .slice none 0 0, .slice none 0 0] 28)
            replace hown := own_below hown (below_alloc (Below.refl _ _) (.cells #[.slice none 0 0, .slice none 0 0, .slice none 0 0] 28))
            replace hbs := blk_alloc hbs (.cells #[.slice none 0 0, .slice none 0 0, .slice none 0 0] 28)
            replace hxl := ((below_alloc (Below.refl _ _) (.cells #[.slice none 0 0, .slice none 0 0, .slice none 0 0] 28)).cell (World.block_lt_of_cell? _ _ hxl)).trans hxl
            clear hV0 hV1 hV2 HB1
            have hV0 := hX0
            have hV1 := hX1
            have hV2 := hX2
            have HB1 := HB2
            clear hX0 hX1 hX2 HB2 hgt
            refine hK.out _ _ ⟨(blk_cell hbs 0).trans rfl, (blk_cell hbs 1).trans rfl, (blk_cell hbs 2).trans rfl, hxl⟩ (fun hHeld => ?_)
            clear hK K
            refine norm_ (a' := ?_) ?_ ?_
            rotate_left
            · show Act.put _ (some 14) _ = _
              simp only [Act.put, List.setIfInBounds_toArray, List.set_cons_zero, List.set_cons_succ, i64_w, i32_w]
              rfl
            generalize wt.alloc (.cells #[.slice none 0 0, .slice none 0 0, .slice none 0 0] 28) = wq at hbs hbt HB1 HL hV0 hV1 hV2 hown hxl hHeld ⊢
            refine last_ (i := 10) (N := none) #[true, true, true, true, true, true, true, true, true, true, true, false] rfl rfl (by kernel_rfl) (by decide) (fun K hK => ?_)
            have hs0_ := (blk_cell hbt 0).trans rfl
            have hfs0_ := blk_frozen hbt 0
            have hs1_ := (blk_cell hbt 1).trans rfl
            have hfs1_ := blk_frozen hbt 1
            have hs2_ := (blk_cell hbt 2).trans rfl
            have hfs2_ := blk_frozen hbt 2
            refine skip_ (w1 := ?_) (by rfl) rfl ?_ ?_
            rotate_left
            · go_simp
              rfl
            clear hs0_ hfs0_ hs1_ hfs1_ hs2_ hfs2_
            have hbt2 := blk_put (cs' := #[.slice C0 G2.length e0, .slice C1 U2.length e1, .slice C2 F2.length e2]) (blk_put (cs' := #[.slice C0 G2.length e0, .slice C1 U2.length e1, .slice none 0 0]) (blk_put (cs' := #[.slice C0 G2.length e0, .slice none 0 0, .slice none 0 0]) hbt 0 (.slice C0 G2.length e0) rfl) 1 (.slice C1 U2.length e1) rfl) 2 (.slice C2 F2.length e2) rfl
            have hbs2 := blk_far (p := ⟨gt, 2, none⟩) (blk_far (p := ⟨gt, 1, none⟩) (blk_far (p := ⟨gt, 0, none⟩) hbs HNt_s.symm (.slice C0 G2.length e0)) HNt_s.symm (.slice C1 U2.length e1)) HNt_s.symm (.slice C2 F2.length e2)
            have hX0 := Kd.V_far (p := ⟨gt, 2, none⟩) (Kd.V_far (p := ⟨gt, 1, none⟩) (Kd.V_far (p := ⟨gt, 0, none⟩) (hV0) (fun _ h_ => h_.2) (.slice C0 G2.length e0)) (fun _ h_ => h_.2) (.slice C1 U2.length e1)) (fun _ h_ => h_.2) (.slice C2 F2.length e2)
            have hX1 := Kd.V_far (p := ⟨gt, 2, none⟩) (Kd.V_far (p := ⟨gt, 1, none⟩) (Kd.V_far (p := ⟨gt, 0, none⟩) (hV1) (fun _ h_ => h_.2) (.slice C0 G2.length e0)) (fun _ h_ => h_.2) (.slice C1 U2.length e1)) (fun _ h_ => h_.2) (.slice C2 F2.length e2)
            have hX2 := Kd.V_far (p := ⟨gt, 2, none⟩) (Kd.V_far (p := ⟨gt, 1, none⟩) (Kd.V_far (p := ⟨gt, 0, none⟩) (hV2) (fun _ h_ => h_.2) (.slice C0 G2.length e0)) (fun _ h_ => h_.2) (.slice C1 U2.length e1)) (fun _ h_ => h_.2) (.slice C2 F2.length e2)
            have HL2_ := Kd.R_mono (Kd.R_far (p := ⟨gt, 2, none⟩) (Kd.R_far (p := ⟨gt, 1, none⟩) (Kd.R_far (p := ⟨gt, 0, none⟩) (Kd.R_far1 HL rfl (Kd.R_ne HL hbt (by decide))) (fun _ h_ => h_.2) (.slice C0 G2.length e0)) (fun _ h_ => h_.2) (.slice C1 U2.length e1)) (fun _ h_ => h_.2) (.slice C2 F2.length e2)) (ok' := fun _ => True) (fun _ _ => trivial)
            have hown2 := own_set (p := ⟨gt, 2, none⟩) (own_set (p := ⟨gt, 1, none⟩) (own_set (p := ⟨gt, 0, none⟩) (hown) (fun e_ => HNtm e_.symm) (.slice C0 G2.length e0)) (fun e_ => HNtm e_.symm) (.slice C1 U2.length e1)) (fun e_ => HNtm e_.symm) (.slice C2 F2.length e2)
            have HB2 := below_set (j := 2) (v := .slice C2 F2.length e2) (below_set (j := 1) (v := .slice C1 U2.length e1) (below_set (j := 0) (v := .slice C0 G2.length e0) HB1 HGt) HGt) HGt
            refine hK.out _ _ ?_
            clear hK K hbs hbt HL hV0 hV1 hV2 hown HB1 hHeld hxl
            have hbs := hbs2
            have hbt := hbt2
            have HL := HL2_
            have hV0 := hX0
            have hV1 := hX1
            have hV2 := hX2
            have hown := hown2
            have HB := HB2
            clear hbs2 hbt2 HL2_ hX0 hX1 hX2 hown2 HB2
            generalize ((wq.setCell ⟨gt, 0, none⟩ (.slice C0 G2.length e0)).setCell ⟨gt, 1, none⟩ (.slice C1 U2.length e1)).setCell ⟨gt, 2, none⟩ (.slice C2 F2.length e2) = wz at hbs hbt HL hV0 hV1 hV2 hown HB ⊢
            refine pure_ (i := 11) (N := some 15) (v := ?_) (a' := ?_) #[true, true, true, true, true, true, true, true, true, true, true, true] rfl rfl (by kernel_rfl) (fun _ _ _ h => h) (Or.inl ⟨by rfl, ?_⟩) ?_ ?_
            rotate_left
            · intro w'
              go_simp
              with_reducible rfl
            rotate_left
            · simp only [Act.put, List.setIfInBounds_toArray, List.set_cons_zero, List.set_cons_succ, i64_w, i32_w]
              rfl
            refine done_ (by kernel_rfl) ?_
            have hqs_0 : wz.cell? ⟨gs, 0, none⟩ = some (.slice B0 G.length d0) := (blk_cell hbs 0).trans rfl
            have hqs_1 : wz.cell? ⟨gs, 1, none⟩ = some (.slice B1 U.length d1) := (blk_cell hbs 1).trans rfl
            have hqs_2 : wz.cell? ⟨gs, 2, none⟩ = some (.slice B2 Fq.length d2) := (blk_cell hbs 2).trans rfl
            have hqt_0 : wz.cell? ⟨gt, 0, none⟩ = some (.slice C0 G2.length e0) := (blk_cell hbt 0).trans rfl
            have hqt_1 : wz.cell? ⟨gt, 1, none⟩ = some (.slice C1 U2.length e1) := (blk_cell hbt 1).trans rfl
            have hqt_2 : wz.cell? ⟨gt, 2, none⟩ = some (.slice C2 F2.length e2) := (blk_cell hbt 2).trans rfl
            go_wp2_with (first
                | ((with_reducible refine gate_ (.store 28 (.tmp 5) (.tmp 104)) rfl ?_); have hbs0_ := hbs; refine blk_store_all (w0 := w) (base := w.heap.size) (u := .agg #[.slice C0 G2.length e0, .slice C1 U2.length e1, .slice C2 F2.length e2]) (seg := [.slice C0 G2.length e0, .slice C1 U2.length e1, .slice C2 F2.length e2]) rfl rfl rfl rfl rfl rfl ?h1_ ?ht_ (by exact hbs) (by rfl) (blw HB) HGs ?_; (case ht_ => kernel_rfl); (case h1_ => intro q_ hq_; simp only [List.mem_cons, List.not_mem_nil, or_false] at hq_; rcases hq_ with rfl | rfl | rfl <;> rfl); intro ws_1 hb2_ HB2_ hgr_; clear hqs_0 hqs_1 hqs_2; replace hbs := hb2_; clear hqt_0 hqt_1 hqt_2; replace hbt := blk_grown (by exact hbt) hgr_ (fun e_ => by injection e_ with e_; exact HNt_s e_); replace hV0 := Kd.V_grown hV0 hgr_ (fun k_ hk_ e_ => by injection e_ with e_; exact hk_.1.1 e_); replace hV1 := Kd.V_grown hV1 hgr_ (fun k_ hk_ e_ => by injection e_ with e_; exact hk_.1.1 e_); replace hV2 := Kd.V_grown hV2 hgr_ (fun k_ hk_ e_ => by injection e_ with e_; exact hk_.1.1 e_); replace HL := Kd.R_grown2 HL rfl hgr_ (fun k e_ => by injection e_ with e_; subst e_; exact Kd.R_ne HL hbs0_ (by decide)); replace hown := own_grown hown hgr_ (fun e_ => by injection e_ with e_; exact HNS e_.symm); replace HB := HB2_; clear hb2_ HB2_ hgr_; have hqs_0 : ws_1.cell? ⟨gs, 0, none⟩ = some (.slice C0 G2.length e0) := (blk_cell hbs 0).trans rfl; have hqs_1 : ws_1.cell? ⟨gs, 1, none⟩ = some (.slice C1 U2.length e1) := (blk_cell hbs 1).trans rfl; have hqs_2 : ws_1.cell? ⟨gs, 2, none⟩ = some (.slice C2 F2.length e2) := (blk_cell hbs 2).trans rfl; have hqt_0 : ws_1.cell? ⟨gt, 0, none⟩ = some (.slice C0 G2.length e0) := (blk_cell hbt 0).trans rfl; have hqt_1 : ws_1.cell? ⟨gt, 1, none⟩ = some (.slice C1 U2.length e1) := (blk_cell hbt 1).trans rfl; have hqt_2 : ws_1.cell? ⟨gt, 2, none⟩ = some (.slice C2 F2.length e2) := (blk_cell hbt 2).trans rfl))
            try (simp only [Act.put, List.setIfInBounds_toArray, List.set_cons_zero, List.set_cons_succ])
            refine start_ (n := 11) (S := fun w' => w'.cell? ⟨gs, 0, none⟩ = some (.slice C0 G2.length e0) ∧ w'.cell? ⟨gs, 1, none⟩ = some (.slice C1 U2.length e1)) (ds := [9]) #[false, false, false, false, false, false, false, false, false, false, false] (by kernel_rfl) rfl rfl ⟨(blk_cell (blk_drew hbs) 0).trans rfl, (blk_cell (blk_drew hbs) 1).trans rfl⟩ (fun hHeld => ?_)
            have hbs1 := blk_drew hbs
            have HB1 := below_drew1 HB
            have HL1 := Kd.R_drew HL
            have hY0 := Kd.V_drew hV0
            have hY1 := Kd.V_drew hV1
            have hY2 := Kd.V_drew hV2
            have hown1 := own_drew hown
            clear HB HL hV0 hV1 hV2 hown hbs hbt hqs_0 hqs_1 hqs_2 hqt_0 hqt_1 hqt_2
            have hbs := hbs1
            have HB := HB1
            have HL := HL1
            have hV0 := hY0
            have hV1 := hY1
            have hV2 := hY2
            have hown := hown1
            clear HB1 HL1 hY0 hY1 hY2 hown1 hbs1
            generalize _root_.Go.World.drew _ = wd at hbs HB HL hV0 hV1 hV2 hown hHeld ⊢
            refine pure_ (i := 1) (N := some 106) (v := ?_) (a' := ?_) #[false, true, false, false, false, false, false, false, false, false, false] rfl rfl (by kernel_rfl) (fun _ _ _ h => h) (Or.inl ⟨by rfl, ?_⟩) ?_ ?_
            rotate_left
            · intro w'
              go_simp
              with_reducible rfl
            rotate_left
            · simp only [Act.put, List.setIfInBounds_toArray, List.set_cons_zero, List.set_cons_succ, i64_w, i32_w]
              rfl
            refine pure_ (i := 2) (N := some 107) (v := ?_) (a' := ?_) #[false, true, true, false, false, false, false, false, false, false, false] rfl rfl (by kernel_rfl) (fun _ _ _ h => h) (Or.inl ⟨by rfl, ?_⟩) ?_ ?_
            rotate_left
            · intro w'
              go_simp
              with_reducible rfl
            rotate_left
            · simp only [Act.put, List.setIfInBounds_toArray, List.set_cons_zero, List.set_cons_succ, i64_w, i32_w]
              rfl
            have hcutA := HCA.out
            refine pure_ (i := 3) (N := some 108) (v := ?_) (a' := ?_) #[false, true, true, true, false, false, false, false, false, false, false] rfl rfl (by kernel_rfl) (fun _ _ _ h => h) (Or.inl ⟨by rfl, ?_⟩) ?_ ?_
            rotate_left
            · intro w'
              go_simp
              with_reducible rfl
            rotate_left
            · simp only [Act.put, List.setIfInBounds_toArray, List.set_cons_zero, List.set_cons_succ, i64_w, i32_w]
              rfl
            clear hcutA
            refine pure_ (i := 5) (N := some 110) (v := ?_) (a' := ?_) #[false, true, true, true, false, true, false, false, false, false, false] rfl rfl (by kernel_rfl) (fun _ _ _ h => h) (Or.inl ⟨by rfl, ?_⟩) ?_ ?_
            rotate_left
            · intro w'
              go_simp
              with_reducible rfl
            rotate_left
            · simp only [Act.put, List.setIfInBounds_toArray, List.set_cons_zero, List.set_cons_succ, i64_w, i32_w]
              rfl
            refine pure_ (i := 6) (N := some 111) (v := ?_) (a' := ?_) #[false, true, true, true, false, true, true, false, false, false, false] rfl rfl (by kernel_rfl) (fun _ _ _ h => h) (Or.inl ⟨by rfl, ?_⟩) ?_ ?_
            rotate_left
            · intro w'
              go_simp
              with_reducible rfl
            rotate_left
            · simp only [Act.put, List.setIfInBounds_toArray, List.set_cons_zero, List.set_cons_succ, i64_w, i32_w]
              rfl
            refine pure_ (i := 7) (N := some 112) (v := ?_) (a' := ?_) #[false, true, true, true, false, true, true, true, false, false, false] rfl rfl (by kernel_rfl) (fun _ _ _ h => h) (Or.inl ⟨by rfl, ?_⟩) ?_ ?_
            rotate_left
            · intro w'
              go_simp
              with_reducible rfl
            rotate_left
            · simp only [Act.put, List.setIfInBounds_toArray, List.set_cons_zero, List.set_cons_succ, i64_w, i32_w]
              rfl
            have hcutB := HCB.out
            have hkw := HKW.out
            refine pure_ (i := 8) (N := some 113) (v := ?_) (a' := ?_) #[false, true, true, true, false, true, true, true, true, false, false] rfl rfl (by kernel_rfl) (fun _ _ _ h => h) (Or.inl ⟨by rfl, ?_⟩) ?_ ?_
            rotate_left
            · intro w'
              go_simp
              with_reducible rfl
            rotate_left
            · simp only [Act.put, List.setIfInBounds_toArray, List.set_cons_zero, List.set_cons_succ, i64_w, i32_w]
              rfl
            clear hcutB hkw
            refine one_ (i := 0) (N := some 105) #[true, true, true, true, false, true, true, true, true, false, false] rfl rfl (by kernel_rfl) (by decide) (fun K hK => ?_)
            refine Kd.R_lit_step (Kd.int .u64) (w0 := w) w.heap.size 34 (by rfl) (N := 105) rfl (xs := []) (inner := []) (ok := fun _ => True) (okp := fun _ => False) ?hr (Reps.none _ _) (fun _ h_ => h_.elim) trivial HB HB.size (by simp) ?_
            case hr => first | (go_simp; done) | (go_simp; rfl)
            intro vE wE HE hb_ hg_ hat_
            obtain ⟨bE, hE1, hE2⟩ := hat_
            have hlt4_ := own_lt hown
            have HNE : some ws_2.heap.size ≠ vE.ownBlock := (by rw [hE1]; intro e_; injection e_ with e_; omega)
            have HLE : ∀ k_, vE.ownBlock = some k_ → some k_ ≠ (Value.slice (some adL) Ls.length cL).ownBlock := (fun k_ h_ e_ => by rw [hE1] at h_; injection h_ with h_; subst h_; have h5_ := ((Kd.R_bound HL).1 _ e_.symm).2.2.1; omega)
            have hX0 := Kd.V_mono (Kd.V_grown (Kd.V_bound hV0) hg_ (by simp)) (ok' := fun k_ => (k_ ≠ gs ∧ k_ ≠ ws_2.heap.size ∧ k_ ≠ gt) ∧ some k_ ≠ vE.ownBlock) (fun k_ h_ => ⟨⟨h_.1.1.1, h_.1.1.2.1, h_.1.2⟩, (by rw [hE1]; intro e_; injection e_ with e_; have h6_ := h_.2; omega)⟩)
            have hX1 := Kd.V_mono (Kd.V_grown (Kd.V_bound hV1) hg_ (by simp)) (ok' := fun k_ => (k_ ≠ gs ∧ k_ ≠ ws_2.heap.size ∧ k_ ≠ gt) ∧ some k_ ≠ vE.ownBlock) (fun k_ h_ => ⟨⟨h_.1.1.1, h_.1.1.2.1, h_.1.2⟩, (by rw [hE1]; intro e_; injection e_ with e_; have h6_ := h_.2; omega)⟩)
            have hX2 := Kd.V_mono (Kd.V_grown (Kd.V_bound hV2) hg_ (by simp)) (ok' := fun k_ => (k_ ≠ gs ∧ k_ ≠ ws_2.heap.size ∧ k_ ≠ gt) ∧ some k_ ≠ vE.ownBlock) (fun k_ h_ => ⟨⟨h_.1.1.1, h_.1.1.2.1, h_.1.2⟩, (by rw [hE1]; intro e_; injection e_ with e_; have h6_ := h_.2; omega)⟩)
            replace hbs := blk_grown hbs hg_ (by simp)
            replace HL := Kd.R_grown2 HL rfl hg_ (by simp)
            replace hown := own_grown hown hg_ (by simp)
            clear hV0 hV1 hV2 HB hg_ hlt4_ hHeld
            have hV0 := hX0
            have hV1 := hX1
            have hV2 := hX2
            have HB := hb_
            clear hX0 hX1 hX2 hb_
            refine hK.out _ _ ⟨(blk_cell hbs 0).trans rfl, (blk_cell hbs 1).trans rfl⟩ (fun hHeld => ?_)
            clear hK K
            refine norm_ (a' := ?_) ?_ ?_
            rotate_left
            · show Act.put _ (some 105) _ = _
              simp only [Act.put, List.setIfInBounds_toArray, List.set_cons_zero, List.set_cons_succ, i64_w, i32_w]
              rfl
            refine one_ (i := 4) (N := some 109) #[true, true, true, true, true, true, true, true, true, false, false] rfl rfl (by kernel_rfl) (by decide) (fun K hK => ?_)
            refine Kd.R_append_rows_step (Kd.int .u64) (w0 := w) w.heap.size (by rfl) (.tmp 105) (.tmp 108) 24 34 (.int .u64 0) 8 rfl Try.underlying24 (by kernel_rfl) rfl (by decide) (by omega) vE [] (Ls.take k) (some adL) k cL (fun _ => True) (fun _ => False) rfl rfl HE (by have h_ := Kd.C_take (Kd.R_reads' HL).2.2 (m := k) (by have h9_ := HKL.out; omega); rw [List.length_take, Nat.min_eq_left (by have h9_ := HKL.out; omega)] at h_; exact h_) (fun _ _ h => h) (fun _ h => h.elim) (fun _ _ => trivial) HB HB.size (by have h7_ := HLm2.out; have h8_ := HKL.out; simp only [List.length_nil, List.length_take]; omega) ?_
            intro vF wF HEn hb_ hg_ hat_
            have hlt4_ := own_lt hown
            have hbs1 := blk_grown hbs hg_ (Kd.R_ne HE hbs (by decide))
            have hown1 := own_grown hown hg_ HNE
            have HNEn : some ws_2.heap.size ≠ vF.ownBlock := (by rcases hat_ with h_ | ⟨b_, h1_, h2_⟩ <;> first | (rw [h_]; exact HNE) | (rw [h1_]; intro e_; injection e_ with e_; omega))
            have hX0 := Kd.V_after hV0 hg_ hat_
            have hX1 := Kd.V_after hV1 hg_ hat_
            have hX2 := Kd.V_after hV2 hg_ hat_
            have HL1 := Kd.R_grown2 HL rfl hg_ HLE
            clear hbs hown HNE hV0 hV1 hV2 HE HB HL hlt4_ hg_ hat_ HLE
            have hbs := hbs1
            have hown := hown1
            have HNE := HNEn
            have hV0 := hX0
            have hV1 := hX1
            have hV2 := hX2
            have HE := HEn
            have HB := hb_
            have HL := HL1
            clear HL1
            clear hbs1 hown1 HNEn hX0 hX1 hX2 HEn hb_
            rw [List.nil_append] at HE
            refine hK.out _ _ ⟨(blk_cell hbs 0).trans rfl, (blk_cell hbs 1).trans rfl⟩ (fun hHeld => ?_)
            clear hK K
            refine norm_ (a' := ?_) ?_ ?_
            rotate_left
            · show Act.put _ (some 109) _ = _
              simp only [Act.put, List.setIfInBounds_toArray, List.set_cons_zero, List.set_cons_succ, i64_w, i32_w]
              rfl
            refine last_ (i := 9) (N := some 114) #[true, true, true, true, true, true, true, true, true, true, false] rfl rfl (by kernel_rfl) (by decide) (fun K hK => ?_)
            refine Kd.R_append_rows_step (Kd.int .u64) (w0 := w) w.heap.size (by rfl) (.tmp 109) (.tmp 113) 24 34 (.int .u64 0) 8 rfl Try.underlying24 (by kernel_rfl) rfl (by decide) (by omega) vF (Ls.take k) (Ls.drop (k + 1)) AB (Ls.length - (k + 1)) (cL - (k + 1)) (fun _ => True) (fun _ => False) rfl rfl HE (by have h_ := Kd.C_drop (Kd.R_reads' HL).2.2 (m := k + 1) (by have h9_ := HKL.out; omega) HCL.out; rw [List.length_drop] at h_; rw [HAB.out]; exact h_) (fun _ _ h => h) (fun _ h => h.elim) (fun _ _ => trivial) HB HB.size (by have h7_ := HLm2.out; have h8_ := HKL.out; simp only [List.length_nil, List.length_take]; omega) ?_
            intro vG wG HEn hb_ hg_ hat_
            have hlt4_ := own_lt hown
            have hbs1 := blk_grown hbs hg_ (Kd.R_ne HE hbs (by decide))
            have hown1 := own_grown hown hg_ HNE
            have HNEn : some ws_2.heap.size ≠ vG.ownBlock := (by rcases hat_ with h_ | ⟨b_, h1_, h2_⟩ <;> first | (rw [h_]; exact HNE) | (rw [h1_]; intro e_; injection e_ with e_; omega))
            have hX0 := Kd.V_after hV0 hg_ hat_
            have hX1 := Kd.V_after hV1 hg_ hat_
            have hX2 := Kd.V_after hV2 hg_ hat_
            clear hbs hown HNE hV0 hV1 hV2 HE HB HL hlt4_ hg_ hat_
            have hbs := hbs1
            have hown := hown1
            have HNE := HNEn
            have hV0 := hX0
            have hV1 := hX1
            have hV2 := hX2
            have HE := HEn
            have HB := hb_
            clear hbs1 hown1 HNEn hX0 hX1 hX2 HEn hb_
            rw [← HL2.out] at HE
            obtain ⟨AN, cN, en_⟩ := Kd.R_slice HE
            subst en_
            refine hK.out _ _ ?_
            clear hK K hHeld
            refine pure_ (i := 10) (N := some 8) (v := ?_) (a' := ?_) #[true, true, true, true, true, true, true, true, true, true, true] rfl rfl (by kernel_rfl) (fun _ _ _ h => h) (Or.inl ⟨by rfl, ?_⟩) ?_ ?_
            rotate_left
            · intro w'
              go_simp
              with_reducible rfl
            rotate_left
            · simp only [Act.put, List.setIfInBounds_toArray, List.set_cons_zero, List.set_cons_succ, i64_w, i32_w]
              rfl
            refine done_ (by kernel_rfl) ?_
            have hqs_0 : wG.cell? ⟨gs, 0, none⟩ = some (.slice C0 G2.length e0) := (blk_cell hbs 0).trans rfl
            have hqs_1 : wG.cell? ⟨gs, 1, none⟩ = some (.slice C1 U2.length e1) := (blk_cell hbs 1).trans rfl
            have hqs_2 : wG.cell? ⟨gs, 2, none⟩ = some (.slice C2 F2.length e2) := (blk_cell hbs 2).trans rfl
            go_wp2_with (first
    | (go_at_call 18; refine (slots_All.calls C0 e0 G2 C1 e1 U2 C2 e2 F2 RA _ (Kd.V_reads' hV0).2.2 (Kd.V_reads' hV0).2.1 (Kd.V_reads' hV1).2.2 (Kd.V_reads' hV1).2.1 (Kd.V_reads' hV2).2.2 (Kd.V_reads' hV2).2.1 HAll.out).mono ?_; rintro e wa ⟨v0_, rfl, hRv, hb_⟩; obtain ⟨AR, cR, e_⟩ := Kd.R_slice hRv; subst e_; clear hRv; clear hqs_0 hqs_1 hqs_2; replace hbs := blk_below hbs hb_; replace hV0 := Kd.V_below hV0 hb_; replace hV1 := Kd.V_below hV1 hb_; replace hV2 := Kd.V_below hV2 hb_; replace HE := Kd.R_below HE hb_; replace hown := own_below hown hb_; replace HB := below_step HB hb_; clear hb_; have hqs_0 : wa.cell? ⟨gs, 0, none⟩ = some (.slice C0 G2.length e0) := (blk_cell hbs 0).trans rfl; have hqs_1 : wa.cell? ⟨gs, 1, none⟩ = some (.slice C1 U2.length e1) := (blk_cell hbs 1).trans rfl; have hqs_2 : wa.cell? ⟨gs, 2, none⟩ = some (.slice C2 F2.length e2) := (blk_cell hbs 2).trans rfl; have hfl_ := HFL.out))
            clear hfl_ hN
            refine ⟨⟨j + 1, n, L2, G2, F2, T, U2, AN, C0, C1, C2, cN, e0, e1, e2, D, by omega, by omega, by go_num, rfl, HP2.out, HDj.out, hown, HNE, HE, Kd.V_mono hV0 (fun k_ h_ => ⟨h_.1.1, h_.1.2.1, h_.2⟩), Kd.V_mono hV1 (fun k_ h_ => ⟨h_.1.1, h_.1.2.1, h_.2⟩), Kd.V_mono hV2 (fun k_ h_ => ⟨h_.1.1, h_.1.2.1, h_.2⟩), hbs, HB⟩, ?_⟩
            simp [intOf]; omega
          · skip
            obtain ⟨gt, hgt⟩ : ∃ g_, g_ = wd.heap.size := ⟨_, rfl⟩
            have HNt_s : gt ≠ gs := (by rw [hgt]; exact Nat.ne_of_gt (blk_lt hbs))
            have HNtm : gt ≠ ws_2.heap.size := (by rw [hgt]; exact Nat.ne_of_gt (own_lt hown))
            have HGt : w.heap.size ≤ gt := (by rw [hgt]; exact HB1.size)
            have hbt : (wd.alloc (.cells #[.slice none 0 0, .slice none 0 0, .slice none 0 0] 28)).heap[gt]? = some (.cells #[.slice none 0 0, .slice none 0 0, .slice none 0 0] 28) := (by rw [hgt]; exact blk_new _ _)
            refine event_step (w1 := wd.alloc (.cells #[.slice none 0 0, .slice none 0 0, .slice none 0 0] 28)) (v := .pointer (some ⟨wd.heap.size, 0, none⟩)) (by rfl) ?_ ?_
            · go_simp <;> rfl
            rw [← hgt]
            have hX0 := Kd.V_alloc (Kd.V_elderB hV0 gt (Nat.le_of_eq hgt.symm)) (.cells #[.slice none 0 0, .slice none 0 0, .slice none 0 0] 28)
            have hX1 := Kd.V_alloc (Kd.V_elderB hV1 gt (Nat.le_of_eq hgt.symm)) (.cells #[.slice none 0 0, .slice none 0 0, .slice none 0 0] 28)
            have hX2 := Kd.V_alloc (Kd.V_elderB hV2 gt (Nat.le_of_eq hgt.symm)) (.cells #[.slice none 0 0, .slice none 0 0, .slice none 0 0] 28)
            have HB2 := below_alloc HB1 (.cells #[.slice none 0 0, .slice none 0 0, .slice none 0 0] 28)
            replace HL := Kd.R_alloc HL (.cells #[.slice none 0 0, .slice none 0 0, .slice none 0 0] 28)
            replace hown := own_below hown (below_alloc (Below.refl _ _) (.cells #[.slice none 0 0, .slice none 0 0, .slice none 0 0] 28))
            replace hbs := blk_alloc hbs (.cells #[.slice none 0 0, .slice none 0 0, .slice none 0 0] 28)
            replace hxl := ((below_alloc (Below.refl _ _) (.cells #[.slice none 0 0, .slice none 0 0, .slice none 0 0] 28)).cell (World.block_lt_of_cell? _ _ hxl)).trans hxl
            clear hV0 hV1 hV2 HB1
            have hV0 := hX0
            have hV1 := hX1
            have hV2 := hX2
            have HB1 := HB2
            clear hX0 hX1 hX2 HB2 hgt
            refine hK.out _ _ ⟨(blk_cell hbs 0).trans rfl, (blk_cell hbs 1).trans rfl, (blk_cell hbs 2).trans rfl, hxl⟩ (fun hHeld => ?_)
            clear hK K
            refine norm_ (a' := ?_) ?_ ?_
            rotate_left
            · show Act.put _ (some 14) _ = _
              simp only [Act.put, List.setIfInBounds_toArray, List.set_cons_zero, List.set_cons_succ, i64_w, i32_w]
              rfl
            generalize wd.alloc (.cells #[.slice none 0 0, .slice none 0 0, .slice none 0 0] 28) = wq at hbs hbt HB1 HL hV0 hV1 hV2 hown hxl hHeld ⊢
            refine one_ (i := 5) (N := some 99) #[true, true, true, true, true, true, false, false, false, true, false, false] rfl rfl (by kernel_rfl) (by decide) (fun K hK => ?_)
            have hlt1_ := blk_lt hbs
            have hlt2_ := own_lt hown
            have hlt3_ := (fun k_ h_ => (Kd.R_bound HL).1 k_ h_)
            have hlt4_ := blk_lt hbt
            refine goes_ Try.func17 (by kernel_rfl) rfl #[.agg #[.slice B0 G.length d0, .slice B1 U.length d1, .slice B2 Fq.length d2], .int .u64 hh] (by rfl) rfl rfl (by first | rfl | kernel_rfl | simp [Act.eval]) ?_
            refine (slots_Give.calls (fun k_ => (OKP gs ws_2.heap.size (.slice (some adL) Ls.length cL)) k_ ∧ k_ ≠ gt) B0 d0 G (fun k_ => (OKP gs ws_2.heap.size (.slice (some adL) Ls.length cL)) k_ ∧ k_ ≠ gt) B1 d1 U (fun k_ => (OKP gs ws_2.heap.size (.slice (some adL) Ls.length cL)) k_ ∧ k_ ≠ gt) B2 d2 Fq hh G2 U2 F2 0 _ hV0 hV1 hV2 HG.out).mono ?_
            rintro e wt ⟨v0, v1, v2, rfl, hW0, hW1, hW2, hb_⟩
            obtain ⟨C0, e0, ec_⟩ := Kd.V_slice hW0
            subst ec_
            obtain ⟨C1, e1, ec_⟩ := Kd.V_slice hW1
            subst ec_
            obtain ⟨C2, e2, ec_⟩ := Kd.V_slice hW2
            subst ec_
            have hX0 := Kd.V_mono hW0 (ok' := (fun k_ => (OKP gs ws_2.heap.size (.slice (some adL) Ls.length cL)) k_ ∧ k_ ≠ gt)) (fun k_ h_ => ⟨okp_ok hlt1_ hlt2_ (fun k_ h_ => (hlt3_ k_ h_).2.2.1) (by rcases h_ with (h_ | h_ | h_) | h_ <;> first | exact .inl (.inl h_.1) | exact .inr h_), (by rcases h_ with (h_ | h_ | h_) | h_ <;> first | exact h_.2 | omega)⟩)
            have hX1 := Kd.V_mono hW1 (ok' := (fun k_ => (OKP gs ws_2.heap.size (.slice (some adL) Ls.length cL)) k_ ∧ k_ ≠ gt)) (fun k_ h_ => ⟨okp_ok hlt1_ hlt2_ (fun k_ h_ => (hlt3_ k_ h_).2.2.1) (by rcases h_ with (h_ | h_ | h_) | h_ <;> first | exact .inl (.inl h_.1) | exact .inr h_), (by rcases h_ with (h_ | h_ | h_) | h_ <;> first | exact h_.2 | omega)⟩)
            have hX2 := Kd.V_mono hW2 (ok' := (fun k_ => (OKP gs ws_2.heap.size (.slice (some adL) Ls.length cL)) k_ ∧ k_ ≠ gt)) (fun k_ h_ => ⟨okp_ok hlt1_ hlt2_ (fun k_ h_ => (hlt3_ k_ h_).2.2.1) (by rcases h_ with (h_ | h_ | h_) | h_ <;> first | exact .inl (.inl h_.1) | exact .inr h_), (by rcases h_ with (h_ | h_ | h_) | h_ <;> first | exact h_.2 | omega)⟩)
            clear hV0 hV1 hV2 hW0 hW1 hW2 hlt1_ hlt2_ hlt3_ hlt4_
            have hV0 := hX0
            have hV1 := hX1
            have hV2 := hX2
            clear hX0 hX1 hX2
            refine ⟨_, rfl, ?_⟩
            replace hbs := blk_below hbs hb_
            replace hbt := blk_below hbt hb_
            replace HL := Kd.R_below HL hb_
            replace hown := own_below hown hb_
            replace HB1 := below_step HB1 hb_
            replace hxl := (hb_.cell (World.block_lt_of_cell? _ _ hxl)).trans hxl
            clear hb_
            refine hK.out _ _ ⟨(blk_cell hbs 0).trans rfl, (blk_cell hbs 1).trans rfl, (blk_cell hbs 2).trans rfl, hxl⟩ (fun hHeld => ?_)
            clear hK K
            refine norm_ (a' := ?_) ?_ ?_
            rotate_left
            · show Act.put _ (some 99) _ = _
              simp only [Act.put, List.setIfInBounds_toArray, List.set_cons_zero, List.set_cons_succ, i64_w, i32_w]
              rfl
            refine pure_ (i := 6) (N := some 93) (v := ?_) (a' := ?_) #[true, true, true, true, true, true, true, false, false, true, false, false] rfl rfl (by kernel_rfl) (fun _ _ _ h => h) (Or.inl ⟨by rfl, ?_⟩) ?_ ?_
            rotate_left
            · intro w'
              go_simp
              with_reducible rfl
            rotate_left
            · simp only [Act.put, List.setIfInBounds_toArray, List.set_cons_zero, List.set_cons_succ, i64_w, i32_w]
              rfl
            refine pure_ (i := 7) (N := some 100) (v := ?_) (a' := ?_) #[true, true, true, true, true, true, true, true, false, true, false, false] rfl rfl (by kernel_rfl) (fun _ _ _ h => h) (Or.inl ⟨by rfl, ?_⟩) ?_ ?_
            rotate_left
            · intro w'
              go_simp
              with_reducible rfl
            rotate_left
            · simp only [Act.put, List.setIfInBounds_toArray, List.set_cons_zero, List.set_cons_succ, i64_w, i32_w]
              rfl
            refine pure_ (i := 8) (N := some 101) (v := ?_) (a' := ?_) #[true, true, true, true, true, true, true, true, true, true, false, false] rfl rfl (by kernel_rfl) (fun _ _ _ h => h) (Or.inl ⟨by rfl, ?_⟩) ?_ ?_
            rotate_left
            · intro w'
              go_simp
              with_reducible rfl
            rotate_left
            · simp only [Act.put, List.setIfInBounds_toArray, List.set_cons_zero, List.set_cons_succ, i64_w, i32_w]
              rfl
            refine last_ (i := 10) (N := none) #[true, true, true, true, true, true, true, true, true, true, true, false] rfl rfl (by kernel_rfl) (by decide) (fun K hK => ?_)
            have hs0_ := (blk_cell hbt 0).trans rfl
            have hfs0_ := blk_frozen hbt 0
            have hs1_ := (blk_cell hbt 1).trans rfl
            have hfs1_ := blk_frozen hbt 1
            have hs2_ := (blk_cell hbt 2).trans rfl
            have hfs2_ := blk_frozen hbt 2
            refine skip_ (w1 := ?_) (by rfl) rfl ?_ ?_
            rotate_left
            · go_simp
              rfl
            clear hs0_ hfs0_ hs1_ hfs1_ hs2_ hfs2_
            have hbt2 := blk_put (cs' := #[.slice C0 G2.length e0, .slice C1 U2.length e1, .slice C2 F2.length e2]) (blk_put (cs' := #[.slice C0 G2.length e0, .slice C1 U2.length e1, .slice none 0 0]) (blk_put (cs' := #[.slice C0 G2.length e0, .slice none 0 0, .slice none 0 0]) hbt 0 (.slice C0 G2.length e0) rfl) 1 (.slice C1 U2.length e1) rfl) 2 (.slice C2 F2.length e2) rfl
            have hbs2 := blk_far (p := ⟨gt, 2, none⟩) (blk_far (p := ⟨gt, 1, none⟩) (blk_far (p := ⟨gt, 0, none⟩) hbs HNt_s.symm (.slice C0 G2.length e0)) HNt_s.symm (.slice C1 U2.length e1)) HNt_s.symm (.slice C2 F2.length e2)
            have hX0 := Kd.V_far (p := ⟨gt, 2, none⟩) (Kd.V_far (p := ⟨gt, 1, none⟩) (Kd.V_far (p := ⟨gt, 0, none⟩) (hV0) (fun _ h_ => h_.2) (.slice C0 G2.length e0)) (fun _ h_ => h_.2) (.slice C1 U2.length e1)) (fun _ h_ => h_.2) (.slice C2 F2.length e2)
            have hX1 := Kd.V_far (p := ⟨gt, 2, none⟩) (Kd.V_far (p := ⟨gt, 1, none⟩) (Kd.V_far (p := ⟨gt, 0, none⟩) (hV1) (fun _ h_ => h_.2) (.slice C0 G2.length e0)) (fun _ h_ => h_.2) (.slice C1 U2.length e1)) (fun _ h_ => h_.2) (.slice C2 F2.length e2)
            have hX2 := Kd.V_far (p := ⟨gt, 2, none⟩) (Kd.V_far (p := ⟨gt, 1, none⟩) (Kd.V_far (p := ⟨gt, 0, none⟩) (hV2) (fun _ h_ => h_.2) (.slice C0 G2.length e0)) (fun _ h_ => h_.2) (.slice C1 U2.length e1)) (fun _ h_ => h_.2) (.slice C2 F2.length e2)
            have HL2_ := Kd.R_mono (Kd.R_far (p := ⟨gt, 2, none⟩) (Kd.R_far (p := ⟨gt, 1, none⟩) (Kd.R_far (p := ⟨gt, 0, none⟩) (Kd.R_far1 HL rfl (Kd.R_ne HL hbt (by decide))) (fun _ h_ => h_.2) (.slice C0 G2.length e0)) (fun _ h_ => h_.2) (.slice C1 U2.length e1)) (fun _ h_ => h_.2) (.slice C2 F2.length e2)) (ok' := fun _ => True) (fun _ _ => trivial)
            have hown2 := own_set (p := ⟨gt, 2, none⟩) (own_set (p := ⟨gt, 1, none⟩) (own_set (p := ⟨gt, 0, none⟩) (hown) (fun e_ => HNtm e_.symm) (.slice C0 G2.length e0)) (fun e_ => HNtm e_.symm) (.slice C1 U2.length e1)) (fun e_ => HNtm e_.symm) (.slice C2 F2.length e2)
            have HB2 := below_set (j := 2) (v := .slice C2 F2.length e2) (below_set (j := 1) (v := .slice C1 U2.length e1) (below_set (j := 0) (v := .slice C0 G2.length e0) HB1 HGt) HGt) HGt
            refine hK.out _ _ ?_
            clear hK K hbs hbt HL hV0 hV1 hV2 hown HB1 hHeld hxl
            have hbs := hbs2
            have hbt := hbt2
            have HL := HL2_
            have hV0 := hX0
            have hV1 := hX1
            have hV2 := hX2
            have hown := hown2
            have HB := HB2
            clear hbs2 hbt2 HL2_ hX0 hX1 hX2 hown2 HB2
            generalize ((wt.setCell ⟨gt, 0, none⟩ (.slice C0 G2.length e0)).setCell ⟨gt, 1, none⟩ (.slice C1 U2.length e1)).setCell ⟨gt, 2, none⟩ (.slice C2 F2.length e2) = wz at hbs hbt HL hV0 hV1 hV2 hown HB ⊢
            refine pure_ (i := 11) (N := some 15) (v := ?_) (a' := ?_) #[true, true, true, true, true, true, true, true, true, true, true, true] rfl rfl (by kernel_rfl) (fun _ _ _ h => h) (Or.inl ⟨by rfl, ?_⟩) ?_ ?_
            rotate_left
            · intro w'
              go_simp
              with_reducible rfl
            rotate_left
            · simp only [Act.put, List.setIfInBounds_toArray, List.set_cons_zero, List.set_cons_succ, i64_w, i32_w]
              rfl
            refine done_ (by kernel_rfl) ?_
            have hqs_0 : wz.cell? ⟨gs, 0, none⟩ = some (.slice B0 G.length d0) := (blk_cell hbs 0).trans rfl
            have hqs_1 : wz.cell? ⟨gs, 1, none⟩ = some (.slice B1 U.length d1) := (blk_cell hbs 1).trans rfl
            have hqs_2 : wz.cell? ⟨gs, 2, none⟩ = some (.slice B2 Fq.length d2) := (blk_cell hbs 2).trans rfl
            have hqt_0 : wz.cell? ⟨gt, 0, none⟩ = some (.slice C0 G2.length e0) := (blk_cell hbt 0).trans rfl
            have hqt_1 : wz.cell? ⟨gt, 1, none⟩ = some (.slice C1 U2.length e1) := (blk_cell hbt 1).trans rfl
            have hqt_2 : wz.cell? ⟨gt, 2, none⟩ = some (.slice C2 F2.length e2) := (blk_cell hbt 2).trans rfl
            go_wp2_with (first
                | ((with_reducible refine gate_ (.store 28 (.tmp 5) (.tmp 104)) rfl ?_); have hbs0_ := hbs; refine blk_store_all (w0 := w) (base := w.heap.size) (u := .agg #[.slice C0 G2.length e0, .slice C1 U2.length e1, .slice C2 F2.length e2]) (seg := [.slice C0 G2.length e0, .slice C1 U2.length e1, .slice C2 F2.length e2]) rfl rfl rfl rfl rfl rfl ?h1_ ?ht_ (by exact hbs) (by rfl) (blw HB) HGs ?_; (case ht_ => kernel_rfl); (case h1_ => intro q_ hq_; simp only [List.mem_cons, List.not_mem_nil, or_false] at hq_; rcases hq_ with rfl | rfl | rfl <;> rfl); intro ws_1 hb2_ HB2_ hgr_; clear hqs_0 hqs_1 hqs_2; replace hbs := hb2_; clear hqt_0 hqt_1 hqt_2; replace hbt := blk_grown (by exact hbt) hgr_ (fun e_ => by injection e_ with e_; exact HNt_s e_); replace hV0 := Kd.V_grown hV0 hgr_ (fun k_ hk_ e_ => by injection e_ with e_; exact hk_.1.1 e_); replace hV1 := Kd.V_grown hV1 hgr_ (fun k_ hk_ e_ => by injection e_ with e_; exact hk_.1.1 e_); replace hV2 := Kd.V_grown hV2 hgr_ (fun k_ hk_ e_ => by injection e_ with e_; exact hk_.1.1 e_); replace HL := Kd.R_grown2 HL rfl hgr_ (fun k e_ => by injection e_ with e_; subst e_; exact Kd.R_ne HL hbs0_ (by decide)); replace hown := own_grown hown hgr_ (fun e_ => by injection e_ with e_; exact HNS e_.symm); replace HB := HB2_; clear hb2_ HB2_ hgr_; have hqs_0 : ws_1.cell? ⟨gs, 0, none⟩ = some (.slice C0 G2.length e0) := (blk_cell hbs 0).trans rfl; have hqs_1 : ws_1.cell? ⟨gs, 1, none⟩ = some (.slice C1 U2.length e1) := (blk_cell hbs 1).trans rfl; have hqs_2 : ws_1.cell? ⟨gs, 2, none⟩ = some (.slice C2 F2.length e2) := (blk_cell hbs 2).trans rfl; have hqt_0 : ws_1.cell? ⟨gt, 0, none⟩ = some (.slice C0 G2.length e0) := (blk_cell hbt 0).trans rfl; have hqt_1 : ws_1.cell? ⟨gt, 1, none⟩ = some (.slice C1 U2.length e1) := (blk_cell hbt 1).trans rfl; have hqt_2 : ws_1.cell? ⟨gt, 2, none⟩ = some (.slice C2 F2.length e2) := (blk_cell hbt 2).trans rfl))
            try (simp only [Act.put, List.setIfInBounds_toArray, List.set_cons_zero, List.set_cons_succ])
            refine start_ (n := 11) (S := fun w' => w'.cell? ⟨gs, 0, none⟩ = some (.slice C0 G2.length e0) ∧ w'.cell? ⟨gs, 1, none⟩ = some (.slice C1 U2.length e1)) (ds := [9]) #[false, false, false, false, false, false, false, false, false, false, false] (by kernel_rfl) rfl rfl ⟨(blk_cell (blk_drew hbs) 0).trans rfl, (blk_cell (blk_drew hbs) 1).trans rfl⟩ (fun hHeld => ?_)
            have hbs1 := blk_drew hbs
            have HB1 := below_drew1 HB
            have HL1 := Kd.R_drew HL
            have hY0 := Kd.V_drew hV0
            have hY1 := Kd.V_drew hV1
            have hY2 := Kd.V_drew hV2
            have hown1 := own_drew hown
            clear HB HL hV0 hV1 hV2 hown hbs hbt hqs_0 hqs_1 hqs_2 hqt_0 hqt_1 hqt_2
            have hbs := hbs1
            have HB := HB1
            have HL := HL1
            have hV0 := hY0
            have hV1 := hY1
            have hV2 := hY2
            have hown := hown1
            clear HB1 HL1 hY0 hY1 hY2 hown1 hbs1
            generalize _root_.Go.World.drew _ = wd at hbs HB HL hV0 hV1 hV2 hown hHeld ⊢
            refine pure_ (i := 1) (N := some 106) (v := ?_) (a' := ?_) #[false, true, false, false, false, false, false, false, false, false, false] rfl rfl (by kernel_rfl) (fun _ _ _ h => h) (Or.inl ⟨by rfl, ?_⟩) ?_ ?_
            rotate_left
            · intro w'
              go_simp
              with_reducible rfl
            rotate_left
            · simp only [Act.put, List.setIfInBounds_toArray, List.set_cons_zero, List.set_cons_succ, i64_w, i32_w]
              rfl
            refine pure_ (i := 2) (N := some 107) (v := ?_) (a' := ?_) #[false, true, true, false, false, false, false, false, false, false, false] rfl rfl (by kernel_rfl) (fun _ _ _ h => h) (Or.inl ⟨by rfl, ?_⟩) ?_ ?_
            rotate_left
            · intro w'
              go_simp
              with_reducible rfl
            rotate_left
            · simp only [Act.put, List.setIfInBounds_toArray, List.set_cons_zero, List.set_cons_succ, i64_w, i32_w]
              rfl
            have hcutA := HCA.out
            refine pure_ (i := 3) (N := some 108) (v := ?_) (a' := ?_) #[false, true, true, true, false, false, false, false, false, false, false] rfl rfl (by kernel_rfl) (fun _ _ _ h => h) (Or.inl ⟨by rfl, ?_⟩) ?_ ?_
            rotate_left
            · intro w'
              go_simp
              with_reducible rfl
            rotate_left
            · simp only [Act.put, List.setIfInBounds_toArray, List.set_cons_zero, List.set_cons_succ, i64_w, i32_w]
              rfl
            clear hcutA
            refine pure_ (i := 5) (N := some 110) (v := ?_) (a' := ?_) #[false, true, true, true, false, true, false, false, false, false, false] rfl rfl (by kernel_rfl) (fun _ _ _ h => h) (Or.inl ⟨by rfl, ?_⟩) ?_ ?_
            rotate_left
            · intro w'
              go_simp
              with_reducible rfl
            rotate_left
            · simp only [Act.put, List.setIfInBounds_toArray, List.set_cons_zero, List.set_cons_succ, i64_w, i32_w]
              rfl
            refine pure_ (i := 6) (N := some 111) (v := ?_) (a' := ?_) #[false, true, true, true, false, true, true, false, false, false, false] rfl rfl (by kernel_rfl) (fun _ _ _ h => h) (Or.inl ⟨by rfl, ?_⟩) ?_ ?_
            rotate_left
            · intro w'
              go_simp
              with_reducible rfl
            rotate_left
            · simp only [Act.put, List.setIfInBounds_toArray, List.set_cons_zero, List.set_cons_succ, i64_w, i32_w]
              rfl
            refine pure_ (i := 7) (N := some 112) (v := ?_) (a' := ?_) #[false, true, true, true, false, true, true, true, false, false, false] rfl rfl (by kernel_rfl) (fun _ _ _ h => h) (Or.inl ⟨by rfl, ?_⟩) ?_ ?_
            rotate_left
            · intro w'
              go_simp
              with_reducible rfl
            rotate_left
            · simp only [Act.put, List.setIfInBounds_toArray, List.set_cons_zero, List.set_cons_succ, i64_w, i32_w]
              rfl
            have hcutB := HCB.out
            have hkw := HKW.out
            refine pure_ (i := 8) (N := some 113) (v := ?_) (a' := ?_) #[false, true, true, true, false, true, true, true, true, false, false] rfl rfl (by kernel_rfl) (fun _ _ _ h => h) (Or.inl ⟨by rfl, ?_⟩) ?_ ?_
            rotate_left
            · intro w'
              go_simp
              with_reducible rfl
            rotate_left
            · simp only [Act.put, List.setIfInBounds_toArray, List.set_cons_zero, List.set_cons_succ, i64_w, i32_w]
              rfl
            clear hcutB hkw
            refine one_ (i := 0) (N := some 105) #[true, true, true, true, false, true, true, true, true, false, false] rfl rfl (by kernel_rfl) (by decide) (fun K hK => ?_)
            refine Kd.R_lit_step (Kd.int .u64) (w0 := w) w.heap.size 34 (by rfl) (N := 105) rfl (xs := []) (inner := []) (ok := fun _ => True) (okp := fun _ => False) ?hr (Reps.none _ _) (fun _ h_ => h_.elim) trivial HB HB.size (by simp) ?_
            case hr => first | (go_simp; done) | (go_simp; rfl)
            intro vE wE HE hb_ hg_ hat_
            obtain ⟨bE, hE1, hE2⟩ := hat_
            have hlt4_ := own_lt hown
            have HNE : some ws_2.heap.size ≠ vE.ownBlock := (by rw [hE1]; intro e_; injection e_ with e_; omega)
            have HLE : ∀ k_, vE.ownBlock = some k_ → some k_ ≠ (Value.slice (some adL) Ls.length cL).ownBlock := (fun k_ h_ e_ => by rw [hE1] at h_; injection h_ with h_; subst h_; have h5_ := ((Kd.R_bound HL).1 _ e_.symm).2.2.1; omega)
            have hX0 := Kd.V_mono (Kd.V_grown (Kd.V_bound hV0) hg_ (by simp)) (ok' := fun k_ => (k_ ≠ gs ∧ k_ ≠ ws_2.heap.size ∧ k_ ≠ gt) ∧ some k_ ≠ vE.ownBlock) (fun k_ h_ => ⟨⟨h_.1.1.1, h_.1.1.2.1, h_.1.2⟩, (by rw [hE1]; intro e_; injection e_ with e_; have h6_ := h_.2; omega)⟩)
            have hX1 := Kd.V_mono (Kd.V_grown (Kd.V_bound hV1) hg_ (by simp)) (ok' := fun k_ => (k_ ≠ gs ∧ k_ ≠ ws_2.heap.size ∧ k_ ≠ gt) ∧ some k_ ≠ vE.ownBlock) (fun k_ h_ => ⟨⟨h_.1.1.1, h_.1.1.2.1, h_.1.2⟩, (by rw [hE1]; intro e_; injection e_ with e_; have h6_ := h_.2; omega)⟩)
            have hX2 := Kd.V_mono (Kd.V_grown (Kd.V_bound hV2) hg_ (by simp)) (ok' := fun k_ => (k_ ≠ gs ∧ k_ ≠ ws_2.heap.size ∧ k_ ≠ gt) ∧ some k_ ≠ vE.ownBlock) (fun k_ h_ => ⟨⟨h_.1.1.1, h_.1.1.2.1, h_.1.2⟩, (by rw [hE1]; intro e_; injection e_ with e_; have h6_ := h_.2; omega)⟩)
            replace hbs := blk_grown hbs hg_ (by simp)
            replace HL := Kd.R_grown2 HL rfl hg_ (by simp)
            replace hown := own_grown hown hg_ (by simp)
            clear hV0 hV1 hV2 HB hg_ hlt4_ hHeld
            have hV0 := hX0
            have hV1 := hX1
            have hV2 := hX2
            have HB := hb_
            clear hX0 hX1 hX2 hb_
            refine hK.out _ _ ⟨(blk_cell hbs 0).trans rfl, (blk_cell hbs 1).trans rfl⟩ (fun hHeld => ?_)
            clear hK K
            refine norm_ (a' := ?_) ?_ ?_
            rotate_left
            · show Act.put _ (some 105) _ = _
              simp only [Act.put, List.setIfInBounds_toArray, List.set_cons_zero, List.set_cons_succ, i64_w, i32_w]
              rfl
            refine one_ (i := 4) (N := some 109) #[true, true, true, true, true, true, true, true, true, false, false] rfl rfl (by kernel_rfl) (by decide) (fun K hK => ?_)
            refine Kd.R_append_rows_step (Kd.int .u64) (w0 := w) w.heap.size (by rfl) (.tmp 105) (.tmp 108) 24 34 (.int .u64 0) 8 rfl Try.underlying24 (by kernel_rfl) rfl (by decide) (by omega) vE [] (Ls.take k) (some adL) k cL (fun _ => True) (fun _ => False) rfl rfl HE (by have h_ := Kd.C_take (Kd.R_reads' HL).2.2 (m := k) (by have h9_ := HKL.out; omega); rw [List.length_take, Nat.min_eq_left (by have h9_ := HKL.out; omega)] at h_; exact h_) (fun _ _ h => h) (fun _ h => h.elim) (fun _ _ => trivial) HB HB.size (by have h7_ := HLm2.out; have h8_ := HKL.out; simp only [List.length_nil, List.length_take]; omega) ?_
            intro vF wF HEn hb_ hg_ hat_
            have hlt4_ := own_lt hown
            have hbs1 := blk_grown hbs hg_ (Kd.R_ne HE hbs (by decide))
            have hown1 := own_grown hown hg_ HNE
            have HNEn : some ws_2.heap.size ≠ vF.ownBlock := (by rcases hat_ with h_ | ⟨b_, h1_, h2_⟩ <;> first | (rw [h_]; exact HNE) | (rw [h1_]; intro e_; injection e_ with e_; omega))
            have hX0 := Kd.V_after hV0 hg_ hat_
            have hX1 := Kd.V_after hV1 hg_ hat_
            have hX2 := Kd.V_after hV2 hg_ hat_
            have HL1 := Kd.R_grown2 HL rfl hg_ HLE
            clear hbs hown HNE hV0 hV1 hV2 HE HB HL hlt4_ hg_ hat_ HLE
            have hbs := hbs1
            have hown := hown1
            have HNE := HNEn
            have hV0 := hX0
            have hV1 := hX1
            have hV2 := hX2
            have HE := HEn
            have HB := hb_
            have HL := HL1
            clear HL1
            clear hbs1 hown1 HNEn hX0 hX1 hX2 HEn hb_
            rw [List.nil_append] at HE
            refine hK.out _ _ ⟨(blk_cell hbs 0).trans rfl, (blk_cell hbs 1).trans rfl⟩ (fun hHeld => ?_)
            clear hK K
            refine norm_ (a' := ?_) ?_ ?_
            rotate_left
            · show Act.put _ (some 109) _ = _
              simp only [Act.put, List.setIfInBounds_toArray, List.set_cons_zero, List.set_cons_succ, i64_w, i32_w]
              rfl
            refine last_ (i := 9) (N := some 114) #[true, true, true, true, true, true, true, true, true, true, false] rfl rfl (by kernel_rfl) (by decide) (fun K hK => ?_)
            refine Kd.R_append_rows_step (Kd.int .u64) (w0 := w) w.heap.size (by rfl) (.tmp 109) (.tmp 113) 24 34 (.int .u64 0) 8 rfl Try.underlying24 (by kernel_rfl) rfl (by decide) (by omega) vF (Ls.take k) (Ls.drop (k + 1)) AB (Ls.length - (k + 1)) (cL - (k + 1)) (fun _ => True) (fun _ => False) rfl rfl HE (by have h_ := Kd.C_drop (Kd.R_reads' HL).2.2 (m := k + 1) (by have h9_ := HKL.out; omega) HCL.out; rw [List.length_drop] at h_; rw [HAB.out]; exact h_) (fun _ _ h => h) (fun _ h => h.elim) (fun _ _ => trivial) HB HB.size (by have h7_ := HLm2.out; have h8_ := HKL.out; simp only [List.length_nil, List.length_take]; omega) ?_
            intro vG wG HEn hb_ hg_ hat_
            have hlt4_ := own_lt hown
            have hbs1 := blk_grown hbs hg_ (Kd.R_ne HE hbs (by decide))
            have hown1 := own_grown hown hg_ HNE
            have HNEn : some ws_2.heap.size ≠ vG.ownBlock := (by rcases hat_ with h_ | ⟨b_, h1_, h2_⟩ <;> first | (rw [h_]; exact HNE) | (rw [h1_]; intro e_; injection e_ with e_; omega))
            have hX0 := Kd.V_after hV0 hg_ hat_
            have hX1 := Kd.V_after hV1 hg_ hat_
            have hX2 := Kd.V_after hV2 hg_ hat_
            clear hbs hown HNE hV0 hV1 hV2 HE HB HL hlt4_ hg_ hat_
            have hbs := hbs1
            have hown := hown1
            have HNE := HNEn
            have hV0 := hX0
            have hV1 := hX1
            have hV2 := hX2
            have HE := HEn
            have HB := hb_
            clear hbs1 hown1 HNEn hX0 hX1 hX2 HEn hb_
            rw [← HL2.out] at HE
            obtain ⟨AN, cN, en_⟩ := Kd.R_slice HE
            subst en_
            refine hK.out _ _ ?_
            clear hK K hHeld
            refine pure_ (i := 10) (N := some 8) (v := ?_) (a' := ?_) #[true, true, true, true, true, true, true, true, true, true, true] rfl rfl (by kernel_rfl) (fun _ _ _ h => h) (Or.inl ⟨by rfl, ?_⟩) ?_ ?_
            rotate_left
            · intro w'
              go_simp
              with_reducible rfl
            rotate_left
            · simp only [Act.put, List.setIfInBounds_toArray, List.set_cons_zero, List.set_cons_succ, i64_w, i32_w]
              rfl
            refine done_ (by kernel_rfl) ?_
            have hqs_0 : wG.cell? ⟨gs, 0, none⟩ = some (.slice C0 G2.length e0) := (blk_cell hbs 0).trans rfl
            have hqs_1 : wG.cell? ⟨gs, 1, none⟩ = some (.slice C1 U2.length e1) := (blk_cell hbs 1).trans rfl
            have hqs_2 : wG.cell? ⟨gs, 2, none⟩ = some (.slice C2 F2.length e2) := (blk_cell hbs 2).trans rfl
            go_wp2_with (first
    | (go_at_call 18; refine (slots_All.calls C0 e0 G2 C1 e1 U2 C2 e2 F2 RA _ (Kd.V_reads' hV0).2.2 (Kd.V_reads' hV0).2.1 (Kd.V_reads' hV1).2.2 (Kd.V_reads' hV1).2.1 (Kd.V_reads' hV2).2.2 (Kd.V_reads' hV2).2.1 HAll.out).mono ?_; rintro e wa ⟨v0_, rfl, hRv, hb_⟩; obtain ⟨AR, cR, e_⟩ := Kd.R_slice hRv; subst e_; clear hRv; clear hqs_0 hqs_1 hqs_2; replace hbs := blk_below hbs hb_; replace hV0 := Kd.V_below hV0 hb_; replace hV1 := Kd.V_below hV1 hb_; replace hV2 := Kd.V_below hV2 hb_; replace HE := Kd.R_below HE hb_; replace hown := own_below hown hb_; replace HB := below_step HB hb_; clear hb_; have hqs_0 : wa.cell? ⟨gs, 0, none⟩ = some (.slice C0 G2.length e0) := (blk_cell hbs 0).trans rfl; have hqs_1 : wa.cell? ⟨gs, 1, none⟩ = some (.slice C1 U2.length e1) := (blk_cell hbs 1).trans rfl; have hqs_2 : wa.cell? ⟨gs, 2, none⟩ = some (.slice C2 F2.length e2) := (blk_cell hbs 2).trans rfl; have hfl_ := HFL.out))
            clear hfl_ hN
            refine ⟨⟨j + 1, n, L2, G2, F2, T, U2, AN, C0, C1, C2, cN, e0, e1, e2, D, by omega, by omega, by go_num, rfl, HP2.out, HDj.out, hown, HNE, HE, Kd.V_mono hV0 (fun k_ h_ => ⟨h_.1.1, h_.1.2.1, h_.2⟩), Kd.V_mono hV1 (fun k_ h_ => ⟨h_.1.1, h_.1.2.1, h_.2⟩), Kd.V_mono hV2 (fun k_ h_ => ⟨h_.1.1, h_.1.2.1, h_.2⟩), hbs, HB⟩, ?_⟩
            simp [intOf]; omega
    · have hje : ¬ (j : Int) < (acts.length : Int) := by omega
      go_wp2
      go_ret
      exact ⟨rfl, HB⟩

theorem walk2 (a0 : Int) (AA : Option Addr) (ca : Nat) (acts : List Int) (w : World) (hl : ¬ acts.length ≤ 150) :
    Calls Try.prog 3 #[.int .u8 a0, .slice AA acts.length ca] w fun e w' => e = .returned (.bool true) ∧ Below w.heap.size w w' := by
  have hl' : (150 : Int) < (acts.length : Int) := by omega
  have HB := Below.refl w.heap.size w
  go_enter Try.func3, Try.ntmps3
  go_wp2_with (first | (go_at_call 14; refine (treillagelaw03_shown.calls true _ shown3).mono ?_; rintro e ws ⟨rfl, hb_⟩; replace HB := below_step HB hb_; clear hb_))
  go_ret
  exact ⟨rfl, HB⟩
theorem walk (a0 : Int) (a1 : Option Addr) (len1 cap1 : Nat) (z1 : List Int) (w : World) (w0 : (Lit.int .u8 a0).wf = true) (w1 : (a1 = none ∧ len1 = 0 ∧ cap1 = 0 ∧ z1 = []) ∨ ∃ x, a1 = some x ∧ len1 ≤ cap1 ∧ cap1 ≤ maxLen ∧ z1.length = cap1 ∧ (∀ i, i < z1.length → w.cell? (x.add i) = some (.int .u16 (z1.getD i 0))) ∧ ∀ n ∈ z1, (Lit.int .u16 n).wf = true) :
    Calls Try.prog 3 #[.int .u8 a0, .slice a1 len1 cap1] w fun e w' => e = .returned (.bool true) ∧ Below w.heap.size w w' := by
  obtain ⟨l1, rfl, hr1, hm1, hw1, hc1⟩ := ReadsInt.ofRowC w1
  by_cases hl : l1.length ≤ 150
  · have b0 := wf_u8 w0
    obtain ⟨n, hn⟩ : ∃ n : Nat, a0 % 20 = (n : Int) := ⟨(a0 % 20).toNat, by omega⟩
    have e0 : Int.tmod (wrap64 a0) 20 = (n : Int) := by rw [show wrap64 a0 = a0 from by unfold wrap64; omega, Int.tmod_eq_emod_of_nonneg b0.1, hn]
    exact walk1 a0 a1 cap1 l1 n e0 (by omega) w (Kd.C_of_reads (d := (0 : Int)) (h1 := fun _ => rfl) hr1) hc1 hl
  · exact walk2 a0 a1 cap1 l1 w hl
end Go.Proofs.Ytecfbacgaahlhaa.slotsOnce
