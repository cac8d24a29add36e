/-
  One that puts alone is done within five accesses, or finds it full within two; items come back as they were put.
-/
import Derived.Test.YtcjkjlopbjijaaaPQx11
import Derived.Test.YtcjkjlopbjijaaaWfQueueOne
import Derived.Test.YtcjkjlopbjijaaaQueueS
namespace Go.Proofs.Ytcjkjlopbjijaaa.queueOne
set_option linter.unusedVariables false
set_option linter.unusedSimpArgs false
open Go.RowKit Go.Proofs.Ytcjkjlopbjijaaa.PQ Go.Proofs.YtcjkjlopbjijaaaW.PrintWords Go.Proofs.YtcjkjlopbjijaaaW.PrintLast Go.Proofs.YtcjkjlopbjijaaaW.PrintMore Go.Proofs.YtcjkjlopbjijaaaH

/-- One round of putting. -/
theorem round {s : Int} {x1 inn m m' : List Int} {x2 : List Bool} {x8 x13 c st po it ts h ti kd cell o nw v : Int} {b : Bool} {K : Nat} (hc : 0 ≤ c ∧ c < 6) (hK : 4 ≤ K) (e1 : queue_Want.f 1 s st po it = some (kd, cell, o, nw, true)) (e2 : mem_Do.f m kd cell o nw = some (m', v, b)) :
    treillagelaw16_QueueOne.l2 (K + 1) x1 x2 x8 m inn x13 c 1 s ts h ti st po it = treillagelaw16_QueueOne.l2 K x1 x2 x8 m' inn x13 (c + 1) 1 s ts h ti (gotS st po v b) (if st = 0 then v else po) it := by
  rw [treillagelaw16_QueueOne.l2, if_pos hc.2, e1]
  simp only [Option.bind_some]
  rw [if_pos (by trivial), e2]
  simp only [Option.bind_some]
  rw [got_ok hK, w64k (i := c + 1) (by omega) (by omega)]
  rfl
theorem ended {s : Int} {x1 inn m : List Int} {x2 : List Bool} {x8 x13 c st po it ts h ti : Int} {K : Nat} (hc : 0 ≤ c ∧ c < 6) (h5 : 5 ≤ st) :
    treillagelaw16_QueueOne.l2 (K + 1) x1 x2 x8 m inn x13 c 1 s ts h ti st po it = treillagelaw16_QueueOne.j4 K x1 x2 x8 m inn x13 c 1 s ts h ti st po it := by
  rw [treillagelaw16_QueueOne.l2, if_pos hc.2, want_no (.inr h5)]
  simp only [Option.bind_some]
  rw [if_neg (by decide)]
section
variable {s : Int} (hs : Lay 1 s) {N n : Nat} (hN : pw s = N) (hN2 : 2 ≤ N) (hN3 : N ≤ 16) (hn : n ≤ 40) {item : Nat → Int}
include hs hN hN2 hN3 hn
theorem put_all {m : List Int} {l : List Putter} {ts : Int} {H : Nat} {ti : Int} {C : List Nat} {k : Nat} (I : Inv N n item m l ts H ti C) (hk : k < n) (hkC : k ∉ C) (hx : rdP l k = ⟨0, 0, item k⟩) {x1 inn : List Int} {x2 : List Bool} {x8 x13 : Int} {K : Nat} (hK : 4 ≤ K) :
    ∃ (m' : List Int) (l' : List Putter) (K' : Nat), K ≤ K' ∧ (∀ j : Nat, j ≠ k → rdP l' j = rdP l j) ∧
      ((C.length < H + N ∧ Inv N n item m' l' ts H ti (C ++ [k]) ∧ (rdP l' k).f0 = 5 ∧ ∃ po, treillagelaw16_QueueOne.l2 (K + 6) x1 x2 x8 m inn x13 0 1 s ts H ti 0 0 (item k) = treillagelaw16_QueueOne.j4 K' x1 x2 x8 m' inn x13 5 1 s ts H ti 5 po (item k)) ∨
       (C.length = H + N ∧ Inv N n item m' l' ts H ti C ∧ (rdP l' k).f0 = 6 ∧ ∃ po, treillagelaw16_QueueOne.l2 (K + 6) x1 x2 x8 m inn x13 0 1 s ts H ti 0 0 (item k) = treillagelaw16_QueueOne.j4 K' x1 x2 x8 m' inn x13 2 1 s ts H ti 6 po (item k))) := by
  have hkl : k < l.length := by rw [I.hl]; exact hk
  -- looks
  obtain ⟨kd, cell, o, nw, v, b, m1, C1, e1, e2, I1, hC1, _, _⟩ := (I.step hs hN hN2 hN3 (by omega) hk (by rw [hx]; show (0 : Int) ≠ 5 ∧ (0 : Int) ≠ 6; decide)).go
  rw [hx] at e1 I1 hC1
  dsimp only at e1 I1 hC1
  rw [want_0 hs] at e1
  injection e1 with e1; injection e1 with q1 e1; injection e1 with q2 e1; injection e1 with q3 e1; injection e1 with q4 _
  subst q1 q2 q3 q4
  have hml := I.hm
  rw [do_load (by omega) (by omega)] at e2
  injection e2 with e2; injection e2 with r1 e2; injection e2 with r2 r3
  subst r1 r2 r3
  have hC1' : C1 = C := by
    rcases hC1 with ⟨h, _⟩ | ⟨_, h, _⟩
    · exact h
    · cases h
  subst hC1'
  rw [show rd m (2 + 2 * 1) = (C1.length : Int) from I.tail] at I1
  have hr1 := round (s := s) (x1 := x1) (inn := inn) (x2 := x2) (x8 := x8) (x13 := x13) (c := 0) (ts := ts) (h := H) (ti := ti) (K := K + 5) (st := 0) (po := 0) (it := item k) ⟨by decide, by decide⟩ (by omega) (want_0 hs _ _) (do_load (l := m) (i := 2 + 2 * 1) (o := 0) (n := 0) (by omega) (by omega))
  rw [if_pos rfl, show rd m (2 + 2 * 1) = C1.length from I.tail] at hr1
  change Inv N n item m (l.set k ⟨1, C1.length, item k⟩) ts H ti C1 at I1
  change _ = treillagelaw16_QueueOne.l2 (K + 5) x1 x2 x8 m inn x13 1 1 s ts H ti 1 C1.length (item k) at hr1
  have hcn := I.cn
  -- sees
  have hx1 : rdP (l.set k ⟨1, C1.length, item k⟩) k = ⟨1, C1.length, item k⟩ := rdP_set_self hkl _
  obtain ⟨l1, hl1⟩ : ∃ l1, l1 = l.set k (⟨1, C1.length, item k⟩ : Putter) := ⟨_, rfl⟩
  have hne1 : ∀ j : Nat, j ≠ k → rdP l1 j = rdP l j := fun j hj => by rw [hl1]; exact rdP_set_ne hj _
  rw [← hl1] at I1 hx1
  have hkl1 : k < l1.length := by rw [I1.hl]; exact hk
  have hqm := Nat.mod_lt C1.length (show 0 < N by omega)
  have hsq : rd m (3 + 2 * 1 + 2 * ((C1.length : Int) % pw s)) = sq m N C1.length := by unfold sq; rw [pos_mod hN]
  obtain ⟨kd, cell, o, nw, v, b, m2, C2, e1, e2, I2, hC2, hfull, _⟩ := (I1.step hs hN hN2 hN3 (by omega) hk (by rw [hx1]; show (1 : Int) ≠ 5 ∧ (1 : Int) ≠ 6; decide)).go
  rw [hx1] at e1 I2 hC2 hfull
  dsimp only at e1 I2 hC2 hfull
  rw [want_1 hs _ (by omega) (by omega)] at e1
  injection e1 with e1; injection e1 with q1 e1; injection e1 with q2 e1; injection e1 with q3 e1; injection e1 with q4 _
  subst q1 q2 q3 q4
  have hadr := pos_mod hN C1.length
  rw [do_load (by omega) (by omega), hsq] at e2
  injection e2 with e2; injection e2 with r1 e2; injection e2 with r2 r3
  subst r1 r2 r3
  have hC2' : C2 = C1 := by
    rcases hC2 with ⟨h, _⟩ | ⟨_, h, _⟩
    · exact h
    · cases h
  subst hC2'
  (try rw [if_neg (by decide)] at I2)
  have hr2 := round (s := s) (x1 := x1) (inn := inn) (x2 := x2) (x8 := x8) (x13 := x13) (c := 1) (ts := ts) (h := H) (ti := ti) (K := K + 4) (st := 1) (po := C2.length) (it := item k) ⟨by decide, by decide⟩ (by omega) (want_1 hs _ (by omega) (by omega)) (do_load (l := m) (i := 3 + 2 * 1 + 2 * ((C2.length : Int) % pw s)) (o := 0) (n := 0) (by omega) (by omega))
  rw [if_neg (by decide), hsq] at hr2
  have hgs : gotS 1 C2.length (sq m N C2.length) true = if sq m N C2.length < C2.length then 6 else if sq m N C2.length > C2.length then 0 else 2 := rfl
  rw [hgs] at I2 hfull hr2
  rcases Nat.lt_or_ge C2.length (H + N) with hroom | hroom
  · have hfree := I.free C2.length (Nat.le_refl _) hroom
    rw [hfree, if_neg (by omega), if_neg (by omega)] at I2 hr2
    change _ = treillagelaw16_QueueOne.l2 (K + 4) x1 x2 x8 m inn x13 2 1 s ts H ti 2 C2.length (item k) at hr2
    -- claims
    have hx2 : rdP (l1.set k ⟨2, C2.length, item k⟩) k = ⟨2, C2.length, item k⟩ := rdP_set_self hkl1 _
    obtain ⟨l2, hl2⟩ : ∃ l2, l2 = l1.set k (⟨2, C2.length, item k⟩ : Putter) := ⟨_, rfl⟩
    have hne2 : ∀ j : Nat, j ≠ k → rdP l2 j = rdP l j := fun j hj => by rw [hl2, rdP_set_ne hj]; exact hne1 j hj
    rw [← hl2] at I2 hx2
    have hkl2 : k < l2.length := by rw [I2.hl]; exact hk
    obtain ⟨kd, cell, o, nw, v, b, m3, C3, e1, e2, I3, hC3, _, _⟩ := (I2.step hs hN hN2 hN3 (by omega) hk (by rw [hx2]; show (2 : Int) ≠ 5 ∧ (2 : Int) ≠ 6; decide)).go
    rw [hx2] at e1 I3 hC3
    dsimp only at e1 I3 hC3
    rw [want_2 hs] at e1
    injection e1 with e1; injection e1 with q1 e1; injection e1 with q2 e1; injection e1 with q3 e1; injection e1 with q4 _
    subst q1 q2 q3 q4
    have hcas : mem_Do.f m 3 (2 + 2 * 1) C2.length (IntKind.u64.wrap (C2.length + 1)) = some (m.set (2 + 2 * 1 : Int).toNat (IntKind.u64.wrap (C2.length + 1)), rd m (2 + 2 * 1), true) := (do_cas (by omega) (by omega) (by omega)).trans (if_pos I.tail)
    have hr3 := round (s := s) (x1 := x1) (inn := inn) (x2 := x2) (x8 := x8) (x13 := x13) (c := 2) (ts := ts) (h := H) (ti := ti) (K := K + 3) (st := 2) (po := C2.length) (it := item k) ⟨by decide, by decide⟩ (by omega) (want_2 hs _ _) hcas
    rw [hcas] at e2
    injection e2 with e2; injection e2 with r1 e2; injection e2 with r2 r3
    subst r1 r2 r3
    (try rw [if_neg (by decide)] at I3)
    (try rw [if_neg (by decide)] at hr3)
    have hC3' : C3 = C2 ++ [k] := by
      rcases hC3 with ⟨_, h⟩ | ⟨h, _⟩
      · exact (h ⟨rfl, rfl⟩).elim
      · exact h
    subst hC3'
    obtain ⟨m3, hm3⟩ : ∃ m3, m3 = m.set (2 + 2 * 1 : Int).toNat (IntKind.u64.wrap (C2.length + 1)) := ⟨_, rfl⟩
    rw [← hm3] at I3 hr3
    change Inv N n item m3 (l2.set k ⟨3, C2.length, item k⟩) ts H ti (C2 ++ [k]) at I3
    change _ = treillagelaw16_QueueOne.l2 (K + 3) x1 x2 x8 m3 inn x13 3 1 s ts H ti 3 C2.length (item k) at hr3
    -- fills
    have hml3 := I3.hm
    have hx3 : rdP (l2.set k ⟨3, C2.length, item k⟩) k = ⟨3, C2.length, item k⟩ := rdP_set_self hkl2 _
    obtain ⟨l3, hl3⟩ : ∃ l3, l3 = l2.set k (⟨3, C2.length, item k⟩ : Putter) := ⟨_, rfl⟩
    have hne3 : ∀ j : Nat, j ≠ k → rdP l3 j = rdP l j := fun j hj => by rw [hl3, rdP_set_ne hj]; exact hne2 j hj
    rw [← hl3] at I3 hx3
    have hkl3 : k < l3.length := by rw [I3.hl]; exact hk
    obtain ⟨kd, cell, o, nw, v, b, m4, C4, e1, e2, I4, hC4, _, _⟩ := (I3.step hs hN hN2 hN3 (by omega) hk (by rw [hx3]; show (3 : Int) ≠ 5 ∧ (3 : Int) ≠ 6; decide)).go
    rw [hx3] at e1 I4 hC4
    dsimp only at e1 I4 hC4
    have hr4 := round (s := s) (x1 := x1) (inn := inn) (x2 := x2) (x8 := x8) (x13 := x13) (c := 3) (ts := ts) (h := H) (ti := ti) (K := K + 2) (st := 3) (po := C2.length) (it := item k) ⟨by decide, by decide⟩ (by omega) e1 e2
    (try rw [if_neg (by decide)] at I4)
    (try rw [if_neg (by decide)] at hr4)
    have hC4' : C4 = C2 ++ [k] := by
      rcases hC4 with ⟨h, _⟩ | ⟨_, h, _⟩
      · exact h
      · cases h
    subst hC4'
    change Inv N n item m4 (l3.set k ⟨4, C2.length, item k⟩) ts H ti (C2 ++ [k]) at I4
    change _ = treillagelaw16_QueueOne.l2 (K + 2) x1 x2 x8 m4 inn x13 4 1 s ts H ti 4 C2.length (item k) at hr4
    -- shows
    have hx4 : rdP (l3.set k ⟨4, C2.length, item k⟩) k = ⟨4, C2.length, item k⟩ := rdP_set_self hkl3 _
    obtain ⟨l4, hl4⟩ : ∃ l4, l4 = l3.set k (⟨4, C2.length, item k⟩ : Putter) := ⟨_, rfl⟩
    have hne4 : ∀ j : Nat, j ≠ k → rdP l4 j = rdP l j := fun j hj => by rw [hl4, rdP_set_ne hj]; exact hne3 j hj
    rw [← hl4] at I4 hx4
    have hkl4 : k < l4.length := by rw [I4.hl]; exact hk
    obtain ⟨kd, cell, o, nw, v, b, m5, C5, e1, e2, I5, hC5, _, _⟩ := (I4.step hs hN hN2 hN3 (by omega) hk (by rw [hx4]; show (4 : Int) ≠ 5 ∧ (4 : Int) ≠ 6; decide)).go
    rw [hx4] at e1 I5 hC5
    dsimp only at e1 I5 hC5
    have hr5 := round (s := s) (x1 := x1) (inn := inn) (x2 := x2) (x8 := x8) (x13 := x13) (c := 4) (ts := ts) (h := H) (ti := ti) (K := K + 1) (st := 4) (po := C2.length) (it := item k) ⟨by decide, by decide⟩ (by omega) e1 e2
    (try rw [if_neg (by decide)] at I5)
    (try rw [if_neg (by decide)] at hr5)
    have hC5' : C5 = C2 ++ [k] := by
      rcases hC5 with ⟨h, _⟩ | ⟨_, h, _⟩
      · exact h
      · cases h
    subst hC5'
    change Inv N n item m5 (l4.set k ⟨5, C2.length, item k⟩) ts H ti (C2 ++ [k]) at I5
    change _ = treillagelaw16_QueueOne.l2 (K + 1) x1 x2 x8 m5 inn x13 5 1 s ts H ti 5 C2.length (item k) at hr5
    have hr6 := ended (s := s) (x1 := x1) (inn := inn) (m := m5) (x2 := x2) (x8 := x8) (x13 := x13) (c := 5) (ts := ts) (h := H) (ti := ti) (K := K) (st := 5) (po := C2.length) (it := item k) ⟨by decide, by decide⟩ (by decide)
    refine ⟨m5, _, K, Nat.le_refl _, fun j hj => (rdP_set_ne hj _).trans (hne4 j hj), .inl ⟨hroom, I5, by rw [rdP_set_self hkl4], C2.length, ?_⟩⟩
    exact (((((hr1.trans hr2).trans hr3).trans hr4).trans hr5).trans hr6)
  · have hT : C2.length = H + N := Nat.le_antisymm I.hi hroom
    have h5 : (C2)[H]? = some (C2[H]'(by omega)) := List.getElem?_eq_getElem _
    have h6 : sq m N C2.length = sq m N H := by unfold sq; rw [hT, Nat.add_mod_right]
    have h7 : sq m N H = H ∨ sq m N H = H + 1 := by rcases I.cur H _ h5 (Nat.le_refl _) with ⟨_, _, h⟩ | ⟨_, _, h, _⟩ | ⟨_, h, _⟩ <;> omega
    rw [if_pos (by omega)] at I2 hr2
    change _ = treillagelaw16_QueueOne.l2 (K + 4) x1 x2 x8 m inn x13 2 1 s ts H ti 6 C2.length (item k) at hr2
    have hr6 := ended (s := s) (x1 := x1) (inn := inn) (m := m) (x2 := x2) (x8 := x8) (x13 := x13) (c := 2) (ts := ts) (h := H) (ti := ti) (K := K + 3) (st := 6) (po := C2.length) (it := item k) ⟨by decide, by decide⟩ (by decide)
    refine ⟨m, _, K + 3, by omega, fun j hj => (rdP_set_ne hj _).trans (hne1 j hj), .inr ⟨hT, I2, by rw [rdP_set_self hkl1], C2.length, ?_⟩⟩
    exact ((hr1.trans hr2).trans hr6)
/-- The taker takes what stands first, in three rounds. -/
theorem take_all {m : List Int} {l : List Putter} {H : Nat} {ti : Int} {C : List Nat} (I : Inv N n item m l 0 H ti C) (hd : ∀ j, C[H]? = some j → (rdP l j).f0 = 5) (hlt : H < C.length) {x1 : List Int} {x2 : List Bool} {x8 x13 : Int} {inn : List Int} {K : Nat} (hK : 1 ≤ K) :
    ∃ (m' : List Int) (j : Nat), C[H]? = some j ∧ Inv N n item m' l 0 (H + 1) (item j) C ∧
      treillagelaw16_QueueOne.l3 (K + 3) x1 x2 x8 m inn x13 false 0 1 s 0 H ti = treillagelaw16_QueueOne.l3 K x1 x2 x8 m' inn x13 true 3 1 s 0 (H + 1 : Nat) (item j) := by
  have hcn := I.cn
  obtain ⟨j, hj⟩ : ∃ j, C[H]? = some j := ⟨_, List.getElem?_eq_getElem hlt⟩
  have hsq : sq m N H = H + 1 := by
    have h5 := hd j hj
    rcases I.cur H j hj (Nat.le_refl _) with ⟨h, _⟩ | ⟨h, _⟩ | ⟨_, h, _⟩
    · omega
    · omega
    · exact h
  have hwr : IntKind.u64.wrap ((H : Int) + 1) = H + 1 := wraps_u64 _ (by omega) (by omega)
  have hml := I.hm
  have hHm := Nat.mod_lt H (show 0 < N by omega)
  have hadr := pos_mod hN H
  have step : ∀ {m m' : List Int} {c st h it kd cell o nw v st' h' it' : Int} {b tk x22 : Bool} {K : Nat}, 0 ≤ c ∧ c < 3 → 1 ≤ K → queue_Next.f 1 s st h it = some (kd, cell, o, nw) → mem_Do.f m kd cell o nw = some (m', v, b) → givenS st h it v = (st', h', it', tk) →
      treillagelaw16_QueueOne.l3 (K + 1) x1 x2 x8 m inn x13 x22 c 1 s st h it = treillagelaw16_QueueOne.l3 K x1 x2 x8 m' inn x13 tk (c + 1) 1 s st' h' it' := by
    intro m m' c st h it kd cell o nw v st' h' it' b tk x22 K hc hK e1 e2 e3
    rw [treillagelaw16_QueueOne.l3, if_pos hc.2, e1]
    simp only [Option.bind_some]
    rw [e2]
    simp only [Option.bind_some]
    rw [given_ok hK, e3, w64k (i := c + 1) (by omega) (by omega)]
    rfl
  -- waits
  obtain ⟨kd, cell, o, nw, v, b, m1, ts1, H1, ti1, tk1, e1, e2, e3, I1, hr1, _, _⟩ := I.take hs hN hN2 hN3 (by omega)
  have f1 := step (c := 0) (x22 := false) (K := K + 2) ⟨by decide, by decide⟩ (by omega) e1 e2 e3
  rw [next_0 hs _ (by omega) (by omega)] at e1
  injection e1 with e1; injection e1 with q1 e1; injection e1 with q2 e1; injection e1 with q3 q4
  subst q1 q2 q3 q4
  rw [do_load (by omega) (by omega)] at e2
  injection e2 with e2; injection e2 with r1 e2; injection e2 with r2 r3
  subst r1 r2 r3
  have hv : rd m (3 + 2 * 1 + 2 * ((H : Int) % pw s)) = H + 1 := by rw [← hadr]; exact hsq
  rw [hv] at e3
  have e3' : givenS 0 H ti (H + 1) = (1, (H : Int), ti, false) := by simp [givenS, hwr]
  rw [e3'] at e3
  injection e3 with g1 e3; injection e3 with g2 e3; injection e3 with g3 g4
  have g2' : H1 = H := by omega
  subst g1 g2' g3 g4
  -- loads
  obtain ⟨kd, cell, o, nw, v, b, m2, ts2, H2, ti2, tk2, e1, e2, e3, I2, hr2, _, _⟩ := I1.take hs hN hN2 hN3 (by omega)
  have f2 := step (c := 1) (x22 := false) (K := K + 1) ⟨by decide, by decide⟩ (by omega) e1 e2 e3
  have e3' : givenS 1 H1 ti v = (2, (H1 : Int), v, false) := by simp [givenS]
  rw [e3'] at e3
  injection e3 with g1 e3; injection e3 with g2 e3; injection e3 with g3 g4
  have g2' : H2 = H1 := by omega
  subst g1 g2' g3 g4
  -- frees
  obtain ⟨kd, cell, o, nw, v3, b, m3, ts3, H3, ti3, tk3, e1, e2, e3, I3, hr3, _, _⟩ := I2.take hs hN hN2 hN3 (by omega)
  have f3 := step (c := 2) (x22 := false) (K := K) ⟨by decide, by decide⟩ hK e1 e2 e3
  have e3' : givenS 2 H2 v v3 = (0, (H2 : Int) + 1, v, true) := by simp [givenS, hwr]
  rw [e3'] at e3
  injection e3 with g1 e3; injection e3 with g2 e3; injection e3 with g3 g4
  subst g1 g3 g4
  rcases hr3 with ⟨h, _⟩ | ⟨_, rfl, j', hj', hti, _⟩
  · cases h
  rw [hj] at hj'
  injection hj' with hj'
  subst hj'
  refine ⟨m3, j, hj, by rw [hti] at I3; exact I3, ?_⟩
  rw [← hti]
  exact (f1.trans f2).trans f3
end
theorem w8 {s : Int} (hs : Lay 1 s) (k : Nat) (x1 : List Int) (x2 : List Bool) : ∃ k', k ≤ k' ∧ treillagelaw16_QueueOne.l0 (k + 5) x1 x2 1 0 1 s = (mem_New.f k' 1 s).bind fun t => treillagelaw16_QueueOne.l1 k' x1 x2 (pw s) t [] 0 1 s 0 0 0 := by
  have a1 : wrap64 (1 * 2) = 2 := w64k (by decide) (by decide)
  have a2 : wrap64 (2 * 2) = 4 := w64k (by decide) (by decide)
  have a3 : wrap64 (4 * 2) = 8 := w64k (by decide) (by decide)
  have a4 : wrap64 (8 * 2) = 16 := w64k (by decide) (by decide)
  have b0 : wrap64 (0 + 1) = 1 := w64k (by decide) (by decide)
  have b1 : wrap64 (1 + 1) = 2 := w64k (by decide) (by decide)
  have b2 : wrap64 (2 + 1) = 3 := w64k (by decide) (by decide)
  have b3 : wrap64 (3 + 1) = 4 := w64k (by decide) (by decide)
  rcases hs.cases with rfl | rfl | rfl | rfl
  · refine ⟨k + 3, by omega, ?_⟩
    rw [show k + 5 = (k + 3) + 1 + 1 from rfl, treillagelaw16_QueueOne.l0, if_pos (by decide), a1, b0, treillagelaw16_QueueOne.l0, if_neg (by decide)]
    rfl
  · refine ⟨k + 2, by omega, ?_⟩
    rw [show k + 5 = (k + 2) + 1 + 1 + 1 from rfl, treillagelaw16_QueueOne.l0, if_pos (by decide), a1, b0, treillagelaw16_QueueOne.l0, if_pos (by decide), a2, b1, treillagelaw16_QueueOne.l0, if_neg (by decide)]
    rfl
  · refine ⟨k + 1, by omega, ?_⟩
    rw [show k + 5 = (k + 1) + 1 + 1 + 1 + 1 from rfl, treillagelaw16_QueueOne.l0, if_pos (by decide), a1, b0, treillagelaw16_QueueOne.l0, if_pos (by decide), a2, b1, treillagelaw16_QueueOne.l0, if_pos (by decide), a3, b2, treillagelaw16_QueueOne.l0, if_neg (by decide)]
    rfl
  · refine ⟨k, by omega, ?_⟩
    rw [show k + 5 = k + 1 + 1 + 1 + 1 + 1 from rfl, treillagelaw16_QueueOne.l0, if_pos (by decide), a1, b0, treillagelaw16_QueueOne.l0, if_pos (by decide), a2, b1, treillagelaw16_QueueOne.l0, if_pos (by decide), a3, b2, treillagelaw16_QueueOne.l0, if_pos (by decide), a4, b3, treillagelaw16_QueueOne.l0, if_neg (by decide)]
    rfl
theorem goes {s : Int} (hs : Lay 1 s) {N : Nat} (hN : pw s = N) (hN2 : 2 ≤ N) (hN3 : N ≤ 16) (x1 : List Int) (x2 : List Bool) (hn : x1.length ≤ 40) :
    ∀ (d K i : Nat) (m : List Int) (l : List Putter) (H : Nat) (ti : Int) (C : List Nat), i + d = x1.length → 30 * d + 30 ≤ K → Inv N x1.length (fun j => rd x1 j) m l 0 H ti C → (∀ j ∈ C, j < i ∧ (rdP l j).f0 = 5) → (∀ j : Nat, i ≤ j → j < x1.length → rdP l j = ⟨0, 0, rd x1 j⟩) →
      treillagelaw16_QueueOne.l1 K x1 x2 (pw s) m ((C.drop H).map (fun j : Nat => rd x1 j)) i 1 s 0 H ti = some true := by
  intro d
  induction d with
  | zero =>
    intro K i m l H ti C he hK I hC hl
    obtain ⟨K, rfl⟩ : ∃ K', K = K' + 1 := ⟨K - 1, by omega⟩
    rw [treillagelaw16_QueueOne.l1, if_neg (by omega)]
  | succ d ih =>
    intro K i m l H ti C he hK I hC hl
    obtain ⟨K, rfl⟩ : ∃ K', K = K' + 6 + 1 := ⟨K - 7, by omega⟩
    have hw1 := w64k (i := (i : Int) + 1) (by omega) (by omega)
    have HW1 := Aside0.mk hw1
    clear hw1
    rw [treillagelaw16_QueueOne.l1, if_pos (by omega), if_pos (by omega)]
    have hi : i < x1.length := by omega
    have hiC : i ∉ C := fun h => by have := (hC i h).1; omega
    obtain ⟨m', l', K', hK', hne, hcase⟩ := put_all hs hN hN2 hN3 hn I hi hiC (hl i (Nat.le_refl _) hi) (x1 := x1) (x2 := x2) (x8 := pw s) (x13 := i) (inn := (C.drop H).map (fun j : Nat => rd x1 j)) (K := K) (by omega)
    have hlo := I.lo
    have hcn := I.cn
    have hinn : ((C.drop H).map (fun j : Nat => rd x1 j)).length = C.length - H := by rw [List.length_map, List.length_drop]
    -- what follows the putting
    have after : ∀ (K' : Nat) (m' : List Int) (l' : List Putter) (C' : List Nat), 30 * d + 44 ≤ K' → Inv N x1.length (fun j => rd x1 j) m' l' 0 H ti C' → (∀ j ∈ C', j < i + 1 ∧ (rdP l' j).f0 = 5) → (∀ j : Nat, i + 1 ≤ j → j < x1.length → rdP l' j = ⟨0, 0, rd x1 j⟩) →
        treillagelaw16_QueueOne.j6 K' x1 x2 (pw s) m' ((C'.drop H).map (fun j : Nat => rd x1 j)) i 1 s 0 H ti = some true := by
      intro K' m' l' C' hK' I' hC' hl'
      have hlo' := I'.lo
      have none_ : ∀ K', 30 * d + 31 ≤ K' → treillagelaw16_QueueOne.j7 K' x1 x2 (pw s) m' ((C'.drop H).map (fun j : Nat => rd x1 j)) i false 1 s 0 H ti = some true := by
        intro K' hK'
        obtain ⟨K', rfl⟩ : ∃ K'', K' = K'' + 1 := ⟨K' - 1, by omega⟩
        rw [treillagelaw16_QueueOne.j7, if_neg (by decide), HW1.out]
        exact ih K' (i + 1) m' l' H ti C' (by omega) (by omega) I' hC' hl'
      obtain ⟨K', rfl⟩ : ∃ K'', K' = K'' + 1 := ⟨K' - 1, by omega⟩
      rw [treillagelaw16_QueueOne.j6]
      split
      · rw [if_pos (by omega)]
        split
        · by_cases hpos : H < C'.length
          · have hdec : decide ((((C'.drop H).map (fun j : Nat => rd x1 j)).length : Int) > 0) = true := by
              rw [List.length_map, List.length_drop]; simp only [decide_eq_true_eq]; omega
            obtain ⟨K', rfl⟩ : ∃ K'', K' = K'' + 1 + 3 + 1 := ⟨K' - 5, by omega⟩
            rw [hdec, treillagelaw16_QueueOne.j7, if_pos rfl]
            obtain ⟨m2, j, hj, I2, e⟩ := take_all hs hN hN2 hN3 hn I' (fun j hj => (hC' j (List.mem_of_getElem? hj)).2) hpos (x1 := x1) (x2 := x2) (x8 := pw s) (x13 := i) (inn := (C'.drop H).map (fun j : Nat => rd x1 j)) (K := K' + 1) (by omega)
            rw [e, treillagelaw16_QueueOne.l3, if_neg (by decide), if_pos rfl]
            have hdrop : C'.drop H = j :: C'.drop (H + 1) := by
              have h1 := List.drop_eq_getElem_cons hpos
              rw [List.getElem?_eq_getElem hpos] at hj
              injection hj with hj
              rw [h1, hj]
            rw [hdrop, List.map_cons, List.length_cons, if_pos (by omega), if_pos (by rfl), if_pos (by omega), HW1.out]
            exact ih K' (i + 1) m2 l' (H + 1) _ C' (by omega) (by omega) I2 hC' hl'
          · have hdec : decide ((((C'.drop H).map (fun j : Nat => rd x1 j)).length : Int) > 0) = false := by
              rw [List.length_map, List.length_drop]; simp only [decide_eq_false_iff_not]; omega
            rw [hdec]
            exact none_ K' (by omega)
        · exact none_ K' (by omega)
      · exact none_ K' (by omega)
    have hlens : treillagelaw16_QueueOne.l2 (K + 6) x1 x2 (pw s) m ((C.drop H).map (fun j : Nat => rd x1 j)) i 0 1 s 0 H ti 0 0 (rd x1 i) = some true := by
      rcases hcase with ⟨hroom, I', hst, po, e⟩ | ⟨hT, I', hst, po, e⟩
      · refine e.trans ?_
        obtain ⟨K', rfl⟩ : ∃ K'', K' = K'' + 1 + 1 := ⟨K' - 2, by omega⟩
        rw [treillagelaw16_QueueOne.j4, hinn, hN, if_neg (by omega), if_pos rfl, treillagelaw16_QueueOne.j5, if_neg (by decide), if_neg (by decide), if_pos (by omega), if_pos (by omega), hinn, if_pos (by omega)]
        have hap : (C.drop H).map (fun j : Nat => rd x1 j) ++ [rd x1 i] = ((C ++ [i]).drop H).map (fun j : Nat => rd x1 j) := by
          rw [List.drop_append_of_le_length hlo, List.map_append]; rfl
        rw [hap, ← hN]
        refine after K' m' l' (C ++ [i]) (by omega) I' (fun j hj => ?_) (fun j h1 h2 => ?_)
        · rcases List.mem_append.1 hj with h | h
          · have h3 := hC j h
            exact ⟨by omega, by rw [hne j (by omega)]; exact h3.2⟩
          · rw [List.mem_singleton] at h; subst h; exact ⟨by omega, hst⟩
        · rw [hne j (by omega)]; exact hl j (by omega) h2
      · refine e.trans ?_
        obtain ⟨K', rfl⟩ : ∃ K'', K' = K'' + 1 + 1 := ⟨K' - 2, by omega⟩
        rw [treillagelaw16_QueueOne.j4, hinn, hN, if_pos (by omega), if_pos rfl, if_pos rfl, treillagelaw16_QueueOne.j5, if_neg (by decide), if_pos rfl, ← hN]
        refine after K' m' l' C (by omega) I' (fun j hj => ?_) (fun j h1 h2 => ?_)
        · have h3 := hC j hj
          exact ⟨by omega, by rw [hne j (by omega)]; exact h3.2⟩
        · rw [hne j (by omega)]; exact hl j (by omega) h2
    exact hlens
theorem pure : ∀ (x0 : Int) (x1 : List Int) (x2 : List Bool), (Lit.int .u8 x0).wf = true → (x1.length * Try.prog.bytesOf 23 ≤ 140737488351232 ∧ ∀ y0_ ∈ x1, (Lit.int .u64 y0_).wf = true) → (x2.length * Try.prog.bytesOf 4 ≤ 140737488351232 ∧ ∀ y0_ ∈ x2, True) → ∃ k : Nat, PQ.treillagelaw16_QueueOne.f k x0 x1 x2 = some true := by
  intro a0 x1 x2 h0 _ _
  have h0 := wf_u8 h0
  have hsh : ∀ k, 20 ≤ k → treillagelaw16_shown.f k = some true := fun k hk => shown_at hk
  refine ⟨30 * x1.length + 200, ?_⟩
  unfold treillagelaw16_QueueOne.f
  by_cases hl : (x1.length : Int) > 40
  · rw [if_pos hl, show 30 * x1.length + 200 = (30 * x1.length + 199) + 1 from rfl, treillagelaw16_QueueOne.j0, if_pos rfl, hsh _ (by omega)]
    rfl
  rw [if_neg hl, hsh _ (by omega)]
  simp only [Option.bind_some, Bool.not_true]
  rw [show 30 * x1.length + 200 = (30 * x1.length + 194 + 5) + 1 from rfl, treillagelaw16_QueueOne.j0, if_neg (by decide)]
  obtain ⟨s, hse⟩ : ∃ s, s = wrap64 (1 + Int.tmod (wrap64 a0) 4) := ⟨_, rfl⟩
  have hs1 : s = 1 + a0 % 4 := by
    have e1 : wrap64 a0 = a0 := w64k h0.1 (by omega)
    rw [hse, e1, Int.tmod_eq_emod_of_nonneg h0.1, w64k (by omega) (by omega)]
  have hs : Lay 1 s := by unfold Lay; omega
  rw [← hse]
  obtain ⟨N, hN⟩ : ∃ N : Nat, pw s = N := ⟨(pw s).toNat, by have := pw_bd s; omega⟩
  have hpb := pw_bd s
  obtain ⟨k', hk', e⟩ := w8 hs (30 * x1.length + 194) x1 x2
  obtain ⟨m, e2, m1, m2, m3⟩ := news hs (k := k') (by omega)
  rw [e, e2]
  simp only [Option.bind_some]
  exact goes hs hN (by omega) (by omega) x1 x2 (by omega) x1.length k' 0 m _ 0 0 [] (by omega) (by omega) (Inv.start hN (fun j => rd x1 j) m1 m2 m3) (fun j hj => by cases hj) (fun j _ hj => begin_rd _ hj)
end Go.Proofs.Ytcjkjlopbjijaaa.queueOne
