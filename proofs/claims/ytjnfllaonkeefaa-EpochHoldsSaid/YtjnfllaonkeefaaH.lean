/-
  Small laws that the hand-proved walks of this seat share: a store into a block of the call's own, and what a block known whole reads as.
-/
import Derived.Test.YtjnfllaonkeefaaProg
import Derived.WalkKit
import Derived.KernelRfl
import Derived.Deep.RegionHeld3
import Derived.Deep.RegionLawGrows
import Derived.Deep.AppendLies
import Derived.Test.YtjnfllaonkeefaaWWords
import Derived.Test.YtjnfllaonkeefaaWLast
import Derived.Test.YtjnfllaonkeefaaWMore
import Derived.Test.YtjnfllaonkeefaaWNEv
import Derived.ArgAppend
namespace Go.Proofs.YtjnfllaonkeefaaH
set_option linter.unusedVariables false
set_option linter.unusedSimpArgs false
open Go.RowKit Go.Proofs.YtjnfllaonkeefaaW.PrintWords Go.Proofs.YtjnfllaonkeefaaW.PrintLast Go.Proofs.YtjnfllaonkeefaaW.PrintMore

section
variable {P : Program} {ops : Array Oper} {rest : List Oper} {o : Oper} {a : Act} {Q : Exit → Act → World → Prop}
/-- A cell of a block that is known whole, of the call's own, is written: the world gets a letter. -/
theorem blk_store {w0 W : World} {base g j : Nat} {cs : Array Value} {e : TypeId} {t : TypeId} {p v : Operand} {u : Value}
    (hgd : o.guard = none) (hN : o.dst = none) (ho : o.op = .store t p v)
    (haddr : a.eval p = .pointer (some ⟨g, j, none⟩)) (hx : a.eval v = u)
    (hu : u.cells.toList = [u]) (hone : u.oneCell' = true) (ht : (P.info? t).map (·.size) = some 1)
    (hh : W.heap[g]? = some (.cells cs e (0, 0))) (hj : j < cs.size) (HB : Below base w0 W) (HG : base ≤ g)
    (h : ∀ w1, w1.heap[g]? = some (.cells (cs.setIfInBounds j u) e (0, 0)) → Below base w0 w1 → W.grownBy w1 (some g) → wpList P ops Q rest a w1) :
    wpList P ops Q (o :: rest) a W := by
  have hset : W.setCells g j [u] = W.setCell ⟨g, j, none⟩ u := rfl
  have hrun : (Instr.storeAt t (.pointer (some ⟨g, j, none⟩)) u).run P W = .ok () (W.setCell ⟨g, j, none⟩ u) := by
    rw [← hset]
    exact run_store_run t u [u] hh hu (by simpa using ht) (by simp; omega) (by simpa using hone)
  refine wpList_plain hgd fun K hK => ?_
  unfold Oper.wp execOp
  simp only [ho, haddr, hx, Sem.run_bind, Sem.run_pure, Result.andThen_ok, hrun]
  show K (a.put o.dst undef) _
  rw [hN]
  refine hK a _ (h _ (blk_set hh j u) (HB.setCell HG _) ?_)
  exact ⟨rfl, rfl, rfl, by simp, fun k hk hne => Below.heap_setCell W _ u k (fun he => hne (by rw [he]))⟩
/-- A block that is known whole, of the call's own, is written from end to end. -/
theorem blk_store_all {w0 W : World} {base g : Nat} {cs : Array Value} {seg : List Value} {e : TypeId} {t : TypeId} {p v : Operand} {u : Value}
    (hgd : o.guard = none) (hN : o.dst = none) (ho : o.op = .store t p v)
    (haddr : a.eval p = .pointer (some ⟨g, 0, none⟩)) (hx : a.eval v = u)
    (hu : u.cells.toList = seg) (hone : ∀ q ∈ seg, q.oneCell' = true) (ht : (P.info? t).map (·.size) = some seg.length)
    (hh : W.heap[g]? = some (.cells cs e (0, 0))) (hj : seg.length = cs.size) (HB : Below base w0 W) (HG : base ≤ g)
    (h : ∀ w1, w1.heap[g]? = some (.cells seg.toArray e (0, 0)) → Below base w0 w1 → W.grownBy w1 (some g) → wpList P ops Q rest a w1) :
    wpList P ops Q (o :: rest) a W := by
  have hrun : (Instr.storeAt t (.pointer (some ⟨g, 0, none⟩)) u).run P W = .ok () (W.setCells g 0 seg) := run_store_run t u seg hh hu ht (by omega) hone
  obtain ⟨h1, h2, h3, h4⟩ := setCells_same g seg 0 W
  obtain ⟨cur', hc1, hc2, hc3⟩ := setCells_row seg 0 W cs hh (by omega)
  have hcur : cur' = seg.toArray := by
    apply Array.toList_inj.1
    rw [hc3]
    simp [hj]
  rw [hcur] at hc1
  have hgr : W.grownBy (W.setCells g 0 seg) (some g) := ⟨h1, h2, h3, by rw [h4]; exact Nat.le_refl _, fun k _ hne => setCells_far seg 0 k (fun he => hne (by rw [he]))⟩
  refine wpList_plain hgd fun K hK => ?_
  unfold Oper.wp execOp
  simp only [ho, haddr, hx, Sem.run_bind, Sem.run_pure, Result.andThen_ok, hrun]
  show K (a.put o.dst undef) _
  rw [hN]
  exact hK a _ (h _ hc1 (HB.grown hgr (Nat.le_trans HG (Nat.le_of_lt (blk_lt hh))) (fun k hk => by injection hk with hk; omega)) hgr)
/-- make([]T, n), elements of one cell: a block of so many zeros, known whole. -/
theorem blk_make {W : World} (hgd : o.guard = none) {N : Tmp} (hd : o.dst = some N) {t e : TypeId} {x y : Operand} (ho : o.op = .makeSlice t x y) (n : Nat) (hx : a.eval x = .int .i64 n) (hy : a.eval y = .int .i64 n)
    (ht : P.underlying t = some (.slice e)) (z : Value) (bytes : Nat) (hinfo : (P.info? e).map (fun i => (i.zero, i.size, i.bytes)) = some (some z, 1, bytes)) (hz : z.cells = #[z]) (hb0 : 0 < bytes) (hl : n * bytes ≤ 281474976710656)
    (h : ∀ g, g = W.heap.size → ∀ w1, w1.heap[g]? = some (.cells (List.replicate n z).toArray e (0, 0)) → Below W.heap.size W w1 → wpList P ops Q rest (a.put o.dst (.slice (some ⟨g, 0, none⟩) n n)) w1) : wpList P ops Q (o :: rest) a W := by
  obtain ⟨i0, hi, hzz⟩ := Option.map_eq_some_iff.1 hinfo
  simp only [Prod.mk.injEq] at hzz
  obtain ⟨hz0, hz1, hz2⟩ := hzz
  have hm : n ≤ 281474976710656 := Nat.le_trans (Nat.le_mul_of_pos_right _ hb0) hl
  have hr := run_make (P := P) W t e i0 z ht hi hz0 .i64 .i64 (n : Int) (n : Int) (by omega) (by omega)
    (by
      have h3 : ((i0.bytes * n : Nat) : Int) ≤ 281474976710656 := by rw [hz2, Nat.mul_comm]; omega
      rwa [Int.natCast_mul] at h3) (by omega)
  simp only [Int.toNat_natCast] at hr
  rw [hz1, Nat.mul_one] at hr
  have hc : madeCells z.cells n = (List.replicate n z).toArray := by
    rw [hz]
    apply Array.toList_inj.1
    apply List.ext_getElem
    · simp [madeCells]
    · intro j h1 h2
      simp [madeCells, Nat.mod_one]
  rw [hc] at hr
  refine Kd.event_run hgd (v := .slice (some ⟨W.heap.size, 0, none⟩) n n) (w1 := W.alloc (.cells (List.replicate n z).toArray e (0, 0))) ?_ (h _ rfl _ (blk_new W _) (below_alloc (Below.refl _ _) _))
  simp [execOp, ho, hx, hy, hr]
/-- copy into a block of the call's own from its head on: as many cells as there are in both. -/
theorem blk_copy {α : Type} {enc : α → Value} {h1 : ∀ x, (enc x).oneCell' = true} {w0 W : World} {base : Nat} (hgd : o.guard = none) {s x : Operand} {t t' e : TypeId}
    (ho : o.op = .call { callee := .builtin .copy, args := #[s, x], argTypes := #[t, t'] }) (ht : P.underlying t = some (.slice e)) (hinfo : (P.info? e).map (·.size) = some 1)
    {g : Nat} {n cap : Nat} {cs : Array Value} (ys : List α) {A : Option Addr} {c : Nat} (hs : a.eval s = .slice (some ⟨g, 0, none⟩) n cap) (hx : a.eval x = .slice A ys.length c)
    (hh : W.heap[g]? = some (.cells cs e (0, 0))) (hn : ys.length = n) (hcs : cs.size = n) (HR : (Kd.scalar enc h1).C W A ys.length ys) (d : α) (HB : Below base w0 W) (HG : base ≤ g)
    (h : ∀ w1, w1.heap[g]? = some (.cells (ys.map enc).toArray e (0, 0)) → Below base w0 w1 → W.grownBy w1 (some g) → wpList P ops Q rest (a.put o.dst (.int .i64 n)) w1) :
    wpList P ops Q (o :: rest) a W := by
  have hR := Kd.reads_of_C (enc := enc) (d := d) (h1 := h1) HR
  have fin : ∀ w1, (Builtin.copy_ #[t, t'] o.type #[.slice (some ⟨g, 0, none⟩) n cap, .slice A ys.length c]).run P W = .ok (goInt n) w1 → w1.heap[g]? = some (.cells (ys.map enc).toArray e (0, 0)) → W.grownBy w1 (some g) → wpList P ops Q (o :: rest) a W := by
    intro w1 hr hrow hg
    refine wpList_plain hgd fun K hK => ?_
    unfold Oper.wp execOp
    simp only [ho, resolve, invoke, builtin, Sem.run_bind, Sem.run_pure, Result.andThen_ok, List.map_toArray, List.map_cons, List.map_nil, hs, hx, hr]
    exact hK _ _ (h w1 hrow (HB.grown hg (Nat.le_trans HG (Nat.le_of_lt (blk_lt hh))) (fun k hk => by injection hk with hk; omega)) hg)
  rcases Nat.eq_zero_or_pos n with h0 | hp
  · subst h0
    obtain rfl : ys = [] := List.eq_nil_of_length_eq_zero hn
    refine fin W (run_copy_none W t t' o.type e _ A 0 cap 0 c ht hinfo rfl) ?_ (World.grownBy.refl W _)
    rw [hh, show cs = (([] : List α).map enc).toArray from by apply Array.toList_inj.1; exact List.eq_nil_of_length_eq_zero (by simpa using hcs)]
  · obtain ⟨ad, hA, hc⟩ := hR.2.2 (by omega)
    subst hA
    have hsrc : ∀ j u, (ys.map enc)[j]? = some u → W.cell? (ad.add j) = some u := by
      intro j u hu
      have hj : j < ys.length := by
        rcases Nat.lt_or_ge j ys.length with h | h
        · exact h
        · rw [List.getElem?_eq_none (by rw [List.length_map]; exact h)] at hu
          cases hu
      rw [hc j hj, ← hu]
      simp [List.getD_eq_getElem?_getD, hj]
    have hr := run_copy_cells (P := P) W t t' o.type e g 0 n cap ad ys.length c (ys.map enc) ht hinfo (by rw [List.length_map, hn]; exact (Nat.min_self n).symm) hsrc
      (fun j hj => by rw [cell_of_row W g _ cs e (0, 0) hh]; rw [List.length_map] at hj; simp; omega) (fun j _ => blk_frozen hh _) (by intro u hu; obtain ⟨q, _, rfl⟩ := List.mem_map.1 hu; exact h1 q)
    obtain ⟨cur', h3, h4, h5⟩ := setCells_row (ys.map enc) 0 W cs hh (by rw [List.length_map]; omega)
    obtain ⟨s1, s2, s3, s4⟩ := setCells_same g (ys.map enc) 0 W
    rw [show ((ys.map enc).length) = n from by rw [List.length_map, hn]] at hr
    refine fin _ hr ?_ ⟨s1, s2, s3, by rw [s4]; exact Nat.le_refl _, fun k _ hne => setCells_far (ys.map enc) 0 k (fun he => hne (by rw [he]))⟩
    rw [h3]
    congr 2
    apply Array.toList_inj.1
    rw [h5, List.length_map]
    simp [hn, hcs]
end

/-- make([]T, n), elements of one cell, as an equation in whatever world. -/
theorem make_run {P : Program} {t e : TypeId} (n : Nat) (ht : P.underlying t = some (.slice e)) (z : Value) (bytes : Nat) (hinfo : (P.info? e).map (fun i => (i.zero, i.size, i.bytes)) = some (some z, 1, bytes)) (hz : z.cells = #[z]) (hb0 : 0 < bytes) (hl : n * bytes ≤ 281474976710656) (W : World) :
    (Instr.makeSlice t (.int .i64 (n : Int)) (.int .i64 (n : Int))).run P W = .ok (.slice (some ⟨W.heap.size, 0, none⟩) n n) (W.alloc (.cells (List.replicate n z).toArray e (0, 0))) := by
  obtain ⟨i0, hi, hzz⟩ := Option.map_eq_some_iff.1 hinfo
  simp only [Prod.mk.injEq] at hzz
  obtain ⟨hz0, hz1, hz2⟩ := hzz
  have hm : n ≤ 281474976710656 := Nat.le_trans (Nat.le_mul_of_pos_right _ hb0) hl
  have hr := run_make (P := P) W t e i0 z ht hi hz0 .i64 .i64 (n : Int) (n : Int) (by omega) (by omega)
    (by
      have h3 : ((i0.bytes * n : Nat) : Int) ≤ 281474976710656 := by rw [hz2, Nat.mul_comm]; omega
      rwa [Int.natCast_mul] at h3) (by omega)
  simp only [Int.toNat_natCast] at hr
  rw [hz1, Nat.mul_one] at hr
  have hc : madeCells z.cells n = (List.replicate n z).toArray := by
    rw [hz]
    apply Array.toList_inj.1
    apply List.ext_getElem
    · simp [madeCells]
    · intro j h1 h2
      simp [madeCells, Nat.mod_one]
  rw [hc] at hr
  exact hr
/-- A block that is known whole, of the call's own, as a row of the call's own. -/
theorem blk_R {α : Type} {enc : α → Value} {h1 : ∀ x, (enc x).oneCell' = true} {w : World} {base g e : Nat} (ys : List α) (h : w.heap[g]? = some (.cells (ys.map enc).toArray e (0, 0))) (hb : base ≤ g) (hm : ys.length ≤ 9223372036854775807) {ok : Nat → Prop} (hok : ok g) :
    Kd.R (Kd.scalar enc h1) e w base ok (.slice (some ⟨g, 0, none⟩) ys.length ys.length) ys :=
  Kd.R_of_own ⟨by simp [encs], .inr ⟨g, ys.length, _, rfl, hb, h, Nat.le_refl _, by simpa [maxLen] using hm, by simp, by first | (simp [encs]; done) | (simp [encs]; rw [List.take_of_length_le (by simp)])⟩⟩ (fun k hk => by simp [Value.ownBlock] at hk; subst hk; exact hok)
/-- A block that is known whole reads as its first cells. -/
theorem blk_C {α : Type} {enc : α → Value} {h1 : ∀ x, (enc x).oneCell' = true} {w : World} {g : Nat} {t : TypeId} (ys : List α) (d : α) (h : w.heap[g]? = some (.cells (ys.map enc).toArray t (0, 0))) (hm : ys.length ≤ 9223372036854775807) :
    (Kd.scalar enc h1).C w (some ⟨g, 0, none⟩) ys.length ys := by
  refine Kd.C_of_reads (d := d) ⟨rfl, hm, fun _ => ⟨_, rfl, fun j hj => ?_⟩⟩
  rw [add_plain, blk_cell h]
  simp [List.getD_eq_getElem?_getD, hj]
/-- .. and in every world that keeps it. -/
theorem blk_V {α : Type} {enc : α → Value} {h1 : ∀ x, (enc x).oneCell' = true} {w : World} {g e b : Nat} {t : TypeId} (ys : List α) (d : α) (h : w.heap[g]? = some (.cells (ys.map enc).toArray t (0, 0))) (hm : ys.length ≤ 9223372036854775807) {ok : Nat → Prop} (hok : ok g) {c : Nat} (hc : ys.length ≤ c) :
    Kd.V (Kd.scalar enc h1) e w b ok (.slice (some ⟨g, 0, none⟩) ys.length c) ys :=
  ⟨_, _, rfl, hc, fun W' hW => blk_C ys d ((hW g hok (blk_lt h)).trans h) hm⟩
theorem V_step {α : Type} {d : Kd α} {e e' b b' : Nat} {w w1 : World} {ok ok' : Nat → Prop} {v : Value} {xs : List α} (h : Kd.V d e w b ok v xs) (hm : ∀ k, ok k → k < w.heap.size → w1.heap[k]? = w.heap[k]?) (hok : ∀ k, ok k → ok' k) : Kd.V d e' w1 b' ok' v xs := by
  obtain ⟨A, c, hv, hc, hF⟩ := h
  exact ⟨A, c, hv, hc, Kd.F_mono (Kd.F_step hF hm) hok⟩
theorem V_below {α : Type} {d : Kd α} {e e' b b' : Nat} {w w1 : World} {ok ok' : Nat → Prop} {v : Value} {xs : List α} (h : Kd.V d e w b ok v xs) (hb : Below w.heap.size w w1) (hok : ∀ k, ok k → ok' k) : Kd.V d e' w1 b' ok' v xs :=
  V_step h (fun k _ hk => hb.block k hk) hok
theorem map_setIf {α : Type} (enc : α → Value) (ys : List α) (i : Nat) (x : α) : (ys.map enc).toArray.setIfInBounds i (enc x) = ((ys.set i x).map enc).toArray := by
  apply Array.toList_inj.1
  simp [List.map_set]

/-- A block of whole numbers that is known whole reads as its first numbers. -/
theorem reads_blk {k : IntKind} {w : World} {g : Nat} {t : TypeId} {cs : Array Value} (h : w.heap[g]? = some (.cells cs t (0, 0))) (xs : List Int) {n : Nat} (hn : xs.length = n) (hm : n ≤ 9223372036854775807)
    (hx : ∀ j, j < n → cs[j]? = some (.int k (xs.getD j 0))) : ReadsInt w k (some ⟨g, 0, none⟩) n xs :=
  ⟨hn, hm, fun _ => ⟨_, rfl, fun j hj => by rw [add_plain, blk_cell h]; exact hx j hj⟩⟩

/-! ### A shorter text: what the print spells as a block of tactics, as one word -/
inductive Up : World → World → Prop
  | refl (w : World) : Up w w
  | alloc {w0 w : World} (o : Obj) (h : Up w0 w) : Up w0 (w.alloc o)
  | drew {w0 w : World} (h : Up w0 w) : Up w0 w.drew
  | drewN {w0 w : World} (n : Nat) (h : Up w0 w) : Up w0 (w.drewN n)
theorem bku {w0 w : World} {g : Nat} {o : Obj} (h : w0.heap[g]? = some o) (u : Up w0 w := by (with_reducible repeat (first | refine Up.drewN _ ?_ | refine Up.drew ?_ | refine Up.alloc _ ?_)); exact Up.refl _) : w.heap[g]? = some o := by
  induction u with
  | refl => exact h
  | alloc o _ ih => exact blk_alloc ih _
  | drew _ ih => exact blk_drew ih
  | drewN n _ ih => exact blk_drewN ih _
theorem vlu {α : Type} {d : Kd α} {e b : Nat} {w0 w : World} {ok : Nat → Prop} {v : Value} {xs : List α} (h : Kd.V d e w0 b ok v xs) (u : Up w0 w := by (with_reducible repeat (first | refine Up.drewN _ ?_ | refine Up.drew ?_ | refine Up.alloc _ ?_)); exact Up.refl _) : Kd.V d e w b ok v xs := by
  induction u with
  | refl => exact h
  | alloc o _ ih => exact Kd.V_alloc ih o
  | drew _ ih => exact Kd.V_drew ih
  | drewN n _ ih => exact Kd.V_drewN ih n
theorem qlu {α : Type} {d : Kd α} {e b : Nat} {w0 w : World} {ok : Nat → Prop} {v : Value} {xs : List α} (h : Kd.Q d e w0 b ok v xs) (u : Up w0 w := by (with_reducible repeat (first | refine Up.drewN _ ?_ | refine Up.drew ?_ | refine Up.alloc _ ?_)); exact Up.refl _) : Kd.Q d e w b ok v xs := by
  induction u with
  | refl => exact h
  | alloc o _ ih => exact Kd.Q_alloc ih o
  | drew _ ih => exact Kd.Q_drew ih
  | drewN n _ ih => exact Kd.Q_drewN ih n
theorem rlu {α : Type} {d : Kd α} {e b : Nat} {w0 w : World} {ok : Nat → Prop} {v : Value} {xs : List α} (h : Kd.R d e w0 b ok v xs) (u : Up w0 w := by (with_reducible repeat (first | refine Up.drewN _ ?_ | refine Up.drew ?_ | refine Up.alloc _ ?_)); exact Up.refl _) : Kd.R d e w b ok v xs := by
  induction u with
  | refl => exact h
  | alloc o _ ih => exact Kd.R_alloc ih o
  | drew _ ih => exact Kd.R_drew ih
  | drewN n _ ih => exact Kd.R_drewN ih n
theorem blw {w w0 w1 : World} (h : Below w.heap.size w w0) (u : Up w0 w1 := by (with_reducible repeat (first | refine Up.drewN _ ?_ | refine Up.drew ?_ | refine Up.alloc _ ?_)); exact Up.refl _) : Below w.heap.size w w1 := by
  induction u with
  | refl => exact h
  | alloc o _ ih => exact below_alloc ih o
  | drew _ ih => exact below_drew1 ih
  | drewN n _ ih => exact pw_below_drewN ih n
theorem aA {p : Prop} (h : p) : Aside0 p := Aside0.mk h
inductive UpS (base : Nat) : World → World → Prop
  | refl (w : World) : UpS base w w
  | alloc {w0 w : World} (o : Obj) (h : UpS base w0 w) : UpS base w0 (w.alloc o)
  | drew {w0 w : World} (h : UpS base w0 w) : UpS base w0 w.drew
  | drewN {w0 w : World} (n : Nat) (h : UpS base w0 w) : UpS base w0 (w.drewN n)
  | set {w0 w : World} {g j : Nat} {v : Value} (hp : base ≤ g) (h : UpS base w0 w) : UpS base w0 (w.setCell ⟨g, j, none⟩ v)
theorem bls {w w0 w1 : World} (h : Below w.heap.size w w0) (u : UpS w.heap.size w0 w1 := by (with_reducible repeat (first | refine UpS.drewN _ ?_ | refine UpS.drew ?_ | refine UpS.alloc _ ?_ | refine UpS.set (Aside0.out (by assumption)) ?_)); exact UpS.refl _) : Below w.heap.size w w1 := by
  induction u with
  | refl => exact h
  | alloc o _ ih => exact below_alloc ih o
  | drew _ ih => exact below_drew1 ih
  | drewN n _ ih => exact pw_below_drewN ih n
  | set hp _ ih => exact below_set ih hp
/-! ### An append onto a slice that is full (behind slices.Clip): a new block, whatever the old one is -/
section
variable {P : Program} {ops : Array Oper} {rest : List Oper} {o : Oper} {a : Act} {Q : Exit → Act → World → Prop} {Kc : Act → World → Prop} {α : Type}
theorem reps_one {d : Kd α} {W : World} {okp : Nat → Prop} {ys : List α} {news : List Value} (hs0 : 0 < d.sz) (h : Reps (Kd.FK d W okp) d.sz ys news) : ∀ u ∈ news, u.oneCell' = true := by
  intro u hu
  obtain ⟨q, hq, rfl⟩ := List.mem_iff_getElem.1 hu
  have hql : q / d.sz < ys.length := by
    rw [Nat.div_lt_iff_lt_mul hs0]
    rw [← h.1]
    exact hq
  have hc := h.2 (q / d.sz) _ (List.getElem?_eq_getElem hql)
  refine d.K_one (Kd.FK_now hc) _ ?_
  rw [List.mem_iff_getElem?]
  refine ⟨q % d.sz, ?_⟩
  rw [List.getElem?_take, if_pos (Nat.mod_lt _ hs0), List.getElem?_drop, Nat.mul_comm, Nat.div_add_mod, List.getElem?_eq_getElem hq]
theorem V_append_full_run {W : World} (d : Kd α) (t ty e : TypeId) (z : Value) (bytes : Nat)
    (ht : P.underlying t = some (.slice e)) (hinfo : (P.info? e).map (fun i => (i.zero, i.size, i.bytes)) = some (some z, d.sz, bytes)) (hz : z.cells.size = d.sz) (hs0 : 0 < d.sz) (hb0 : 0 < bytes)
    (A : Option Addr) (n c : Nat) (xs ys : List α) (B : Option Addr) (m c' : Nat) (ok okx oky : Nat → Prop) (hc : n = c) (hA : A = none → n = 0)
    (HV : Kd.F d W okx A n xs) (HR : Kd.F d W oky B m ys) (hm : 0 < m) (hokx : ∀ k, okx k → ok k) (hoky : ∀ k, oky k → ok k) (hfresh : ∀ k, W.heap.size ≤ k → ok k) (hl : (n + m) * bytes ≤ 140737488355328) :
    ∃ v1 w1, (Builtin.append_ #[t, t] ty #[.slice A n c, .slice B m c']).run P W = .ok v1 w1 ∧ Kd.N d e w1 W.heap.size ok v1 (xs ++ ys) ∧ W.grownBy w1 none ∧ ∃ b, v1.ownBlock = some b ∧ W.heap.size ≤ b := by
  subst hc
  obtain ⟨i0, hi, hzz⟩ := Option.map_eq_some_iff.1 hinfo
  simp only [Prod.mk.injEq] at hzz
  obtain ⟨hz0, hz1, hz2⟩ := hzz
  have hlen : n + m ≤ 140737488355328 := Nat.le_trans (Nat.le_mul_of_pos_right _ hb0) hl
  have hX := Kd.F_rows HV
  have hY := Kd.F_rows HR
  have hxn : xs.length = n := hX.1
  have hyn : ys.length = m := hY.1
  obtain ⟨ad, rfl, _⟩ := hY.2.2 hm
  obtain ⟨news, hnr, hnc⟩ := ReadsRow.inner_ hY
  have hone := reps_one hs0 hnr
  have hold : ∃ olds, Reps (Kd.FK d W okx) d.sz xs olds ∧ ∀ b, A = some b → ∀ j u, olds[j]? = some u → W.cell? (b.add j) = some u := by
    cases A with
    | none =>
      have : xs = [] := List.eq_nil_of_length_eq_zero (by rw [hxn]; exact hA rfl)
      subst this
      exact ⟨[], Reps.none _ _, fun b hb => by cases hb⟩
    | some b =>
      obtain ⟨olds, h1, h2⟩ := ReadsRow.inner_ hX
      exact ⟨olds, h1, fun b' hb => by cases hb; exact h2⟩
  obtain ⟨olds, hor, hoc⟩ := hold
  have hrun : ∃ v1 w1, (Builtin.append_ #[t, t] ty #[.slice A n n, .slice (some ad) m c']).run P W = .ok v1 w1 ∧ w1.ownsRow W.heap.size e d.sz v1 (n + m) (olds ++ news) ∧ W.grownBy w1 none := by
    cases A with
    | some b =>
      exact run_append_arg_grows (P := P) W t ty e i0 z d.sz bytes ht hi hz0 hz1 hz2 hz hs0 b n n olds (by rw [hor.1, hxn]) (hoc b rfl) ad m c' news (by rw [hnr.1, hyn]) hnc (by omega) (by simp only [maxLen]; omega) hl
    | none =>
      have hn := hA rfl
      subst hn
      obtain rfl : olds = [] := List.eq_nil_of_length_eq_zero (by rw [hor.1, hxn]; simp)
      obtain ⟨v1, w1, h1, h2, h3, _⟩ := run_append_own (P := P) W W.heap.size t ty e i0 z d.sz bytes ht hi hz0 hz1 hz2 hz hs0 (.slice none 0 0) 0 [] (World.ownsRow_nil W _ e d.sz) ad m c' news (by rw [hnr.1, hyn]) hnc hone (by simp only [maxLen]; omega) hl (Nat.le_refl _)
      exact ⟨v1, w1, h1, h2, h3⟩
  obtain ⟨v1, w1, h1, h2, h3⟩ := hrun
  obtain ⟨g, cap, rfl, hg, hgl⟩ := World.ownsRow.form h2 (by omega)
  have hat : ∃ b, (Value.slice (some ⟨g, 0, none⟩) (n + m) cap).ownBlock = some b ∧ W.heap.size ≤ b := ⟨g, rfl, hg⟩
  refine ⟨_, w1, h1, ?_, h3, hat⟩
  have hrep : Reps (Kd.FK d W (fun k => (okx k ∨ oky k))) d.sz (xs ++ ys) (olds ++ news) := Kd.reps_append (hor.imp_ (fun _ _ h => Kd.FK_mono h (fun _ hk => .inl hk))) (hnr.imp_ (fun _ _ h => Kd.FK_mono h (fun _ hk => .inr hk)))
  have hkey := Kd.N_appended (d := d) (e := e) (base := W.heap.size) (ok := ok) (okp := fun k => (okx k ∨ oky k)) (W := W) (w1 := w1) (v := .slice none 0 0) (v1 := .slice (some ⟨g, 0, none⟩) (n + m) cap) (xs := []) (ys := xs ++ ys) (rows := []) (news := Kd.chunks d.sz (xs ++ ys).length (olds ++ news))
    (fun k hk => by simp [Value.ownBlock] at hk) rfl (fun j x c hx => by simp at hx) (Kd.chunks_length _ _ _)
    (fun j x c hx hcc => by rw [Kd.chunks_get hcc]; exact hrep.2 j x hx)
    (fun k hk => ⟨hk.elim (hokx k) (hoky k), by simp [Value.ownBlock]⟩) hfresh
    (by
      rw [List.nil_append]
      exact ⟨fun _ _ => trivial, olds ++ news, by rw [Kd.chunks_length, List.length_append, hxn, hyn]; exact h2, Kd.reps_raw hrep (fun y c hk => ⟨d.K_len (Kd.FK_now hk), d.K_one (Kd.FK_now hk)⟩)⟩)
    (by simpa [Value.ownBlock] using h3) (.inr hat)
  simpa using hkey
theorem V_append_full_step {W : World} (d : Kd α) (hw : Region.wanted o (yielded ops a.tmps) = true) (s x : Operand) (t e : TypeId) (z : Value) (bytes : Nat)
    (ho : o.op = .call { callee := .builtin .append, args := #[s, x], argTypes := #[t, t] })
    (ht : P.underlying t = some (.slice e)) (hinfo : (P.info? e).map (fun i => (i.zero, i.size, i.bytes)) = some (some z, d.sz, bytes)) (hz : z.cells.size = d.sz) (hs0 : 0 < d.sz) (hb0 : 0 < bytes)
    (A : Option Addr) (n c : Nat) (xs ys : List α) (B : Option Addr) (m c' : Nat) (ok okx oky : Nat → Prop) (hs : a.eval s = .slice A n c) (hx : a.eval x = .slice B m c') (hc : n = c) (hA : A = none → n = 0)
    (HV : Kd.F d W okx A n xs) (HR : Kd.F d W oky B m ys) (hm : 0 < m) (hokx : ∀ k, okx k → ok k) (hoky : ∀ k, oky k → ok k) (hfresh : ∀ k, W.heap.size ≤ k → ok k) (hl : (n + m) * bytes ≤ 140737488355328)
    (h : ∀ v1 w1, Kd.N d e w1 W.heap.size ok v1 (xs ++ ys) → W.grownBy w1 none → (∃ b, v1.ownBlock = some b ∧ W.heap.size ≤ b) → Kc (a.put o.dst v1) w1) :
    if Region.wanted o (yielded ops a.tmps) = true then Oper.wp P o a W Kc Q else Kc (a.put o.dst undef) W := by
  obtain ⟨v1, w1, hrun, h1, h2, h3⟩ := V_append_full_run (P := P) (W := W) d t o.type e z bytes ht hinfo hz hs0 hb0 A n c xs ys B m c' ok okx oky hc hA HV HR hm hokx hoky hfresh hl
  rw [if_pos hw]
  unfold Oper.wp
  simp [execOp, ho, resolve, invoke, builtin, hs, hx, hrun, Result.andThen]
  exact h v1 w1 h1 h2 h3
end

/-! ### Several blocks made at once; an element of a block -/
theorem three_new (w : World) (o1 o2 o3 : Obj) : ((((w.alloc o1).alloc o2).alloc o3).drew).heap[w.heap.size]? = some o1 ∧ ((((w.alloc o1).alloc o2).alloc o3).drew).heap[w.heap.size + 1]? = some o2 ∧ ((((w.alloc o1).alloc o2).alloc o3).drew).heap[w.heap.size + 1 + 1]? = some o3 := by
  have h1 : (w.alloc o1).heap.size = w.heap.size + 1 := by show (w.heap.push o1).size = _; exact Array.size_push _
  have h2 : ((w.alloc o1).alloc o2).heap.size = w.heap.size + 1 + 1 := by show ((w.heap.push o1).push o2).size = _; rw [Array.size_push, Array.size_push]
  refine ⟨blk_drew (blk_alloc (blk_alloc (blk_new w o1) o2) o3), ?_, ?_⟩
  · have h := blk_drew (blk_alloc (blk_new (w.alloc o1) o2) o3)
    rw [h1] at h
    exact h
  · have h := blk_drew (blk_new ((w.alloc o1).alloc o2) o3)
    rw [h2] at h
    exact h
theorem rep_arr {α : Type} (enc : α → Value) (n : Nat) (z : α) : Array.replicate n (enc z) = ((List.replicate n z).map enc).toArray := by
  apply Array.toList_inj.1
  simp
theorem four_new (w : World) (o1 o2 o3 o4 : Obj) : (((((w.alloc o1).alloc o2).alloc o3).alloc o4).drew).heap[w.heap.size]? = some o1 ∧ (((((w.alloc o1).alloc o2).alloc o3).alloc o4).drew).heap[w.heap.size + 1]? = some o2 ∧ (((((w.alloc o1).alloc o2).alloc o3).alloc o4).drew).heap[w.heap.size + 1 + 1]? = some o3 ∧ (((((w.alloc o1).alloc o2).alloc o3).alloc o4).drew).heap[w.heap.size + 1 + 1 + 1]? = some o4 := by
  have h := three_new w o1 o2 o3
  have h3 : (((w.alloc o1).alloc o2).alloc o3).heap.size = w.heap.size + 1 + 1 + 1 := by show (((w.heap.push o1).push o2).push o3).size = _; rw [Array.size_push, Array.size_push, Array.size_push]
  refine ⟨blk_drew (blk_alloc (h.1 : (((w.alloc o1).alloc o2).alloc o3).heap[_]? = _) o4), blk_drew (blk_alloc (h.2.1 : (((w.alloc o1).alloc o2).alloc o3).heap[_]? = _) o4), blk_drew (blk_alloc (h.2.2 : (((w.alloc o1).alloc o2).alloc o3).heap[_]? = _) o4), ?_⟩
  have h4 := blk_drew (blk_new (((w.alloc o1).alloc o2).alloc o3) o4)
  rw [h3] at h4
  exact h4
theorem blk_at {α : Type} (enc : α → Value) (ys : List α) (d : α) {w : World} {g : Nat} {t : TypeId} (h : w.heap[g]? = some (.cells (ys.map enc).toArray t (0, 0))) {k : Nat} (hk : k < ys.length) : w.cell? ⟨g, k, none⟩ = some (enc (ys.getD k d)) := by
  rw [blk_cell h]
  simp [List.getD_eq_getElem?_getD, hk]

end Go.Proofs.YtjnfllaonkeefaaH
