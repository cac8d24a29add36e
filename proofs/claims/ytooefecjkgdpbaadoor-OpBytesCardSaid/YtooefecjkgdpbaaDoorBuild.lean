
import Derived.Test.YtooefecjkgdpbaaDoorVH
import Derived.Shelf.Strings.BuilderK
import Derived.LaidEql
import Derived.Lib.AppendIntMem
import Derived.Lib.ItoaLen
import Derived.Test.YtooefecjkgdpbaaDoorShelf

/-
  strings.Builder in this program: what its methods do to a builder of the call's own, and what else leaves it as it is.
-/
namespace Go.Proofs.YtooefecjkgdpbaaDoorH
set_option linter.unusedVariables false
set_option linter.unusedSimpArgs false
open Go.RowKit Go.Proofs.YtooefecjkgdpbaaDoorW.PrintWords Go.Proofs.YtooefecjkgdpbaaDoorW.PrintLast Go.Proofs.YtooefecjkgdpbaaDoorW.PrintMore

/-- The builder at block b holds these bytes; all that it uses lies at or above B. -/
def Bld (B b : Nat) (l : List UInt8) (w : World) : Prop := Lib.IsBuilderF 60 5 B b (Lib.byteCells l) w
/-- All blocks but b, and but rows of bytes, stand as they stood. -/
def BKept (b : Nat) (w w' : World) : Prop := ∀ k o, w.heap[k]? = some o → k ≠ b → (∀ c fz, o ≠ .cells c 5 fz) → w'.heap[k]? = some o
theorem BKept.of {b : Nat} {w w' : World} (h : Lib.OthersKept 5 (some b) w w') : BKept b w w' := fun k o h1 h2 h3 => h k o h1 (fun e => h2 (by injection e)) h3
theorem BKept.trans {b : Nat} {w w1 w2 : World} (h : BKept b w w1) (h' : BKept b w1 w2) : BKept b w w2 := fun k o h1 h2 h3 => h' k o (h k o h1 h2 h3) h2 h3
theorem BKept.refl (b : Nat) (w : World) : BKept b w w := fun _ _ h _ _ => h
theorem BKept.below {b : Nat} {w w1 : World} (h : Below w.heap.size w w1) : BKept b w w1 := fun k o h1 _ _ => blk_below h1 h
theorem BKept.blk {b : Nat} {w w' : World} (h : BKept b w w') {g : Nat} {cs : Array Value} {T : TypeId} (hg : w.heap[g]? = some (.cells cs T (0, 0))) (hT : T ≠ 5) (hne : g ≠ b) : w'.heap[g]? = some (.cells cs T (0, 0)) :=
  h g _ hg hne (fun c fz e => hT (by injection e))
theorem Bld.lt {B b : Nat} {l : List UInt8} {w : World} (h : Bld B b l w) : B ≤ b ∧ b < w.heap.size := by
  rcases h with h | h
  · exact ⟨h.1, h.lt⟩
  · exact ⟨h.1, h.lt⟩
/-- A builder stays one where its own block, and rows of bytes, stay. -/
theorem Bld.keep {B b : Nat} {l : List UInt8} {w w' : World} (h : Bld B b l w) (hb : ∀ o, w.heap[b]? = some o → w'.heap[b]? = some o) (hr : ∀ (k : Nat) (c : Array Value) (fz : Nat × Nat), w.heap[k]? = some (.cells c 5 fz) → w'.heap[k]? = some (.cells c 5 fz)) : Bld B b l w' := by
  have one : ∀ p, Lib.BuilderAtF 60 5 B b p (Lib.byteCells l) w → Lib.BuilderAtF 60 5 B b p (Lib.byteCells l) w' := by
    rintro p ⟨hB, v, h1, ⟨hlen, hv⟩, h3⟩
    refine ⟨hB, v, hb _ h1, ⟨hlen, ?_⟩, h3⟩
    rcases hv with hv | ⟨g, cap, cur, fz, e, hg, hh, rest⟩
    · exact Or.inl hv
    · exact Or.inr ⟨g, cap, cur, fz, e, hg, hr g cur fz hh, rest⟩
  rcases h with h | h
  · exact Or.inl (one _ h)
  · exact Or.inr (one _ h)
theorem Bld.below {B b : Nat} {l : List UInt8} {w w' : World} (h : Bld B b l w) (hb : Below w.heap.size w w') : Bld B b l w' := h.keep (fun _ ho => blk_below ho hb) (fun _ _ _ ho => blk_below ho hb)
theorem Bld.grown {B b g : Nat} {l : List UInt8} {w w' : World} {cs : Array Value} {T : TypeId} (h : Bld B b l w) (hg : w.heap[g]? = some (.cells cs T (0, 0))) (hT : T ≠ 5) (hne : g ≠ b) (hgr : w.grownBy w' (some g)) : Bld B b l w' :=
  h.keep (fun _ ho => blk_grown ho hgr (fun e => hne (by injection e with e; exact e.symm))) (fun k c fz ho => blk_grown ho hgr (fun e => by injection e with e; subst e; rw [hg] at ho; injection ho with ho; injection ho with _ h2; exact hT h2))
theorem Bld.fresh {b : Nat} {w : World} (B : Nat) (hB : B ≤ b) (h : w.heap[b]? = some (.cells #[.pointer none, .slice none 0 0] 60 (0, 0))) : Bld B b [] w :=
  Or.inl ⟨hB, .slice none 0 0, h, World.ownsRowF_nil _ _ _ _, by simp [Value.ownBlock]⟩
theorem bytesUp (l : List UInt8) (s : ByteArray) : Lib.byteCells l ++ Lib.strCells s = Lib.byteCells (l ++ s.data.toList) := by simp [Lib.byteCells, Lib.strCells]
theorem byteUp (l : List UInt8) (n : Nat) (h : n < 256) : Lib.byteCells l ++ [.int .u8 (n : Int)] = Lib.byteCells (l ++ [UInt8.ofNat n]) := by
  simp [Lib.byteCells]
  omega

section
variable {w : World} {b : Nat} {p v : Value}
theorem bld_shape (hb : w.heap[b]? = some (.cells #[p, v] 60 (0, 0))) : w.shape? b = some (60, 2) := by simp [World.shape?, hb]
theorem bld_size : (Tryd.prog.info? 60).map (·.size) = some 2 := by kernel_rfl
theorem bld_lies : liesAt Tryd.prog Tryd.prog.depth 60 (2 / Tryd.prog.cellsOf 60) 0 60 1 = true := by kernel_rfl
theorem bld_out (hb : w.heap[b]? = some (.cells #[p, v] 60 (0, 0))) : (convert 57 84 (.pointer (some ⟨b, 0, none⟩))).run Tryd.prog w = .ok (.pointer (some ⟨b, 0, none⟩)) w := by
  obtain ⟨j, hj, hjs⟩ := Option.map_eq_some_iff.1 bld_size
  exact Lib.run_to_unsafe w ⟨b, 0, none⟩ Tryd.underlying57 Tryd.underlying84 hj (by rw [hjs]; decide) (bld_shape hb) (Nat.zero_lt_succ 1)
theorem bld_in (hb : w.heap[b]? = some (.cells #[p, v] 60 (0, 0))) : (convert 84 57 (.pointer (some ⟨b, 0, none⟩))).run Tryd.prog w = .ok (.pointer (some ⟨b, 0, none⟩)) w := by
  obtain ⟨j, hj, hjs⟩ := Option.map_eq_some_iff.1 bld_size
  exact Lib.run_from_unsafe w ⟨b, 0, none⟩ Tryd.underlying84 Tryd.underlying57 hj (bld_shape hb) bld_lies
theorem bld_sameA (d : Nat) (a : Addr) : (Op.equalIn (d + 1) 57 (.pointer (some a)) (.pointer (some a))).run Tryd.prog w = .ok true w := by
  simp [Op.equalIn, run_underlying Tryd.underlying57, run_sameAddr_same]
theorem bld_same (a : Addr) : (binOp .neq 57 (.pointer (some a)) (.pointer (some a))).run Tryd.prog w = .ok (.bool false) w := by
  have h := bld_sameA (w := w) 9999 a
  unfold binOp
  simp only [Op.equal, Op.maxDepth, Sem.run_bind, h, Result.andThen_ok, Sem.run_pure]
  rfl
theorem bld_esc (x : Value) : (callFunc 55 #[x]).run Tryd.prog w = .ok (.value x) w := by
  rw [run_callFunc_extern Tryd.func55 (by kernel_rfl) (by kernel_rfl) (by kernel_rfl) (e := Extern.AbiNoEscape.same) (by kernel_rfl)]
  rw [Lib.run_noEscape]
  rfl
end
set_option maxHeartbeats 2000000 in
set_option maxRecDepth 100000 in
theorem bld_new (b : Nat) (v : Value) (w : World) (hb : w.heap[b]? = some (.cells #[.pointer none, v] 60 (0, 0))) : Calls Tryd.prog 49 #[.pointer (some ⟨b, 0, none⟩)] w fun e w' => e = .returned (.tuple #[]) ∧ w' = w.setCell ⟨b, 0, none⟩ (.pointer (some ⟨b, 0, none⟩)) := by
  have c0 : w.cell? ⟨b, 0, none⟩ = some (.pointer none) := (blk_cell hb 0).trans rfl
  have f0 : w.frozen? ⟨b, 0, none⟩ = false := blk_frozen hb 0
  have u1 := run_underlying Tryd.underlying57
  have h1 := bld_out hb
  have h2 := bld_in hb
  have h3 := bld_esc (w := w) (.pointer (some ⟨b, 0, none⟩))
  clear hb
  go_enter Tryd.func49, Tryd.ntmps49
  go_wp2
  go_end0
  exact ⟨rfl, rfl⟩
set_option maxHeartbeats 2000000 in
set_option maxRecDepth 100000 in
theorem bld_used (b : Nat) (v : Value) (w : World) (hb : w.heap[b]? = some (.cells #[.pointer (some ⟨b, 0, none⟩), v] 60 (0, 0))) : Calls Tryd.prog 49 #[.pointer (some ⟨b, 0, none⟩)] w fun e w' => e = .returned (.tuple #[]) ∧ w = w' := by
  have c0 : w.cell? ⟨b, 0, none⟩ = some (.pointer (some ⟨b, 0, none⟩)) := (blk_cell hb 0).trans rfl
  have u1 := run_underlying Tryd.underlying57
  have h1 := bld_same (w := w) ⟨b, 0, none⟩
  clear hb
  go_enter Tryd.func49, Tryd.ntmps49
  go_wp2
  go_end0
  exact ⟨rfl, rfl⟩
/-- The builder knows its own address: the value of its bytes, and what holds of it. -/
def BAt (B b : Nat) (v : Value) (l : List UInt8) (w : World) : Prop := B ≤ b ∧ w.heap[b]? = some (.cells #[.pointer (some ⟨b, 0, none⟩), v] 60 (0, 0)) ∧ w.ownsRowF B 5 1 v l.length (Lib.byteCells l) ∧ v.ownBlock ≠ some b
theorem BAt.up {B b : Nat} {v : Value} {l : List UInt8} {w : World} (h : BAt B b v l w) : Bld B b l w := Or.inr ⟨h.1, v, h.2.1, by rw [Lib.byteCells_length]; exact h.2.2.1, h.2.2.2⟩
theorem bld_check (B b : Nat) (l : List UInt8) (w : World) (h : Bld B b l w) : Calls Tryd.prog 49 #[.pointer (some ⟨b, 0, none⟩)] w fun e w' => e = .returned (.tuple #[]) ∧ ∃ v, BAt B b v l w' ∧ Below B w w' ∧ BKept b w w' := by
  rcases h with h | h
  · obtain ⟨hB, v, hb, _⟩ := id h
    refine (bld_new b v w hb).mono ?_
    rintro e w' ⟨rfl, rfl⟩
    obtain ⟨_, v', hb', ho', hn'⟩ := h.used (.pointer (some ⟨b, 0, none⟩))
    rw [Lib.byteCells_length] at ho'
    exact ⟨rfl, v', ⟨hB, hb', ho', hn'⟩, (Below.refl B w).setCell (p := ⟨b, 0, none⟩) hB _, BKept.of ((Lib.OthersKept.refl _ _ w).setCell ⟨b, 0, none⟩ rfl _)⟩
  · obtain ⟨hB, v, hb, ho, hn⟩ := h
    rw [Lib.byteCells_length] at ho
    refine (bld_used b v w hb).mono ?_
    rintro e w' ⟨rfl, rfl⟩
    exact ⟨rfl, v, ⟨hB, hb, ho, hn⟩, Below.refl B _, BKept.refl b _⟩
theorem bld_info : ∃ i, Tryd.prog.info? 5 = some i ∧ i.zero = some (.int .u8 0) ∧ i.size = 1 ∧ i.bytes = 1 := by
  have h : (Tryd.prog.info? 5).map (fun i => (i.zero, i.size, i.bytes)) = some (some (.int .u8 0), 1, 1) := by kernel_rfl
  obtain ⟨i, h1, h2⟩ := Option.map_eq_some_iff.1 h
  simp only [Prod.mk.injEq] at h2
  exact ⟨i, h1, h2⟩
/-- Behind an append the builder's own block has the new value: what comes of it. -/
theorem bld_put {B b : Nat} {v v' : Value} {l m : List UInt8} {w w1 w2 : World} (h : BAt B b v l w1) (hg : w1.grownBy w2 v.ownBlock) (ho : w2.ownsRowF B 5 1 v' (l ++ m).length (Lib.byteCells (l ++ m))) (hB : Below B w w1) (hk : BKept b w w1) (hBw : B ≤ w.heap.size) :
    Bld B b (l ++ m) (w2.setCell ⟨b, 1, none⟩ v') ∧ Below B w (w2.setCell ⟨b, 1, none⟩ v') ∧ BKept b w (w2.setCell ⟨b, 1, none⟩ v') := by
  obtain ⟨h1, h2, h3, h4⟩ := h
  have hb2 : w2.heap[b]? = some (.cells #[.pointer (some ⟨b, 0, none⟩), v] 60 (0, 0)) := blk_grown h2 hg (fun e => h4 e.symm)
  refine ⟨Or.inr (Lib.BuilderAtF.put (T := 60) (e := 5) h1 hb2 (bs' := Lib.byteCells (l ++ m)) (by rw [Lib.byteCells_length]; exact ho) (by decide)), ?_, ?_⟩
  · exact (hB.grown hg (Nat.le_trans hBw hB.size) (fun k hk => (h3.lt k hk).1)).setCell (p := ⟨b, 1, none⟩) h1 _
  · refine hk.trans (BKept.of (((Lib.OthersKept.refl _ _ w1).grown hg (Lib.ownsRowF_kind h3)).setCell ⟨b, 1, none⟩ rfl _))
set_option maxHeartbeats 4000000 in
set_option maxRecDepth 100000 in
theorem bld_byte (B b : Nat) (l : List UInt8) (n : Nat) (hn : n < 256) (w : World) (h : Bld B b l w) (hlen : l.length + 1 ≤ 140737488355328) (hBw : B ≤ w.heap.size) : Calls Tryd.prog 31 #[.pointer (some ⟨b, 0, none⟩), .int .u8 (n : Int)] w fun e w' => e = .returned .nilIface ∧ Bld B b (l ++ [UInt8.ofNat n]) w' ∧ Below B w w' ∧ BKept b w w' := by
  obtain ⟨i0, hi, hz0, hz1, hz2⟩ := bld_info
  go_enter Tryd.func31, Tryd.ntmps31
  go_wp2_with (go_at_call 49; refine (bld_check B b l _ h).mono ?_)
  rintro e w1 ⟨rfl, v, hA, hB1, hk1⟩
  have c0 : w1.cell? ⟨b, 0, none⟩ = some (.pointer (some ⟨b, 0, none⟩)) := (blk_cell hA.2.1 0).trans rfl
  have c1 : w1.cell? ⟨b, 1, none⟩ = some v := (blk_cell hA.2.1 1).trans rfl
  have hs1 := hB1.size
  have hlt := blk_lt hA.2.1
  go_wp2_with (at_builtin; refine wpList_append_ownF _ rfl _ _ 58 rfl B 5 i0 (.int .u8 0) 1 1 Tryd.underlying58 hi hz0 hz1 hz2 rfl (by decide) _ _ _ rfl (hA.2.2.1.alloc _) ⟨w1.heap.size, 0, none⟩ 1 1 [.int .u8 (n : Int)] rfl rfl ?c1 ?c2 ?c3 ?c4 ?c5 ?_)
  case c1 =>
    intro j u hj
    rcases j with _ | j
    · simp at hj
      subst hj
      simp [Addr.add]
    · simp at hj
  case c2 =>
    intro u hu
    simp at hu
    subst hu
    rfl
  case c3 => unfold maxLen; omega
  case c4 => omega
  case c5 => simp; omega
  intro v2 w2 ho2 hg2 _
  have hA2 : BAt B b v l (w1.alloc (.cells #[.int .u8 (n : Int)] 5 (0, 0))) := ⟨hA.1, blk_alloc hA.2.1 _, hA.2.2.1.alloc _, hA.2.2.2⟩
  have hb2 := blk_grown hA2.2.1 hg2 (fun e => hA.2.2.2 e.symm)
  have d0 : w2.cell? ⟨b, 0, none⟩ = some (.pointer (some ⟨b, 0, none⟩)) := (blk_cell hb2 0).trans rfl
  have d1 : w2.cell? ⟨b, 1, none⟩ = some v := (blk_cell hb2 1).trans rfl
  have f1 : w2.frozen? ⟨b, 1, none⟩ = false := blk_frozen hb2 1
  obtain ⟨p2, n2, q2, rfl⟩ : ∃ p2 n2 q2, v2 = .slice p2 n2 q2 := by
    rcases ho2.2 with ⟨hv, _⟩ | ⟨g, cap, cur, fz, hv, _⟩
    · exact ⟨_, _, _, hv⟩
    · exact ⟨_, _, _, hv⟩
  go_wp2
  go_ret
  refine ⟨rfl, bld_put hA2 hg2 (by rw [← byteUp l n hn, List.length_append]; exact ho2) (hB1.alloc (by omega) _) (hk1.trans (BKept.below ((Below.refl _ _).alloc (Nat.le_refl _) _))) hBw⟩
set_option maxHeartbeats 4000000 in
set_option maxRecDepth 100000 in
theorem bld_str (B b : Nat) (l : List UInt8) (s : ByteArray) (w : World) (h : Bld B b l w) (hlen : l.length + s.size ≤ 140737488355328) (hBw : B ≤ w.heap.size) : Calls Tryd.prog 33 #[.pointer (some ⟨b, 0, none⟩), .string s] w fun e w' => e = .returned (.tuple #[.int .i64 s.size, .nilIface]) ∧ Bld B b (l ++ s.data.toList) w' ∧ Below B w w' ∧ BKept b w w' := by
  obtain ⟨i0, hi, hz0, hz1, hz2⟩ := bld_info
  go_enter Tryd.func33, Tryd.ntmps33
  go_wp2_with (go_at_call 49; refine (bld_check B b l _ h).mono ?_)
  rintro e w1 ⟨rfl, v, hA, hB1, hk1⟩
  have c0 : w1.cell? ⟨b, 0, none⟩ = some (.pointer (some ⟨b, 0, none⟩)) := (blk_cell hA.2.1 0).trans rfl
  have c1 : w1.cell? ⟨b, 1, none⟩ = some v := (blk_cell hA.2.1 1).trans rfl
  have hs1 := hB1.size
  go_wp2_with (at_builtin; refine Lib.wpList_append_own_stringF _ rfl _ _ 58 9 rfl B 5 i0 Tryd.underlying58 Tryd.underlying9 hi hz0 hz1 hz2 _ _ _ rfl hA.2.2.1 s rfl ?c3 ?c4 ?c5 ?_)
  case c3 => unfold maxLen; omega
  case c4 => omega
  case c5 => omega
  intro v2 w2 ho2 hg2 _
  have hb2 := blk_grown hA.2.1 hg2 (fun e => hA.2.2.2 e.symm)
  have d0 : w2.cell? ⟨b, 0, none⟩ = some (.pointer (some ⟨b, 0, none⟩)) := (blk_cell hb2 0).trans rfl
  have d1 : w2.cell? ⟨b, 1, none⟩ = some v := (blk_cell hb2 1).trans rfl
  have f1 : w2.frozen? ⟨b, 1, none⟩ = false := blk_frozen hb2 1
  obtain ⟨p2, n2, q2, rfl⟩ : ∃ p2 n2 q2, v2 = .slice p2 n2 q2 := by
    rcases ho2.2 with ⟨hv, _⟩ | ⟨g, cap, cur, fz, hv, _⟩
    · exact ⟨_, _, _, hv⟩
    · exact ⟨_, _, _, hv⟩
  go_wp2
  go_ret2
  refine ⟨rfl, bld_put hA hg2 ?_ hB1 hk1 hBw⟩
  rw [← bytesUp, List.length_append, Array.length_toList]
  exact ho2
end Go.Proofs.YtooefecjkgdpbaaDoorH
namespace Go.Proofs.YtooefecjkgdpbaaDoorH
open Go.RowKit Go.Proofs.YtooefecjkgdpbaaDoorW.PrintWords Go.Proofs.YtooefecjkgdpbaaDoorW.PrintLast Go.Proofs.YtooefecjkgdpbaaDoorW.PrintMore
/-- The table of tens that strconv reads. -/
def Tab (w : World) : Prop := Lib.TabIs Tryd.prog w "internal/strconv.uint64pow10" .u64 Lib.pow10Tab
theorem Tab.below {w w' : World} (h : Tab w) (hb : Below w.heap.size w w') : Tab w' := Lib.tabBelow_of_tabIs h w' hb
def itoaB (n : Int) : ByteArray := ⟨(Lib.itoa n).toArray⟩
theorem itoaB_size (n : Int) (h0 : -9223372036854775808 ≤ n) (h1 : n ≤ 9223372036854775807) : (itoaB n).size ≤ 21 := by
  have := Lib.itoa_length_le n h0 h1
  unfold itoaB
  simpa [ByteArray.size] using this
theorem below_growL {w : World} (l : List Obj) : ∀ {w1 : World}, Below w.heap.size w w1 → Below w.heap.size w { w1 with heap := w1.heap ++ l.toArray } := by
  induction l with
  | nil =>
    intro w1 h
    simpa using h
  | cons o r ih =>
    intro w1 h
    have h2 := ih (below_alloc h o)
    have e : ({ w1.alloc o with heap := (w1.alloc o).heap ++ r.toArray } : World) = { w1 with heap := w1.heap ++ (o :: r).toArray } := by
      have ea : w1.heap.push o ++ r.toArray = w1.heap ++ (o :: r).toArray := by
        apply Array.toList_inj.1
        simp
      show ({ w1 with heap := w1.heap.push o ++ r.toArray } : World) = _
      rw [ea]
    rw [e] at h2
    exact h2
theorem below_grow {w w1 : World} (os : Array Obj) (h : Below w.heap.size w w1) : Below w.heap.size w (Go.Sort.grow w1 os) := by
  have := below_growL os.toList h
  simpa [Go.Sort.grow] using this
theorem itoa_call (n : Int) (h0 : -9223372036854775808 ≤ n) (h1 : n ≤ 9223372036854775807) (w : World) (ht : Tab w) : Calls Tryd.prog 28 #[.int .i64 n] w fun e w' => e = .returned (.string (itoaB n)) ∧ Below w.heap.size w w' := by
  refine (Go.Proofs.Tryd.strconv_Itoa n h0 h1 w ht).mono ?_
  rintro e w' ⟨rfl, k, os, rfl⟩
  exact ⟨rfl, below_grow os (pw_below_drewN (Below.refl _ _) k)⟩
end Go.Proofs.YtooefecjkgdpbaaDoorH
