/-
  How the machine of the queue begins: no place is claimed, all putters look.
-/
import Derived.Test.YtcjkjlopbjijaaaQueueI
namespace Go.Proofs.Ytcjkjlopbjijaaa.PQ
set_option linter.unusedVariables false
set_option linter.unusedSimpArgs false
open Go.RowKit Go.Proofs.YtcjkjlopbjijaaaW.PrintWords Go.Proofs.YtcjkjlopbjijaaaW.PrintLast Go.Proofs.YtcjkjlopbjijaaaW.PrintMore Go.Proofs.YtcjkjlopbjijaaaH

theorem news {s : Int} (hs : Lay 1 s) {k : Nat} (hk : 40 ≤ k) : ∃ m : List Int, mem_New.f k 1 s = some m ∧ (m.length : Int) = 5 + 2 * pw s ∧ rd m 4 = 0 ∧ ∀ p : Nat, (p : Int) < pw s → rd m (5 + 2 * (p : Int)) = p := by
  have key : ∀ s ∈ [(1 : Int), 2, 3, 4], ((mem_New.f 40 1 s).isSome && decide ((((mem_New.f 40 1 s).getD []).length : Int) = 5 + 2 * pw s) && decide (rd ((mem_New.f 40 1 s).getD []) 4 = 0) && (List.range 16).all (fun p => decide ((p : Int) < pw s → rd ((mem_New.f 40 1 s).getD []) (5 + 2 * (p : Int)) = p))) = true := by decide +kernel
  have k1 := key s (by rcases hs.cases with rfl | rfl | rfl | rfl <;> decide)
  simp only [Bool.and_eq_true, decide_eq_true_eq, List.all_eq_true] at k1
  obtain ⟨⟨⟨k1, k2⟩, k3⟩, k4⟩ := k1
  obtain ⟨m, hm⟩ := Option.isSome_iff_exists.1 k1
  rw [hm] at k2 k3 k4
  refine ⟨m, at_rounds (mem_New.mono 1 s) hk hm, k2, k3, fun p hp => ?_⟩
  exact k4 p (List.mem_range.2 (by have := pw_bd s; omega)) hp
def begin_ (item : Nat → Int) (n : Nat) : List Putter := (List.range n).map (fun j => ⟨0, 0, item j⟩)
theorem begin_length (item : Nat → Int) (n : Nat) : (begin_ item n).length = n := by simp [begin_]
theorem begin_succ (item : Nat → Int) (n : Nat) : begin_ item (n + 1) = begin_ item n ++ [⟨0, 0, item n⟩] := by simp [begin_, List.range_succ]
theorem begin_rd (item : Nat → Int) {n j : Nat} (h : j < n) : rdP (begin_ item n) j = ⟨0, 0, item j⟩ := by
  unfold rdP rd_T54 begin_
  rw [Int.toNat_natCast, List.getD_eq_getElem?_getD]
  simp [h]
theorem Inv.start {N n : Nat} {s : Int} (hN : pw s = N) (item : Nat → Int) {m : List Int} (h1 : (m.length : Int) = 5 + 2 * pw s) (h2 : rd m 4 = 0) (h3 : ∀ p : Nat, (p : Int) < pw s → rd m (5 + 2 * (p : Int)) = p) : Inv N n item m (begin_ item n) 0 0 0 [] := by
  refine ⟨by omega, begin_length item n, h2, Nat.le_refl _, by simp, List.nodup_nil, (fun j hj => by cases hj), (fun j hj => by rw [begin_rd item hj]), (fun j hj => .inl ⟨by simp, by rw [begin_rd item hj]; exact .inl rfl⟩), fun j hj h => ?_, (fun p j h => by simp at h), (fun p j h => by simp at h), fun p _ hp => ?_, .inl rfl⟩
  · rw [begin_rd item hj] at h; rcases h with h | h <;> cases h
  · unfold sq
    rw [Nat.mod_eq_of_lt (by omega)]
    exact h3 p (by omega)
theorem w64k {i : Int} (h0 : 0 ≤ i) (h1 : i < 4611686018427387904) : wrap64 i = i := by unfold wrap64; omega

end Go.Proofs.Ytcjkjlopbjijaaa.PQ
