
import Derived.Test.YtooefecjkgdpbaaDoorMath
import Derived.Laws.BytesArg
import Derived.Laws.Strings

/-
  Strings as lists of bytes (numbers from 0 to 255), and numbers as little-endian digits in base 256: plain lists, no program in sight.
-/
namespace Go.Proofs.YtooefecjkgdpbaaDoorH
set_option linter.unusedVariables false
set_option linter.unusedSimpArgs false
open Go.RowKit Go.Proofs.YtooefecjkgdpbaaDoorW.PrintWords Go.Proofs.YtooefecjkgdpbaaDoorW.PrintMore

/-- All numbers of the list are bytes. -/
def Bts (l : List Int) : Prop := ∀ x ∈ l, 0 ≤ x ∧ x < 256
theorem Bts.nil : Bts [] := fun x hx => by cases hx
theorem Bts.cons {x : Int} {l : List Int} (hx : 0 ≤ x ∧ x < 256) (h : Bts l) : Bts (x :: l) := fun y hy => by
  rcases List.mem_cons.1 hy with rfl | hy
  · exact hx
  · exact h y hy
theorem Bts.tail {x : Int} {l : List Int} (h : Bts (x :: l)) : Bts l := fun y hy => h y (List.mem_cons_of_mem _ hy)
theorem Bts.head {x : Int} {l : List Int} (h : Bts (x :: l)) : 0 ≤ x ∧ x < 256 := h x (List.mem_cons_self ..)
theorem Bts.app {l m : List Int} (h : Bts l) (k : Bts m) : Bts (l ++ m) := fun x hx => by
  rcases List.mem_append.1 hx with hx | hx
  · exact h x hx
  · exact k x hx
theorem str_toList_iff (a b : ByteArray) : a.toList = b.toList ↔ a = b := by
  rw [ByteArray.toList_eq, ByteArray.toList_eq]
  constructor
  · intro h
    cases a; cases b
    simp only at h
    congr 1
    exact Array.toList_inj.1 h
  · rintro rfl; rfl
theorem bts_bytesOf (s : ByteArray) : Bts (bytesOf s) := fun x hx => by
  unfold bytesOf at hx
  obtain ⟨b, _, rfl⟩ := List.mem_map.1 hx
  have := b.toNat_lt
  omega
theorem bytesOf_strOfNums {l : List Int} (h : Bts l) : bytesOf (strOfNums l) = l := by
  unfold bytesOf
  rw [strOfNums_data, List.map_map]
  conv => rhs; rw [← List.map_id l]
  refine List.map_congr_left fun x hx => ?_
  have := h x hx
  simp only [Function.comp, id, UInt8.toNat_ofNat']
  omega
theorem strOfNums_bytesOf (s : ByteArray) : strOfNums (bytesOf s) = s := by
  unfold strOfNums bytesOf
  rw [List.map_map]
  have : (fun n : Int => UInt8.ofNat n.toNat) ∘ (fun b : UInt8 => (b.toNat : Int)) = id := by
    funext b
    simp
  rw [this, List.map_id]
theorem strOfNums_inj {l m : List Int} (h : Bts l) (k : Bts m) : strOfNums l = strOfNums m ↔ l = m := by
  constructor
  · intro e
    rw [← bytesOf_strOfNums h, e, bytesOf_strOfNums k]
  · rintro rfl; rfl
theorem bt_strOfNums {l : List Int} (h : Bts l) (i : Int) : bt (strOfNums l) i = rd l i := by
  rw [← rd_bytesOf, bytesOf_strOfNums h]

/-! ### digits in base 256, the lowest first -/
def dig (n : Nat) (u : Int) : List Int := match n with
  | 0 => []
  | n + 1 => if u = 0 then [] else u % 256 :: dig n (u / 256)
def val : List Int → Int
  | [] => 0
  | x :: l => x + 256 * val l
theorem val_nonneg {l : List Int} (h : Bts l) : 0 ≤ val l := by
  induction l with
  | nil => exact Int.le_refl 0
  | cons x l ih => have := ih h.tail; have := h.head; simp only [val]; omega
theorem val_lt {l : List Int} (h : Bts l) : val l < 256 ^ l.length := by
  induction l with
  | nil => decide
  | cons x l ih => have := ih h.tail; have := h.head; simp only [val, List.length_cons, Int.pow_succ]; omega
theorem val_inj : ∀ {l m : List Int}, Bts l → Bts m → l.length = m.length → val l = val m → l = m
  | [], [], _, _, _, _ => rfl
  | x :: l, y :: m, h, k, hl, hv => by
    have h1 := h.head
    have h2 := k.head
    simp only [val] at hv
    obtain rfl : x = y := by omega
    rw [val_inj h.tail k.tail (by simpa using hl) (by omega)]
theorem dig_bts (n : Nat) (u : Int) : Bts (dig n u) := by
  induction n generalizing u with
  | zero => exact Bts.nil
  | succ n ih =>
    unfold dig
    split
    · exact Bts.nil
    · exact Bts.cons (by omega) (ih _)
theorem dig_len (n : Nat) (u : Int) : (dig n u).length ≤ n := by
  induction n generalizing u with
  | zero => exact Nat.le_refl _
  | succ n ih =>
    unfold dig
    split
    · simp
    · have := ih (u / 256); simp only [List.length_cons]; omega
theorem val_dig (n : Nat) (u : Int) (h0 : 0 ≤ u) (h1 : u < 256 ^ n) : val (dig n u) = u := by
  induction n generalizing u with
  | zero => simp at h1; simp [dig, val]; omega
  | succ n ih =>
    unfold dig
    split
    · subst_vars; rfl
    · simp only [val]
      rw [ih (u / 256) (by omega) (by rw [Int.pow_succ] at h1; omega)]
      omega
theorem dig_range (n : Nat) (u : Int) (h0 : 0 ≤ u) (h1 : u < 256 ^ n) : (List.range (dig n u).length).map (fun i => u / 256 ^ i % 256) = dig n u := by
  induction n generalizing u with
  | zero => simp [dig]
  | succ n ih =>
    unfold dig
    split
    · rfl
    · rw [List.length_cons, List.range_succ_eq_map, List.map_cons, List.map_map]
      have := ih (u / 256) (by omega) (by rw [Int.pow_succ] at h1; omega)
      congr 1
      · simp
      · refine Eq.trans (List.map_congr_left fun i _ => ?_) this
        simp only [Function.comp, Nat.succ_eq_add_one]
        rw [Int.pow_succ, Int.mul_comm, Int.ediv_ediv_of_nonneg (by decide)]
/-- A number has as many digits as a list of bytes of that value just if these are its digits. -/
theorem dig_iff {n : Nat} {l : List Int} (h : Bts l) (hn : l.length ≤ n) : (dig n (val l)).length = l.length ↔ dig n (val l) = l := by
  have hlt : val l < 256 ^ n := Int.lt_of_lt_of_le (val_lt h) (by
    have : ((256 ^ l.length : Nat) : Int) ≤ ((256 ^ n : Nat) : Int) := Int.ofNat_le.2 (Nat.pow_le_pow_right (by decide) hn)
    rwa [Int.natCast_pow, Int.natCast_pow] at this)
  constructor
  · intro e
    exact val_inj (dig_bts _ _) h e (val_dig n _ (val_nonneg h) hlt)
  · intro e; rw [e]

end Go.Proofs.YtooefecjkgdpbaaDoorH
