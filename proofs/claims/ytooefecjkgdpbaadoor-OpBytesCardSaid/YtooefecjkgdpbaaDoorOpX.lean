
import Derived.Test.YtooefecjkgdpbaaDoorOpI
import Derived.Test.YtooefecjkgdpbaaDoorOpQ
import Derived.Test.YtooefecjkgdpbaaDoorOpR
/-
  The reference's Encode in plain lists: it is the program's.
-/
namespace Go.Proofs.YtooefecjkgdpbaaDoor.Pure
set_option linter.unusedVariables false
set_option linter.unusedSimpArgs false
open Go.RowKit Go.Proofs.YtooefecjkgdpbaaDoor.PA Go.Proofs.YtooefecjkgdpbaaDoorW.PrintWords Go.Proofs.YtooefecjkgdpbaaDoorW.PrintLast Go.Proofs.YtooefecjkgdpbaaDoorW.PrintMore Go.Proofs.YtooefecjkgdpbaaDoorH

theorem strApp (a b : List Int) : strOfNums (a ++ b) = strOfNums a ++ strOfNums b := by
  apply ByteArray.ext
  rw [ByteArray.data_append]
  apply Array.toList_inj.1
  rw [Array.toList_append, strOfNums_data, strOfNums_data, strOfNums_data, List.map_append]
theorem number_eq {k : Nat} (hk : 60 ≤ k) {a : Int} (ha : I64 a) : treillageref06_number.f k a = some (strOfNums (bytes (zig a))) := by
  unfold treillageref06_number.f
  rw [refzig_eq ha, Option.bind_some, refbytes_eq hk (zig_range ha), Option.bind_some]
theorem text_eq {s : ByteArray} (hs : s.size ≤ 255) : treillageref06_text.f s = some (strOfNums ((s.size : Int) :: bytesOf s)) := by
  unfold treillageref06_text.f
  rw [Option.bind_some, show (s.size : Int) % 256 = s.size by omega, if_pos (by rw [strOfNums_size]; simp; omega)]
  rw [show (s.size : Int) :: bytesOf s = [(s.size : Int)] ++ bytesOf s from rfl, strApp, strOfNums_bytesOf]
theorem numI_no (a : Int) : numI false a = [] := rfl
theorem txtI_no (s : ByteArray) : txtI false s = [] := rfl
theorem bytes_le (u : Int) : (bytes u).length ≤ 9 := by
  unfold bytes
  have := dig_len 8 u
  rw [List.length_cons]
  omega
section
variable {h : ByteArray} {ft fa fn fx : Bool} (n a b c : Int) (s t : ByteArray)
theorem j3_eq {k : Nat} (hk : 90 ≤ k) (hx : ∀ k, 20 ≤ k → treillageref06_in.f k h 120 = some fx) (ht : t.size ≤ 255) (q : List Int) (hq : q.length ≤ 100000) : treillageref06_encode.j3 k (strOfNums q) h n a b c s t = some (strOfNums (q ++ txtI fx t)) := by
  obtain ⟨k, rfl⟩ : ∃ m, k = m + 1 := ⟨k - 1, by omega⟩
  simp only [treillageref06_encode.j3]
  rw [hx k (by omega), Option.bind_some]
  cases fx
  · rw [if_neg (by decide), txtI_no, List.append_nil]
  · rw [if_pos rfl, text_eq ht, Option.bind_some, if_pos (by rw [strOfNums_size, strOfNums_size, List.length_cons, bytesOf_length]; omega), ← strApp]
    rfl
theorem j2_eq {k : Nat} (hk : 91 ≤ k) (hn : ∀ k, 20 ≤ k → treillageref06_in.f k h 110 = some fn) (hx : ∀ k, 20 ≤ k → treillageref06_in.f k h 120 = some fx) (hs : s.size ≤ 255) (ht : t.size ≤ 255) (q : List Int) (hq : q.length ≤ 90000) : treillageref06_encode.j2 k (strOfNums q) h n a b c s t = some (strOfNums (q ++ (txtI fn s ++ txtI fx t))) := by
  obtain ⟨k, rfl⟩ : ∃ m, k = m + 1 := ⟨k - 1, by omega⟩
  simp only [treillageref06_encode.j2]
  rw [hn k (by omega), Option.bind_some]
  cases fn
  · rw [if_neg (by decide), txtI_no, List.nil_append]
    exact j3_eq n a b c s t (by omega) hx ht q (by omega)
  · rw [if_pos rfl, text_eq hs, Option.bind_some, if_pos (by rw [strOfNums_size, strOfNums_size, List.length_cons, bytesOf_length]; omega), ← strApp]
    rw [j3_eq n a b c s t (by omega) hx ht _ (by rw [List.length_append, List.length_cons, bytesOf_length]; omega), List.append_assoc]
    rfl
theorem j1_eq {k : Nat} (hk : 92 ≤ k) (hc : I64 c) (hfa : ∀ k, 20 ≤ k → treillageref06_in.f k h 97 = some fa) (hn : ∀ k, 20 ≤ k → treillageref06_in.f k h 110 = some fn) (hx : ∀ k, 20 ≤ k → treillageref06_in.f k h 120 = some fx) (hs : s.size ≤ 255) (ht : t.size ≤ 255) (q : List Int) (hq : q.length ≤ 80000) : treillageref06_encode.j1 k (strOfNums q) h n a b c s t = some (strOfNums (q ++ (numI fa c ++ (txtI fn s ++ txtI fx t)))) := by
  obtain ⟨k, rfl⟩ : ∃ m, k = m + 1 := ⟨k - 1, by omega⟩
  simp only [treillageref06_encode.j1]
  rw [hfa k (by omega), Option.bind_some]
  have hl := bytes_le (zig c)
  cases fa
  · rw [if_neg (by decide), numI_no, List.nil_append]
    exact j2_eq n a b c s t (by omega) hn hx hs ht q (by omega)
  · rw [if_pos rfl, number_eq (by omega) hc, Option.bind_some, if_pos (by rw [strOfNums_size, strOfNums_size]; omega), ← strApp]
    rw [j2_eq n a b c s t (by omega) hn hx hs ht _ (by rw [List.length_append]; omega), List.append_assoc]
    rfl
theorem j0_eq {k : Nat} (hk : 93 ≤ k) (hb : I64 b) (hc : I64 c) (hft : ∀ k, 20 ≤ k → treillageref06_in.f k h 116 = some ft) (hfa : ∀ k, 20 ≤ k → treillageref06_in.f k h 97 = some fa) (hn : ∀ k, 20 ≤ k → treillageref06_in.f k h 110 = some fn) (hx : ∀ k, 20 ≤ k → treillageref06_in.f k h 120 = some fx) (hs : s.size ≤ 255) (ht : t.size ≤ 255) (q : List Int) (hq : q.length ≤ 70000) : treillageref06_encode.j0 k (strOfNums q) h n a b c s t = some (strOfNums (q ++ (numI ft b ++ (numI fa c ++ (txtI fn s ++ txtI fx t))))) := by
  obtain ⟨k, rfl⟩ : ∃ m, k = m + 1 := ⟨k - 1, by omega⟩
  simp only [treillageref06_encode.j0]
  rw [hft k (by omega), Option.bind_some]
  have hl := bytes_le (zig b)
  cases ft
  · rw [if_neg (by decide), numI_no, List.nil_append]
    exact j1_eq n a b c s t (by omega) hc hfa hn hx hs ht q (by omega)
  · rw [if_pos rfl, number_eq (by omega) hb, Option.bind_some, if_pos (by rw [strOfNums_size, strOfNums_size]; omega), ← strApp]
    rw [j1_eq n a b c s t (by omega) hc hfa hn hx hs ht _ (by rw [List.length_append]; omega), List.append_assoc]
    rfl
theorem e_eq {k : Nat} {fi : Bool} (hk : 94 ≤ k) (hn8 : 1 ≤ n ∧ n ≤ 8) (ha : I64 a) (hb : I64 b) (hc : I64 c) (hh : treillageref06_has.f k n = some h) (hfi : ∀ k, 20 ≤ k → treillageref06_in.f k h 105 = some fi) (hft : ∀ k, 20 ≤ k → treillageref06_in.f k h 116 = some ft) (hfa : ∀ k, 20 ≤ k → treillageref06_in.f k h 97 = some fa) (hn : ∀ k, 20 ≤ k → treillageref06_in.f k h 110 = some fn) (hx : ∀ k, 20 ≤ k → treillageref06_in.f k h 120 = some fx) (hs : s.size ≤ 255) (ht : t.size ≤ 255) : treillageref06_encode.f k n a b c s t = some (strOfNums (n :: (numI fi a ++ (numI ft b ++ (numI fa c ++ (txtI fn s ++ txtI fx t)))))) := by
  unfold treillageref06_encode.f
  rw [Option.bind_some, show n % 256 = n by omega, hh, Option.bind_some, hfi k (by omega), Option.bind_some]
  have hl := bytes_le (zig a)
  cases fi
  · rw [if_neg (by decide), numI_no, List.nil_append, j0_eq n a b c s t (by omega) hb hc hft hfa hn hx hs ht [n] (by simp)]
    rfl
  · rw [if_pos rfl, number_eq (by omega) ha, Option.bind_some, if_pos (by rw [strOfNums_size, strOfNums_size]; simp; omega), ← strApp, j0_eq n a b c s t (by omega) hb hc hft hfa hn hx hs ht _ (by rw [List.length_append]; simp; omega)]
    rw [List.append_assoc]
    rfl
end
theorem refencode_eq {k : Nat} (hk : 94 ≤ k) (o : OpT) (ho : OkO o) (hm : mayO o = true) : treillageref06_encode.f k o.f0 o.f1 o.f2 o.f3 o.f4 o.f5 = some (strOfNums (encI o)) := by
  obtain ⟨f0, f1, f2, f3, f4, f5⟩ := o
  obtain ⟨h1, h8, hs, ht⟩ := may_kind hm
  obtain ⟨_, i1, i2, i3⟩ := ho
  simp only at h1 h8 hs ht i1 i2 i3 ⊢
  clear hm
  obtain rfl | rfl | rfl | rfl | rfl | rfl | rfl | rfl : f0 = 1 ∨ f0 = 2 ∨ f0 = 3 ∨ f0 = 4 ∨ f0 = 5 ∨ f0 = 6 ∨ f0 = 7 ∨ f0 = 8 := by omega
  · exact e_eq 1 f1 f2 f3 f4 f5 hk (by decide) i1 i2 i3 (has_1 (by omega)) (fun k hk => in_n_i hk) (fun k hk => in_n_t hk) (fun k hk => in_n_a hk) (fun k hk => in_n_n hk) (fun k hk => in_n_x hk) hs ht
  · exact e_eq 2 f1 f2 f3 f4 f5 hk (by decide) i1 i2 i3 (has_2 (by omega)) (fun k hk => in_x_i hk) (fun k hk => in_x_t hk) (fun k hk => in_x_a hk) (fun k hk => in_x_n hk) (fun k hk => in_x_x hk) hs ht
  · exact e_eq 3 f1 f2 f3 f4 f5 hk (by decide) i1 i2 i3 (has_3 (by omega)) (fun k hk => in_x_i hk) (fun k hk => in_x_t hk) (fun k hk => in_x_a hk) (fun k hk => in_x_n hk) (fun k hk => in_x_x hk) hs ht
  · exact e_eq 4 f1 f2 f3 f4 f5 hk (by decide) i1 i2 i3 (has_4 (by omega)) (fun k hk => in_ita_i hk) (fun k hk => in_ita_t hk) (fun k hk => in_ita_a hk) (fun k hk => in_ita_n hk) (fun k hk => in_ita_x hk) hs ht
  · exact e_eq 5 f1 f2 f3 f4 f5 hk (by decide) i1 i2 i3 (has_5 (by omega)) (fun k hk => in_i_i hk) (fun k hk => in_i_t hk) (fun k hk => in_i_a hk) (fun k hk => in_i_n hk) (fun k hk => in_i_x hk) hs ht
  · exact e_eq 6 f1 f2 f3 f4 f5 hk (by decide) i1 i2 i3 (has_6 (by omega)) (fun k hk => in_inx_i hk) (fun k hk => in_inx_t hk) (fun k hk => in_inx_a hk) (fun k hk => in_inx_n hk) (fun k hk => in_inx_x hk) hs ht
  · exact e_eq 7 f1 f2 f3 f4 f5 hk (by decide) i1 i2 i3 (has_7 (by omega)) (fun k hk => in_in_i hk) (fun k hk => in_in_t hk) (fun k hk => in_in_a hk) (fun k hk => in_in_n hk) (fun k hk => in_in_x hk) hs ht
  · exact e_eq 8 f1 f2 f3 f4 f5 hk (by decide) i1 i2 i3 (has_8 (by omega)) (fun k hk => in_ix_i hk) (fun k hk => in_ix_t hk) (fun k hk => in_ix_a hk) (fun k hk => in_ix_n hk) (fun k hk => in_ix_x hk) hs ht
theorem encI_len {o : OpT} (h : mayO o = true) : (encI o).length ≤ 600 := by
  have hk := may_kind h
  have t1 := numI_len (decide (0 < shpN o.f0)) o.f1
  have t2 := numI_len (decide (1 < shpN o.f0)) o.f2
  have t3 := numI_len (decide (2 < shpN o.f0)) o.f3
  have t : ∀ (c : Bool) (s : ByteArray), s.size ≤ 255 → (txtI c s).length ≤ 256 := by
    intro c s hs
    unfold txtI
    split
    · rw [List.length_cons, bytesOf_length]
      omega
    · simp
  have t4 := t (shpS o.f0) o.f4 hk.2.2.1
  have t5 := t (shpT o.f0) o.f5 hk.2.2.2
  unfold encI
  simp only [List.length_cons, List.length_append]
  omega
theorem rd_map (l : List OpT) (i : Nat) (h : i < l.length) : rd_T29 (l.map toR) (i : Int) = toR l[i] := by
  rw [rdR_at _ i (by rw [List.length_map]; exact h), List.getElem_map]
theorem refEnc_loop (l : List OpT) (hok : ∀ o ∈ l, OkO o) (hl : l.length ≤ 20) : ∀ (m i k : Nat) (q : List Int), i + m = l.length → m + 100 ≤ k → q.length ≤ 600 * i → treillageref06_Encode.l0 k (l.map toR) (strOfNums q) (i : Int) = some (if (l.drop i).all mayO = true then (strOfNums (q ++ encsI (l.drop i)), 0) else (⟨#[]⟩, 1))
  | m, i, 0, q, _, hk, _ => by omega
  | m, i, k + 1, q, hm, hk, hq => by
    rw [treillageref06_Encode.l0, List.length_map]
    by_cases hi : i < l.length
    · rw [if_pos (by omega), if_pos (by omega), rd_map l i hi, List.drop_eq_getElem_cons hi]
      simp only [toR]
      rw [refmay_eq (by omega), Option.bind_some]
      by_cases hmay : mayO l[i] = true
      · have hmay2 : opMay l[i].f0 l[i].f1 l[i].f2 l[i].f3 l[i].f4 l[i].f5 = true := hmay
        have hlen := encI_len hmay
        rw [if_pos hmay2, refencode_eq (by omega) l[i] (hok _ (List.getElem_mem hi)) hmay, Option.bind_some, if_pos (by rw [strOfNums_size, strOfNums_size]; omega), ← strApp, show wrap64 ((i : Int) + 1) = ((i + 1 : Nat) : Int) by unfold wrap64; omega]
        rw [refEnc_loop l hok hl (m - 1) (i + 1) k (q ++ encI l[i]) (by omega) (by omega) (by rw [List.length_append]; omega), List.all_cons, hmay, Bool.true_and]
        rw [show encsI (l[i] :: l.drop (i + 1)) = encI l[i] ++ encsI (l.drop (i + 1)) from rfl, List.append_assoc]
      · have hmay2 : ¬ opMay l[i].f0 l[i].f1 l[i].f2 l[i].f3 l[i].f4 l[i].f5 = true := hmay
        rw [if_neg hmay2, List.all_cons, if_neg (by rw [Bool.and_eq_true]; exact fun h => hmay h.1)]
    · rw [if_neg (by omega), List.drop_eq_nil_of_le (by omega)]
      simp [encsI]
theorem refEncode_eq {k : Nat} (hk : 200 ≤ k) (l : List OpT) (hok : ∀ o ∈ l, OkO o) : treillageref06_Encode.f k (l.map toR) = some (encR l) := by
  unfold treillageref06_Encode.f encR
  rw [List.length_map]
  by_cases hl : 20 < l.length
  · rw [if_pos (by omega), if_pos hl]
  · rw [if_neg (by omega), if_neg hl]
    have := refEnc_loop l hok (by omega) l.length 0 k [] (by omega) (by omega) (by simp)
    rw [List.drop_zero, List.nil_append] at this
    exact this
end Go.Proofs.YtooefecjkgdpbaaDoor.Pure
