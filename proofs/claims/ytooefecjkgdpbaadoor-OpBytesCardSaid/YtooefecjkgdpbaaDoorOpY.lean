
import Derived.Test.YtooefecjkgdpbaaDoorOpX
/-
  The reference's Decode in plain lists: those operations whose bytes are given, or the error.
-/
namespace Go.Proofs.YtooefecjkgdpbaaDoor.Pure
set_option linter.unusedVariables false
set_option linter.unusedSimpArgs false
open Go.RowKit Go.Proofs.YtooefecjkgdpbaaDoor.PA Go.Proofs.YtooefecjkgdpbaaDoorW.PrintWords Go.Proofs.YtooefecjkgdpbaaDoorW.PrintLast Go.Proofs.YtooefecjkgdpbaaDoorW.PrintMore Go.Proofs.YtooefecjkgdpbaaDoorH

/-- The next piece, and what is behind it. -/
def pieceL : List Int → Option (List Int × List Int)
  | [] => none
  | c :: r => if (r.length : Int) < c then none else some (c :: r.take c.toNat, r.drop c.toNat)
theorem pieceL_cons (c : Int) (r : List Int) : pieceL (c :: r) = if (r.length : Int) < c then none else some (c :: r.take c.toNat, r.drop c.toNat) := rfl
theorem extract_str {q : List Int} (hq : Bts q) (i j : Nat) : (strOfNums q).extract i j = strOfNums ((q.drop i).take (j - i)) := by
  apply bytesOf_inj
  rw [bytesOf_extract, bytesOf_strOfNums hq, bytesOf_strOfNums]
  exact fun x hx => hq x (List.mem_of_mem_drop (List.mem_of_mem_take hx))
theorem piece_eq {q : List Int} (hq : Bts q) (hl : q.length ≤ 1000) : treillageref06_piece.f (strOfNums q) = some (match pieceL q with | none => ((⟨#[]⟩ : ByteArray), (⟨#[]⟩ : ByteArray), false) | some (p, r) => (strOfNums p, strOfNums r, true)) := by
  unfold treillageref06_piece.f
  rcases q with _ | ⟨c, r⟩
  · rw [if_pos (size_nil.2 (bytesOf_strOfNums hq))]
    rfl
  · have hc := hq.head
    have hb : bt (strOfNums (c :: r)) 0 = c := by rw [bt_strOfNums hq]; rfl
    have e1 : wrap64 (1 + wrap64 c) = 1 + c := by unfold wrap64; omega
    rw [if_neg (fun h => by have := size_nil.1 h; rw [bytesOf_strOfNums hq] at this; cases this), hb, e1, strOfNums_size, List.length_cons]
    rw [List.length_cons] at hl
    rw [if_pos (by omega), pieceL_cons]
    by_cases h : (r.length : Int) < c
    · rw [if_pos (by omega), if_pos h]
    · rw [if_neg (by omega), if_neg h, if_pos (by omega), if_pos (by omega), extract_str hq, extract_str hq]
      have e2 : (1 + c).toNat = c.toNat + 1 := by omega
      have e3 : ((c :: r).drop 0).take ((1 + c).toNat - 0) = c :: r.take c.toNat := by rw [e2]; rfl
      have e4 : ((c :: r).drop (1 + c).toNat).take (r.length + 1 - (1 + c).toNat) = r.drop c.toNat := by
        rw [e2, List.drop_succ_cons, List.take_of_length_le]
        rw [List.length_drop]
        omega
      rw [e3, e4]
theorem pieceL_bts {q p r : List Int} (hq : Bts q) (h : pieceL q = some (p, r)) : (∃ c tl, p = c :: tl ∧ tl.length ≤ 255) ∧ Bts p ∧ Bts r ∧ r.length ≤ q.length := by
  rcases q with _ | ⟨c, l⟩
  · cases h
  · rw [pieceL_cons] at h
    by_cases hc : (l.length : Int) < c
    · rw [if_pos hc] at h
      cases h
    · rw [if_neg hc] at h
      simp only [Option.some.injEq, Prod.mk.injEq] at h
      obtain ⟨rfl, rfl⟩ := h
      have hr := hq.head
      refine ⟨⟨c, _, rfl, by rw [List.length_take]; omega⟩, Bts.cons hr (fun x hx => hq x (List.mem_cons_of_mem _ (List.mem_of_mem_take hx))), fun x hx => hq x (List.mem_cons_of_mem _ (List.mem_of_mem_drop hx)), ?_⟩
      rw [List.length_drop, List.length_cons]
      omega
/-- The number that a piece tells. -/
def zvL : List Int → Int
  | [] => 0
  | c :: tl => zag (backOf c tl).1
def stepR (c : Int) (f : RefT) (p : List Int) : RefT :=
  if c = 105 then ⟨f.f0, zvL p, f.f2, f.f3, f.f4, f.f5⟩ else if c = 116 then ⟨f.f0, f.f1, zvL p, f.f3, f.f4, f.f5⟩ else if c = 97 then ⟨f.f0, f.f1, f.f2, zvL p, f.f4, f.f5⟩
  else if c = 110 then ⟨f.f0, f.f1, f.f2, f.f3, strOfNums p.tail, f.f5⟩ else if c = 120 then ⟨f.f0, f.f1, f.f2, f.f3, f.f4, strOfNums p.tail⟩ else f
def runL : List Int → RefT → List Int → Option (RefT × List Int)
  | [], f, q => some (f, q)
  | c :: cs, f, q => match pieceL q with | none => none | some (p, r) => runL cs (stepR c f p) r
theorem l1_eq (x0 : ByteArray) (acc : List RefT) (hacc : acc.length < 2199023255552) (cs : List Int) (hcs : Bts cs) (hc3 : cs.length ≤ 100) : ∀ (m i k : Nat) (q : List Int) (f : RefT), i + m = cs.length → 100 ≤ k → Bts q → q.length ≤ 1000 →
    treillageref06_Decode.l1 (k + m + 1) x0 acc (strOfNums q) (strOfNums cs) (i : Int) f.f0 f.f1 f.f2 f.f3 f.f4 f.f5 = (match runL (cs.drop i) f q with | none => some ([], 4) | some (g, r) => treillageref06_Decode.l0 k x0 (acc ++ [g]) (strOfNums r))
  | m, i, k, q, f, hm, hk, hq, hl => by
    simp only [treillageref06_Decode.l1]
    rw [strOfNums_size]
    by_cases hi : i < cs.length
    · obtain ⟨m, rfl⟩ : ∃ n, m = n + 1 := ⟨m - 1, by omega⟩
      rw [if_pos (by omega), piece_eq hq hl, List.drop_eq_getElem_cons hi, Option.bind_some]
      unfold runL
      rcases hp : pieceL q with _ | ⟨p, r⟩
      · simp
      · obtain ⟨⟨c, tl, rfl, htl⟩, hbp, hbr, hrl⟩ := pieceL_bts hq hp
        simp only
        rw [if_pos trivial, refback_eq (by omega) hbp (by omega), Option.bind_some, refzag_eq (backOf_range hbp), Option.bind_some, if_pos (by omega), bt_strOfNums hcs]
        have e : rd cs (i : Int) = cs[i] := by
          unfold rd
          rw [Int.toNat_natCast, List.getD_eq_getElem?_getD, List.getElem?_eq_getElem hi]
          rfl
        have ew : wrap64 ((i : Int) + 1) = ((i + 1 : Nat) : Int) := by unfold wrap64; omega
        have et : (strOfNums (c :: tl)).extract 1 (strOfNums (c :: tl)).size = strOfNums (c :: tl).tail := by
          rw [extract_str hbp, strOfNums_size]
          simp
        have es : (1 : Int) ≤ ((strOfNums (c :: tl)).size : Int) := by
          rw [strOfNums_size, List.length_cons]
          omega
        have go := fun g => l1_eq x0 acc hacc cs hcs hc3 m (i + 1) k r g (by omega) hk hbr (by omega)
        rw [e, ew, et]
        unfold stepR
        by_cases h1 : cs[i] = 105
        · rw [if_pos h1, if_pos h1]
          exact go ⟨f.f0, zvL (c :: tl), f.f2, f.f3, f.f4, f.f5⟩
        · rw [if_neg h1, if_neg h1]
          by_cases h2 : cs[i] = 116
          · rw [if_pos h2, if_pos h2]
            exact go ⟨f.f0, f.f1, zvL (c :: tl), f.f3, f.f4, f.f5⟩
          · rw [if_neg h2, if_neg h2]
            by_cases h3 : cs[i] = 97
            · rw [if_pos h3, if_pos h3]
              exact go ⟨f.f0, f.f1, f.f2, zvL (c :: tl), f.f4, f.f5⟩
            · rw [if_neg h3, if_neg h3]
              by_cases h4 : cs[i] = 110
              · rw [if_pos h4, if_pos h4, if_pos es]
                exact go ⟨f.f0, f.f1, f.f2, f.f3, strOfNums (c :: tl).tail, f.f5⟩
              · rw [if_neg h4, if_neg h4]
                by_cases h5 : cs[i] = 120
                · rw [if_pos h5, if_pos h5, if_pos es]
                  exact go ⟨f.f0, f.f1, f.f2, f.f3, f.f4, strOfNums (c :: tl).tail⟩
                · rw [if_neg h5, if_neg h5]
                  exact go f
    · obtain rfl : m = 0 := by omega
      rw [if_neg (by omega), if_pos hacc, List.drop_eq_nil_of_le (by omega)]
      rfl
/-! ### what comes of a run -/
def OkR (f : RefT) : Prop := I64 f.f0 ∧ I64 f.f1 ∧ I64 f.f2 ∧ I64 f.f3
theorem zvL_range {p : List Int} (h : Bts p) : I64 (zvL p) := by
  rcases p with _ | ⟨c, tl⟩
  · decide
  · exact zag_range (backOf_range h)
theorem stepR_ok {c : Int} {f : RefT} {p : List Int} (hf : OkR f) (hp : Bts p) : OkR (stepR c f p) := by
  have hz := zvL_range hp
  obtain ⟨h0, h1, h2, h3⟩ := hf
  unfold stepR
  split
  · exact ⟨h0, hz, h2, h3⟩
  · split
    · exact ⟨h0, h1, hz, h3⟩
    · split
      · exact ⟨h0, h1, h2, hz⟩
      · split
        · exact ⟨h0, h1, h2, h3⟩
        · split
          · exact ⟨h0, h1, h2, h3⟩
          · exact ⟨h0, h1, h2, h3⟩
theorem runL_ok : ∀ (cs : List Int) (f g : RefT) (q r : List Int), Bts q → OkR f → runL cs f q = some (g, r) → OkR g ∧ Bts r ∧ r.length ≤ q.length
  | [], f, g, q, r, hq, hf, h => by
    simp only [runL, Option.some.injEq, Prod.mk.injEq] at h
    obtain ⟨rfl, rfl⟩ := h
    exact ⟨hf, hq, Nat.le_refl _⟩
  | c :: cs, f, g, q, r, hq, hf, h => by
    unfold runL at h
    rcases hp : pieceL q with _ | ⟨p, t⟩
    · rw [hp] at h
      cases h
    · rw [hp] at h
      obtain ⟨_, hbp, hbt, hle⟩ := pieceL_bts hq hp
      obtain ⟨h1, h2, h3⟩ := runL_ok cs _ g t r hbt (stepR_ok hf hbp) h
      exact ⟨h1, h2, by omega⟩
def fromR (f : RefT) : OpT := ⟨f.f0, f.f1, f.f2, f.f3, f.f4, f.f5⟩
theorem toR_fromR (f : RefT) : toR (fromR f) = f := rfl
theorem map_fromR (l : List RefT) : (l.map fromR).map toR = l := by
  rw [List.map_map]
  exact List.map_id l
/-- The letters of a kind. -/
theorem has_cs (n : Int) : ∃ cs : List Int, (∀ k, 20 ≤ k → treillageref06_has.f k n = some (strOfNums cs)) ∧ Bts cs ∧ cs.length ≤ 3 := by
  by_cases h : n < 1 ∨ 8 < n
  · exact ⟨[], fun k hk => has_no hk h, Bts.nil, by decide⟩
  · obtain rfl | rfl | rfl | rfl | rfl | rfl | rfl | rfl : n = 1 ∨ n = 2 ∨ n = 3 ∨ n = 4 ∨ n = 5 ∨ n = 6 ∨ n = 7 ∨ n = 8 := by omega
    · exact ⟨[110], fun k hk => has_1 hk, by intro x hx; simp at hx; omega, by decide⟩
    · exact ⟨[120], fun k hk => has_2 hk, by intro x hx; simp at hx; omega, by decide⟩
    · exact ⟨[120], fun k hk => has_3 hk, by intro x hx; simp at hx; omega, by decide⟩
    · exact ⟨[105, 116, 97], fun k hk => has_4 hk, by intro x hx; simp at hx; omega, by decide⟩
    · exact ⟨[105], fun k hk => has_5 hk, by intro x hx; simp at hx; omega, by decide⟩
    · exact ⟨[105, 110, 120], fun k hk => has_6 hk, by intro x hx; simp at hx; omega, by decide⟩
    · exact ⟨[105, 110], fun k hk => has_7 hk, by intro x hx; simp at hx; omega, by decide⟩
    · exact ⟨[105, 120], fun k hk => has_8 hk, by intro x hx; simp at hx; omega, by decide⟩
def z29 : RefT := ⟨0, 0, 0, 0, ⟨#[]⟩, ⟨#[]⟩⟩
/-- A round that reads an operation. -/
theorem l0_read (x0 : ByteArray) (acc : List RefT) (c : Int) (q cs : List Int) (hq : Bts (c :: q)) (hl : q.length ≤ 900) (hacc : acc.length ≤ 20) (k : Nat) (hk : 100 ≤ k) (hcs : Bts cs) (hc3 : cs.length ≤ 100) (hh : ∀ k, 20 ≤ k → treillageref06_has.f k c = some (strOfNums cs)) :
    treillageref06_Decode.l0 (k + cs.length + 3) x0 acc (strOfNums (c :: q)) = (match runL cs ⟨c, 0, 0, 0, ⟨#[]⟩, ⟨#[]⟩⟩ q with | none => some ([], 4) | some (g, r) => treillageref06_Decode.l0 k x0 (acc ++ [g]) (strOfNums r)) := by
  have hc := hq.head
  rw [show k + cs.length + 3 = (k + cs.length + 2) + 1 from rfl]
  simp only [treillageref06_Decode.l0]
  rw [if_neg (fun h => by have := size_nil.1 h; rw [bytesOf_strOfNums hq] at this; cases this), decide_eq_true (by omega)]
  rw [show k + cs.length + 2 = (k + cs.length + 1) + 1 from rfl]
  simp only [treillageref06_Decode.j1]
  have hb : bt (strOfNums (c :: q)) 0 = c := by rw [bt_strOfNums hq]; rfl
  have ex : (strOfNums (c :: q)).extract 1 (strOfNums (c :: q)).size = strOfNums q := by
    rw [extract_str hq, strOfNums_size]
    simp
  rw [if_pos trivial, if_pos (by rw [strOfNums_size, List.length_cons]; omega), if_pos (by rw [strOfNums_size, List.length_cons]; omega), hb, show wrap64 c = c by unfold wrap64; omega, hh _ (by omega), Option.bind_some, ex]
  exact l1_eq x0 acc (by omega) cs hcs hc3 cs.length 0 k q ⟨c, 0, 0, 0, ⟨#[]⟩, ⟨#[]⟩⟩ (by omega) hk hq.tail (by omega)
/-- A round that ends: what was read is encoded. -/
theorem l0_end (x0 : ByteArray) (a : List OpT) (ha : ∀ o ∈ a, OkO o) (rest : ByteArray) (hr : rest.toList = [] ∨ 20 < a.length) (k : Nat) (hk : 300 ≤ k) : treillageref06_Decode.l0 k x0 (a.map toR) rest = some (if (encR a).2 = 0 then (if (encR a).1.toList = x0.toList then (a.map toR, 0) else ([], 4)) else ([], 4)) := by
  obtain ⟨k, rfl⟩ : ∃ n, k = n + 2 := ⟨k - 2, by omega⟩
  simp only [treillageref06_Decode.l0]
  have e : ∀ b : Bool, b = false → treillageref06_Decode.j1 (k + 1) x0 (a.map toR) rest b = some (if (encR a).2 = 0 then (if (encR a).1.toList = x0.toList then (a.map toR, 0) else ([], 4)) else ([], 4)) := by
    rintro b rfl
    simp only [treillageref06_Decode.j1]
    rw [if_neg (by decide), refEncode_eq (by omega) a ha, Option.bind_some]
    split
    · split <;> rfl
    · rfl
  by_cases h0 : rest.toList = ([] : List UInt8)
  · rw [if_pos h0]
    exact e _ rfl
  · rw [if_neg h0]
    rcases hr with hr | hr
    · exact absurd hr h0
    · exact e _ (decide_eq_false (by rw [List.length_map]; omega))
/-- What may be told: operations whose bytes they are, or the error. -/
def Good (x0 : ByteArray) (r : List RefT × Int) : Prop := r = ([], 4) ∨ ∃ a : List OpT, r = (a.map toR, 0) ∧ a.all mayO = true ∧ (∀ o ∈ a, OkO o) ∧ a.length ≤ 20 ∧ encsI a = bytesOf x0
theorem end_good (x0 : ByteArray) (a : List OpT) (ha : ∀ o ∈ a, OkO o) : Good x0 (if (encR a).2 = 0 then (if (encR a).1.toList = x0.toList then (a.map toR, 0) else ([], 4)) else ([], 4)) := by
  unfold encR
  by_cases hl : 20 < a.length
  · rw [if_pos hl]
    exact Or.inl rfl
  · rw [if_neg hl]
    by_cases hm : a.all mayO = true
    · rw [if_pos hm]
      simp only
      rw [if_pos trivial]
      by_cases he : (strOfNums (encsI a)).toList = x0.toList
      · rw [if_pos he]
        rw [str_toList_iff] at he
        exact Or.inr ⟨a, rfl, hm, ha, by omega, by rw [← he, bytesOf_strOfNums (encsI_bts hm)]⟩
      · rw [if_neg he]
        exact Or.inl rfl
    · rw [if_neg hm]
      exact Or.inl rfl
theorem ref_all (x0 : ByteArray) : ∀ (n : Nat) (q : List Int) (a : List OpT) (k : Nat), q.length ≤ n → n ≤ 900 → Bts q → (∀ o ∈ a, OkO o) → 7 * n + 300 ≤ k → ∃ r, treillageref06_Decode.l0 k x0 (a.map toR) (strOfNums q) = some r ∧ Good x0 r
  | n, [], a, k, _, _, _, ha, hk => ⟨_, l0_end x0 a ha _ (Or.inl (size_nil.2 (bytesOf_strOfNums Bts.nil))) k (by omega), end_good x0 a ha⟩
  | 0, c :: q, a, k, hn, _, _, _, _ => by simp at hn
  | n + 1, c :: q, a, k, hn, hn9, hq, ha, hk => by
    rw [List.length_cons] at hn
    by_cases hl : 20 < a.length
    · exact ⟨_, l0_end x0 a ha _ (Or.inr hl) k (by omega), end_good x0 a ha⟩
    · obtain ⟨cs, hh, hcs, hc3⟩ := has_cs c
      obtain ⟨j, rfl⟩ : ∃ j, k = j + cs.length + 3 := ⟨k - cs.length - 3, by omega⟩
      rw [l0_read x0 (a.map toR) c q cs hq (by omega) (by rw [List.length_map]; omega) j (by omega) hcs (by omega) hh]
      rcases hr : runL cs ⟨c, 0, 0, 0, ⟨#[]⟩, ⟨#[]⟩⟩ q with _ | ⟨g, r⟩
      · exact ⟨_, rfl, Or.inl rfl⟩
      · have hc := hq.head
        obtain ⟨hg, hbr, hle⟩ := runL_ok cs _ g q r hq.tail (show OkR ⟨c, 0, 0, 0, ⟨#[]⟩, ⟨#[]⟩⟩ from ⟨by show I64 c; unfold I64; omega, by show I64 0; decide, by show I64 0; decide, by show I64 0; decide⟩) hr
        have e : a.map toR ++ [g] = (a ++ [fromR g]).map toR := by rw [List.map_append, List.map_cons, List.map_nil, toR_fromR]
        simp only
        rw [e]
        refine ref_all x0 n r (a ++ [fromR g]) j (by omega) (by omega) hbr ?_ (by omega)
        intro o ho
        rcases List.mem_append.1 ho with ho | ho
        · exact ha o ho
        · rw [List.mem_singleton] at ho
          subst ho
          exact hg
/-! ### what is encoded is read -/
theorem pieceL_num (u : Int) (X : List Int) : pieceL (bytes u ++ X) = some (bytes u, X) := by
  rw [bytes_head, pieceL_cons, if_neg (by rw [List.length_append]; omega), Int.toNat_natCast, List.take_left' rfl, List.drop_left' rfl]
  rfl
theorem pieceL_txt (s : ByteArray) (X : List Int) : pieceL (((s.size : Int) :: bytesOf s) ++ X) = some ((s.size : Int) :: bytesOf s, X) := by
  have hl := bytesOf_length s
  rw [List.cons_append, pieceL_cons, if_neg (by rw [List.length_append]; omega), Int.toNat_natCast, List.take_left' hl, List.drop_left' hl]
theorem zvL_num {a : Int} (ha : I64 a) : zvL (bytes (zig a)) = a := by
  have hz := zig_range ha
  show zag (backOf ((dig 8 (zig a)).length : Int) (dig 8 (zig a))).1 = a
  unfold backOf
  rw [val_dig 8 (zig a) hz.1 (by rw [p256]; exact hz.2), if_pos ⟨rfl, dig_len 8 _, rfl⟩, zag_zig]
theorem numI_yes (a : Int) : numI true a = bytes (zig a) := rfl
theorem txtI_yes (s : ByteArray) : txtI true s = (s.size : Int) :: bytesOf s := rfl
theorem str_tail (s : ByteArray) : strOfNums ((s.size : Int) :: bytesOf s).tail = s := strOfNums_bytesOf s
theorem run_fwd (o : OpT) (hm : mayO o = true) (ho : OkO o) (X : List Int) : ∃ cs, (∀ k, 20 ≤ k → treillageref06_has.f k o.f0 = some (strOfNums cs)) ∧ Bts cs ∧ cs.length ≤ 3 ∧ runL cs ⟨o.f0, 0, 0, 0, ⟨#[]⟩, ⟨#[]⟩⟩ (tailI o ++ X) = some (toR o, X) := by
  obtain ⟨f0, f1, f2, f3, f4, f5⟩ := o
  obtain ⟨h1, h8, _, _⟩ := may_kind hm
  obtain ⟨_, _, _, b1, b2, b3, b4, b5⟩ := mayO_bare hm
  obtain ⟨_, i1, i2, i3⟩ := ho
  simp only at h1 h8 b1 b2 b3 b4 b5 i1 i2 i3
  clear hm
  unfold tailI
  simp only [toR]
  obtain rfl | rfl | rfl | rfl | rfl | rfl | rfl | rfl : f0 = 1 ∨ f0 = 2 ∨ f0 = 3 ∨ f0 = 4 ∨ f0 = 5 ∨ f0 = 6 ∨ f0 = 7 ∨ f0 = 8 := by omega
  · refine ⟨[110], fun k hk => has_1 hk, by intro x hx; simp at hx; omega, by decide, ?_⟩
    rw [show shpN 1 = 0 by decide, show shpS 1 = true by decide, show shpT 1 = false by decide]
    rw [show decide ((0 : Int) < 0) = false by decide, show decide ((1 : Int) < 0) = false by decide, show decide ((2 : Int) < 0) = false by decide]
    have z1 := b1 (decide_eq_false (by decide))
    subst z1
    have z2 := b2 (decide_eq_false (by decide))
    subst z2
    have z3 := b3 (decide_eq_false (by decide))
    subst z3
    have z5 := b5 (by decide)
    subst z5
    simp only [numI_yes, txtI_yes, numI_no, txtI_no, List.append_assoc, List.nil_append, List.append_nil]
    simp only [runL, pieceL_num, pieceL_txt, stepR, zvL_num i1, zvL_num i2, zvL_num i3, str_tail]
    try simp
  · refine ⟨[120], fun k hk => has_2 hk, by intro x hx; simp at hx; omega, by decide, ?_⟩
    rw [show shpN 2 = 0 by decide, show shpS 2 = false by decide, show shpT 2 = true by decide]
    rw [show decide ((0 : Int) < 0) = false by decide, show decide ((1 : Int) < 0) = false by decide, show decide ((2 : Int) < 0) = false by decide]
    have z1 := b1 (decide_eq_false (by decide))
    subst z1
    have z2 := b2 (decide_eq_false (by decide))
    subst z2
    have z3 := b3 (decide_eq_false (by decide))
    subst z3
    have z4 := b4 (by decide)
    subst z4
    simp only [numI_yes, txtI_yes, numI_no, txtI_no, List.append_assoc, List.nil_append, List.append_nil]
    simp only [runL, pieceL_num, pieceL_txt, stepR, zvL_num i1, zvL_num i2, zvL_num i3, str_tail]
    try simp
  · refine ⟨[120], fun k hk => has_3 hk, by intro x hx; simp at hx; omega, by decide, ?_⟩
    rw [show shpN 3 = 0 by decide, show shpS 3 = false by decide, show shpT 3 = true by decide]
    rw [show decide ((0 : Int) < 0) = false by decide, show decide ((1 : Int) < 0) = false by decide, show decide ((2 : Int) < 0) = false by decide]
    have z1 := b1 (decide_eq_false (by decide))
    subst z1
    have z2 := b2 (decide_eq_false (by decide))
    subst z2
    have z3 := b3 (decide_eq_false (by decide))
    subst z3
    have z4 := b4 (by decide)
    subst z4
    simp only [numI_yes, txtI_yes, numI_no, txtI_no, List.append_assoc, List.nil_append, List.append_nil]
    simp only [runL, pieceL_num, pieceL_txt, stepR, zvL_num i1, zvL_num i2, zvL_num i3, str_tail]
    try simp
  · refine ⟨[105, 116, 97], fun k hk => has_4 hk, by intro x hx; simp at hx; omega, by decide, ?_⟩
    rw [show shpN 4 = 3 by decide, show shpS 4 = false by decide, show shpT 4 = false by decide]
    rw [show decide ((0 : Int) < 3) = true by decide, show decide ((1 : Int) < 3) = true by decide, show decide ((2 : Int) < 3) = true by decide]
    have z4 := b4 (by decide)
    subst z4
    have z5 := b5 (by decide)
    subst z5
    simp only [numI_yes, txtI_yes, numI_no, txtI_no, List.append_assoc, List.nil_append, List.append_nil]
    simp only [runL, pieceL_num, pieceL_txt, stepR, zvL_num i1, zvL_num i2, zvL_num i3, str_tail]
    try simp
  · refine ⟨[105], fun k hk => has_5 hk, by intro x hx; simp at hx; omega, by decide, ?_⟩
    rw [show shpN 5 = 1 by decide, show shpS 5 = false by decide, show shpT 5 = false by decide]
    rw [show decide ((0 : Int) < 1) = true by decide, show decide ((1 : Int) < 1) = false by decide, show decide ((2 : Int) < 1) = false by decide]
    have z2 := b2 (decide_eq_false (by decide))
    subst z2
    have z3 := b3 (decide_eq_false (by decide))
    subst z3
    have z4 := b4 (by decide)
    subst z4
    have z5 := b5 (by decide)
    subst z5
    simp only [numI_yes, txtI_yes, numI_no, txtI_no, List.append_assoc, List.nil_append, List.append_nil]
    simp only [runL, pieceL_num, pieceL_txt, stepR, zvL_num i1, zvL_num i2, zvL_num i3, str_tail]
    try simp
  · refine ⟨[105, 110, 120], fun k hk => has_6 hk, by intro x hx; simp at hx; omega, by decide, ?_⟩
    rw [show shpN 6 = 1 by decide, show shpS 6 = true by decide, show shpT 6 = true by decide]
    rw [show decide ((0 : Int) < 1) = true by decide, show decide ((1 : Int) < 1) = false by decide, show decide ((2 : Int) < 1) = false by decide]
    have z2 := b2 (decide_eq_false (by decide))
    subst z2
    have z3 := b3 (decide_eq_false (by decide))
    subst z3
    simp only [numI_yes, txtI_yes, numI_no, txtI_no, List.append_assoc, List.nil_append, List.append_nil]
    simp only [runL, pieceL_num, pieceL_txt, stepR, zvL_num i1, zvL_num i2, zvL_num i3, str_tail]
    try simp
  · refine ⟨[105, 110], fun k hk => has_7 hk, by intro x hx; simp at hx; omega, by decide, ?_⟩
    rw [show shpN 7 = 1 by decide, show shpS 7 = true by decide, show shpT 7 = false by decide]
    rw [show decide ((0 : Int) < 1) = true by decide, show decide ((1 : Int) < 1) = false by decide, show decide ((2 : Int) < 1) = false by decide]
    have z2 := b2 (decide_eq_false (by decide))
    subst z2
    have z3 := b3 (decide_eq_false (by decide))
    subst z3
    have z5 := b5 (by decide)
    subst z5
    simp only [numI_yes, txtI_yes, numI_no, txtI_no, List.append_assoc, List.nil_append, List.append_nil]
    simp only [runL, pieceL_num, pieceL_txt, stepR, zvL_num i1, zvL_num i2, zvL_num i3, str_tail]
    try simp
  · refine ⟨[105, 120], fun k hk => has_8 hk, by intro x hx; simp at hx; omega, by decide, ?_⟩
    rw [show shpN 8 = 1 by decide, show shpS 8 = false by decide, show shpT 8 = true by decide]
    rw [show decide ((0 : Int) < 1) = true by decide, show decide ((1 : Int) < 1) = false by decide, show decide ((2 : Int) < 1) = false by decide]
    have z2 := b2 (decide_eq_false (by decide))
    subst z2
    have z3 := b3 (decide_eq_false (by decide))
    subst z3
    have z4 := b4 (by decide)
    subst z4
    simp only [numI_yes, txtI_yes, numI_no, txtI_no, List.append_assoc, List.nil_append, List.append_nil]
    simp only [runL, pieceL_num, pieceL_txt, stepR, zvL_num i1, zvL_num i2, zvL_num i3, str_tail]
    try simp
theorem ref_fwd : ∀ (m a : List OpT) (k : Nat), m.all mayO = true → (∀ o ∈ m, OkO o) → a.all mayO = true → (∀ o ∈ a, OkO o) → a.length + m.length ≤ 20 → (encsI m).length ≤ 900 → 10 * m.length + 300 ≤ k → treillageref06_Decode.l0 k (strOfNums (encsI (a ++ m))) (a.map toR) (strOfNums (encsI m)) = some ((a ++ m).map toR, 0)
  | [], a, k, _, _, ha, hao, hl, _, hk => by
    rw [List.append_nil, show (encsI [] : List Int) = [] from rfl, l0_end _ a hao _ (Or.inl (size_nil.2 (bytesOf_strOfNums Bts.nil))) k (by omega), encR_le (by simpa using hl), if_pos ha]
    simp
  | o :: m, a, k, hm, hok, ha, hao, hl, hq, hk => by
    rw [List.all_cons, Bool.and_eq_true] at hm
    rw [List.length_cons] at hl hk
    have hb : Bts (o.f0 :: (tailI o ++ encsI m)) := encsI_bts (l := o :: m) (by rw [List.all_cons, hm.1, hm.2]; rfl)
    have hq2 : (o.f0 :: (tailI o ++ encsI m)).length ≤ 900 := hq
    rw [List.length_cons, List.length_append] at hq2
    obtain ⟨cs, hh, hcs, hc3, hr⟩ := run_fwd o hm.1 (hok o (List.mem_cons_self ..)) (encsI m)
    obtain ⟨j, rfl⟩ : ∃ j, k = j + cs.length + 3 := ⟨k - cs.length - 3, by omega⟩
    have e0 : strOfNums (encsI (o :: m)) = strOfNums (o.f0 :: (tailI o ++ encsI m)) := rfl
    rw [e0, l0_read _ (a.map toR) o.f0 (tailI o ++ encsI m) cs hb (by rw [List.length_append]; omega) (by rw [List.length_map]; omega) j (by omega) hcs (by omega) hh, hr]
    have e : a.map toR ++ [toR o] = (a ++ [o]).map toR := by rw [List.map_append]; rfl
    simp only
    rw [e, show a ++ o :: m = (a ++ [o]) ++ m by simp]
    refine ref_fwd m (a ++ [o]) j hm.2 (fun x hx => hok x (List.mem_cons_of_mem _ hx)) (by rw [List.all_append, ha]; simp [hm.1]) ?_ (by rw [List.length_append]; simp; omega) (by omega) (by omega)
    intro x hx
    rcases List.mem_append.1 hx with hx | hx
    · exact hao x hx
    · rw [List.mem_singleton] at hx
      subst hx
      exact hok _ (List.mem_cons_self ..)
/-- What the reference's Decode tells of any bytes. -/
theorem refDecode_eq (s : ByteArray) (hs : s.size ≤ 400) : ∃ r, (∀ k, 10000 ≤ k → treillageref06_Decode.f k s = some r) ∧ Good s r ∧ ∀ m : List OpT, m.all mayO = true → (∀ o ∈ m, OkO o) → m.length ≤ 20 → bytesOf s = encsI m → r = (m.map toR, 0) := by
  obtain ⟨r, h1, h2⟩ := ref_all s 400 (bytesOf s) [] 10000 (by rw [bytesOf_length]; exact hs) (by decide) (bts_bytesOf s) (fun o ho => by cases ho) (by decide)
  rw [strOfNums_bytesOf] at h1
  refine ⟨r, fun k hk => ?_, h2, fun m hm hok hl hq => ?_⟩
  · unfold treillageref06_Decode.f
    exact at_rounds (fun k => (treillageref06_Decode.mono_l k).1 s [] s) hk h1
  · have h3 := ref_fwd m [] 10000 hm hok rfl (fun o ho => by cases ho) (by simpa using hl) (by rw [← hq, bytesOf_length]; omega) (by omega)
    rw [List.nil_append, ← hq, strOfNums_bytesOf] at h3
    rw [List.map_nil] at h1 h3
    rw [h1] at h3
    exact Option.some.inj h3
end Go.Proofs.YtooefecjkgdpbaaDoor.Pure
