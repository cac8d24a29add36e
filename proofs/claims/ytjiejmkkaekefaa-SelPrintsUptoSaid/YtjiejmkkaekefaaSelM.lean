
import Derived.Test.YtjiejmkkaekefaaSelK
import Derived.Test.YtjiejmkkaekefaaSelN
/-
  A text that holds another at a place; what stands there is read so; the text of a selector, with any blanks around commas and marks, is read back to it.
-/
namespace Go.Proofs.Ytjiejmkkaekefaa.PureS
set_option linter.unusedVariables false
set_option linter.unusedSimpArgs false
open Go.RowKit Go.Proofs.Ytjiejmkkaekefaa.PA Go.Proofs.YtjiejmkkaekefaaW.PrintWords Go.Proofs.YtjiejmkkaekefaaW.PrintLast Go.Proofs.YtjiejmkkaekefaaW.PrintMore Go.Proofs.YtjiejmkkaekefaaH
def tc : List Tst → By
  | [] => (⟨#[]⟩ : By)
  | t :: l => tk t ++ tc l
theorem app_nil (a : By) : a ++ (⟨#[]⟩ : By) = a := by apply data_ext; rw [cat_data]; exact List.append_nil _
theorem nil_app (a : By) : (⟨#[]⟩ : By) ++ a = a := by apply data_ext; rw [cat_data]; exact List.nil_append _
theorem tcat_eq (l : List Tst) : ∀ s : By, tcat s l = s ++ tc l := by
  induction l with
  | nil => intro s; exact (app_nil s).symm
  | cons t l ih => intro s; rw [tcat, ih, ByteArray.append_assoc]; rfl
def body (c : List Tst) : By := if c.length = 0 then (⟨#[42]⟩ : By) else tc c
theorem body_eq (s : By) (c : List Tst) : tcat (star s c) c = s ++ body c := by
  rw [tcat_eq]
  unfold star body
  by_cases h : c.length = 0
  · rw [if_pos h, if_pos h, List.length_eq_zero_iff.1 h]
    exact app_nil _
  · rw [if_neg h, if_neg h]
def srow (G D : By) : List Stp → By
  | [] => (⟨#[]⟩ : By)
  | x :: l => body x.f0 ++ (match l with
    | [] => (⟨#[]⟩ : By)
    | y :: _ => (if y.f1 = true then G else D) ++ srow G D l)
theorem srow_one (G D : By) (x : Stp) : srow G D [x] = body x.f0 := by rw [srow]; exact app_nil _
theorem srow_more (G D : By) (x y : Stp) (l : List Stp) : srow G D (x :: y :: l) = body x.f0 ++ ((if y.f1 = true then G else D) ++ srow G D (y :: l)) := by rw [srow]
def slist (G D C : By) : List (List Stp) → By
  | [] => (⟨#[]⟩ : By)
  | r :: l => srow G D r ++ (match l with
    | [] => (⟨#[]⟩ : By)
    | _ :: _ => C ++ slist G D C l)
theorem slist_one (G D C : By) (r : List Stp) : slist G D C [r] = srow G D r := by rw [slist]; exact app_nil _
theorem slist_more (G D C : By) (r r2 : List Stp) (l : List (List Stp)) : slist G D C (r :: r2 :: l) = srow G D r ++ (C ++ slist G D C (r2 :: l)) := by rw [slist]
abbrev Gs : By := ⟨#[32, 62, 32]⟩
abbrev Ds : By := ⟨#[32]⟩
abbrev Cs : By := ⟨#[44, 32]⟩
theorem sep_succ (s : By) (n : Nat) (b : Bool) : sep s (n + 1) b = s ++ (if b = true then Gs else Ds) := by
  unfold sep
  cases b with
  | true => rw [if_pos ⟨Nat.succ_pos n, rfl⟩, if_pos rfl]
  | false => rw [if_neg (fun q => by cases q.2), if_pos (Nat.succ_pos n), if_neg (by decide)]
theorem rtx_eq : ∀ (l : List Stp) (x : Stp) (n : Nat) (s : By), rtx s n (x :: l) = (sep s n x.f1) ++ srow Gs Ds (x :: l) := by
  intro l
  induction l with
  | nil => intro x n s; rw [rtx, rtx, body_eq, srow_one]
  | cons y l ih =>
    intro x n s
    rw [rtx, body_eq, ih, srow_more, sep_succ]
    simp only [ByteArray.append_assoc]
theorem rtx0 (r : List Stp) : rtx (⟨#[]⟩ : By) 0 r = srow Gs Ds r := by
  cases r with
  | nil => rfl
  | cons x l =>
    rw [rtx_eq]
    unfold sep
    rw [if_neg (fun q => absurd q.1 (by decide)), if_neg (by decide), nil_app]
theorem text_data : ∀ l : List (List Stp), Lib.join ((rowsTx l).map (·.data.toList)) [44, 32] = (slist Gs Ds Cs l).data.toList := by
  intro l
  induction l with
  | nil => rfl
  | cons r l ih =>
    cases l with
    | nil =>
      rw [slist_one, ← rtx0]
      unfold rowsTx Lib.join
      simp [List.intercalate]
    | cons r2 l =>
      rw [slist_more, cat_data, cat_data, ← ih, ← rtx0]
      unfold rowsTx Lib.join
      simp [List.intercalate]
theorem text_eq (l : List (List Stp)) : text l = slist Gs Ds Cs l := by
  unfold text
  rw [text_data]
end Go.Proofs.Ytjiejmkkaekefaa.PureS
