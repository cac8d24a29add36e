/-
  ClientWaits, the plain law: a Submit that is put waits until its own answer stands in its cell; it is told just that.
-/
import Derived.WalkKit
import Derived.Laws.Bits64
import Derived.Laws.BitsLemmas
import Derived.Laws.BitsAllLaws
import Derived.RowKit
import Derived.Test.YtieglelnpiogcaaPWx11
namespace Go.Proofs.Ytieglelnpiogcaa.Pure
set_option linter.unusedVariables false
set_option linter.unusedSimpArgs false
set_option maxRecDepth 100000
open Go.RowKit Go.Proofs.Ytieglelnpiogcaa.PW Go.Proofs.YtieglelnpiogcaaW.PrintWords Go.Proofs.YtieglelnpiogcaaW.PrintLast Go.Proofs.YtieglelnpiogcaaW.PrintMore Go.Proofs.YtieglelnpiogcaaH

theorem wraps_u64 (n : Int) (h₀ : 0 ≤ n) (h₁ : n < 2 ^ 64) : IntKind.u64.wrap n = n := by rw [IntKind.wrap_u64]; omega
theorem wf_u8 {n : Int} (h : (Lit.int .u8 n).wf = true) : 0 ≤ n ∧ n < 256 := by
  simp only [Lit.wf, Bool.and_eq_true, decide_eq_true_eq] at h
  have hmin : IntKind.u8.min = 0 := rfl
  have hmax : IntKind.u8.max = 255 := rfl
  omega
theorem join_u64 (i : Nat) (hi : i ≤ 64) (x y : Int) (hx0 : 0 ≤ x) (hx : x % 2 ^ i = 0) (hx1 : x < 18446744073709551616) (hy0 : 0 ≤ y) (hy : y < 2 ^ i) : bits .or .u64 x y = x + y := by
  refine bits_join .u64 64 (by decide) wraps_u64 i x y hx0 hx hx1 hy0 hy ?_
  have : (2 : Int) ^ i ≤ 2 ^ 64 := by exact_mod_cast Nat.pow_le_pow_right (by decide) hi
  omega
abbrev CallT := S44
abbrev DoneT := S74
abbrev Cl := Int × Int × Int × Int × Int × Int × Int × Int × Int × List DoneT
def lc : List CallT := [⟨5, [], ⟨0, 0, 0, ⟨#[]⟩⟩⟩, ⟨1, [], ⟨0, 0, 0, ⟨#[]⟩⟩⟩]
def wantC (sh : Int) (c : Cl) := client_Want.f 2 sh lc c.1 c.2.1 c.2.2.1 c.2.2.2.1 c.2.2.2.2.1 c.2.2.2.2.2.1 c.2.2.2.2.2.2.1 c.2.2.2.2.2.2.2.1 c.2.2.2.2.2.2.2.2.1 c.2.2.2.2.2.2.2.2.2
def gotC (sh : Int) (c : Cl) (v : Int) (so : Bool) := client_Got.f 2 sh lc c.1 c.2.1 c.2.2.1 c.2.2.2.1 c.2.2.2.2.1 c.2.2.2.2.2.1 c.2.2.2.2.2.2.1 c.2.2.2.2.2.2.2.1 c.2.2.2.2.2.2.2.2.1 c.2.2.2.2.2.2.2.2.2 v so
/-- A round: what is wanted is done, and told. -/
def stp (sh : Int) (s : List Int × Cl) : Option (List Int × Cl) :=
  (wantC sh s.2).bind fun a => (mem_Do.f s.1 a.1 a.2.1 a.2.2.1 a.2.2.2.1).bind fun d => if a.2.2.2.2 = true then (gotC sh s.2 d.2.1 d.2.2).bind fun c => some (d.1, c) else none
def lp (k : Nat) (x1 x2 x3 sh : Int) (s : List Int × Cl) (i : Int) := treillagelaw17_ClientWaits.l0 k x1 x2 x3 s.1 lc i 2 sh s.2.1 s.2.2.1 s.2.2.2.1 s.2.2.2.2.1 s.2.2.2.2.2.1 s.2.2.2.2.2.2.1 s.2.2.2.2.2.2.2.1 s.2.2.2.2.2.2.2.2.1 s.2.2.2.2.2.2.2.2.2.1 s.2.2.2.2.2.2.2.2.2.2
def jp (k : Nat) (x2 x3 sh : Int) (s : List Int × Cl) (b : Bool) := treillagelaw17_ClientWaits.j1 k x2 x3 s.1 lc b 2 sh s.2.1 s.2.2.1 s.2.2.2.1 s.2.2.2.2.1 s.2.2.2.2.2.1 s.2.2.2.2.2.2.1 s.2.2.2.2.2.2.2.1 s.2.2.2.2.2.2.2.2.1 s.2.2.2.2.2.2.2.2.2.1 s.2.2.2.2.2.2.2.2.2.2
def rounds (x1 : Int) : Int := wrap64 (6 + (Int.tmod (wrap64 x1) 30))
theorem lp_step {sh : Int} {s s' : List Int × Cl} (h : stp sh s = some s') (k : Nat) (x1 x2 x3 i : Int) (hi : i < rounds x1) : lp (k + 1) x1 x2 x3 sh s i = lp k x1 x2 x3 sh s' (wrap64 (i + 1)) := by
  unfold stp at h
  obtain ⟨a, ha, h⟩ := Option.bind_eq_some_iff.1 h
  obtain ⟨d, hd, h⟩ := Option.bind_eq_some_iff.1 h
  by_cases hb : a.2.2.2.2 = true
  · rw [if_pos hb] at h
    obtain ⟨c, hc, h⟩ := Option.bind_eq_some_iff.1 h
    rw [← Option.some.inj h]
    unfold lp
    simp only [treillagelaw17_ClientWaits.l0]
    unfold rounds at hi
    unfold wantC at ha
    unfold gotC at hc
    rw [if_pos hi, ha, Option.bind_some, hd, Option.bind_some, if_pos hb, hc, Option.bind_some]
  · rw [if_neg hb] at h
    cases h
theorem lp_fix {sh : Int} {s : List Int × Cl} (h : stp sh s = some s) (x1 x2 x3 : Int) (hr : rounds x1 ≤ 100) : ∀ (d k : Nat) (i : Int), 0 ≤ i → i + d = rounds x1 → lp (k + d) x1 x2 x3 sh s i = lp k x1 x2 x3 sh s (rounds x1)
  | 0, k, i, _, hi => by rw [← hi]; simp
  | d + 1, k, i, h0, hi => by
    have e : wrap64 (i + 1) = i + 1 := by unfold wrap64; omega
    rw [show k + (d + 1) = (k + d) + 1 from rfl, lp_step h _ _ _ _ _ (by omega), e]
    exact lp_fix h x1 x2 x3 hr d k (i + 1) (by omega) (by omega)
theorem told_val (b c : Int) (hb : 0 ≤ b ∧ b < 256) (hc : 0 ≤ c ∧ c < 256) : mem_Told.f 1 b c = some (8589934592 + b * 65536 + c) := by
  unfold mem_Told.f
  rw [IntKind.wrap_u16, IntKind.wrap_u16, show b % 65536 = b by omega, show c % 65536 = c by omega, show wrap64 (1 + 1) % 4294967296 * 4294967296 = 8589934592 by decide +kernel]
  rw [IntKind.wrap_u64, IntKind.wrap_u64, IntKind.wrap_u64, show b % 18446744073709551616 = b by omega, show c % 18446744073709551616 = c by omega, show b * 65536 % 18446744073709551616 = b * 65536 by omega]
  rw [join_u64 32 (by decide) 8589934592 (b * 65536) (by omega) (by omega) (by omega) (by omega) (by omega)]
  rw [join_u64 16 (by decide) (8589934592 + b * 65536) c (by omega) (by omega) (by omega) (by omega) (by omega)]
def fin (x2 x3 : Int) (b : Cl) : Option Bool :=
  if b.2.1 = 2 then (if (b.2.2.2.2.2.2.2.2.2.length : Int) = 2 then (if 1 < (b.2.2.2.2.2.2.2.2.2.length : Int) then (if ((rd_T74 b.2.2.2.2.2.2.2.2.2 1).f1) = (wrap64 (x2)) then (if ((rd_T74 b.2.2.2.2.2.2.2.2.2 1).f0) = (wrap64 (x3)) then (if 0 < (b.2.2.2.2.2.2.2.2.2.length : Int) then (some (((rd_T74 b.2.2.2.2.2.2.2.2.2 0).f0) == 170)) else (none)) else (some false)) else (some false)) else (none)) else (some false)) else (some false)
def cl (a b c d : Int) (l : List DoneT) : Cl := (1, a, b, c, 0, d, 0, 0, 0, l)
def dn : List DoneT := [⟨170, 0, 0⟩]
def ms (a b c : Int) (t : List Int) : List Int := 0 :: 0 :: 0 :: 0 :: 0 :: 0 :: a :: b :: c :: t
/-- What a layout's cells come to. -/
structure Facts (sh : Int) (t : List Int) : Prop where
  n : mem_New.f 100 2 sh = some (ms 0 0 0 t)
  s1 : stp sh (ms 0 0 0 t, cl 0 0 0 0 []) = some (ms 0 0 0 t, cl 1 0 0 0 dn)
  s2 : stp sh (ms 0 0 0 t, cl 1 0 0 0 dn) = some (ms 0 0 0 t, cl 1 0 1 65537 dn)
  s3 : stp sh (ms 0 0 0 t, cl 1 0 1 65537 dn) = some (ms 0 0 0 t, cl 1 0 2 65537 dn)
  s4 : stp sh (ms 0 0 0 t, cl 1 0 2 65537 dn) = some (ms 1 0 0 t, cl 1 0 3 65537 dn)
  s5 : stp sh (ms 1 0 0 t, cl 1 0 3 65537 dn) = some (ms 1 0 65537 t, cl 1 0 4 65537 dn)
  s6 : stp sh (ms 1 0 65537 t, cl 1 0 4 65537 dn) = some (ms 1 1 65537 t, cl 1 1 5 65537 dn)
  s7 : stp sh (ms 1 1 65537 t, cl 1 1 5 65537 dn) = some (ms 1 1 65537 t, cl 1 1 5 65537 dn)
  T : ∀ (k : Nat) (x1 x2 x3 i : Int), ¬ i < rounds x1 → lp (k + 1) x1 x2 x3 sh (ms 1 1 65537 t, cl 1 1 5 65537 dn) i = jp k x2 x3 sh (ms 1 1 65537 t, cl 1 1 5 65537 dn) false
  R0 : mem_Result.f 2 sh 0 = some 4
  R1 : mem_Result.f 2 sh 1 = some 5
  W : wantC sh (cl 1 1 5 65537 dn) = some (1, 5, 0, 0, true)
  D : mem_Do.f (((ms 1 1 65537 t).set (4 : Int).toNat 8590524425).set (5 : Int).toNat 4295491592) 1 5 0 0 = some (((ms 1 1 65537 t).set (4 : Int).toNat 8590524425).set (5 : Int).toNat 4295491592, 4295491592, true)
  Gt : gotC sh (cl 1 1 5 65537 dn) 4295491592 true = some (cl 1 1 5 65537 dn)
  G : ∀ T : Int, gotC sh (cl 1 1 5 65537 dn) T true = client_Client_submits.f 10 1 1 1 5 0 65537 0 0 0 dn 0 T true
theorem facts1 : Facts 1 [1, 0] := {
  n := by kernel_rfl, s1 := by kernel_rfl, s2 := by kernel_rfl, s3 := by kernel_rfl, s4 := by kernel_rfl, s5 := by kernel_rfl, s6 := by kernel_rfl, s7 := by kernel_rfl,
  T := fun k x1 x2 x3 i hi => by (unfold lp; simp only [treillagelaw17_ClientWaits.l0]; unfold rounds at hi; rw [if_neg hi]; kernel_rfl),
  R0 := by kernel_rfl, R1 := by kernel_rfl, W := by kernel_rfl, D := by kernel_rfl, Gt := by kernel_rfl,
  G := fun T => by kernel_rfl }
theorem facts2 : Facts 2 [1, 0, 2, 0, 3, 0] := {
  n := by kernel_rfl, s1 := by kernel_rfl, s2 := by kernel_rfl, s3 := by kernel_rfl, s4 := by kernel_rfl, s5 := by kernel_rfl, s6 := by kernel_rfl, s7 := by kernel_rfl,
  T := fun k x1 x2 x3 i hi => by (unfold lp; simp only [treillagelaw17_ClientWaits.l0]; unfold rounds at hi; rw [if_neg hi]; kernel_rfl),
  R0 := by kernel_rfl, R1 := by kernel_rfl, W := by kernel_rfl, D := by kernel_rfl, Gt := by kernel_rfl,
  G := fun T => by kernel_rfl }
theorem facts3 : Facts 3 [1, 0, 2, 0, 3, 0, 4, 0, 5, 0, 6, 0, 7, 0] := {
  n := by kernel_rfl, s1 := by kernel_rfl, s2 := by kernel_rfl, s3 := by kernel_rfl, s4 := by kernel_rfl, s5 := by kernel_rfl, s6 := by kernel_rfl, s7 := by kernel_rfl,
  T := fun k x1 x2 x3 i hi => by (unfold lp; simp only [treillagelaw17_ClientWaits.l0]; unfold rounds at hi; rw [if_neg hi]; kernel_rfl),
  R0 := by kernel_rfl, R1 := by kernel_rfl, W := by kernel_rfl, D := by kernel_rfl, Gt := by kernel_rfl,
  G := fun T => by kernel_rfl }
theorem facts4 : Facts 4 [1, 0, 2, 0, 3, 0, 4, 0, 5, 0, 6, 0, 7, 0, 8, 0, 9, 0, 10, 0, 11, 0, 12, 0, 13, 0, 14, 0, 15, 0] := {
  n := by kernel_rfl, s1 := by kernel_rfl, s2 := by kernel_rfl, s3 := by kernel_rfl, s4 := by kernel_rfl, s5 := by kernel_rfl, s6 := by kernel_rfl, s7 := by kernel_rfl,
  T := fun k x1 x2 x3 i hi => by (unfold lp; simp only [treillagelaw17_ClientWaits.l0]; unfold rounds at hi; rw [if_neg hi]; kernel_rfl),
  R0 := by kernel_rfl, R1 := by kernel_rfl, W := by kernel_rfl, D := by kernel_rfl, Gt := by kernel_rfl,
  G := fun T => by kernel_rfl }
theorem V1 : mem_Told.f 1 9 9 = some 8590524425 := by kernel_rfl
theorem V0 : mem_Told.f 0 8 8 = some 4295491592 := by kernel_rfl
theorem at_end {sh : Int} {t : List Int} (F : Facts sh t) (k : Nat) (x2 x3 : Int) : jp (k + 1) x2 x3 sh (ms 1 1 65537 t, cl 1 1 5 65537 dn) false = (mem_Told.f 1 (wrap64 x2) (wrap64 x3)).bind fun T => (gotC sh (cl 1 1 5 65537 dn) T true).bind fun b => fin x2 x3 b := by
  have hW := F.W
  have hG := F.Gt
  have hD := F.D
  unfold wantC at hW
  unfold gotC at hG
  have l5 : (5 : Int) < ((ms 1 1 65537 t).length : Int) := by simp [ms]; omega
  unfold jp
  simp only [treillagelaw17_ClientWaits.j1]
  rw [if_neg (by decide), F.R0, Option.bind_some, V1, Option.bind_some, if_pos (by decide), if_pos (by omega), F.R1, Option.bind_some, V0, Option.bind_some, if_pos (by decide), if_pos l5, hW, Option.bind_some]
  dsimp only
  rw [hD, Option.bind_some, hG, Option.bind_some, if_pos (by rfl)]
  unfold gotC fin
  rfl
theorem sub_eq (b c : Int) (hb : 0 ≤ b ∧ b < 256) (hc : 0 ≤ c ∧ c < 256) : client_Client_submits.f 10 1 1 1 5 0 65537 0 0 0 dn 0 (8589934592 + b * 65536 + c) true = some (cl 2 0 0 0 [⟨170, 0, 0⟩, ⟨c, b, 0⟩]) := by
  have e1 : wrap64 (wrap64 ((8589934592 + b * 65536 + c) / 4294967296) - 1) = 1 := by unfold wrap64; omega
  have e2 : wrap64 ((8589934592 + b * 65536 + c) % 65536) = c := by unfold wrap64; omega
  have e3 : wrap64 (((8589934592 + b * 65536 + c) / 65536) % 65536) = b := by unfold wrap64; omega
  unfold client_Client_submits.f mem_Call.f mem_Errno.f mem_Place.f client_Client_end.f
  rw [if_pos (by decide), Option.bind_some, if_pos e1, Option.bind_some, Option.bind_some, IntKind.wrap_u16, IntKind.wrap_u16, e2, e3, if_pos (by decide), Option.bind_some, show wrap64 (1 + 1) = 2 by decide +kernel]
  rfl
theorem fin_eq (b c : Int) (x2 x3 : Int) (h2 : wrap64 x2 = b) (h3 : wrap64 x3 = c) : fin x2 x3 (cl 2 0 0 0 [⟨170, 0, 0⟩, ⟨c, b, 0⟩]) = some true := by
  unfold fin cl
  rw [h2, h3]
  simp only
  rw [if_pos trivial, if_pos (by simp), if_pos (by simp), if_pos (by rfl), if_pos (by rfl), if_pos (by simp)]
  rfl
theorem shown17 : treillagelaw17_shown.f 40 = some true := by decide +kernel
theorem from_facts {sh : Int} {t : List Int} (F : Facts sh t) (x1 x2 x3 : Int) (h1 : 6 ≤ rounds x1 ∧ rounds x1 ≤ 35) (h2 : 0 ≤ x2 ∧ x2 < 256) (h3 : 0 ≤ x3 ∧ x3 < 256) : lp 200 x1 x2 x3 sh (ms 0 0 0 t, cl 0 0 0 0 []) 0 = some true := by
  have e2 : wrap64 x2 = x2 := by unfold wrap64; omega
  have e3 : wrap64 x3 = x3 := by unfold wrap64; omega
  obtain ⟨d, hd⟩ : ∃ d : Nat, (6 : Int) + d = rounds x1 := ⟨(rounds x1 - 6).toNat, by omega⟩
  rw [lp_step F.s1 199 x1 x2 x3 0 (by omega), show wrap64 (0 + 1) = 1 by decide +kernel, lp_step F.s2 198 x1 x2 x3 1 (by omega), show wrap64 (1 + 1) = 2 by decide +kernel, lp_step F.s3 197 x1 x2 x3 2 (by omega), show wrap64 (2 + 1) = 3 by decide +kernel, lp_step F.s4 196 x1 x2 x3 3 (by omega), show wrap64 (3 + 1) = 4 by decide +kernel, lp_step F.s5 195 x1 x2 x3 4 (by omega), show wrap64 (4 + 1) = 5 by decide +kernel, lp_step F.s6 194 x1 x2 x3 5 (by omega), show wrap64 (5 + 1) = 6 by decide +kernel]
  obtain ⟨k, hk⟩ : ∃ k : Nat, 194 = (k + 2) + d := ⟨192 - d, by omega⟩
  rw [hk, lp_fix F.s7 x1 x2 x3 (by omega) d (k + 2) 6 (by omega) hd, F.T (k + 1) x1 x2 x3 _ (by omega), at_end F k x2 x3, e2, e3, told_val x2 x3 h2 h3, Option.bind_some, F.G, sub_eq x2 x3 h2 h3, Option.bind_some]
  exact fin_eq x2 x3 x2 x3 e2 e3
theorem ClientWaits : treillagelaw17_ClientWaits.Pure := by
  intro a0 a1 a2 a3 w0 w1 w2 w3
  have w0 := wf_u8 w0
  have w1 := wf_u8 w1
  have w2 := wf_u8 w2
  have w3 := wf_u8 w3
  have hr : 6 ≤ rounds a1 ∧ rounds a1 ≤ 35 := by
    unfold rounds
    rw [show wrap64 a1 = a1 by unfold wrap64; omega, Int.tmod_eq_emod_of_nonneg w1.1]
    unfold wrap64
    omega
  refine ⟨200, ?_⟩
  unfold treillagelaw17_ClientWaits.f
  rw [at_rounds treillagelaw17_shown.mono (show 40 ≤ 200 by decide) shown17, Option.bind_some, if_pos rfl]
  have go : ∀ (sh : Int) (t : List Int), Facts sh t → wrap64 (1 + (Int.tmod (wrap64 a0) 4)) = sh → ((mem_New.f 200 2 (wrap64 (1 + (Int.tmod (wrap64 a0) 4)))).bind fun m => lp 200 a1 a2 a3 (wrap64 (1 + (Int.tmod (wrap64 a0) 4))) (m, cl 0 0 0 0 []) 0) = some true := by
    intro sh t F e
    rw [e, at_rounds (fun k => mem_New.mono 2 sh k) (show 100 ≤ 200 by decide) F.n, Option.bind_some]
    exact from_facts F a1 a2 a3 hr w2 w3
  have e : wrap64 a0 = a0 := by unfold wrap64; omega
  have e4 : Int.tmod (wrap64 a0) 4 = a0 % 4 := by rw [e, Int.tmod_eq_emod_of_nonneg w0.1]
  have h4 : a0 % 4 = 0 ∨ a0 % 4 = 1 ∨ a0 % 4 = 2 ∨ a0 % 4 = 3 := by omega
  rcases h4 with h | h | h | h
  · exact go 1 _ facts1 (by rw [e4, h]; decide +kernel)
  · exact go 2 _ facts2 (by rw [e4, h]; decide +kernel)
  · exact go 3 _ facts3 (by rw [e4, h]; decide +kernel)
  · exact go 4 _ facts4 (by rw [e4, h]; decide +kernel)
end Go.Proofs.Ytieglelnpiogcaa.Pure
