-- Written by wip/hprint/hprint.py (a program of this session, over the print): not typed by hand
import Derived.Test.YtjnfllaonkeefaaProg
import Derived.Below
import Derived.Deep.Draws
import Derived.Deep.AppendLies
import Derived.Maps.AppendAt
import Derived.OwnWalk
import Derived.Laws.BytesArg
import Derived.Laws.MakeOwn
import Derived.Laws.OwnMore
import Derived.Deep.OwnRows
import Derived.Tactics
import Derived.Lib.ConvBytes
import Derived.Laws.Slices
import Derived.WalkKit
import Derived.KernelRfl
import Derived.RowKit3
import Derived.Deep.LoopGhost
import Derived.Deep.QuietTactic
import Derived.BigQuiet
import Derived.WideLaws
import Derived.Deep.DeepCutAuto
import Derived.Deep.CutBlock
import Derived.Deep.RegionHeld3
import Derived.Laws.Rows
import Derived.Lib.AppendStr
import Derived.ArgAppend
import Derived.Laws.IdiomCopy
import Derived.OrdersHeld
import Derived.Laws.BitsLemmas
import Derived.RowKit
import Derived.Test.YtjnfllaonkeefaaWWords
import Derived.Test.YtjnfllaonkeefaaWLast
import Derived.Test.YtjnfllaonkeefaaWTab
import Derived.Test.YtjnfllaonkeefaaWFour
import Derived.Test.YtjnfllaonkeefaaWQPut
import Derived.Test.YtjnfllaonkeefaaWApart
import Derived.Test.YtjnfllaonkeefaaWArr
import Derived.Test.YtjnfllaonkeefaaWZeros
import Derived.Test.YtjnfllaonkeefaaWFoot
import Derived.Test.YtjnfllaonkeefaaWKept
import Derived.Test.YtjnfllaonkeefaaWShare
import Derived.Test.YtjnfllaonkeefaaWN
import Derived.Test.YtjnfllaonkeefaaWFootNe
import Derived.Test.YtjnfllaonkeefaaWAt
import Derived.Test.YtjnfllaonkeefaaWEqStruct
import Derived.Test.YtjnfllaonkeefaaWRepsOne
import Derived.Test.YtjnfllaonkeefaaWInv
import Derived.Test.YtjnfllaonkeefaaWInvWords
import Derived.Test.YtjnfllaonkeefaaWGuard
import Derived.Test.YtjnfllaonkeefaaWNEv
import Derived.Test.YtjnfllaonkeefaaWMore
import Derived.Test.YtjnfllaonkeefaaH
namespace Go.Proofs.Ytjnfllaonkeefaa.PH
open Go.RowKit Go.Proofs.YtjnfllaonkeefaaW.PrintWords Go.Proofs.YtjnfllaonkeefaaW.PrintLast Go.Proofs.YtjnfllaonkeefaaW.PrintMore
attribute [local go_sem] max2_int min2_int max_two min_two max_three min_three max_four min_four   -- for this text's walks alone
open Go.Proofs.YtjnfllaonkeefaaH
set_option linter.unusedVariables false
set_option linter.unusedSimpArgs false



def errW : Option Int → Value
 | none => .nilIface
 | some c => .iface 0 (.int .i64 c)
theorem errW_none : errW none = .nilIface := rfl
theorem errW_some (c : Int) : errW (some c) = .iface 0 (.int .i64 c) := rfl

theorem info22 : (Try.prog.info? 22).map (fun i => (i.zero, i.size, i.bytes)) = some (some (.int .u64 0), 1, 8) := by kernel_rfl
theorem info60 : (Try.prog.info? 60).map (fun i => (i.zero, i.size, i.bytes)) = some (some (.agg #[(.bool false), (.bool false), (.bool false), (.bool false)]), 4, 4) := by kernel_rfl
theorem info64 : (Try.prog.info? 64).map (fun i => (i.zero, i.size, i.bytes)) = some (some (.agg #[(.int .u64 0), (.slice none 0 0), (.slice none 0 0)]), 3, 56) := by kernel_rfl
-- the values' own types
def rd_L1 (xs : List (List Int)) (i : Int) : (List Int) := xs.getD i.toNat ([] : List Int)
theorem at_L1 {w : World} {A : Option Addr} {n : Nat} {xs : List (List Int)} (h : Kd.C (Kd.slice 22 (Kd.int .u64)) w A n xs) (i : Int) (h0 : 0 ≤ i) (h1 : i < n) : ∃ ad A0 c0, A = some ad ∧ w.cell? (ad.add i.toNat) = some (.slice A0 (rd_L1 xs i).length c0) ∧ (rd_L1 xs i).length ≤ c0 ∧ (Kd.int .u64).C w A0 (rd_L1 xs i).length (rd_L1 xs i) := by
 obtain ⟨ad, c, e, _, hK, hc0⟩ := Kd.C_get h ([] : List Int) i h0 h1; have hc : ∀ j u, c[j]? = some u → w.cell? (ad.add (i.toNat * 1 + j)) = some u := hc0; obtain ⟨A0, c0, rfl, l0, g0⟩ := hK; exact ⟨ad, A0, c0, e, by have hq := hc 0 _ rfl; rwa [Nat.mul_one, Nat.add_zero] at hq, l0, g0⟩

/-! #### struct type 30 -/
structure S30 where
 f0 : (List Int)
 f1 : (List Int)
def z30 : S30 := ⟨([] : List Int), ([] : List Int)⟩
def k30 : Kd S30 := Kd.iso (Kd.pair (Kd.slice 22 (Kd.int .u64)) (Kd.slice 22 (Kd.int .u64))) (fun x : S30 => (x.f0, x.f1))
theorem k30_open {w : World} {x : S30} {cs : List Value} (h : k30.K w x cs) : ∃ A0 c0 A1 c1, cs = [.slice A0 x.f0.length c0, .slice A1 x.f1.length c1] ∧ x.f0.length ≤ c0 ∧ (Kd.int .u64).C w A0 x.f0.length x.f0 ∧ x.f1.length ≤ c1 ∧ (Kd.int .u64).C w A1 x.f1.length x.f1 := by
 obtain ⟨_, _, rfl, ⟨A0, c0, rfl, l0, g0⟩, ⟨A1, c1, rfl, l1, g1⟩⟩ := h; exact ⟨A0, c0, A1, c1, rfl, l0, g0, l1, g1⟩
theorem k30_openM {w : World} {base : Nat} {ok : Nat → Prop} {x : S30} {cs : List Value} (h : k30.M w base ok x cs) : ∃ v0 v1, cs = [v0, v1] ∧ (Kd.int .u64).R 22 w base ok v0 x.f0 ∧ (Kd.int .u64).R 22 w base ok v1 x.f1 := by
 obtain ⟨_, _, rfl, ⟨v0, rfl, g0⟩, ⟨v1, rfl, g1⟩⟩ := h; exact ⟨v0, v1, rfl, g0, g1⟩
theorem k30_mk (w : World) (x : S30) {A0 : Option Addr} {c0 : Nat} (l0 : x.f0.length ≤ c0) (g0 : (Kd.int .u64).C w A0 x.f0.length x.f0) {A1 : Option Addr} {c1 : Nat} (l1 : x.f1.length ≤ c1) (g1 : (Kd.int .u64).C w A1 x.f1.length x.f1) : k30.K w x [.slice A0 x.f0.length c0, .slice A1 x.f1.length c1] := ⟨[.slice A0 x.f0.length c0], [.slice A1 x.f1.length c1], rfl, ⟨A0, c0, rfl, l0, g0⟩, ⟨A1, c1, rfl, l1, g1⟩⟩
theorem k30_mkM (w : World) (base : Nat) (ok : Nat → Prop) (x : S30) {v0 : Value} (g0 : (Kd.int .u64).R 22 w base ok v0 x.f0) {v1 : Value} (g1 : (Kd.int .u64).R 22 w base ok v1 x.f1) : k30.M w base ok x [v0, v1] := ⟨[v0], [v1], rfl, ⟨v0, rfl, g0⟩, ⟨v1, rfl, g1⟩⟩
theorem k30_openF {W : World} {ok : Nat → Prop} {x : S30} {cs : List Value} (h : Kd.FK k30 W ok x cs) : ∃ A0 c0 A1 c1, cs = [.slice A0 x.f0.length c0, .slice A1 x.f1.length c1] ∧ x.f0.length ≤ c0 ∧ Kd.F (Kd.int .u64) W ok A0 x.f0.length x.f0 ∧ x.f1.length ≤ c1 ∧ Kd.F (Kd.int .u64) W ok A1 x.f1.length x.f1 := by
 obtain ⟨A0, c0, A1, c1, rfl, l0, _, l1, _⟩ := k30_open (Kd.FK_now h); exact ⟨A0, c0, A1, c1, rfl, l0, (fun W' hW => by obtain ⟨A0_, c0_, A1_, c1_, he, l0_, g0_, l1_, g1_⟩ := k30_open (h W' hW); injection (Option.some.inj (show some (Value.slice A0 x.f0.length c0) = some (Value.slice A0_ x.f0.length c0_) from congrArg (fun l => l[0]?) he)) with ha_ _ _; rw [ha_]; exact g0_), l1, (fun W' hW => by obtain ⟨A0_, c0_, A1_, c1_, he, l0_, g0_, l1_, g1_⟩ := k30_open (h W' hW); injection (Option.some.inj (show some (Value.slice A1 x.f1.length c1) = some (Value.slice A1_ x.f1.length c1_) from congrArg (fun l => l[1]?) he)) with ha_ _ _; rw [ha_]; exact g1_)⟩
theorem k30_mkF (W : World) (ok : Nat → Prop) (x : S30) {A0 : Option Addr} {c0 : Nat} (l0 : x.f0.length ≤ c0) (g0 : Kd.F (Kd.int .u64) W ok A0 x.f0.length x.f0) {A1 : Option Addr} {c1 : Nat} (l1 : x.f1.length ≤ c1) (g1 : Kd.F (Kd.int .u64) W ok A1 x.f1.length x.f1) : Kd.FK k30 W ok x [.slice A0 x.f0.length c0, .slice A1 x.f1.length c1] := fun W2 hW => k30_mk W2 x l0 (g0 W2 hW) l1 (g1 W2 hW)
def rd_T30 (xs : List S30) (i : Int) : S30 := xs.getD i.toNat z30
theorem at_T30 {w : World} {A : Option Addr} {n : Nat} {xs : List S30} (h : Kd.C k30 w A n xs) (i : Int) (h0 : 0 ≤ i) (h1 : i < n) : ∃ ad A0 c0 A1 c1, A = some ad ∧ w.cell? (ad.add (i.toNat * 2)) = some (.slice A0 (rd_T30 xs i).f0.length c0) ∧ w.cell? ⟨(ad.add (i.toNat * 2)).block, (ad.add (i.toNat * 2)).off + 1, none⟩ = some (.slice A1 (rd_T30 xs i).f1.length c1) ∧ (rd_T30 xs i).f0.length ≤ c0 ∧ (Kd.int .u64).C w A0 (rd_T30 xs i).f0.length (rd_T30 xs i).f0 ∧ (rd_T30 xs i).f1.length ≤ c1 ∧ (Kd.int .u64).C w A1 (rd_T30 xs i).f1.length (rd_T30 xs i).f1 := by
 obtain ⟨ad, c, e, _, hK, hc0⟩ := Kd.C_get h z30 i h0 h1; have hc : ∀ j u, c[j]? = some u → w.cell? (ad.add (i.toNat * 2 + j)) = some u := hc0; obtain ⟨A0, c0, A1, c1, rfl, l0, g0, l1, g1⟩ := k30_open hK; exact ⟨ad, A0, c0, A1, c1, e, hc 0 _ rfl, by rw [← add_field _ _ 1 (by omega)]; exact hc 1 _ rfl, l0, g0, l1, g1⟩

/-! #### struct type 64 -/
structure S64 where
 f0 : Int
 f1 : S30
def z64 : S64 := ⟨(0 : Int), z30⟩
def k64 : Kd S64 := Kd.iso (Kd.pair (Kd.int .u64) k30) (fun x : S64 => (x.f0, x.f1))
theorem k64_open {w : World} {x : S64} {cs : List Value} (h : k64.K w x cs) : ∃ A1 c1 A2 c2, cs = [.int .u64 x.f0, .slice A1 x.f1.f0.length c1, .slice A2 x.f1.f1.length c2] ∧ x.f1.f0.length ≤ c1 ∧ (Kd.int .u64).C w A1 x.f1.f0.length x.f1.f0 ∧ x.f1.f1.length ≤ c2 ∧ (Kd.int .u64).C w A2 x.f1.f1.length x.f1.f1 := by
 obtain ⟨_, _, rfl, rfl, s1⟩ := h; obtain ⟨A1, c1, A2, c2, rfl, l1, g1, l2, g2⟩ := k30_open s1; exact ⟨A1, c1, A2, c2, rfl, l1, g1, l2, g2⟩
theorem k64_openM {w : World} {base : Nat} {ok : Nat → Prop} {x : S64} {cs : List Value} (h : k64.M w base ok x cs) : ∃ v1 v2, cs = [.int .u64 x.f0, v1, v2] ∧ (Kd.int .u64).R 22 w base ok v1 x.f1.f0 ∧ (Kd.int .u64).R 22 w base ok v2 x.f1.f1 := by
 obtain ⟨_, _, rfl, rfl, s1⟩ := h; obtain ⟨v1, v2, rfl, g1, g2⟩ := k30_openM s1; exact ⟨v1, v2, rfl, g1, g2⟩
theorem k64_mk (w : World) (x : S64) {A1 : Option Addr} {c1 : Nat} (l1 : x.f1.f0.length ≤ c1) (g1 : (Kd.int .u64).C w A1 x.f1.f0.length x.f1.f0) {A2 : Option Addr} {c2 : Nat} (l2 : x.f1.f1.length ≤ c2) (g2 : (Kd.int .u64).C w A2 x.f1.f1.length x.f1.f1) : k64.K w x [.int .u64 x.f0, .slice A1 x.f1.f0.length c1, .slice A2 x.f1.f1.length c2] := ⟨[.int .u64 x.f0], [.slice A1 x.f1.f0.length c1, .slice A2 x.f1.f1.length c2], rfl, rfl, (k30_mk w x.f1 l1 g1 l2 g2)⟩
theorem k64_mkM (w : World) (base : Nat) (ok : Nat → Prop) (x : S64) {v1 : Value} (g1 : (Kd.int .u64).R 22 w base ok v1 x.f1.f0) {v2 : Value} (g2 : (Kd.int .u64).R 22 w base ok v2 x.f1.f1) : k64.M w base ok x [.int .u64 x.f0, v1, v2] := ⟨[.int .u64 x.f0], [v1, v2], rfl, rfl, (k30_mkM w base ok x.f1 g1 g2)⟩
theorem k64_openF {W : World} {ok : Nat → Prop} {x : S64} {cs : List Value} (h : Kd.FK k64 W ok x cs) : ∃ A1 c1 A2 c2, cs = [.int .u64 x.f0, .slice A1 x.f1.f0.length c1, .slice A2 x.f1.f1.length c2] ∧ x.f1.f0.length ≤ c1 ∧ Kd.F (Kd.int .u64) W ok A1 x.f1.f0.length x.f1.f0 ∧ x.f1.f1.length ≤ c2 ∧ Kd.F (Kd.int .u64) W ok A2 x.f1.f1.length x.f1.f1 := by
 obtain ⟨A1, c1, A2, c2, rfl, l1, _, l2, _⟩ := k64_open (Kd.FK_now h); exact ⟨A1, c1, A2, c2, rfl, l1, (fun W' hW => by obtain ⟨A1_, c1_, A2_, c2_, he, l1_, g1_, l2_, g2_⟩ := k64_open (h W' hW); injection (Option.some.inj (show some (Value.slice A1 x.f1.f0.length c1) = some (Value.slice A1_ x.f1.f0.length c1_) from congrArg (fun l => l[1]?) he)) with ha_ _ _; rw [ha_]; exact g1_), l2, (fun W' hW => by obtain ⟨A1_, c1_, A2_, c2_, he, l1_, g1_, l2_, g2_⟩ := k64_open (h W' hW); injection (Option.some.inj (show some (Value.slice A2 x.f1.f1.length c2) = some (Value.slice A2_ x.f1.f1.length c2_) from congrArg (fun l => l[2]?) he)) with ha_ _ _; rw [ha_]; exact g2_)⟩
theorem k64_mkF (W : World) (ok : Nat → Prop) (x : S64) {A1 : Option Addr} {c1 : Nat} (l1 : x.f1.f0.length ≤ c1) (g1 : Kd.F (Kd.int .u64) W ok A1 x.f1.f0.length x.f1.f0) {A2 : Option Addr} {c2 : Nat} (l2 : x.f1.f1.length ≤ c2) (g2 : Kd.F (Kd.int .u64) W ok A2 x.f1.f1.length x.f1.f1) : Kd.FK k64 W ok x [.int .u64 x.f0, .slice A1 x.f1.f0.length c1, .slice A2 x.f1.f1.length c2] := fun W2 hW => k64_mk W2 x l1 (g1 W2 hW) l2 (g2 W2 hW)
def rd_T64 (xs : List S64) (i : Int) : S64 := xs.getD i.toNat z64
theorem at_T64 {w : World} {A : Option Addr} {n : Nat} {xs : List S64} (h : Kd.C k64 w A n xs) (i : Int) (h0 : 0 ≤ i) (h1 : i < n) : ∃ ad A1 c1 A2 c2, A = some ad ∧ w.cell? (ad.add (i.toNat * 3)) = some (.int .u64 (rd_T64 xs i).f0) ∧ w.cell? ⟨(ad.add (i.toNat * 3)).block, (ad.add (i.toNat * 3)).off + 1, none⟩ = some (.slice A1 (rd_T64 xs i).f1.f0.length c1) ∧ w.cell? ⟨(ad.add (i.toNat * 3)).block, (ad.add (i.toNat * 3)).off + 2, none⟩ = some (.slice A2 (rd_T64 xs i).f1.f1.length c2) ∧ (rd_T64 xs i).f1.f0.length ≤ c1 ∧ (Kd.int .u64).C w A1 (rd_T64 xs i).f1.f0.length (rd_T64 xs i).f1.f0 ∧ (rd_T64 xs i).f1.f1.length ≤ c2 ∧ (Kd.int .u64).C w A2 (rd_T64 xs i).f1.f1.length (rd_T64 xs i).f1.f1 := by
 obtain ⟨ad, c, e, _, hK, hc0⟩ := Kd.C_get h z64 i h0 h1; have hc : ∀ j u, c[j]? = some u → w.cell? (ad.add (i.toNat * 3 + j)) = some u := hc0; obtain ⟨A1, c1, A2, c2, rfl, l1, g1, l2, g2⟩ := k64_open hK; exact ⟨ad, A1, c1, A2, c2, e, hc 0 _ rfl, by rw [← add_field _ _ 1 (by omega)]; exact hc 1 _ rfl, by rw [← add_field _ _ 2 (by omega)]; exact hc 2 _ rfl, l1, g1, l2, g2⟩

def rd_L4 (xs : List (List S64)) (i : Int) : (List S64) := xs.getD i.toNat ([] : List S64)
theorem at_L4 {w : World} {A : Option Addr} {n : Nat} {xs : List (List S64)} (h : Kd.C (Kd.slice 64 k64) w A n xs) (i : Int) (h0 : 0 ≤ i) (h1 : i < n) : ∃ ad A0 c0, A = some ad ∧ w.cell? (ad.add i.toNat) = some (.slice A0 (rd_L4 xs i).length c0) ∧ (rd_L4 xs i).length ≤ c0 ∧ k64.C w A0 (rd_L4 xs i).length (rd_L4 xs i) := by
 obtain ⟨ad, c, e, _, hK, hc0⟩ := Kd.C_get h ([] : List S64) i h0 h1; have hc : ∀ j u, c[j]? = some u → w.cell? (ad.add (i.toNat * 1 + j)) = some u := hc0; obtain ⟨A0, c0, rfl, l0, g0⟩ := hK; exact ⟨ad, A0, c0, e, by have hq := hc 0 _ rfl; rwa [Nat.mul_one, Nat.add_zero] at hq, l0, g0⟩

/-! #### struct type 26 -/
structure S26 where
 f0 : Int
 f1 : (List Int)
 f2 : (List S64)
def z26 : S26 := ⟨(0 : Int), ([] : List Int), ([] : List S64)⟩
def k26 : Kd S26 := Kd.iso (Kd.pair (Kd.int .u64) (Kd.pair (Kd.slice 22 (Kd.int .u64)) (Kd.slice 64 k64))) (fun x : S26 => (x.f0, x.f1, x.f2))
theorem k26_open {w : World} {x : S26} {cs : List Value} (h : k26.K w x cs) : ∃ A1 c1 A2 c2, cs = [.int .u64 x.f0, .slice A1 x.f1.length c1, .slice A2 x.f2.length c2] ∧ x.f1.length ≤ c1 ∧ (Kd.int .u64).C w A1 x.f1.length x.f1 ∧ x.f2.length ≤ c2 ∧ k64.C w A2 x.f2.length x.f2 := by
 obtain ⟨_, _, rfl, rfl, ⟨_, _, rfl, ⟨A1, c1, rfl, l1, g1⟩, ⟨A2, c2, rfl, l2, g2⟩⟩⟩ := h; exact ⟨A1, c1, A2, c2, rfl, l1, g1, l2, g2⟩
theorem k26_openM {w : World} {base : Nat} {ok : Nat → Prop} {x : S26} {cs : List Value} (h : k26.M w base ok x cs) : ∃ v1 v2, cs = [.int .u64 x.f0, v1, v2] ∧ (Kd.int .u64).R 22 w base ok v1 x.f1 ∧ k64.R 64 w base ok v2 x.f2 := by
 obtain ⟨_, _, rfl, rfl, ⟨_, _, rfl, ⟨v1, rfl, g1⟩, ⟨v2, rfl, g2⟩⟩⟩ := h; exact ⟨v1, v2, rfl, g1, g2⟩
theorem k26_mk (w : World) (x : S26) {A1 : Option Addr} {c1 : Nat} (l1 : x.f1.length ≤ c1) (g1 : (Kd.int .u64).C w A1 x.f1.length x.f1) {A2 : Option Addr} {c2 : Nat} (l2 : x.f2.length ≤ c2) (g2 : k64.C w A2 x.f2.length x.f2) : k26.K w x [.int .u64 x.f0, .slice A1 x.f1.length c1, .slice A2 x.f2.length c2] := ⟨[.int .u64 x.f0], [.slice A1 x.f1.length c1, .slice A2 x.f2.length c2], rfl, rfl, ⟨[.slice A1 x.f1.length c1], [.slice A2 x.f2.length c2], rfl, ⟨A1, c1, rfl, l1, g1⟩, ⟨A2, c2, rfl, l2, g2⟩⟩⟩
theorem k26_mkM (w : World) (base : Nat) (ok : Nat → Prop) (x : S26) {v1 : Value} (g1 : (Kd.int .u64).R 22 w base ok v1 x.f1) {v2 : Value} (g2 : k64.R 64 w base ok v2 x.f2) : k26.M w base ok x [.int .u64 x.f0, v1, v2] := ⟨[.int .u64 x.f0], [v1, v2], rfl, rfl, ⟨[v1], [v2], rfl, ⟨v1, rfl, g1⟩, ⟨v2, rfl, g2⟩⟩⟩
theorem k26_openF {W : World} {ok : Nat → Prop} {x : S26} {cs : List Value} (h : Kd.FK k26 W ok x cs) : ∃ A1 c1 A2 c2, cs = [.int .u64 x.f0, .slice A1 x.f1.length c1, .slice A2 x.f2.length c2] ∧ x.f1.length ≤ c1 ∧ Kd.F (Kd.int .u64) W ok A1 x.f1.length x.f1 ∧ x.f2.length ≤ c2 ∧ Kd.F k64 W ok A2 x.f2.length x.f2 := by
 obtain ⟨A1, c1, A2, c2, rfl, l1, _, l2, _⟩ := k26_open (Kd.FK_now h); exact ⟨A1, c1, A2, c2, rfl, l1, (fun W' hW => by obtain ⟨A1_, c1_, A2_, c2_, he, l1_, g1_, l2_, g2_⟩ := k26_open (h W' hW); injection (Option.some.inj (show some (Value.slice A1 x.f1.length c1) = some (Value.slice A1_ x.f1.length c1_) from congrArg (fun l => l[1]?) he)) with ha_ _ _; rw [ha_]; exact g1_), l2, (fun W' hW => by obtain ⟨A1_, c1_, A2_, c2_, he, l1_, g1_, l2_, g2_⟩ := k26_open (h W' hW); injection (Option.some.inj (show some (Value.slice A2 x.f2.length c2) = some (Value.slice A2_ x.f2.length c2_) from congrArg (fun l => l[2]?) he)) with ha_ _ _; rw [ha_]; exact g2_)⟩
theorem k26_mkF (W : World) (ok : Nat → Prop) (x : S26) {A1 : Option Addr} {c1 : Nat} (l1 : x.f1.length ≤ c1) (g1 : Kd.F (Kd.int .u64) W ok A1 x.f1.length x.f1) {A2 : Option Addr} {c2 : Nat} (l2 : x.f2.length ≤ c2) (g2 : Kd.F k64 W ok A2 x.f2.length x.f2) : Kd.FK k26 W ok x [.int .u64 x.f0, .slice A1 x.f1.length c1, .slice A2 x.f2.length c2] := fun W2 hW => k26_mk W2 x l1 (g1 W2 hW) l2 (g2 W2 hW)
def rd_T26 (xs : List S26) (i : Int) : S26 := xs.getD i.toNat z26
theorem at_T26 {w : World} {A : Option Addr} {n : Nat} {xs : List S26} (h : Kd.C k26 w A n xs) (i : Int) (h0 : 0 ≤ i) (h1 : i < n) : ∃ ad A1 c1 A2 c2, A = some ad ∧ w.cell? (ad.add (i.toNat * 3)) = some (.int .u64 (rd_T26 xs i).f0) ∧ w.cell? ⟨(ad.add (i.toNat * 3)).block, (ad.add (i.toNat * 3)).off + 1, none⟩ = some (.slice A1 (rd_T26 xs i).f1.length c1) ∧ w.cell? ⟨(ad.add (i.toNat * 3)).block, (ad.add (i.toNat * 3)).off + 2, none⟩ = some (.slice A2 (rd_T26 xs i).f2.length c2) ∧ (rd_T26 xs i).f1.length ≤ c1 ∧ (Kd.int .u64).C w A1 (rd_T26 xs i).f1.length (rd_T26 xs i).f1 ∧ (rd_T26 xs i).f2.length ≤ c2 ∧ k64.C w A2 (rd_T26 xs i).f2.length (rd_T26 xs i).f2 := by
 obtain ⟨ad, c, e, _, hK, hc0⟩ := Kd.C_get h z26 i h0 h1; have hc : ∀ j u, c[j]? = some u → w.cell? (ad.add (i.toNat * 3 + j)) = some u := hc0; obtain ⟨A1, c1, A2, c2, rfl, l1, g1, l2, g2⟩ := k26_open hK; exact ⟨ad, A1, c1, A2, c2, e, hc 0 _ rfl, by rw [← add_field _ _ 1 (by omega)]; exact hc 1 _ rfl, by rw [← add_field _ _ 2 (by omega)]; exact hc 2 _ rfl, l1, g1, l2, g2⟩

/-! #### struct type 42 -/
structure S42 where
 f0 : Int
 f1 : Int
 f2 : Int
 f3 : S30
def z42 : S42 := ⟨(0 : Int), (0 : Int), (0 : Int), z30⟩
def k42 : Kd S42 := Kd.iso (Kd.pair (Kd.int .i64) (Kd.pair (Kd.int .i64) (Kd.pair (Kd.int .u64) k30))) (fun x : S42 => (x.f0, x.f1, x.f2, x.f3))
theorem k42_open {w : World} {x : S42} {cs : List Value} (h : k42.K w x cs) : ∃ A3 c3 A4 c4, cs = [.int .i64 x.f0, .int .i64 x.f1, .int .u64 x.f2, .slice A3 x.f3.f0.length c3, .slice A4 x.f3.f1.length c4] ∧ x.f3.f0.length ≤ c3 ∧ (Kd.int .u64).C w A3 x.f3.f0.length x.f3.f0 ∧ x.f3.f1.length ≤ c4 ∧ (Kd.int .u64).C w A4 x.f3.f1.length x.f3.f1 := by
 obtain ⟨_, _, rfl, rfl, ⟨_, _, rfl, rfl, ⟨_, _, rfl, rfl, s3⟩⟩⟩ := h; obtain ⟨A3, c3, A4, c4, rfl, l3, g3, l4, g4⟩ := k30_open s3; exact ⟨A3, c3, A4, c4, rfl, l3, g3, l4, g4⟩
theorem k42_openM {w : World} {base : Nat} {ok : Nat → Prop} {x : S42} {cs : List Value} (h : k42.M w base ok x cs) : ∃ v3 v4, cs = [.int .i64 x.f0, .int .i64 x.f1, .int .u64 x.f2, v3, v4] ∧ (Kd.int .u64).R 22 w base ok v3 x.f3.f0 ∧ (Kd.int .u64).R 22 w base ok v4 x.f3.f1 := by
 obtain ⟨_, _, rfl, rfl, ⟨_, _, rfl, rfl, ⟨_, _, rfl, rfl, s3⟩⟩⟩ := h; obtain ⟨v3, v4, rfl, g3, g4⟩ := k30_openM s3; exact ⟨v3, v4, rfl, g3, g4⟩
theorem k42_mk (w : World) (x : S42) {A3 : Option Addr} {c3 : Nat} (l3 : x.f3.f0.length ≤ c3) (g3 : (Kd.int .u64).C w A3 x.f3.f0.length x.f3.f0) {A4 : Option Addr} {c4 : Nat} (l4 : x.f3.f1.length ≤ c4) (g4 : (Kd.int .u64).C w A4 x.f3.f1.length x.f3.f1) : k42.K w x [.int .i64 x.f0, .int .i64 x.f1, .int .u64 x.f2, .slice A3 x.f3.f0.length c3, .slice A4 x.f3.f1.length c4] := ⟨[.int .i64 x.f0], [.int .i64 x.f1, .int .u64 x.f2, .slice A3 x.f3.f0.length c3, .slice A4 x.f3.f1.length c4], rfl, rfl, ⟨[.int .i64 x.f1], [.int .u64 x.f2, .slice A3 x.f3.f0.length c3, .slice A4 x.f3.f1.length c4], rfl, rfl, ⟨[.int .u64 x.f2], [.slice A3 x.f3.f0.length c3, .slice A4 x.f3.f1.length c4], rfl, rfl, (k30_mk w x.f3 l3 g3 l4 g4)⟩⟩⟩
theorem k42_mkM (w : World) (base : Nat) (ok : Nat → Prop) (x : S42) {v3 : Value} (g3 : (Kd.int .u64).R 22 w base ok v3 x.f3.f0) {v4 : Value} (g4 : (Kd.int .u64).R 22 w base ok v4 x.f3.f1) : k42.M w base ok x [.int .i64 x.f0, .int .i64 x.f1, .int .u64 x.f2, v3, v4] := ⟨[.int .i64 x.f0], [.int .i64 x.f1, .int .u64 x.f2, v3, v4], rfl, rfl, ⟨[.int .i64 x.f1], [.int .u64 x.f2, v3, v4], rfl, rfl, ⟨[.int .u64 x.f2], [v3, v4], rfl, rfl, (k30_mkM w base ok x.f3 g3 g4)⟩⟩⟩
theorem k42_openF {W : World} {ok : Nat → Prop} {x : S42} {cs : List Value} (h : Kd.FK k42 W ok x cs) : ∃ A3 c3 A4 c4, cs = [.int .i64 x.f0, .int .i64 x.f1, .int .u64 x.f2, .slice A3 x.f3.f0.length c3, .slice A4 x.f3.f1.length c4] ∧ x.f3.f0.length ≤ c3 ∧ Kd.F (Kd.int .u64) W ok A3 x.f3.f0.length x.f3.f0 ∧ x.f3.f1.length ≤ c4 ∧ Kd.F (Kd.int .u64) W ok A4 x.f3.f1.length x.f3.f1 := by
 obtain ⟨A3, c3, A4, c4, rfl, l3, _, l4, _⟩ := k42_open (Kd.FK_now h); exact ⟨A3, c3, A4, c4, rfl, l3, (fun W' hW => by obtain ⟨A3_, c3_, A4_, c4_, he, l3_, g3_, l4_, g4_⟩ := k42_open (h W' hW); injection (Option.some.inj (show some (Value.slice A3 x.f3.f0.length c3) = some (Value.slice A3_ x.f3.f0.length c3_) from congrArg (fun l => l[3]?) he)) with ha_ _ _; rw [ha_]; exact g3_), l4, (fun W' hW => by obtain ⟨A3_, c3_, A4_, c4_, he, l3_, g3_, l4_, g4_⟩ := k42_open (h W' hW); injection (Option.some.inj (show some (Value.slice A4 x.f3.f1.length c4) = some (Value.slice A4_ x.f3.f1.length c4_) from congrArg (fun l => l[4]?) he)) with ha_ _ _; rw [ha_]; exact g4_)⟩
theorem k42_mkF (W : World) (ok : Nat → Prop) (x : S42) {A3 : Option Addr} {c3 : Nat} (l3 : x.f3.f0.length ≤ c3) (g3 : Kd.F (Kd.int .u64) W ok A3 x.f3.f0.length x.f3.f0) {A4 : Option Addr} {c4 : Nat} (l4 : x.f3.f1.length ≤ c4) (g4 : Kd.F (Kd.int .u64) W ok A4 x.f3.f1.length x.f3.f1) : Kd.FK k42 W ok x [.int .i64 x.f0, .int .i64 x.f1, .int .u64 x.f2, .slice A3 x.f3.f0.length c3, .slice A4 x.f3.f1.length c4] := fun W2 hW => k42_mk W2 x l3 (g3 W2 hW) l4 (g4 W2 hW)
def rd_T42 (xs : List S42) (i : Int) : S42 := xs.getD i.toNat z42
theorem at_T42 {w : World} {A : Option Addr} {n : Nat} {xs : List S42} (h : Kd.C k42 w A n xs) (i : Int) (h0 : 0 ≤ i) (h1 : i < n) : ∃ ad A3 c3 A4 c4, A = some ad ∧ w.cell? (ad.add (i.toNat * 5)) = some (.int .i64 (rd_T42 xs i).f0) ∧ w.cell? ⟨(ad.add (i.toNat * 5)).block, (ad.add (i.toNat * 5)).off + 1, none⟩ = some (.int .i64 (rd_T42 xs i).f1) ∧ w.cell? ⟨(ad.add (i.toNat * 5)).block, (ad.add (i.toNat * 5)).off + 2, none⟩ = some (.int .u64 (rd_T42 xs i).f2) ∧ w.cell? ⟨(ad.add (i.toNat * 5)).block, (ad.add (i.toNat * 5)).off + 3, none⟩ = some (.slice A3 (rd_T42 xs i).f3.f0.length c3) ∧ w.cell? ⟨(ad.add (i.toNat * 5)).block, (ad.add (i.toNat * 5)).off + 4, none⟩ = some (.slice A4 (rd_T42 xs i).f3.f1.length c4) ∧ (rd_T42 xs i).f3.f0.length ≤ c3 ∧ (Kd.int .u64).C w A3 (rd_T42 xs i).f3.f0.length (rd_T42 xs i).f3.f0 ∧ (rd_T42 xs i).f3.f1.length ≤ c4 ∧ (Kd.int .u64).C w A4 (rd_T42 xs i).f3.f1.length (rd_T42 xs i).f3.f1 := by
 obtain ⟨ad, c, e, _, hK, hc0⟩ := Kd.C_get h z42 i h0 h1; have hc : ∀ j u, c[j]? = some u → w.cell? (ad.add (i.toNat * 5 + j)) = some u := hc0; obtain ⟨A3, c3, A4, c4, rfl, l3, g3, l4, g4⟩ := k42_open hK; exact ⟨ad, A3, c3, A4, c4, e, hc 0 _ rfl, by rw [← add_field _ _ 1 (by omega)]; exact hc 1 _ rfl, by rw [← add_field _ _ 2 (by omega)]; exact hc 2 _ rfl, by rw [← add_field _ _ 3 (by omega)]; exact hc 3 _ rfl, by rw [← add_field _ _ 4 (by omega)]; exact hc 4 _ rfl, l3, g3, l4, g4⟩

/-! #### struct type 60 -/
structure S60 where
 f0 : Bool
 f1 : Bool
 f2 : Bool
 f3 : Bool
def z60 : S60 := ⟨false, false, false, false⟩
def k60 : Kd S60 := Kd.iso (Kd.pair Kd.bool (Kd.pair Kd.bool (Kd.pair Kd.bool Kd.bool))) (fun x : S60 => (x.f0, x.f1, x.f2, x.f3))
theorem k60_open {w : World} {x : S60} {cs : List Value} (h : k60.K w x cs) : cs = [.bool x.f0, .bool x.f1, .bool x.f2, .bool x.f3] := by
 obtain ⟨_, _, rfl, rfl, ⟨_, _, rfl, rfl, ⟨_, _, rfl, rfl, rfl⟩⟩⟩ := h; exact rfl
theorem k60_openM {w : World} {base : Nat} {ok : Nat → Prop} {x : S60} {cs : List Value} (h : k60.M w base ok x cs) : cs = [.bool x.f0, .bool x.f1, .bool x.f2, .bool x.f3] := by
 obtain ⟨_, _, rfl, rfl, ⟨_, _, rfl, rfl, ⟨_, _, rfl, rfl, rfl⟩⟩⟩ := h; exact rfl
theorem k60_mk (w : World) (x : S60)  : k60.K w x [.bool x.f0, .bool x.f1, .bool x.f2, .bool x.f3] := ⟨[.bool x.f0], [.bool x.f1, .bool x.f2, .bool x.f3], rfl, rfl, ⟨[.bool x.f1], [.bool x.f2, .bool x.f3], rfl, rfl, ⟨[.bool x.f2], [.bool x.f3], rfl, rfl, rfl⟩⟩⟩
theorem k60_mkM (w : World) (base : Nat) (ok : Nat → Prop) (x : S60)  : k60.M w base ok x [.bool x.f0, .bool x.f1, .bool x.f2, .bool x.f3] := ⟨[.bool x.f0], [.bool x.f1, .bool x.f2, .bool x.f3], rfl, rfl, ⟨[.bool x.f1], [.bool x.f2, .bool x.f3], rfl, rfl, ⟨[.bool x.f2], [.bool x.f3], rfl, rfl, rfl⟩⟩⟩
theorem k60_mkF (W : World) (ok : Nat → Prop) (x : S60) : Kd.FK k60 W ok x [.bool x.f0, .bool x.f1, .bool x.f2, .bool x.f3] := fun W2 _ => k60_mk W2 x
def rd_T60 (xs : List S60) (i : Int) : S60 := xs.getD i.toNat z60
theorem at_T60 {w : World} {A : Option Addr} {n : Nat} {xs : List S60} (h : Kd.C k60 w A n xs) (i : Int) (h0 : 0 ≤ i) (h1 : i < n) : ∃ ad , A = some ad ∧ w.cell? (ad.add (i.toNat * 4)) = some (.bool (rd_T60 xs i).f0) ∧ w.cell? ⟨(ad.add (i.toNat * 4)).block, (ad.add (i.toNat * 4)).off + 1, none⟩ = some (.bool (rd_T60 xs i).f1) ∧ w.cell? ⟨(ad.add (i.toNat * 4)).block, (ad.add (i.toNat * 4)).off + 2, none⟩ = some (.bool (rd_T60 xs i).f2) ∧ w.cell? ⟨(ad.add (i.toNat * 4)).block, (ad.add (i.toNat * 4)).off + 3, none⟩ = some (.bool (rd_T60 xs i).f3) := by
 obtain ⟨ad, c, e, _, hK, hc0⟩ := Kd.C_get h z60 i h0 h1; have hc : ∀ j u, c[j]? = some u → w.cell? (ad.add (i.toNat * 4 + j)) = some u := hc0; obtain rfl := k60_open hK; exact ⟨ad, e, hc 0 _ rfl, by rw [← add_field _ _ 1 (by omega)]; exact hc 1 _ rfl, by rw [← add_field _ _ 2 (by omega)]; exact hc 2 _ rfl, by rw [← add_field _ _ 3 (by omega)]; exact hc 3 _ rfl⟩

-- an array's cell by a number that is known
theorem ix0_ {t : Int} (h : (t == 0) = true) : t.toNat = 0 := by have := beq_iff_eq.mp h; omega
theorem ix1_ {t : Int} (h : (t == 1) = true) : t.toNat = 1 := by have := beq_iff_eq.mp h; omega
theorem ix2_ {t : Int} (h : (t == 2) = true) : t.toNat = 2 := by have := beq_iff_eq.mp h; omega
theorem ixl4_ {t : Int} (h0 : decide (0 ≤ t) = true) (h1 : decide (t < 4) = true) (a : (t == 0) = false) (b : (t == 1) = false) (c : (t == 2) = false) : t.toNat = 3 := by
 have := of_decide_eq_true h0; have := of_decide_eq_true h1; have := beq_eq_false_iff_ne.mp a; have := beq_eq_false_iff_ne.mp b; have := beq_eq_false_iff_ne.mp c; omega
theorem cellat0_ {w : World} {a : Addr} {n : Nat} {v : Option Value} (h : w.cell? (a.add n) = v) (t : n = 0) : w.cell? a = v := by subst t; exact h
theorem cellat1_ {w : World} {a : Addr} {n : Nat} {v : Option Value} (h : w.cell? (a.add n) = v) (t : n = 1) : w.cell? ⟨a.block, a.off + 1, none⟩ = v := by subst t; exact h
theorem cellat2_ {w : World} {a : Addr} {n : Nat} {v : Option Value} (h : w.cell? (a.add n) = v) (t : n = 2) : w.cell? ⟨a.block, a.off + 2, none⟩ = v := by subst t; exact h
theorem cellat3_ {w : World} {a : Addr} {n : Nat} {v : Option Value} (h : w.cell? (a.add n) = v) (t : n = 3) : w.cell? ⟨a.block, a.off + 3, none⟩ = v := by subst t; exact h
theorem wrapin_ {t : Int} (h0 : (0 ≤ t) = True) (h1 : (t < 4) = True) : t + 1 = wrap64 (t + 1) := by have := of_eq_true h0; have := of_eq_true h1; unfold wrap64; omega

end Go.Proofs.Ytjnfllaonkeefaa.PH
