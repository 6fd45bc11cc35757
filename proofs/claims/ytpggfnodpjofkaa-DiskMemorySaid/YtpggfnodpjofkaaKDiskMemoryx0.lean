-- printed by a program of this session (ownprint.py), out of the translation; Lean checks it
import Derived.Test.YtpggfnodpjofkaaProg
import Derived.Below
import Derived.Deep.Draws
import Derived.Deep.AppendLies
import Derived.Maps.AppendAt
import Derived.OwnWalk
import Derived.Laws.BytesArg
import Derived.Laws.MakeOwn
import Derived.Laws.OwnMore
import Derived.Deep.OwnRows
import Derived.Tactics
import Derived.Lib.ConvBytes
import Derived.Laws.Slices
import Derived.WalkKit
import Derived.KernelRfl
import Derived.RowKit3
import Derived.Deep.LoopGhost
import Derived.Deep.QuietTactic
import Derived.BigQuiet
import Derived.WideLaws
import Derived.Deep.DeepCutAuto
import Derived.Deep.CutBlock
import Derived.Deep.RegionHeld3
import Derived.Laws.Rows
import Derived.Lib.AppendStr
import Derived.ArgAppend
import Derived.Laws.IdiomCopy
import Derived.OrdersHeld
import Derived.Laws.BitsLemmas
import Derived.RowKit
import Derived.Lib.SliceRun
import Derived.WalkLawsBesides
import Derived.Test.YtpggfnodpjofkaaOwn
import Derived.Test.YtpggfnodpjofkaaOpens
import Derived.Test.YtpggfnodpjofkaaDiskM1
import Derived.Test.YtpggfnodpjofkaaWWords
import Derived.Test.YtpggfnodpjofkaaWLast
import Derived.Test.YtpggfnodpjofkaaWTab
import Derived.Test.YtpggfnodpjofkaaWFour
import Derived.Test.YtpggfnodpjofkaaWQPut
import Derived.Test.YtpggfnodpjofkaaWApart
import Derived.Test.YtpggfnodpjofkaaWArr
import Derived.Test.YtpggfnodpjofkaaWZeros
import Derived.Test.YtpggfnodpjofkaaWFoot
import Derived.Test.YtpggfnodpjofkaaWKept
import Derived.Test.YtpggfnodpjofkaaWShare
import Derived.Test.YtpggfnodpjofkaaWN
import Derived.Test.YtpggfnodpjofkaaWFootNe
import Derived.Test.YtpggfnodpjofkaaWAt
import Derived.Test.YtpggfnodpjofkaaWEqStruct
import Derived.Test.YtpggfnodpjofkaaWRepsOne
import Derived.Test.YtpggfnodpjofkaaWInv
import Derived.Test.YtpggfnodpjofkaaWInvWords
import Derived.Test.YtpggfnodpjofkaaWGuard
import Derived.Test.YtpggfnodpjofkaaWNEv
import Derived.Test.YtpggfnodpjofkaaWMore
namespace Go.Proofs.Ytpggfnodpjofkaa.KDiskMemory
open Go.RowKit Go.Proofs.YtpggfnodpjofkaaW.PrintWords Go.Proofs.YtpggfnodpjofkaaW.PrintLast Go.Proofs.YtpggfnodpjofkaaW.PrintMore
attribute [local go_sem] max2_int min2_int max_two min_two max_three min_three max_four min_four   -- for this text's walks alone
set_option linter.unusedVariables false
set_option linter.unusedSimpArgs false



def errW : Option Int → Value
  | none => .nilIface
  | some c => .iface 0 (.int .i64 c)
theorem errW_none : errW none = .nilIface := rfl
theorem errW_some (c : Int) : errW (some c) = .iface 0 (.int .i64 c) := rfl

-- the values' own types
def rd_L1 (xs : List (List Int)) (i : Int) : (List Int) := xs.getD i.toNat ([] : List Int)
theorem at_L1 {w : World} {A : Option Addr} {n : Nat} {xs : List (List Int)} (h : Kd.C (Kd.slice 5 (Kd.int .u8)) w A n xs) (i : Int) (h0 : 0 ≤ i) (h1 : i < n) : ∃ ad A0 c0, A = some ad ∧ w.cell? (ad.add i.toNat) = some (.slice A0 (rd_L1 xs i).length c0) ∧ (rd_L1 xs i).length ≤ c0 ∧ (Kd.int .u8).C w A0 (rd_L1 xs i).length (rd_L1 xs i) := by
  obtain ⟨ad, c, e, _, hK, hc0⟩ := Kd.C_get h ([] : List Int) i h0 h1
  have hc : ∀ j u, c[j]? = some u → w.cell? (ad.add (i.toNat * 1 + j)) = some u := hc0
  obtain ⟨A0, c0, rfl, l0, g0⟩ := hK
  exact ⟨ad, A0, c0, e, by have hq := hc 0 _ rfl; rwa [Nat.mul_one, Nat.add_zero] at hq, l0, g0⟩

def rd_L4 (xs : List (List Int)) (i : Int) : (List Int) := xs.getD i.toNat ([] : List Int)
theorem at_L4 {w : World} {A : Option Addr} {n : Nat} {xs : List (List Int)} (h : Kd.C (Kd.slice 3 (Kd.int .i64)) w A n xs) (i : Int) (h0 : 0 ≤ i) (h1 : i < n) : ∃ ad A0 c0, A = some ad ∧ w.cell? (ad.add i.toNat) = some (.slice A0 (rd_L4 xs i).length c0) ∧ (rd_L4 xs i).length ≤ c0 ∧ (Kd.int .i64).C w A0 (rd_L4 xs i).length (rd_L4 xs i) := by
  obtain ⟨ad, c, e, _, hK, hc0⟩ := Kd.C_get h ([] : List Int) i h0 h1
  have hc : ∀ j u, c[j]? = some u → w.cell? (ad.add (i.toNat * 1 + j)) = some u := hc0
  obtain ⟨A0, c0, rfl, l0, g0⟩ := hK
  exact ⟨ad, A0, c0, e, by have hq := hc 0 _ rfl; rwa [Nat.mul_one, Nat.add_zero] at hq, l0, g0⟩

/-! #### struct type 32 -/
structure S32 where
  f0 : Int
  f1 : Bool
  f2 : (List Int)
def z32 : S32 := ⟨(0 : Int), false, ([] : List Int)⟩
def k32 : Kd S32 := Kd.iso (Kd.pair (Kd.int .i64) (Kd.pair Kd.bool (Kd.slice 3 (Kd.int .i64)))) (fun x : S32 => (x.f0, x.f1, x.f2))
theorem k32_open {w : World} {x : S32} {cs : List Value} (h : k32.K w x cs) : ∃ A2 c2, cs = [.int .i64 x.f0, .bool x.f1, .slice A2 x.f2.length c2] ∧ x.f2.length ≤ c2 ∧ (Kd.int .i64).C w A2 x.f2.length x.f2 := by
  obtain ⟨_, _, rfl, rfl, ⟨_, _, rfl, rfl, ⟨A2, c2, rfl, l2, g2⟩⟩⟩ := h
  exact ⟨A2, c2, rfl, l2, g2⟩
theorem k32_openM {w : World} {base : Nat} {ok : Nat → Prop} {x : S32} {cs : List Value} (h : k32.M w base ok x cs) : ∃ v2, cs = [.int .i64 x.f0, .bool x.f1, v2] ∧ (Kd.int .i64).R 3 w base ok v2 x.f2 := by
  obtain ⟨_, _, rfl, rfl, ⟨_, _, rfl, rfl, ⟨v2, rfl, g2⟩⟩⟩ := h
  exact ⟨v2, rfl, g2⟩
theorem k32_mk (w : World) (x : S32) {A2 : Option Addr} {c2 : Nat} (l2 : x.f2.length ≤ c2) (g2 : (Kd.int .i64).C w A2 x.f2.length x.f2) : k32.K w x [.int .i64 x.f0, .bool x.f1, .slice A2 x.f2.length c2] := ⟨[.int .i64 x.f0], [.bool x.f1, .slice A2 x.f2.length c2], rfl, rfl, ⟨[.bool x.f1], [.slice A2 x.f2.length c2], rfl, rfl, ⟨A2, c2, rfl, l2, g2⟩⟩⟩
theorem k32_mkM (w : World) (base : Nat) (ok : Nat → Prop) (x : S32) {v2 : Value} (g2 : (Kd.int .i64).R 3 w base ok v2 x.f2) : k32.M w base ok x [.int .i64 x.f0, .bool x.f1, v2] := ⟨[.int .i64 x.f0], [.bool x.f1, v2], rfl, rfl, ⟨[.bool x.f1], [v2], rfl, rfl, ⟨v2, rfl, g2⟩⟩⟩
def rd_T32 (xs : List S32) (i : Int) : S32 := xs.getD i.toNat z32
theorem at_T32 {w : World} {A : Option Addr} {n : Nat} {xs : List S32} (h : Kd.C k32 w A n xs) (i : Int) (h0 : 0 ≤ i) (h1 : i < n) : ∃ ad A2 c2, A = some ad ∧ w.cell? (ad.add (i.toNat * 3)) = some (.int .i64 (rd_T32 xs i).f0) ∧ w.cell? ⟨(ad.add (i.toNat * 3)).block, (ad.add (i.toNat * 3)).off + 1, none⟩ = some (.bool (rd_T32 xs i).f1) ∧ w.cell? ⟨(ad.add (i.toNat * 3)).block, (ad.add (i.toNat * 3)).off + 2, none⟩ = some (.slice A2 (rd_T32 xs i).f2.length c2) ∧ (rd_T32 xs i).f2.length ≤ c2 ∧ (Kd.int .i64).C w A2 (rd_T32 xs i).f2.length (rd_T32 xs i).f2 := by
  obtain ⟨ad, c, e, _, hK, hc0⟩ := Kd.C_get h z32 i h0 h1
  have hc : ∀ j u, c[j]? = some u → w.cell? (ad.add (i.toNat * 3 + j)) = some u := hc0
  obtain ⟨A2, c2, rfl, l2, g2⟩ := k32_open hK
  exact ⟨ad, A2, c2, e, hc 0 _ rfl, by rw [← add_field _ _ 1 (by omega)]; exact hc 1 _ rfl, by rw [← add_field _ _ 2 (by omega)]; exact hc 2 _ rfl, l2, g2⟩

end Go.Proofs.Ytpggfnodpjofkaa.KDiskMemory
