-- printed by a program of this session (ownprint.py), out of the translation; Lean checks it
import Derived.Test.YtpggfnodpjofkaaKDiskRotsx0
namespace Go.Proofs.Ytpggfnodpjofkaa.KDiskRots
open Go.RowKit Go.Proofs.YtpggfnodpjofkaaW.PrintWords Go.Proofs.YtpggfnodpjofkaaW.PrintLast Go.Proofs.YtpggfnodpjofkaaW.PrintMore
attribute [local go_sem] max2_int min2_int max_two min_two max_three min_three max_four min_four   -- for this text's walks alone
set_option linter.unusedVariables false
set_option linter.unusedSimpArgs false

/-! ### rilllaw08_DiskRots: function 6 -/
/-- THE ONE PURE STATEMENT of rilllaw08_DiskRots. -/
def rilllaw08_DiskRots.Pure : Prop := ∀ (l0 : List Int) (a1 : Int) (a2 : Int), l0.length ≤ maxLen → l0.length * 1 ≤ 140737488351232 → (∀ x ∈ l0, (Lit.int .u8 x).wf = true) → (Lit.int .i64 a1).wf = true → (Lit.int .i64 a2).wf = true → True
theorem rilllaw08_DiskRots.walk (P : rilllaw08_DiskRots.Pure) (a0 : Option Addr) (len0 cap0 : Nat) (z0 : List Int) (a1 : Int) (a2 : Int) (w : World) (w0 : (a0 = none ∧ len0 = 0 ∧ cap0 = 0 ∧ z0 = []) ∨ ∃ x, a0 = some x ∧ len0 ≤ cap0 ∧ cap0 ≤ maxLen ∧ z0.length = cap0 ∧ (∀ i, i < z0.length → w.cell? (x.add i) = some (.int .u8 (z0.getD i 0))) ∧ ∀ n ∈ z0, (Lit.int .u8 n).wf = true) (y0 : len0 * 1 ≤ 140737488351232) (w1 : (Lit.int .i64 a1).wf = true) (w2 : (Lit.int .i64 a2).wf = true) :
    Calls Try.prog 6 #[.slice a0 len0 cap0, .int .i64 a1, .int .i64 a2] w fun e w' => e = .returned (.bool true) ∧ Below w.heap.size w w' := by
  obtain ⟨l0, rfl, hr0_, hm0, hw0, hc0⟩ := ReadsInt.ofRowC w0
  have hr0 := Kd.C_of_reads (d := (0 : Int)) (h1 := fun _ => rfl) hr0_
  have hP := P l0 a1 a2 hm0 y0 hw0 w1 w2
  exact Disk.DiskRots_walk _ _ l0 a1 a2 w hr0 hc0 hw0 w2

end Go.Proofs.Ytpggfnodpjofkaa.KDiskRots
