-- printed by a program of this session (ownprint.py), out of the translation; Lean checks it
import Derived.Test.YtpggfnodpjofkaaKDiskMemoryx0
namespace Go.Proofs.Ytpggfnodpjofkaa.KDiskMemory
open Go.RowKit Go.Proofs.YtpggfnodpjofkaaW.PrintWords Go.Proofs.YtpggfnodpjofkaaW.PrintLast Go.Proofs.YtpggfnodpjofkaaW.PrintMore
attribute [local go_sem] max2_int min2_int max_two min_two max_three min_three max_four min_four   -- for this text's walks alone
set_option linter.unusedVariables false
set_option linter.unusedSimpArgs false

/-! ### rilllaw08_DiskMemory: function 5 -/
def ok32 (x : S32) : Prop := (fun x : Int => (Lit.int .i64 x).wf = true) x.f0 ∧ (fun _ : Bool => True) x.f1 ∧ (fun xs : List Int => xs.length ≤ maxLen ∧ xs.length * 8 ≤ 140737488351232 ∧ ∀ x ∈ xs, (fun x : Int => (Lit.int .i64 x).wf = true) x) x.f2
theorem opens32 : Own.Opens Try.prog k32 32 ok32 :=
  Own.opens_iso (g := fun p => (⟨p.1, p.2.1, p.2.2⟩ : S32)) (fun _ => rfl) (Own.opens_struct (n := 3) Try.underlying32 (by kernel_rfl) (Own.opens_cons (Own.opens_int Try.underlying3) rfl 1 (by kernel_rfl) (Own.opens_cons (Own.opens_bool Try.underlying4) rfl 2 (by kernel_rfl) (Own.opens_last (Own.opens_slice 3 Try.underlying30 (by kernel_rfl) (by kernel_rfl) (Own.opens_int Try.underlying3)) rfl (by kernel_rfl)))))
/-- THE ONE PURE STATEMENT of rilllaw08_DiskMemory. -/
def rilllaw08_DiskMemory.Pure : Prop := ∀ (l0 : List Int) (l1 : List Int) (a2_0 : Int) (a2_1 : Bool) (l2_2 : List Int), l0.length ≤ maxLen → l0.length * 1 ≤ 140737488351232 → (∀ x ∈ l0, (Lit.int .u8 x).wf = true) → l1.length ≤ maxLen → l1.length * 1 ≤ 140737488351232 → (∀ x ∈ l1, (Lit.int .u8 x).wf = true) → ok32 (⟨a2_0, a2_1, l2_2⟩ : S32) → True
theorem rilllaw08_DiskMemory.walk (P : rilllaw08_DiskMemory.Pure) (a0 : Option Addr) (len0 cap0 : Nat) (z0 : List Int) (a1 : Option Addr) (len1 cap1 : Nat) (z1 : List Int) (a2_0 : Int) (a2_1 : Bool) (A2_2 : Option Addr) (c2_2 : Nat) (l2_2 : List Int) (w : World) (w0 : (a0 = none ∧ len0 = 0 ∧ cap0 = 0 ∧ z0 = []) ∨ ∃ x, a0 = some x ∧ len0 ≤ cap0 ∧ cap0 ≤ maxLen ∧ z0.length = cap0 ∧ (∀ i, i < z0.length → w.cell? (x.add i) = some (.int .u8 (z0.getD i 0))) ∧ ∀ n ∈ z0, (Lit.int .u8 n).wf = true) (y0 : len0 * 1 ≤ 140737488351232) (w1 : (a1 = none ∧ len1 = 0 ∧ cap1 = 0 ∧ z1 = []) ∨ ∃ x, a1 = some x ∧ len1 ≤ cap1 ∧ cap1 ≤ maxLen ∧ z1.length = cap1 ∧ (∀ i, i < z1.length → w.cell? (x.add i) = some (.int .u8 (z1.getD i 0))) ∧ ∀ n ∈ z1, (Lit.int .u8 n).wf = true) (y1 : len1 * 1 ≤ 140737488351232) (hr2_2 : Kd.C (Kd.int .i64) w A2_2 l2_2.length l2_2) (hc2_2 : l2_2.length ≤ c2_2) (w2 : ok32 (⟨a2_0, a2_1, l2_2⟩ : S32)) :
    Calls Try.prog 5 #[.slice a0 len0 cap0, .slice a1 len1 cap1, .agg #[.int .i64 a2_0, .bool a2_1, .slice A2_2 l2_2.length c2_2]] w fun e w' => e = .returned (.bool true) ∧ Below w.heap.size w w' := by
  obtain ⟨l0, rfl, hr0_, hm0, hw0, hc0⟩ := ReadsInt.ofRowC w0
  have hr0 := Kd.C_of_reads (d := (0 : Int)) (h1 := fun _ => rfl) hr0_
  obtain ⟨l1, rfl, hr1_, hm1, hw1, hc1⟩ := ReadsInt.ofRowC w1
  have hr1 := Kd.C_of_reads (d := (0 : Int)) (h1 := fun _ => rfl) hr1_
  have hP := P l0 l1 a2_0 a2_1 l2_2 hm0 y0 hw0 hm1 y1 hw1 w2
  exact Disk.DiskMemory_walk _ _ _ _ l0 l1 a2_0 a2_1 A2_2 c2_2 l2_2 w hr0 hc0 hr1 hc1 hr2_2 hc2_2 w2.2.2.2.1 w2.2.2.2.2

end Go.Proofs.Ytpggfnodpjofkaa.KDiskMemory
