-- printed by a program of this session (ownprint.py), out of the translation; Lean checks it
import Derived.Test.YtjcpchkbhgijkaaKNetOrderx0
namespace Go.Proofs.Ytjcpchkbhgijkaa.KNetOrder
open Go.RowKit Go.Proofs.YtjcpchkbhgijkaaW.PrintWords Go.Proofs.YtjcpchkbhgijkaaW.PrintLast Go.Proofs.YtjcpchkbhgijkaaW.PrintMore
attribute [local go_sem] max2_int min2_int max_two min_two max_three min_three max_four min_four   -- for this text's walks alone
set_option linter.unusedVariables false
set_option linter.unusedSimpArgs false

/-! ### rilllaw12_NetOrder: function 5 -/
/-- THE ONE PURE STATEMENT of rilllaw12_NetOrder. -/
def rilllaw12_NetOrder.Pure : Prop := ∀ (l0 : List (List Int)) (l1 : List Int), l0.length ≤ maxLen → l0.length * 24 ≤ 140737488351232 → (∀ x ∈ l0, (fun xs : List Int => xs.length ≤ maxLen ∧ xs.length * 1 ≤ 140737488351232 ∧ ∀ x ∈ xs, (fun x : Int => (Lit.int .u8 x).wf = true) x) x) → l1.length ≤ maxLen → l1.length * 8 ≤ 140737488351232 → (∀ x ∈ l1, (Lit.int .i64 x).wf = true) → True
theorem rilllaw12_NetOrder.walk (P : rilllaw12_NetOrder.Pure) (A0 : Option Addr) (c0 : Nat) (l0 : List (List Int)) (a1 : Option Addr) (len1 cap1 : Nat) (z1 : List Int) (w : World) (hr0 : Kd.C (Kd.slice 5 (Kd.int .u8)) w A0 l0.length l0) (hc0 : l0.length ≤ c0) (w0 : l0.length ≤ maxLen ∧ l0.length * 24 ≤ 140737488351232 ∧ ∀ x ∈ l0, (fun xs : List Int => xs.length ≤ maxLen ∧ xs.length * 1 ≤ 140737488351232 ∧ ∀ x ∈ xs, (fun x : Int => (Lit.int .u8 x).wf = true) x) x) (w1 : (a1 = none ∧ len1 = 0 ∧ cap1 = 0 ∧ z1 = []) ∨ ∃ x, a1 = some x ∧ len1 ≤ cap1 ∧ cap1 ≤ maxLen ∧ z1.length = cap1 ∧ (∀ i, i < z1.length → w.cell? (x.add i) = some (.int .i64 (z1.getD i 0))) ∧ ∀ n ∈ z1, (Lit.int .i64 n).wf = true) (y1 : len1 * 8 ≤ 140737488351232) :
    Calls Try.prog 5 #[.slice A0 l0.length c0, .slice a1 len1 cap1] w fun e w' => e = .returned (.bool true) ∧ Below w.heap.size w w' := by
  obtain ⟨l1, rfl, hr1_, hm1, hw1, hc1⟩ := ReadsInt.ofRowC w1
  have hr1 := Kd.C_of_reads (d := (0 : Int)) (h1 := fun _ => rfl) hr1_
  have hP := P l0 l1 w0.1 w0.2.1 w0.2.2 hm1 y1 hw1
  exact Net.NetOrder_walk _ _ _ _ l0 l1 w hr0 hc0 hr1 hc1 (fun x hx => by have := (w0.2.2 x hx).2.1; omega)

end Go.Proofs.Ytjcpchkbhgijkaa.KNetOrder
