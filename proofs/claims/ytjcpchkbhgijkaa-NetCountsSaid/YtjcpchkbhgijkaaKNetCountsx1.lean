-- printed by a program of this session (ownprint.py), out of the translation; Lean checks it
import Derived.Test.YtjcpchkbhgijkaaKNetCountsx0
namespace Go.Proofs.Ytjcpchkbhgijkaa.KNetCounts
open Go.RowKit Go.Proofs.YtjcpchkbhgijkaaW.PrintWords Go.Proofs.YtjcpchkbhgijkaaW.PrintLast Go.Proofs.YtjcpchkbhgijkaaW.PrintMore
attribute [local go_sem] max2_int min2_int max_two min_two max_three min_three max_four min_four   -- for this text's walks alone
set_option linter.unusedVariables false
set_option linter.unusedSimpArgs false

/-! ### rilllaw12_NetCounts: function 4 -/
def ok33 (x : S33) : Prop := (fun x : Int => (Lit.int .i64 x).wf = true) x.f0 ∧ (fun x : Int => (Lit.int .i64 x).wf = true) x.f1 ∧ (fun xs : List Int => xs.length ≤ maxLen ∧ xs.length * 1 ≤ 140737488351232 ∧ ∀ x ∈ xs, (fun x : Int => (Lit.int .u8 x).wf = true) x) x.f2
theorem opens33 : Own.Opens Try.prog k33 33 ok33 :=
  Own.opens_iso (g := fun p => (⟨p.1, p.2.1, p.2.2⟩ : S33)) (fun _ => rfl) (Own.opens_struct (n := 3) Try.underlying33 (by kernel_rfl) (Own.opens_cons (Own.opens_int Try.underlying3) rfl 1 (by kernel_rfl) (Own.opens_cons (Own.opens_int Try.underlying3) rfl 2 (by kernel_rfl) (Own.opens_last (Own.opens_slice 5 Try.underlying31 (by kernel_rfl) (by kernel_rfl) (Own.opens_int Try.underlying5)) rfl (by kernel_rfl)))))
/-- THE ONE PURE STATEMENT of rilllaw12_NetCounts. -/
def rilllaw12_NetCounts.Pure : Prop := ∀ (l0 : List (S33)), l0.length ≤ maxLen → l0.length * 40 ≤ 140737488351232 → (∀ x ∈ l0, ok33 x) → True
theorem rilllaw12_NetCounts.walk (P : rilllaw12_NetCounts.Pure) (A0 : Option Addr) (c0 : Nat) (l0 : List (S33)) (w : World) (hr0 : Kd.C k33 w A0 l0.length l0) (hc0 : l0.length ≤ c0) (w0 : l0.length ≤ maxLen ∧ l0.length * 40 ≤ 140737488351232 ∧ ∀ x ∈ l0, ok33 x) :
    Calls Try.prog 4 #[.slice A0 l0.length c0] w fun e w' => e = .returned (.bool true) ∧ Below w.heap.size w w' := by
  have hP := P l0 w0.1 w0.2.1 w0.2.2
  have h1 := Sep.C_iso (d := Net.opk) (f := fun x : S33 => (x.f0, x.f1, x.f2)) hr0
  have h := Net.NetCounts_walk _ _ (l0.map (fun x : S33 => (x.f0, x.f1, x.f2))) w h1 (by rw [List.length_map]; exact hc0) (fun y hy => by
    obtain ⟨x, hx, rfl⟩ := List.mem_map.1 hy
    have := (w0.2.2 x hx).2.2.2.1
    show x.f2.length ≤ _
    omega)
  rw [List.length_map] at h
  exact h

end Go.Proofs.Ytjcpchkbhgijkaa.KNetCounts
