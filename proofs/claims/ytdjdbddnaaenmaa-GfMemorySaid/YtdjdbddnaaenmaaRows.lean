/-
  No cell of these rows narrows 'for every input' (looked for: loops, veiled, ifaces, maps, wideKeys, modest, calm, conditions, laid).
  DERIVED. THE GIVEN ROWS OF THIS SEAT. 8 by the template 'for every input the law returns true; each argument reads behind the call as it read before'; 0 by the template 'total and deterministic' (their statements: YtdjdbddnaaenmaaTotals.lean).
  GIVEN WITH THE SEED: the statements are not yours to turn. If you find one false, say at which input.
  Laid BY PROGRAM, IN A SANDBOX (cutbox-rows.mjs): the forced cells as the released guide's own fill.sh prints them over the translation 7433aa9532ff3a79… (all of the seat's roots in one cut). By AI agents, Wed Nov 11 2026. No macro, syntax, notation, axiom, sorry.
-/
import Derived.Test.YtdjdbddnaaenmaaChecked
import GoSem.Claim
import GoSem.ClaimJoined
import GoSem.ClaimMapViews
import Derived.JoinedTies
import Derived.KernelRfl
namespace Go.Proofs.Ytdjdbddnaaenmaa
/- THE CELL 'sum', in the pinned program and in every row, IS THE sha256 OF THE DUMP (.gsa) THAT YtdjdbddnaaenmaaProg.lean LOADS. Nothing in Lean hashes anything: it is a label: what it is worth is what the hold of that sum in a sandbox is worth. -/
noncomputable def Try.pinned : Pinned := { name := "ytdjdbddnaaenmaa", sum := "7433aa9532ff3a79a1fbc0d36047d8a8f08a92a5b01bd60a4c68daf77ff016d5", checked := Try.checked }
namespace Rows
def none {H : Type} : Left H := { results := [], args := [] }

/-- 'rilllaw01.GfNames': WHATEVER THE INPUT: true; the input reads as it did. -/
def gfNamesSpec : ChangeSpec := { name := "gfNames", fn := fun _ => fun
  | [] => { results := [.lit (.bool true)], args := [] }
  | _ => none }
def gfNamesRow : OpenClaim := { program := "ytdjdbddnaaenmaa", sum := "7433aa9532ff3a79a1fbc0d36047d8a8f08a92a5b01bd60a4c68daf77ff016d5", func := "rill/rilllaw01.GfNames", spec := "gfNames", apart := false }
def GfNamesSaid : Prop := gfNamesRow.holds Try.pinned (OpenSpec.ofChange gfNamesSpec)

/-- ITS FALSE NEIGHBOUR: 'it returns false'. Refute it at one input. -/
def gfNamesWrong : ChangeSpec := { name := "gfNames", fn := fun _ => fun
  | [] => { results := [.lit (.bool false)], args := [] }
  | _ => none }
def GfNamesWrongFalsely : Prop := gfNamesRow.holds Try.pinned (OpenSpec.ofChange gfNamesWrong)

/-- 'rilllaw01.GfField': WHATEVER THE INPUT: true; the input reads as it did. -/
def gfFieldSpec : ChangeSpec := { name := "gfField", fn := fun _ => fun
  | [d1, d2, d3] => { results := [.lit (.bool true)], args := [d1, d2, d3] }
  | _ => none }
def gfFieldRow : OpenClaim := { program := "ytdjdbddnaaenmaa", sum := "7433aa9532ff3a79a1fbc0d36047d8a8f08a92a5b01bd60a4c68daf77ff016d5", func := "rill/rilllaw01.GfField", spec := "gfField", apart := false }
def GfFieldSaid : Prop := gfFieldRow.holds Try.pinned (OpenSpec.ofChange gfFieldSpec)

/-- ITS FALSE NEIGHBOUR: 'it returns false'. Refute it at one input. -/
def gfFieldWrong : ChangeSpec := { name := "gfField", fn := fun _ => fun
  | [d1, d2, d3] => { results := [.lit (.bool false)], args := [d1, d2, d3] }
  | _ => none }
def GfFieldWrongFalsely : Prop := gfFieldRow.holds Try.pinned (OpenSpec.ofChange gfFieldWrong)

/-- 'rilllaw01.GfLists': WHATEVER THE INPUT: true; the input reads as it did. -/
def gfListsSpec : ChangeSpec := { name := "gfLists", fn := fun _ => fun
  | [d1, d2, d3, d4] => { results := [.lit (.bool true)], args := [d1, d2, d3, d4] }
  | _ => none }
def gfListsRow : OpenClaim := { program := "ytdjdbddnaaenmaa", sum := "7433aa9532ff3a79a1fbc0d36047d8a8f08a92a5b01bd60a4c68daf77ff016d5", func := "rill/rilllaw01.GfLists", spec := "gfLists", apart := false }
def GfListsSaid : Prop := gfListsRow.holds Try.pinned (OpenSpec.ofChange gfListsSpec)

/-- ITS FALSE NEIGHBOUR: 'it returns false'. Refute it at one input. -/
def gfListsWrong : ChangeSpec := { name := "gfLists", fn := fun _ => fun
  | [d1, d2, d3, d4] => { results := [.lit (.bool false)], args := [d1, d2, d3, d4] }
  | _ => none }
def GfListsWrongFalsely : Prop := gfListsRow.holds Try.pinned (OpenSpec.ofChange gfListsWrong)

/-- 'rilllaw01.GfLinear': WHATEVER THE INPUT: true; the input reads as it did. -/
def gfLinearSpec : ChangeSpec := { name := "gfLinear", fn := fun _ => fun
  | [d1, d2, d3] => { results := [.lit (.bool true)], args := [d1, d2, d3] }
  | _ => none }
def gfLinearRow : OpenClaim := { program := "ytdjdbddnaaenmaa", sum := "7433aa9532ff3a79a1fbc0d36047d8a8f08a92a5b01bd60a4c68daf77ff016d5", func := "rill/rilllaw01.GfLinear", spec := "gfLinear", apart := false }
def GfLinearSaid : Prop := gfLinearRow.holds Try.pinned (OpenSpec.ofChange gfLinearSpec)

/-- ITS FALSE NEIGHBOUR: 'it returns false'. Refute it at one input. -/
def gfLinearWrong : ChangeSpec := { name := "gfLinear", fn := fun _ => fun
  | [d1, d2, d3] => { results := [.lit (.bool false)], args := [d1, d2, d3] }
  | _ => none }
def GfLinearWrongFalsely : Prop := gfLinearRow.holds Try.pinned (OpenSpec.ofChange gfLinearWrong)

/-- 'rilllaw01.GfMemory': WHATEVER THE INPUT: true; the input reads as it did. -/
def gfMemorySpec : ChangeSpec := { name := "gfMemory", fn := fun _ => fun
  | [d1, d2] => { results := [.lit (.bool true)], args := [d1, d2] }
  | _ => none }
def gfMemoryRow : OpenClaim := { program := "ytdjdbddnaaenmaa", sum := "7433aa9532ff3a79a1fbc0d36047d8a8f08a92a5b01bd60a4c68daf77ff016d5", func := "rill/rilllaw01.GfMemory", spec := "gfMemory", apart := false }
def GfMemorySaid : Prop := gfMemoryRow.holds Try.pinned (OpenSpec.ofChange gfMemorySpec)

/-- ITS FALSE NEIGHBOUR: 'it returns false'. Refute it at one input. -/
def gfMemoryWrong : ChangeSpec := { name := "gfMemory", fn := fun _ => fun
  | [d1, d2] => { results := [.lit (.bool false)], args := [d1, d2] }
  | _ => none }
def GfMemoryWrongFalsely : Prop := gfMemoryRow.holds Try.pinned (OpenSpec.ofChange gfMemoryWrong)

/-- 'rilllaw01.GfInverts': WHATEVER THE INPUT: true; the input reads as it did. -/
def gfInvertsSpec : ChangeSpec := { name := "gfInverts", fn := fun _ => fun
  | [d1, d2] => { results := [.lit (.bool true)], args := [d1, d2] }
  | _ => none }
def gfInvertsRow : OpenClaim := { program := "ytdjdbddnaaenmaa", sum := "7433aa9532ff3a79a1fbc0d36047d8a8f08a92a5b01bd60a4c68daf77ff016d5", func := "rill/rilllaw01.GfInverts", spec := "gfInverts", apart := false }
def GfInvertsSaid : Prop := gfInvertsRow.holds Try.pinned (OpenSpec.ofChange gfInvertsSpec)

/-- ITS FALSE NEIGHBOUR: 'it returns false'. Refute it at one input. -/
def gfInvertsWrong : ChangeSpec := { name := "gfInverts", fn := fun _ => fun
  | [d1, d2] => { results := [.lit (.bool false)], args := [d1, d2] }
  | _ => none }
def GfInvertsWrongFalsely : Prop := gfInvertsRow.holds Try.pinned (OpenSpec.ofChange gfInvertsWrong)

/-- 'rilllaw01.GfProducts': WHATEVER THE INPUT: true; the input reads as it did. -/
def gfProductsSpec : ChangeSpec := { name := "gfProducts", fn := fun _ => fun
  | [d1, d2, d3] => { results := [.lit (.bool true)], args := [d1, d2, d3] }
  | _ => none }
def gfProductsRow : OpenClaim := { program := "ytdjdbddnaaenmaa", sum := "7433aa9532ff3a79a1fbc0d36047d8a8f08a92a5b01bd60a4c68daf77ff016d5", func := "rill/rilllaw01.GfProducts", spec := "gfProducts", apart := false }
def GfProductsSaid : Prop := gfProductsRow.holds Try.pinned (OpenSpec.ofChange gfProductsSpec)

/-- ITS FALSE NEIGHBOUR: 'it returns false'. Refute it at one input. -/
def gfProductsWrong : ChangeSpec := { name := "gfProducts", fn := fun _ => fun
  | [d1, d2, d3] => { results := [.lit (.bool false)], args := [d1, d2, d3] }
  | _ => none }
def GfProductsWrongFalsely : Prop := gfProductsRow.holds Try.pinned (OpenSpec.ofChange gfProductsWrong)

/-- 'rilllaw01.GfPowers': WHATEVER THE INPUT: true; the input reads as it did. -/
def gfPowersSpec : ChangeSpec := { name := "gfPowers", fn := fun _ => fun
  | [d1, d2] => { results := [.lit (.bool true)], args := [d1, d2] }
  | _ => none }
def gfPowersRow : OpenClaim := { program := "ytdjdbddnaaenmaa", sum := "7433aa9532ff3a79a1fbc0d36047d8a8f08a92a5b01bd60a4c68daf77ff016d5", func := "rill/rilllaw01.GfPowers", spec := "gfPowers", apart := false }
def GfPowersSaid : Prop := gfPowersRow.holds Try.pinned (OpenSpec.ofChange gfPowersSpec)

/-- ITS FALSE NEIGHBOUR: 'it returns false'. Refute it at one input. -/
def gfPowersWrong : ChangeSpec := { name := "gfPowers", fn := fun _ => fun
  | [d1, d2] => { results := [.lit (.bool false)], args := [d1, d2] }
  | _ => none }
def GfPowersWrongFalsely : Prop := gfPowersRow.holds Try.pinned (OpenSpec.ofChange gfPowersWrong)

/- THE SECOND FORM. 'bulk': how many values and letters a reading holds, each counted each time it is reached (what is shared counts as often as it is met; a slice's spare places count too). A statement '..UptoSaid' is the law's where the arguments, and the package variables that the reading takes, are together of bulk at most 1048576: NARROWER than '..Said'. Prove '..Said' where nothing that the law and all that it calls make is longer than what came in: it says more and counts as full. Else prove '..UptoSaid'. A law counts once. -/
mutual
def uptoBulk {H : Type} : DataW H → Nat
  | .lit (.string bytes) => bytes.length + 1
  | .lit _ => 1
  | .nil => 1
  | .ptr d => uptoBulk d + 1
  | .slice elems spare => uptoBulkAll elems + uptoBulkAll spare + 1
  | .agg parts => uptoBulkAll parts + 1
  | .iface _ d => uptoBulk d + 1
  | .map entries => uptoBulkEntries entries + 1
  | .held _ => 1
def uptoBulkAll {H : Type} : List (DataW H) → Nat
  | [] => 0
  | d :: r => uptoBulk d + uptoBulkAll r
def uptoBulkEntries {H : Type} : List (Lit × DataW H) → Nat
  | [] => 0
  | x :: r => uptoBulkEntry x + uptoBulkEntries r
def uptoBulkEntry {H : Type} : Lit × DataW H → Nat
  | (.string bytes, d) => bytes.length + uptoBulk d + 1
  | (_, d) => uptoBulk d + 1
 end
def uptoSmall : (H : Type) → List (DataW H) → Bool := fun _ ds => decide (uptoBulkAll ds ≤ 1048576)
def OpenSpec.upto (s : _root_.Go.ChangeSpec) : _root_.Go.OpenSpec := { _root_.Go.OpenSpec.ofChange s with cond := some uptoSmall }

/-- 'rilllaw01.GfNames', WHERE WHAT IT READS IS OF BULK AT MOST 1048576: true; the input reads as it did. -/
def gfNamesUptoRow : OpenClaim := { program := "ytdjdbddnaaenmaa", sum := "7433aa9532ff3a79a1fbc0d36047d8a8f08a92a5b01bd60a4c68daf77ff016d5", func := "rill/rilllaw01.GfNames", spec := "gfNames", apart := false, narrowed := true }
def GfNamesUptoSaid : Prop := gfNamesUptoRow.holds Try.pinned (OpenSpec.upto gfNamesSpec)

/-- 'rilllaw01.GfField', WHERE WHAT IT READS IS OF BULK AT MOST 1048576: true; the input reads as it did. -/
def gfFieldUptoRow : OpenClaim := { program := "ytdjdbddnaaenmaa", sum := "7433aa9532ff3a79a1fbc0d36047d8a8f08a92a5b01bd60a4c68daf77ff016d5", func := "rill/rilllaw01.GfField", spec := "gfField", apart := false, narrowed := true }
def GfFieldUptoSaid : Prop := gfFieldUptoRow.holds Try.pinned (OpenSpec.upto gfFieldSpec)

/-- 'rilllaw01.GfLists', WHERE WHAT IT READS IS OF BULK AT MOST 1048576: true; the input reads as it did. -/
def gfListsUptoRow : OpenClaim := { program := "ytdjdbddnaaenmaa", sum := "7433aa9532ff3a79a1fbc0d36047d8a8f08a92a5b01bd60a4c68daf77ff016d5", func := "rill/rilllaw01.GfLists", spec := "gfLists", apart := false, narrowed := true }
def GfListsUptoSaid : Prop := gfListsUptoRow.holds Try.pinned (OpenSpec.upto gfListsSpec)

/-- 'rilllaw01.GfLinear', WHERE WHAT IT READS IS OF BULK AT MOST 1048576: true; the input reads as it did. -/
def gfLinearUptoRow : OpenClaim := { program := "ytdjdbddnaaenmaa", sum := "7433aa9532ff3a79a1fbc0d36047d8a8f08a92a5b01bd60a4c68daf77ff016d5", func := "rill/rilllaw01.GfLinear", spec := "gfLinear", apart := false, narrowed := true }
def GfLinearUptoSaid : Prop := gfLinearUptoRow.holds Try.pinned (OpenSpec.upto gfLinearSpec)

/-- 'rilllaw01.GfMemory', WHERE WHAT IT READS IS OF BULK AT MOST 1048576: true; the input reads as it did. -/
def gfMemoryUptoRow : OpenClaim := { program := "ytdjdbddnaaenmaa", sum := "7433aa9532ff3a79a1fbc0d36047d8a8f08a92a5b01bd60a4c68daf77ff016d5", func := "rill/rilllaw01.GfMemory", spec := "gfMemory", apart := false, narrowed := true }
def GfMemoryUptoSaid : Prop := gfMemoryUptoRow.holds Try.pinned (OpenSpec.upto gfMemorySpec)

/-- 'rilllaw01.GfInverts', WHERE WHAT IT READS IS OF BULK AT MOST 1048576: true; the input reads as it did. -/
def gfInvertsUptoRow : OpenClaim := { program := "ytdjdbddnaaenmaa", sum := "7433aa9532ff3a79a1fbc0d36047d8a8f08a92a5b01bd60a4c68daf77ff016d5", func := "rill/rilllaw01.GfInverts", spec := "gfInverts", apart := false, narrowed := true }
def GfInvertsUptoSaid : Prop := gfInvertsUptoRow.holds Try.pinned (OpenSpec.upto gfInvertsSpec)

/-- 'rilllaw01.GfProducts', WHERE WHAT IT READS IS OF BULK AT MOST 1048576: true; the input reads as it did. -/
def gfProductsUptoRow : OpenClaim := { program := "ytdjdbddnaaenmaa", sum := "7433aa9532ff3a79a1fbc0d36047d8a8f08a92a5b01bd60a4c68daf77ff016d5", func := "rill/rilllaw01.GfProducts", spec := "gfProducts", apart := false, narrowed := true }
def GfProductsUptoSaid : Prop := gfProductsUptoRow.holds Try.pinned (OpenSpec.upto gfProductsSpec)

/-- 'rilllaw01.GfPowers', WHERE WHAT IT READS IS OF BULK AT MOST 1048576: true; the input reads as it did. -/
def gfPowersUptoRow : OpenClaim := { program := "ytdjdbddnaaenmaa", sum := "7433aa9532ff3a79a1fbc0d36047d8a8f08a92a5b01bd60a4c68daf77ff016d5", func := "rill/rilllaw01.GfPowers", spec := "gfPowers", apart := false, narrowed := true }
def GfPowersUptoSaid : Prop := gfPowersUptoRow.holds Try.pinned (OpenSpec.upto gfPowersSpec)

end Rows
end Go.Proofs.Ytdjdbddnaaenmaa
