/- Words of this session's own, more: rows of whole numbers appended to. -/
import Derived.Test.YtpggfnodpjofkaaSep
namespace Go.Proofs.Ytpggfnodpjofkaa.Sep
open Go.RowKit Go.Proofs.YtpggfnodpjofkaaW.PrintWords Go.Proofs.YtpggfnodpjofkaaW.PrintLast
set_option linter.unusedVariables false
set_option linter.unusedSimpArgs false
section
variable {base : Nat} {w0 W w1 : World} {L : List Atom}
theorem St.ints_grown {e : Nat} {k : IntKind} {v v1 : Value} {xs zs : List Int} (h : St base w0 W (aM (sep e (Kd.int k)) xs [v] :: L)) (ho : w1.ownsRow base e 1 v1 zs.length (nums k zs)) (hg : W.grownBy w1 v.ownBlock) (hat : v1.ownBlock = v.ownBlock ∨ ∃ b, v1.ownBlock = some b ∧ W.heap.size ≤ b) :
    St base w0 w1 (aM (sep e (Kd.int k)) zs [v1] :: L) := by
  refine h.upd (fun ok hok hM => ?_)
  obtain ⟨h0, hown⟩ := ints_own hM
  refine ⟨⟨hg.os, hg.tape, hg.output, hg.size, fun q hq => hg.block q (by have := h.2.1; omega) (fun he => ?_)⟩, fun q hq hn => hg.block q hq (fun he => hn (h0 q he.symm)), own_ints ?_ ho⟩
  · have := own_base hown q he.symm
    omega
  · intro q hq
    rcases hat with hat | ⟨b, hb, hl⟩
    · exact .inl (h0 q (hat ▸ hq))
    · rw [hb] at hq
      cases hq
      exact .inr hl
/-- A literal of whole numbers. -/
theorem St.lit {e : Nat} {k : IntKind} (h : St base w0 W L) (xs : List Int) (hm : xs.length ≤ 9223372036854775807) : St base w0 (W.alloc (.cells (nums k xs).toArray e)) (aM (sep e (Kd.int k)) xs [.slice (some ⟨W.heap.size, 0, none⟩) xs.length xs.length] :: L) :=
  h.newM (d := sep e (Kd.int k)) (below_alloc (Below.refl _ _) _) (own_ints (ok := fun _ => True) (fun _ _ => trivial) (own_lit W W.heap.size e k xs (Nat.le_refl _) hm))
variable {P : Program} {ops : Array Oper} {rest : List Oper} {o : Oper} {a : Act} {Q : Exit → Act → World → Prop} {Kc : Act → World → Prop}
/-- append(v, ys...), v a row of whole numbers of one's own, ys read. -/
theorem St.append_row {e : Nat} {k : IntKind} {v : Value} {xs ys : List Int} (H : St base w0 W (aM (sep e (Kd.int k)) xs [v] :: L)) (hgd : o.guard = none) (s x : Operand) (t bytes : Nat)
    (ho : o.op = .call { callee := .builtin .append, args := #[s, x], argTypes := #[t, t] })
    (ht : P.underlying t = some (.slice e)) (hinfo : (P.info? e).map (fun i => (i.zero, i.size, i.bytes)) = some (some (.int k 0), 1, bytes)) (hb0 : 0 < bytes)
    (A : Option Addr) (c : Nat) (hs : a.eval s = v) (hx : a.eval x = .slice A ys.length c) (HR : Kd.C (Kd.int k) W A ys.length ys) (hl : (xs.length + ys.length) * bytes ≤ 140737488355328)
    (h : ∀ v1 w1, St base w0 w1 (aM (sep e (Kd.int k)) (xs ++ ys) [v1] :: L) → wpList P ops Q rest (a.put o.dst v1) w1) :
    wpList P ops Q (o :: rest) a W := by
  obtain ⟨ok, hM⟩ := H.head
  exact print_append_row base hgd s x t e k bytes ho ht hinfo hb0 v xs ys A ys.length c hs hx (ints_own hM).2 (Kd.reads_of_C (d := (0 : Int)) HR) H.1 H.2.1 hl (fun v1 w1 h1 h2 h3 h4 => h v1 w1 (H.ints_grown h1 h3 h4))
end
end Go.Proofs.Ytpggfnodpjofkaa.Sep
