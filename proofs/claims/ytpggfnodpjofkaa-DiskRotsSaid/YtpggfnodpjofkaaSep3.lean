/- Words of this session's own, more: an element out of a row and back, cells of a row stored. -/
import Derived.Test.YtpggfnodpjofkaaSep2
namespace Go.Proofs.Ytpggfnodpjofkaa.Sep
open Go.RowKit Go.Proofs.YtpggfnodpjofkaaW.PrintWords Go.Proofs.YtpggfnodpjofkaaW.PrintLast
set_option linter.unusedVariables false
set_option linter.unusedSimpArgs false
theorem Els.put {α : Type} {d : Kd α} {w : World} {base : Nat} {x : α} {c : List Value} {okx : Nat → Prop} (hx : d.M w base okx x c) : ∀ (i : Nat) (ys : List α) (p q : List Value) (F : Nat → Prop), i ≤ ys.length → p.length = i * d.sz → (∀ k, okx k → F k) → Els d w base (fun k => F k ∧ ¬ okx k) ys (p ++ q) → Els d w base F (ys.take i ++ x :: ys.drop i) (p ++ c ++ q)
  | 0, ys, p, q, F, _, hp, hF, h => by
    rw [Nat.zero_mul] at hp
    obtain rfl := List.eq_nil_of_length_eq_zero hp
    exact ⟨c, q, okx, rfl, hF, hx, h⟩
  | i + 1, [], p, q, F, hi, hp, hF, h => by simp at hi
  | i + 1, y :: ys, p, q, F, hi, hp, hF, ⟨c0, cs', oky, he, hoky, hy, ht⟩ => by
    have hl := M_len hy
    have hp' : p = c0 ++ p.drop d.sz := by
      have h1 : p.take d.sz = c0 := by
        have := congrArg (List.take d.sz) he
        rw [List.take_append_of_le_length (by rw [hp, Nat.add_mul, Nat.one_mul]; omega), ← hl, List.take_left] at this
        rw [← hl]
        exact this
      rw [← h1, List.take_append_drop]
    have hq : p.drop d.sz ++ q = cs' := by
      rw [hp', List.append_assoc] at he
      exact List.append_cancel_left he
    have hlen : (p.drop d.sz).length = i * d.sz := by rw [List.length_drop, hp, Nat.add_mul, Nat.one_mul]; omega
    rw [← hq] at ht
    have hrec := Els.put hx i ys (p.drop d.sz) q (fun k => F k ∧ ¬ oky k) (by simpa using hi) hlen (fun k hk => ⟨hF k hk, fun h => (hoky k h).2 hk⟩) (ht.mono (fun k hk => ⟨⟨hk.1.1, hk.2⟩, hk.1.2⟩))
    refine ⟨c0, p.drop d.sz ++ c ++ q, oky, ?_, fun k hk => (hoky k hk).1, hy, hrec⟩
    rw [← List.append_assoc, ← List.append_assoc, ← hp']
theorem erase_put {α : Type} (x : α) : ∀ (xs : List α) (i : Nat), i < xs.length → (xs.eraseIdx i).take i ++ x :: (xs.eraseIdx i).drop i = xs.set i x
  | [], i, h => by simp at h
  | y :: xs, 0, _ => by simp
  | y :: xs, i + 1, h => by
    simp only [List.eraseIdx_cons_succ, List.take_succ_cons, List.drop_succ_cons, List.set_cons_succ, List.cons_append]
    rw [erase_put x xs i (by simpa using h)]
section
variable {base : Nat} {w0 W w1 : World} {L : List Atom}
/-- An element put back where one was taken out. -/
theorem St.el_back {α : Type} {d : Kd α} {xs : List α} {inner : List Value} {i : Nat} {x : α} {c : List Value} (hi : i < xs.length) (hl : inner.length = xs.length * d.sz)
    (h : St base w0 W (aM d x c :: aE d (xs.eraseIdx i) (inner.take (i * d.sz) ++ inner.drop ((i + 1) * d.sz)) :: L)) : St base w0 W (aE d (xs.set i x) (inner.take (i * d.sz) ++ c ++ inner.drop ((i + 1) * d.sz)) :: L) :=
  h.join (fun ok1 ok2 hd h1 h2 => by
    have hle : i * d.sz ≤ inner.length := by rw [hl]; exact Nat.mul_le_mul_right _ (Nat.le_of_lt hi)
    have := Els.put h1 i (xs.eraseIdx i) (inner.take (i * d.sz)) (inner.drop ((i + 1) * d.sz)) (fun k => ok1 k ∨ ok2 k) (by rw [List.length_eraseIdx, if_pos hi]; omega) (by rw [List.length_take]; exact Nat.min_eq_left hle) (fun k hk => .inl hk) (Els.mono h2 (fun k hk => ⟨.inr hk, hd k hk⟩))
    rw [erase_put x xs i hi] at this
    exact this)
/-- A cell of a row stored. -/
theorem St.row_set {e size g n c : Nat} {xs : List Value} (h : St base w0 W (aW e size (.slice (some ⟨g, 0, none⟩) n c) n xs :: L)) (j : Nat) (u : Value) : St base w0 (W.setCell ⟨g, j, none⟩ u) (aW e size (.slice (some ⟨g, 0, none⟩) n c) n (xs.set j u) :: L) := by
  refine h.upd (fun ok hok ha => ?_)
  obtain ⟨h1, h2⟩ := ha.2.stored j u
  refine ⟨⟨h2.os, h2.tape, h2.output, h2.size, fun q hq => h2.block q (by have := h.2.1; omega) (fun he => ?_)⟩, fun q hq hn => h2.block q hq (fun he => hn (ha.1 q (by rw [he]; rfl))), fun q hq => .inl (ha.1 q hq), h1⟩
  have := own_base ha.2 g rfl
  cases he
  omega
theorem St.row_cell {e size g n c : Nat} {xs : List Value} (h : St base w0 W (aW e size (.slice (some ⟨g, 0, none⟩) n c) n xs :: L)) (j : Nat) (u : Value) (hu : xs[j]? = some u) : W.cell? ⟨g, j, none⟩ = some u ∧ W.frozen? ⟨g, j, none⟩ = false := by
  obtain ⟨ok, _, ho⟩ := h.head
  have hc := ho.cells (g := g) rfl j u hu
  rw [add_plain] at hc
  refine ⟨hc, ?_⟩
  rcases ho.2 with ⟨hv, _⟩ | ⟨g', cap, cur, hv, _, hh, _⟩
  · cases hv
  · cases hv
    simp [World.frozen?, hh]
end
theorem set_mid {α : Type} (A B m m' : List α) (j : Nat) (u : α) (hm : m.set j u = m') (hj : j < m.length) : (A ++ m ++ B).set (A.length + j) u = A ++ m' ++ B := by
  rw [List.append_assoc, List.set_append_right _ _ (by omega), Nat.add_sub_cancel_left, List.set_append_left _ _ hj, hm, List.append_assoc]
end Go.Proofs.Ytpggfnodpjofkaa.Sep
