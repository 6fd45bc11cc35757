/- Words of this session's own: a state told as atoms, each over blocks of its own. -/
import Derived.Test.YtpggfnodpjofkaaWWords
import Derived.Test.YtpggfnodpjofkaaWLast
import Derived.Test.YtpggfnodpjofkaaWApart
import Derived.Test.YtpggfnodpjofkaaOwn
namespace Go.Proofs.Ytpggfnodpjofkaa.Sep
open Go.RowKit Go.Proofs.YtpggfnodpjofkaaW.PrintWords Go.Proofs.YtpggfnodpjofkaaW.PrintLast
set_option linter.unusedVariables false
set_option linter.unusedSimpArgs false

/-! ### rows whose elements lie apart -/
/-- The elements' cells one behind the other, each element over blocks of its own, all of them in F. -/
def Els {α : Type} (d : Kd α) (w : World) (base : Nat) : (Nat → Prop) → List α → List Value → Prop
  | _, [], cs => cs = []
  | F, x :: xs, cs => ∃ c cs' okx, cs = c ++ cs' ∧ (∀ k, okx k → F k) ∧ d.M w base okx x c ∧ Els d w base (fun k => F k ∧ ¬ okx k) xs cs'
section
variable {α : Type} {d : Kd α} {w w1 : World} {base : Nat}
theorem Els.grow (B : Nat → Prop) (hB : ∀ ok x c, d.M w base ok x c → d.M w1 base (fun k => ok k ∧ B k) x c) :
    ∀ (xs : List α) (cs : List Value) (F F' : Nat → Prop), (∀ k, F k → B k → F' k) → Els d w base F xs cs → Els d w1 base F' xs cs
  | [], _, _, _, _, h => h
  | x :: xs, cs, F, F', hF, ⟨c, cs', okx, he, hok, hx, ht⟩ =>
    ⟨c, cs', fun k => okx k ∧ B k, he, fun k hk => hF k (hok k hk.1) hk.2, hB _ _ _ hx,
      Els.grow B hB xs cs' _ _ (fun k hk hb => ⟨hF k hk.1 hb, fun h => hk.2 h.1⟩) ht⟩
theorem Els.mono {xs : List α} {cs : List Value} {F F' : Nat → Prop} (h : Els d w base F xs cs) (hF : ∀ k, F k → F' k) : Els d w base F' xs cs :=
  Els.grow (fun _ => True) (fun _ _ _ hm => d.M_mono (fun _ hk => ⟨hk, trivial⟩) hm) xs cs F F' (fun k hk _ => hF k hk) h
theorem Els.bound {xs : List α} {cs : List Value} {F : Nat → Prop} (h : Els d w base F xs cs) :
    Els d w base (fun k => F k ∧ base ≤ k ∧ k < w.heap.size ∧ ∃ q, q ∈ d.E ∧ ∃ cells, w.heap[k]? = some (.cells cells q (0, 0))) xs cs :=
  Els.grow (fun k => base ≤ k ∧ k < w.heap.size ∧ ∃ q, q ∈ d.E ∧ ∃ cells, w.heap[k]? = some (.cells cells q (0, 0))) (fun _ _ _ hm => d.M_bound hm) xs cs F _ (fun _ hk hb => ⟨hk, hb⟩) h
theorem Els.move : ∀ {xs : List α} {cs : List Value} {F : Nat → Prop}, (∀ k, F k → w1.heap[k]? = w.heap[k]?) → Els d w base F xs cs → Els d w1 base F xs cs
  | [], _, _, _, h => h
  | _ :: _, _, _, hm, ⟨c, cs', okx, he, hok, hx, ht⟩ => ⟨c, cs', okx, he, hok, d.M_move (fun k hk => hm k (hok k hk)) hx, Els.move (fun k hk => hm k hk.1) ht⟩
theorem Els.lower {base' : Nat} (hb : base' ≤ base) : ∀ {xs : List α} {cs : List Value} {F : Nat → Prop}, Els d w base F xs cs → Els d w base' F xs cs
  | [], _, _, h => h
  | _ :: _, _, _, ⟨c, cs', okx, he, hok, hx, ht⟩ => ⟨c, cs', okx, he, hok, d.M_lower hb hx, Els.lower hb ht⟩
theorem M_len {ok : Nat → Prop} {x : α} {c : List Value} (h : d.M w base ok x c) : c.length = d.sz := d.K_len (d.K_of_M h)
theorem Els.len : ∀ {xs : List α} {cs : List Value} {F : Nat → Prop}, Els d w base F xs cs → cs.length = xs.length * d.sz
  | [], cs, _, h => by simp [show cs = [] from h]
  | x :: xs, cs, _, ⟨c, cs', okx, he, hok, hx, ht⟩ => by
    rw [he, List.length_append, M_len hx, Els.len ht, List.length_cons, Nat.add_mul, Nat.one_mul, Nat.add_comm]
theorem Els.one : ∀ {xs : List α} {cs : List Value} {F : Nat → Prop}, Els d w base F xs cs → ∀ u ∈ cs, u.oneCell' = true
  | [], cs, _, h, u, hu => by rw [show cs = [] from h] at hu; cases hu
  | x :: xs, cs, _, ⟨c, cs', okx, he, hok, hx, ht⟩, u, hu => by
    rw [he] at hu
    rcases List.mem_append.1 hu with hu | hu
    · exact d.K_one (d.K_of_M hx) u hu
    · exact Els.one ht u hu
/-- Element i out of the row: its cells, and the others without it. -/
theorem Els.out : ∀ {xs : List α} {cs : List Value} {F : Nat → Prop} (i : Nat) (x : α), xs[i]? = some x → Els d w base F xs cs →
    ∃ c okx, (cs.drop (i * d.sz)).take d.sz = c ∧ c.length = d.sz ∧ (∀ k, okx k → F k) ∧ d.M w base okx x c ∧ Els d w base (fun k => F k ∧ ¬ okx k) (xs.eraseIdx i) (cs.take (i * d.sz) ++ cs.drop ((i + 1) * d.sz)) ∧
      ∀ (x' : α) (c' : List Value) (w' : World) (okx' F' : Nat → Prop), (∀ k, F k → ¬ okx k → w'.heap[k]? = w.heap[k]?) → (∀ k, okx' k → F' k) → (∀ k, F k → ¬ okx k → F' k ∧ ¬ okx' k) → d.M w' base okx' x' c' → Els d w' base F' (xs.set i x') (cs.take (i * d.sz) ++ c' ++ cs.drop ((i + 1) * d.sz))
  | [], _, _, _, _, hx, _ => by simp at hx
  | y :: xs, cs, F, 0, x, hx, ⟨c, cs', okx, he, hok, hM, ht⟩ => by
    obtain rfl : y = x := by simpa using hx
    subst he
    have hl := M_len hM
    have hd : (c ++ cs').drop d.sz = cs' := by rw [← hl, List.drop_left]
    refine ⟨c, okx, ?_, hl, hok, hM, ?_, ?_⟩
    · rw [Nat.zero_mul, List.drop_zero, ← hl, List.take_left]
    · simp only [Nat.zero_mul, List.take_zero, Nat.zero_add, Nat.one_mul, List.nil_append, List.eraseIdx_cons_zero]
      rw [hd]
      exact ht
    · intro x' c' w' okx' F' hw h1 h2 hM'
      simp only [Nat.zero_mul, List.take_zero, Nat.zero_add, Nat.one_mul, List.nil_append, List.set_cons_zero]
      rw [hd]
      exact ⟨c', cs', okx', rfl, h1, hM', (Els.move (fun k hk => hw k hk.1 hk.2) ht).mono (fun k hk => h2 k hk.1 hk.2)⟩
  | y :: xs, cs, F, i + 1, x, hx, ⟨c, cs', oky, he, hok, hM, ht⟩ => by
    subst he
    have hl := M_len hM
    have hx' : xs[i]? = some x := by simpa using hx
    obtain ⟨c1, okx, e1, e2, h1, hM1, ht1, hset⟩ := Els.out i x hx' ht
    have a1 : (i + 1) * d.sz = c.length + i * d.sz := by rw [hl, Nat.add_mul, Nat.one_mul, Nat.add_comm]
    have a2 : (i + 1 + 1) * d.sz = c.length + (i + 1) * d.sz := by rw [hl, Nat.add_mul (i + 1), Nat.one_mul, Nat.add_comm]
    have e3 : (c ++ cs').take ((i + 1) * d.sz) = c ++ cs'.take (i * d.sz) := by rw [a1, List.take_append, List.take_of_length_le (by omega), Nat.add_sub_cancel_left]
    have e4 : (c ++ cs').drop ((i + 1 + 1) * d.sz) = cs'.drop ((i + 1) * d.sz) := by rw [a2, List.drop_append, List.drop_of_length_le (by omega), List.nil_append, Nat.add_sub_cancel_left]
    refine ⟨c1, okx, ?_, e2, fun k hk => (h1 k hk).1, hM1, ?_, ?_⟩
    · rw [a1, List.drop_append, List.drop_of_length_le (by omega), List.nil_append, Nat.add_sub_cancel_left]
      exact e1
    · rw [e3, e4, List.eraseIdx_cons_succ, List.append_assoc]
      exact ⟨c, _, oky, rfl, fun k hk => ⟨hok k hk, fun h => (h1 k h).2 hk⟩, hM, ht1.mono (fun k hk => ⟨⟨hk.1.1, hk.2⟩, hk.1.2⟩)⟩
    · intro x' c' w' okx' F' hw h2 h3 hM'
      rw [e3, e4, List.set_cons_succ, List.append_assoc, List.append_assoc]
      refine ⟨c, _, oky, rfl, fun k hk => (h3 k (hok k hk) (fun h => (h1 k h).2 hk)).1, d.M_move (fun k hk => hw k (hok k hk) (fun h => (h1 k h).2 hk)) hM, ?_⟩
      have := hset x' c' w' okx' (fun k => F' k ∧ ¬ oky k) (fun k hk hn => hw k hk.1 hn) (fun k hk => ⟨h2 k hk, ?_⟩) (fun k hk hn => ⟨⟨(h3 k hk.1 hn).1, hk.2⟩, (h3 k hk.1 hn).2⟩) hM'
      · rw [← List.append_assoc]; exact this
      · intro hy
        exact (h3 k (hok k hy) (fun h => (h1 k h).2 hy)).2 hk
theorem Els.snoc : ∀ {xs : List α} {cs c : List Value} {F okx : Nat → Prop} {x : α}, Els d w base (fun k => F k ∧ ¬ okx k) xs cs → (∀ k, okx k → F k) → d.M w base okx x c → Els d w base F (xs ++ [x]) (cs ++ c)
  | [], cs, c, F, okx, x, h, hok, hx => by
    rw [show cs = [] from h]
    exact ⟨c, [], okx, by simp, hok, hx, rfl⟩
  | y :: xs, cs, c, F, okx, x, ⟨c0, cs', oky, he, hoky, hy, ht⟩, hok, hx => by
    subst he
    rw [List.append_assoc]
    exact ⟨c0, _, oky, rfl, fun k hk => (hoky k hk).1, hy, Els.snoc (ht.mono (fun k hk => ⟨⟨hk.1.1, hk.2⟩, hk.1.2⟩)) (fun k hk => ⟨hok k hk, fun h => (hoky k h).2 hk⟩) hx⟩
theorem Els.reps {xs : List α} {cs : List Value} {F : Nat → Prop} (h : Els d w base F xs cs) : Reps (d.M w base F) d.sz xs cs := by
  refine ⟨Els.len h, fun j p hj => ?_⟩
  obtain ⟨c, okx, e1, _, h1, hM, _⟩ := Els.out j p hj h
  rw [e1]
  exact d.M_mono h1 hM
end
/-- A row of one's own (its blocks in ok), its elements apart. -/
def RowS {α : Type} (d : Kd α) (e : Nat) (w : World) (base : Nat) (ok : Nat → Prop) (v : Value) (xs : List α) : Prop :=
  ∃ inner, w.ownsRow base e d.sz v xs.length inner ∧ (∀ k, v.ownBlock = some k → ok k) ∧ Els d w base (fun k => ok k ∧ some k ≠ v.ownBlock) xs inner
theorem RowS.R {α : Type} {d : Kd α} {e : Nat} {w : World} {base : Nat} {ok : Nat → Prop} {v : Value} {xs : List α} (h : RowS d e w base ok v xs) : d.R e w base ok v xs := by
  obtain ⟨inner, ho, h0, hE⟩ := h
  exact ⟨h0, inner, ho, hE.reps⟩
theorem RowS.of_R {α : Type} {enc : α → Value} {h1 : ∀ x, (enc x).oneCell' = true} {e : Nat} {w : World} {base : Nat} {ok : Nat → Prop} {v : Value} {xs : List α} (h : (Kd.scalar enc h1).R e w base ok v xs) : RowS (Kd.scalar enc h1) e w base ok v xs := by
  refine ⟨encs enc xs, Kd.own_of_R h, h.1, ?_⟩
  have go : ∀ (F : Nat → Prop) (xs : List α), Els (Kd.scalar enc h1) w base F xs (encs enc xs) := by
    intro F xs
    induction xs generalizing F with
    | nil => rfl
    | cons x xs ih => exact ⟨[enc x], encs enc xs, fun _ => False, rfl, fun _ hk => hk.elim, rfl, ih _⟩
  exact go _ xs
/-- Rows whose elements lie apart, as a kind. -/
def sep {α : Type} (e : Nat) (d : Kd α) : Kd (List α) where
  sz := 1
  E := e :: d.E
  K := (Kd.slice e d).K
  M := fun w base ok xs cs => ∃ v, cs = [v] ∧ RowS d e w base ok v xs
  K_len := (Kd.slice e d).K_len
  K_one := (Kd.slice e d).K_one
  K_below := (Kd.slice e d).K_below
  K_of_M := by
    rintro w base ok x cs ⟨v, rfl, h⟩
    exact (Kd.slice e d).K_of_M ⟨v, rfl, h.R⟩
  M_mono := by
    rintro w base ok ok' x cs hok ⟨v, rfl, inner, ho, h0, hE⟩
    exact ⟨v, rfl, inner, ho, fun k hk => hok k (h0 k hk), hE.mono (fun k hk => ⟨hok k hk.1, hk.2⟩)⟩
  M_bound := by
    rintro w base ok x cs ⟨v, rfl, inner, ho, h0, hE⟩
    refine ⟨v, rfl, inner, ho, fun k hk => ⟨h0 k hk, own_base ho k hk, own_lt ho k hk, e, List.mem_cons_self, own_typed ho k hk⟩, hE.bound.mono ?_⟩
    rintro k ⟨⟨h2, h3⟩, h4, h5, q, hq, hc⟩
    exact ⟨⟨h2, h4, h5, q, List.mem_cons_of_mem _ hq, hc⟩, h3⟩
  M_move := by
    rintro w w1 base ok x cs hm ⟨v, rfl, inner, ho, h0, hE⟩
    exact ⟨v, rfl, inner, own_move ho (fun k hk => hm k (h0 k hk)), h0, hE.move (fun k hk => hm k hk.1)⟩
  M_lower := by
    rintro w base base' ok x cs hb ⟨v, rfl, inner, ho, h0, hE⟩
    exact ⟨v, rfl, inner, own_weaken ho hb, h0, hE.lower hb⟩
/-- Two in line, each over blocks of its own. -/
def both {α β : Type} (a : Kd α) (b : Kd β) : Kd (α × β) where
  sz := a.sz + b.sz
  E := a.E ++ b.E
  K := (Kd.pair a b).K
  M := fun w base ok x cs => ∃ c0 c1 ok0 ok1, cs = c0 ++ c1 ∧ (∀ k, ok0 k → ok k) ∧ (∀ k, ok1 k → ok k ∧ ¬ ok0 k) ∧ a.M w base ok0 x.1 c0 ∧ b.M w base ok1 x.2 c1
  K_len := (Kd.pair a b).K_len
  K_one := (Kd.pair a b).K_one
  K_below := (Kd.pair a b).K_below
  K_of_M := by
    rintro w base ok x cs ⟨c0, c1, ok0, ok1, rfl, h0, h1, ha, hb⟩
    exact ⟨c0, c1, rfl, a.K_of_M ha, b.K_of_M hb⟩
  M_mono := by
    rintro w base ok ok' x cs hok ⟨c0, c1, ok0, ok1, rfl, h0, h1, ha, hb⟩
    exact ⟨c0, c1, ok0, ok1, rfl, fun k hk => hok k (h0 k hk), fun k hk => ⟨hok k (h1 k hk).1, (h1 k hk).2⟩, ha, hb⟩
  M_bound := by
    rintro w base ok x cs ⟨c0, c1, ok0, ok1, rfl, h0, h1, ha, hb⟩
    refine ⟨c0, c1, _, _, rfl, ?_, ?_, a.M_bound ha, b.M_bound hb⟩
    · rintro k ⟨h2, h3, h4, q, hq, hc⟩
      exact ⟨h0 k h2, h3, h4, q, List.mem_append_left _ hq, hc⟩
    · rintro k ⟨h2, h3, h4, q, hq, hc⟩
      exact ⟨⟨(h1 k h2).1, h3, h4, q, List.mem_append_right _ hq, hc⟩, fun h => (h1 k h2).2 h.1⟩
  M_move := by
    rintro w w1 base ok x cs hm ⟨c0, c1, ok0, ok1, rfl, h0, h1, ha, hb⟩
    exact ⟨c0, c1, ok0, ok1, rfl, h0, h1, a.M_move (fun k hk => hm k (h0 k hk)) ha, b.M_move (fun k hk => hm k (h1 k hk).1) hb⟩
  M_lower := by
    rintro w base base' ok x cs hbb ⟨c0, c1, ok0, ok1, rfl, h0, h1, ha, hb⟩
    exact ⟨c0, c1, ok0, ok1, rfl, h0, h1, a.M_lower hbb ha, b.M_lower hbb hb⟩
/-- Its cells told besides. -/
def here {α : Type} (d : Kd α) : Kd (α × List Value) where
  sz := d.sz
  E := d.E
  K := fun w x cs => cs = x.2 ∧ d.K w x.1 cs
  M := fun w base ok x cs => cs = x.2 ∧ d.M w base ok x.1 cs
  K_len := fun h => d.K_len h.2
  K_one := fun h => d.K_one h.2
  K_below := fun hb h => ⟨h.1, d.K_below hb h.2⟩
  K_of_M := fun h => ⟨h.1, d.K_of_M h.2⟩
  M_mono := fun hok h => ⟨h.1, d.M_mono hok h.2⟩
  M_bound := fun h => ⟨h.1, d.M_bound h.2⟩
  M_move := fun hm h => ⟨h.1, d.M_move hm h.2⟩
  M_lower := fun hb h => ⟨h.1, d.M_lower hb h.2⟩

theorem cellA {w : World} {a : Addr} {v : Value} (h : w.cell? a = some v) (o : Obj) : (w.alloc o).cell? a = some v := pw_cell_below (below_alloc (Below.refl _ _) o) h
theorem cellD {w : World} {a : Addr} {v : Value} (h : w.cell? a = some v) : w.drew.cell? a = some v := h
/-! ### atoms and states -/
structure Atom where
  P : World → Nat → (Nat → Prop) → Prop
  mono : ∀ {w base ok ok'}, (∀ k, ok k → ok' k) → P w base ok → P w base ok'
  bound : ∀ {w : World} {base ok}, P w base ok → P w base (fun k => ok k ∧ base ≤ k ∧ k < w.heap.size)
  move : ∀ {w w1 : World} {base ok}, (∀ k, ok k → w1.heap[k]? = w.heap[k]?) → P w base ok → P w1 base ok
/-- x of kind d lies in the cells cs. -/
def aM {α : Type} (d : Kd α) (x : α) (cs : List Value) : Atom where
  P := fun w base ok => d.M w base ok x cs
  mono := d.M_mono
  bound := fun h => d.M_mono (fun _ hk => ⟨hk.1, hk.2.1, hk.2.2.1⟩) (d.M_bound h)
  move := d.M_move
/-- A block of one's own. -/
def aB (g : Nat) (cs : Array Value) (t : TypeId) : Atom where
  P := fun w base ok => ok g ∧ base ≤ g ∧ w.heap[g]? = some (.cells cs t (0, 0))
  mono := fun hok h => ⟨hok _ h.1, h.2⟩
  bound := fun h => ⟨⟨h.1, h.2.1, blk_lt h.2.2⟩, h.2⟩
  move := fun hm h => ⟨h.1, h.2.1, (hm _ h.1).trans h.2.2⟩
/-- A row of one's own: its cells. -/
def aW (e size : Nat) (v : Value) (n : Nat) (xs : List Value) : Atom where
  P := fun w base ok => (∀ k, v.ownBlock = some k → ok k) ∧ w.ownsRow base e size v n xs
  mono := fun hok h => ⟨fun k hk => hok k (h.1 k hk), h.2⟩
  bound := fun h => ⟨fun k hk => ⟨h.1 k hk, own_base h.2 k hk, own_lt h.2 k hk⟩, h.2⟩
  move := fun hm h => ⟨h.1, own_move h.2 (fun k hk => hm k (h.1 k hk))⟩
/-- Elements' cells. -/
def aE {α : Type} (d : Kd α) (xs : List α) (cs : List Value) : Atom where
  P := fun w base ok => Els d w base ok xs cs
  mono := fun hok h => h.mono hok
  bound := fun h => h.bound.mono (fun _ hk => ⟨hk.1, hk.2.1, hk.2.2.1⟩)
  move := fun hm h => h.move hm
def Holds (w : World) (base : Nat) : (Nat → Prop) → List Atom → Prop
  | _, [] => True
  | F, a :: L => ∃ ok, (∀ k, ok k → F k) ∧ a.P w base ok ∧ Holds w base (fun k => F k ∧ ¬ ok k) L
section
variable {w w1 : World} {base : Nat}
theorem Holds.grow (B : Nat → Prop) (hB : ∀ (a : Atom) ok, a.P w base ok → a.P w1 base (fun k => ok k ∧ B k)) :
    ∀ (L : List Atom) (F F' : Nat → Prop), (∀ k, F k → B k → F' k) → Holds w base F L → Holds w1 base F' L
  | [], _, _, _, h => h
  | a :: L, F, F', hF, ⟨ok, hok, ha, hL⟩ =>
    ⟨fun k => ok k ∧ B k, fun k hk => hF k (hok k hk.1) hk.2, hB a ok ha, Holds.grow B hB L _ _ (fun k hk hb => ⟨hF k hk.1 hb, fun h => hk.2 h.1⟩) hL⟩
theorem Holds.mono {L : List Atom} {F F' : Nat → Prop} (h : Holds w base F L) (hF : ∀ k, F k → F' k) : Holds w base F' L :=
  Holds.grow (fun _ => True) (fun a _ ha => a.mono (fun _ hk => ⟨hk, trivial⟩) ha) L F F' (fun k hk _ => hF k hk) h
theorem Holds.bound {L : List Atom} {F : Nat → Prop} (h : Holds w base F L) : Holds w base (fun k => F k ∧ base ≤ k ∧ k < w.heap.size) L :=
  Holds.grow (fun k => base ≤ k ∧ k < w.heap.size) (fun a _ ha => a.bound ha) L F _ (fun _ hk hb => ⟨hk, hb⟩) h
theorem Holds.move : ∀ {L : List Atom} {F : Nat → Prop}, (∀ k, F k → w1.heap[k]? = w.heap[k]?) → Holds w base F L → Holds w1 base F L
  | [], _, _, h => h
  | a :: _, _, hm, ⟨ok, hok, ha, hL⟩ => ⟨ok, hok, a.move (fun k hk => hm k (hok k hk)) ha, Holds.move (fun k hk => hm k hk.1) hL⟩
theorem Holds.perm {L L' : List Atom} (hp : L.Perm L') : ∀ {F : Nat → Prop}, Holds w base F L → Holds w base F L' := by
  induction hp with
  | nil => exact fun h => h
  | cons a _ ih => exact fun ⟨ok, hok, ha, hL⟩ => ⟨ok, hok, ha, ih hL⟩
  | swap a b l =>
    rintro F ⟨ok, hok, ha, ok2, hok2, hb, hL⟩
    exact ⟨ok2, fun k hk => (hok2 k hk).1, hb, ok, fun k hk => ⟨hok k hk, fun h => (hok2 k h).2 hk⟩, ha, hL.mono (fun k hk => ⟨⟨hk.1.1, hk.2⟩, hk.1.2⟩)⟩
  | trans _ _ ih1 ih2 => exact fun h => ih2 (ih1 h)
end
/-- The world is w0 but from block base on, and there the atoms hold, each over blocks of its own. -/
def St (base : Nat) (w0 w : World) (L : List Atom) : Prop := Below base w0 w ∧ base ≤ w.heap.size ∧ Holds w base (fun _ => True) L
section
variable {base : Nat} {w0 w w1 : World} {L L' : List Atom} {a b c : Atom}
theorem St.start (w : World) : St w.heap.size w w [] := ⟨Below.refl _ _, Nat.le_refl _, trivial⟩
theorem St.below (h : St base w0 w L) : Below base w0 w := h.1
theorem St.perm (h : St base w0 w L) (hp : L.Perm L') : St base w0 w L' := ⟨h.1, h.2.1, h.2.2.perm hp⟩
theorem St.front (i : Nat) (h : St base w0 w L) (x : Atom) (hx : L[i]? = some x) : St base w0 w (x :: L.eraseIdx i) := by
  refine h.perm ?_
  clear h
  induction L generalizing i with
  | nil => simp at hx
  | cons y L ih =>
    cases i with
    | zero =>
      obtain rfl : y = x := by simpa using hx
      exact List.Perm.refl _
    | succ i => exact ((ih i (by simpa using hx)).cons y).trans (List.Perm.swap x y _)
theorem St.f1 {a b : Atom} (h : St base w0 w (a :: b :: L)) : St base w0 w (b :: a :: L) := h.front 1 _ rfl
theorem St.f2 {a b c : Atom} (h : St base w0 w (a :: b :: c :: L)) : St base w0 w (c :: a :: b :: L) := h.front 2 _ rfl
theorem St.f3 {a b c d : Atom} (h : St base w0 w (a :: b :: c :: d :: L)) : St base w0 w (d :: a :: b :: c :: L) := h.front 3 _ rfl
theorem St.f4 {a b c d e : Atom} (h : St base w0 w (a :: b :: c :: d :: e :: L)) : St base w0 w (e :: a :: b :: c :: d :: L) := h.front 4 _ rfl
theorem St.f5 {a b c d e f : Atom} (h : St base w0 w (a :: b :: c :: d :: e :: f :: L)) : St base w0 w (f :: a :: b :: c :: d :: e :: L) := h.front 5 _ rfl
theorem St.drop (h : St base w0 w (a :: L)) : St base w0 w L := by
  obtain ⟨hb, hs, ok, _, _, hL⟩ := h
  exact ⟨hb, hs, hL.mono (fun _ _ => trivial)⟩
theorem St.head (h : St base w0 w (a :: L)) : ∃ ok, a.P w base ok := by
  obtain ⟨hb, hs, ok, _, ha, hL⟩ := h
  exact ⟨ok, ha⟩
/-- The first atom by another that holds over the same blocks. -/
theorem St.imp (h : St base w0 w (a :: L)) (hi : ∀ ok, a.P w base ok → b.P w base ok) : St base w0 w (b :: L) := by
  obtain ⟨hb, hs, ok, hok, ha, hL⟩ := h
  exact ⟨hb, hs, ok, hok, hi ok ha, hL⟩
theorem St.split (h : St base w0 w (a :: L)) (hi : ∀ ok, a.P w base ok → ∃ ok1 ok2, (∀ k, ok1 k → ok k) ∧ (∀ k, ok2 k → ok k ∧ ¬ ok1 k) ∧ b.P w base ok1 ∧ c.P w base ok2) : St base w0 w (b :: c :: L) := by
  obtain ⟨hb, hs, ok, hok, ha, hL⟩ := h
  obtain ⟨ok1, ok2, h1, h2, hbb, hc⟩ := hi ok ha
  exact ⟨hb, hs, ok1, fun k hk => hok k (h1 k hk), hbb, ok2, fun k hk => ⟨trivial, (h2 k hk).2⟩, hc, hL.mono (fun k hk => ⟨⟨trivial, fun h => hk.2 (h1 k h)⟩, fun h => hk.2 (h2 k h).1⟩)⟩
theorem St.join (h : St base w0 w (b :: c :: L)) (hi : ∀ ok1 ok2, (∀ k, ok2 k → ¬ ok1 k) → b.P w base ok1 → c.P w base ok2 → a.P w base (fun k => ok1 k ∨ ok2 k)) : St base w0 w (a :: L) := by
  obtain ⟨hb, hs, ok1, h1, hbb, ok2, h2, hc, hL⟩ := h
  exact ⟨hb, hs, _, fun _ _ => trivial, hi ok1 ok2 (fun k hk => (h2 k hk).2) hbb hc, hL.mono (fun k hk => ⟨trivial, fun h => h.elim hk.1.2 hk.2⟩)⟩
/-- Nothing that the atoms speak of has turned. -/
theorem St.far (h : St base w0 w L) (hb : Below w.heap.size w w1) : St base w0 w1 L :=
  ⟨below_then h.1 h.2.1 hb, Nat.le_trans h.2.1 hb.size, (Holds.move (fun k hk => hb.block k hk.2.2) h.2.2.bound).mono (fun _ _ => trivial)⟩
theorem St.alloc (h : St base w0 w L) (o : Obj) : St base w0 (w.alloc o) L := h.far (below_alloc (Below.refl _ _) o)
theorem St.drewN (h : St base w0 w L) (n : Nat) : St base w0 (w.drewN n) L := h.far (pw_below_drewN (Below.refl _ _) n)
theorem St.drew (h : St base w0 w L) : St base w0 w.drew L := h.far (below_drew (Below.refl _ _))
/-- Something new, made by a call that turned nothing that was there. -/
theorem St.new (h : St base w0 w L) (hb : Below w.heap.size w w1) (hn : ∃ ok, a.P w1 w.heap.size ok) (hl : ∀ ok, a.P w1 w.heap.size ok → a.P w1 base ok) : St base w0 w1 (a :: L) := by
  obtain ⟨ok, hn⟩ := hn
  refine ⟨below_then h.1 h.2.1 hb, Nat.le_trans h.2.1 hb.size, _, fun _ _ => trivial, hl _ (a.bound hn), (Holds.move (fun k hk => hb.block k hk.2.2) h.2.2.bound).mono (fun k hk => ⟨trivial, fun h => ?_⟩)⟩
  have := hk.2.2
  have := h.2.1
  omega
theorem St.newM {α : Type} {d : Kd α} {ok : Nat → Prop} {x : α} {cs : List Value} (h : St base w0 w L) (hb : Below w.heap.size w w1) (hn : d.M w1 w.heap.size ok x cs) : St base w0 w1 (aM d x cs :: L) :=
  h.new hb ⟨ok, hn⟩ (fun _ hp => d.M_lower h.2.1 hp)
theorem St.newR {α : Type} {enc : α → Value} {h1 : ∀ x, (enc x).oneCell' = true} {e : Nat} {ok : Nat → Prop} {v : Value} {xs : List α} (h : St base w0 w L) (hb : Below w.heap.size w w1) (hn : (Kd.scalar enc h1).R e w1 w.heap.size ok v xs) :
    St base w0 w1 (aM (sep e (Kd.scalar enc h1)) xs [v] :: L) := h.newM hb (d := sep e (Kd.scalar enc h1)) ⟨v, rfl, RowS.of_R hn⟩
theorem St.box (h : St base w0 w L) (cs : Array Value) (t : TypeId) : St base w0 (w.alloc (.cells cs t)) (aB w.heap.size cs t :: L) :=
  h.new (below_alloc (Below.refl _ _) _) ⟨fun _ => True, trivial, Nat.le_refl _, heap_alloc_new w _⟩ (fun _ hp => ⟨hp.1, h.2.1, hp.2.2⟩)
/-- The first atom's blocks have been written, and new ones made. -/
theorem St.upd (h : St base w0 w (a :: L)) (hi : ∀ ok, (∀ k, ok k → base ≤ k ∧ k < w.heap.size) → a.P w base ok → Below base w w1 ∧ (∀ k, k < w.heap.size → ¬ ok k → w1.heap[k]? = w.heap[k]?) ∧ b.P w1 base (fun k => ok k ∨ w.heap.size ≤ k)) : St base w0 w1 (b :: L) := by
  obtain ⟨hb, hs, ok, hok, ha, hL⟩ := h
  obtain ⟨h1, h2, h3⟩ := hi _ (fun k hk => hk.2) (a.bound ha)
  refine ⟨hb.trans h1, Nat.le_trans hs h1.size, _, fun _ _ => trivial, h3, (Holds.move (fun k hk => h2 k hk.2.2 (fun hk2 => hk.1.2 hk2.1)) hL.bound).mono (fun k hk => ⟨trivial, ?_⟩)⟩
  rintro (h | h)
  · exact hk.1.2 h.1
  · have := hk.2.2
    omega
theorem St.set {g : Nat} {cs : Array Value} {t : TypeId} (h : St base w0 w (aB g cs t :: L)) (j : Nat) (u : Value) : St base w0 (w.setCell ⟨g, j, none⟩ u) (aB g (cs.setIfInBounds j u) t :: L) := by
  refine h.upd (fun ok hok ha => ⟨(Below.refl _ _).setCell ha.2.1 _, fun k _ hn => Below.heap_setCell _ _ _ _ (fun he => hn (by rw [show k = g from he]; exact ha.1)), .inl ha.1, ha.2.1, blk_set ha.2.2 j u⟩)
theorem St.blk {g : Nat} {cs : Array Value} {t : TypeId} (h : St base w0 w (aB g cs t :: L)) : w.heap[g]? = some (.cells cs t (0, 0)) := by
  obtain ⟨_, _, ok, _, ha, _⟩ := h
  exact ha.2.2
theorem St.cell {g : Nat} {cs : Array Value} {t : TypeId} (h : St base w0 w (aB g cs t :: L)) (j : Nat) : w.cell? ⟨g, j, none⟩ = cs[j]? := blk_cell h.blk j
theorem St.frozen {g : Nat} {cs : Array Value} {t : TypeId} (h : St base w0 w (aB g cs t :: L)) (j : Nat) : w.frozen? ⟨g, j, none⟩ = false := blk_frozen h.blk j
/-- What may be read of a thing of one's own. -/
theorem St.K {α : Type} {d : Kd α} {x : α} {cs : List Value} (h : St base w0 w (aM d x cs :: L)) : d.K w x cs := by
  obtain ⟨_, _, ok, _, ha, _⟩ := h
  exact d.K_of_M ha
theorem St.reads {α : Type} {d : Kd α} {e : Nat} {xs : List α} {v : Value} (h : St base w0 w (aM (sep e d) xs [v] :: L)) : ∃ A c, v = .slice A xs.length c ∧ xs.length ≤ c ∧ d.C w A xs.length xs := by
  obtain ⟨A, c, he, hl, hr⟩ := h.K
  exact ⟨A, c, (List.cons.inj he).1, hl, hr⟩
/-- A row apart from its elements. -/
theorem St.open_row {α : Type} {d : Kd α} {e : Nat} {xs : List α} {v : Value} (h : St base w0 w (aM (sep e d) xs [v] :: L)) : ∃ inner, St base w0 w (aW e d.sz v xs.length inner :: aE d xs inner :: L) := by
  obtain ⟨hb, hs, ok, hok, ⟨v', he, inner, ho, h0, hE⟩, hL⟩ := h
  obtain rfl := (List.cons.inj he).1
  exact ⟨inner, hb, hs, fun k => some k = v.ownBlock, fun _ _ => trivial, ⟨fun k hk => hk.symm, ho⟩, _, fun k hk => ⟨trivial, hk.2⟩, hE, hL.mono (fun k hk => ⟨⟨trivial, fun h => hk.2 (h0 k h.symm)⟩, fun h => hk.2 h.1⟩)⟩
theorem St.shut_row {α : Type} {d : Kd α} {e : Nat} {xs : List α} {v : Value} {inner : List Value} (h : St base w0 w (aW e d.sz v xs.length inner :: aE d xs inner :: L)) : St base w0 w (aM (sep e d) xs [v] :: L) :=
  h.join (fun ok1 ok2 hd h1 h2 => ⟨v, rfl, inner, h1.2, fun k hk => .inl (h1.1 k hk), Els.mono h2 (fun k hk => ⟨.inr hk, fun he => hd k hk (h1.1 k he.symm)⟩)⟩)
/-- One element out of the elements. -/
theorem St.take_el {α : Type} {d : Kd α} {xs : List α} {inner : List Value} (h : St base w0 w (aE d xs inner :: L)) (i : Nat) (x : α) (hx : xs[i]? = some x) :
    St base w0 w (aM d x ((inner.drop (i * d.sz)).take d.sz) :: aE d (xs.eraseIdx i) (inner.take (i * d.sz) ++ inner.drop ((i + 1) * d.sz)) :: L) := by
  refine h.split (fun ok hE => ?_)
  obtain ⟨c, okx, rfl, _, h1, hM, ht, _⟩ := Els.out i x hx hE
  exact ⟨okx, _, h1, fun k hk => hk, hM, ht⟩
theorem St.put_el {α : Type} {d : Kd α} {xs : List α} {inner : List Value} {x : α} {cs : List Value} (h : St base w0 w (aM d x cs :: aE d xs inner :: L)) : St base w0 w (aE d (xs ++ [x]) (inner ++ cs) :: L) :=
  h.join (fun ok1 ok2 hd h1 h2 => Els.snoc (Els.mono h2 (fun k hk => ⟨.inr hk, hd k hk⟩)) (fun _ hk => .inl hk) h1)
theorem St.el_one {α : Type} {d : Kd α} {x : α} {cs : List Value} (h : St base w0 w (aM d x cs :: L)) : cs.length = d.sz ∧ ∀ u ∈ cs, u.oneCell' = true := ⟨d.K_len h.K, d.K_one h.K⟩
theorem St.split_both {α β : Type} {a : Kd α} {b : Kd β} {x : α × β} {cs : List Value} (h : St base w0 w (aM (both a b) x cs :: L)) : ∃ c0 c1, cs = c0 ++ c1 ∧ c0.length = a.sz ∧ St base w0 w (aM a x.1 c0 :: aM b x.2 c1 :: L) := by
  obtain ⟨hb, hs, ok, hok, ⟨c0, c1, ok0, ok1, rfl, h0, h1, ha, hbb⟩, hL⟩ := h
  exact ⟨c0, c1, rfl, M_len ha, hb, hs, ok0, fun _ _ => trivial, ha, ok1, fun k hk => ⟨trivial, (h1 k hk).2⟩, hbb, hL.mono (fun k hk => ⟨⟨trivial, fun h => hk.2 (h0 k h)⟩, fun h => hk.2 (h1 k h).1⟩)⟩
theorem St.join_both {α β : Type} {a : Kd α} {b : Kd β} {x : α} {y : β} {c0 c1 : List Value} (h : St base w0 w (aM a x c0 :: aM b y c1 :: L)) : St base w0 w (aM (both a b) (x, y) (c0 ++ c1) :: L) :=
  h.join (fun ok1 ok2 hd h1 h2 => ⟨c0, c1, ok1, ok2, rfl, fun _ hk => .inl hk, fun k hk => ⟨.inr hk, hd k hk⟩, h1, h2⟩)
end
/-! ### append of one element -/
section
variable {base : Nat} {w0 W w1 : World} {L : List Atom}
theorem St.nil_row {α : Type} (d : Kd α) (e : Nat) (h : St base w0 W L) : St base w0 W (aM (sep e d) [] [.slice none 0 0] :: L) :=
  h.new (Below.refl _ _) ⟨fun _ => True, .slice none 0 0, rfl, [], own_nil _ _ _ _, fun k hk => by simp [Value.ownBlock] at hk, rfl⟩ (fun _ hp => (sep e d).M_lower h.2.1 hp)
theorem St.scal {α : Type} (enc : α → Value) (h1 : ∀ x, (enc x).oneCell' = true) (x : α) (h : St base w0 W L) : St base w0 W (aM (Kd.scalar enc h1) x [enc x] :: L) :=
  h.new (Below.refl _ _) ⟨fun _ => True, rfl⟩ (fun _ hp => hp)
theorem St.appended {α : Type} {d : Kd α} {e : Nat} {xs : List α} {x : α} {v v1 : Value} {inner cs : List Value} (h : St base w0 W (aW e d.sz v xs.length inner :: aE d xs inner :: aM d x cs :: L))
    (ho : w1.ownsRow base e d.sz v1 (xs.length + 1) (inner ++ cs)) (hg : W.grownBy w1 v.ownBlock) (hat : v1.ownBlock = v.ownBlock ∨ ∃ b, v1.ownBlock = some b ∧ W.heap.size ≤ b) : St base w0 w1 (aM (sep e d) (xs ++ [x]) [v1] :: L) := by
  have h1 : St base w0 W (aM d x cs :: aE d xs inner :: aW e d.sz v xs.length inner :: L) := h.perm (((List.Perm.swap _ _ _).cons _).trans ((List.Perm.swap _ _ _).trans ((List.Perm.swap _ _ _).cons _)))
  have h2 := (h1.put_el).perm (List.Perm.swap _ _ _)
  have h3 : St base w0 w1 (aW e d.sz v1 (xs ++ [x]).length (inner ++ cs) :: aE d (xs ++ [x]) (inner ++ cs) :: L) := by
    refine h2.upd (fun ok hok ha => ⟨⟨hg.os, hg.tape, hg.output, hg.size, fun k hk => hg.block k (by have := h.2.1; omega) (fun he => ?_)⟩, fun k hk hn => hg.block k hk (fun he => hn (ha.1 k he.symm)), ?_, ?_⟩)
    · have := own_base ha.2 k he.symm
      omega
    · intro k hk
      rcases hat with hat | ⟨b, hb, hl⟩
      · exact .inl (ha.1 k (hat ▸ hk))
      · rw [hb] at hk
        cases hk
        exact .inr hl
    · rw [List.length_append, List.length_singleton]
      exact ho
  exact h3.shut_row
variable {P : Program} {ops : Array Oper} {rest : List Oper} {o : Oper} {a : Act} {Q : Exit → Act → World → Prop} {Kc : Act → World → Prop}
theorem St.append {α : Type} {d : Kd α} {e : Nat} {xs : List α} {x : α} {v : Value} {cs : List Value} (H : St base w0 W (aM (sep e d) xs [v] :: aM d x cs :: L)) (hgd : o.guard = none) (s y : Operand) (t : TypeId) (z : Value) (bytes : Nat)
    (ho : o.op = .call { callee := .builtin .append, args := #[s, y], argTypes := #[t, t] })
    (ht : P.underlying t = some (.slice e)) (hinfo : (P.info? e).map (fun i => (i.zero, i.size, i.bytes)) = some (some z, d.sz, bytes)) (hz : z.cells.size = d.sz) (hs0 : 0 < d.sz) (hb0 : 0 < bytes)
    (hs : a.eval s = v) (hx : a.eval y = .slice (some ⟨W.heap.size, 0, none⟩) 1 1) (hl : (xs.length + 1) * bytes ≤ 140737488355328)
    (h : ∀ v1 w1, St base w0 w1 (aM (sep e d) (xs ++ [x]) [v1] :: L) → wpList P ops Q rest (a.put o.dst v1) w1) :
    wpList P ops Q (o :: rest) a (W.alloc (.cells cs.toArray e)) := by
  obtain ⟨inner, H1⟩ := H.open_row
  obtain ⟨ok, hW⟩ := H1.head
  have hM := (H1.drop.drop).el_one
  exact print_append_cells base hgd s y t e z d.sz bytes ho ht hinfo hz hs0 hb0 v xs.length inner cs hs hx hM.1 hM.2 hW.2 H.1 H.2.1 hl (fun v1 w1 h1 h2 h3 h4 => h v1 w1 (H1.appended h1 h3 h4))
theorem St.append_step {α : Type} {d : Kd α} {e : Nat} {xs : List α} {x : α} {v : Value} {cs : List Value} (H : St base w0 W (aM (sep e d) xs [v] :: aM d x cs :: L)) (hw : Region.wanted o (yielded ops a.tmps) = true) (s y : Operand) (t : TypeId) (z : Value) (bytes : Nat)
    (ho : o.op = .call { callee := .builtin .append, args := #[s, y], argTypes := #[t, t] })
    (ht : P.underlying t = some (.slice e)) (hinfo : (P.info? e).map (fun i => (i.zero, i.size, i.bytes)) = some (some z, d.sz, bytes)) (hz : z.cells.size = d.sz) (hs0 : 0 < d.sz) (hb0 : 0 < bytes)
    (hs : a.eval s = v) (hx : a.eval y = .slice (some ⟨W.heap.size, 0, none⟩) 1 1) (hl : (xs.length + 1) * bytes ≤ 140737488355328)
    (h : ∀ v1 w1, St base w0 w1 (aM (sep e d) (xs ++ [x]) [v1] :: L) → Kc (a.put o.dst v1) w1) :
    if Region.wanted o (yielded ops a.tmps) = true then Oper.wp P o a (W.alloc (.cells cs.toArray e)) Kc Q else Kc (a.put o.dst undef) (W.alloc (.cells cs.toArray e)) := by
  obtain ⟨inner, H1⟩ := H.open_row
  obtain ⟨ok, hW⟩ := H1.head
  have hM := (H1.drop.drop).el_one
  exact step_append_cells base hw s y t e z d.sz bytes ho ht hinfo hz hs0 hb0 v xs.length inner cs hs hx hM.1 hM.2 hW.2 H.1 H.2.1 hl (fun v1 w1 h1 h2 h3 h4 => h v1 w1 (H1.appended h1 h3 h4))
end
/-! ### clear; an element taken out -/
theorem zeroCells_one (z : Array Value) (n : Nat) (h1 : ∀ u ∈ z.toList, u.oneCell' = true) : ∀ u ∈ (Builtin.zeroCells z n).toList, u.oneCell' = true := by
  intro u hu
  simp only [Builtin.zeroCells, Array.toList_map, List.mem_map] at hu
  obtain ⟨i, hi, rfl⟩ := hu
  have hi' : i < n * z.size := by simpa using hi
  have hz : 0 < z.size := by
    rcases Nat.eq_zero_or_pos z.size with h | h
    · rw [h, Nat.mul_zero] at hi'; omega
    · exact h
  have hm := Nat.mod_lt i hz
  rw [getElem!_pos z (i % z.size) hm]
  exact h1 _ (Array.getElem_mem_toList hm)
theorem clear_run {P : Program} (w : World) (t e : TypeId) (z : Value) (ht : P.underlying t = some (.slice e)) (hv : ∀ w, (zeroValue e).run P w = .ok z w) (h1 : ∀ u ∈ z.cells.toList, u.oneCell' = true) (g off m c : Nat) (cur : Array Value)
    (hg : w.heap[g]? = some (.cells cur e (0, 0))) (hm : 0 < m) (hfit : off + m * z.cells.size ≤ cur.size) :
    ∃ cur', (∀ ty, (Builtin.clear_ #[t] ty #[.slice (some ⟨g, off, none⟩) m c]).run P w = .ok (.tuple #[]) (w.setRow g cur')) ∧ cur'.size = cur.size ∧ cur'.toList.take off = cur.toList.take off := by
  have hzs := size_zeroCells z.cells m
  have hst := run_storeCells_at (P := P) g off e (Builtin.zeroCells z.cells m).toList 0 cur w hg (by simpa [hzs] using hfit) (zeroCells_one _ _ h1)
  rw [Nat.add_zero] at hst
  have e1 : (cur.toList.take off ++ (Builtin.zeroCells z.cells m).toList ++ cur.toList.drop (off + (Builtin.zeroCells z.cells m).toList.length)).toArray.size = cur.size := by
    simp only [List.size_toArray, List.length_append, List.length_take, List.length_drop, Array.length_toList, hzs]
    omega
  have e2 : (cur.toList.take off ++ (Builtin.zeroCells z.cells m).toList ++ cur.toList.drop (off + (Builtin.zeroCells z.cells m).toList.length)).toArray.toList.take off = cur.toList.take off := by
    rw [List.append_assoc, List.take_append_of_le_length (by simp only [List.length_take, Array.length_toList]; omega), List.take_take, Nat.min_self]
  refine ⟨_, fun ty => ?_, e1, e2⟩
  obtain ⟨m, rfl⟩ : ∃ k, m = k + 1 := ⟨m - 1, by omega⟩
  simp [Builtin.clear_, run_underlying ht, hv, hst]
theorem grownBy_setRow (w : World) (g : Nat) (cs : Array Value) : w.grownBy (w.setRow g cs) (some g) :=
  ⟨rfl, rfl, rfl, by simp, fun k _ hk => setRow_other w g k cs (fun h => hk (by rw [h]))⟩
section
variable {base : Nat} {w0 W w1 : World} {L : List Atom}
theorem St.cleared {e size g n c : Nat} {xs : List Value} (h : St base w0 W (aW e size (.slice (some ⟨g, 0, none⟩) n c) n xs :: L)) {cur cur' : Array Value} (hg : W.heap[g]? = some (.cells cur e (0, 0))) (h1 : cur'.size = cur.size) (h2 : cur'.toList.take (n * size) = cur.toList.take (n * size)) :
    St base w0 (W.setRow g cur') (aW e size (.slice (some ⟨g, 0, none⟩) n c) n xs :: L) := by
  refine h.upd (fun ok hok ha => ⟨⟨rfl, rfl, rfl, by simp, fun k hk => setRow_other W g k cur' (fun he => ?_)⟩, fun k hk hn => setRow_other W g k cur' (fun he => hn (ha.1 k (by rw [he]; rfl))), fun k hk => .inl (ha.1 k hk), ?_⟩)
  · have := own_base ha.2 g rfl
    omega
  · obtain ⟨hl, hv | ⟨g', cap, cur0, hv, hb, hgg, hnc, hcm, hcs, htk⟩⟩ := ha.2
    · cases hv.1
    · cases hv
      rw [hg] at hgg
      cases hgg
      exact ⟨hl, .inr ⟨g, c, cur', rfl, hb, setRow_heap W g cur cur' e (0, 0) hg, hnc, hcm, h1.trans hcs, h2.trans htk⟩⟩
theorem Els.here_cells {α : Type} {d : Kd α} {w : World} : ∀ {xs : List (α × List Value)} {cs : List Value} {F : Nat → Prop}, Els (here d) w base F xs cs → cs = (xs.map (·.2)).flatten
  | [], _, _, h => h
  | x :: xs, cs, _, ⟨c, cs', okx, he, hok, hx, ht⟩ => by
    rw [he, Els.here_cells ht, hx.1]
    rfl
/-- Element k has been taken out of the row in place: the row without it, and it by itself. -/
theorem St.erased {α : Type} {d : Kd α} {e g n c : Nat} {xs : List (α × List Value)} (h : St base w0 W (aM (sep e (here d)) xs [.slice (some ⟨g, 0, none⟩) n c] :: L)) {k : Nat} {x : α × List Value} (hx : xs[k]? = some x)
    (ho : w1.ownsRow base e d.sz (.slice (some ⟨g, 0, none⟩) (n - 1) c) (n - 1) ((xs.eraseIdx k).map (·.2)).flatten) (hg : W.grownBy w1 (some g)) :
    St base w0 w1 (aW e d.sz (.slice (some ⟨g, 0, none⟩) (n - 1) c) (n - 1) ((xs.eraseIdx k).map (·.2)).flatten :: aE (here d) (xs.eraseIdx k) ((xs.eraseIdx k).map (·.2)).flatten :: aM d x.1 x.2 :: L) := by
  obtain ⟨inner, H1⟩ := h.open_row
  have H2 := (H1.f1).take_el k x hx
  have hcs : inner.take (k * (here d).sz) ++ inner.drop ((k + 1) * (here d).sz) = ((xs.eraseIdx k).map (·.2)).flatten := by
    obtain ⟨ok, hE⟩ := H2.drop.head
    exact Els.here_cells hE
  rw [hcs] at H2
  have H3 : St base w0 W (aM d x.1 x.2 :: aE (here d) (xs.eraseIdx k) ((xs.eraseIdx k).map (·.2)).flatten :: aW e (here d).sz (.slice (some ⟨g, 0, none⟩) n c) xs.length inner :: L) := H2.imp (fun ok hM => by have := hM.2; rw [← hM.1]; exact hM.1 ▸ this)
  have H4 := H3.f2
  have H5 : St base w0 w1 (aW e d.sz (.slice (some ⟨g, 0, none⟩) (n - 1) c) (n - 1) ((xs.eraseIdx k).map (·.2)).flatten :: aM d x.1 x.2 :: aE (here d) (xs.eraseIdx k) ((xs.eraseIdx k).map (·.2)).flatten :: L) :=
    H4.upd (fun ok hok ha => ⟨⟨hg.os, hg.tape, hg.output, hg.size, fun q hq => hg.block q (by have := h.2.1; omega) (fun he => by have := own_base ha.2 g rfl; cases he; omega)⟩, fun q hq hn => hg.block q hq (fun he => hn (ha.1 q (by rw [he]; rfl))), fun q hq => .inl (ha.1 q hq), ho⟩)
  exact H5.f2.f1
end
theorem RowS.raw {α : Type} {d : Kd α} {e : Nat} {w : World} {base : Nat} {ok : Nat → Prop} {v : Value} {xs : List (α × List Value)} (h : RowS (here d) e w base ok v xs) : (Kd.raw d.sz).R e w base ok v (xs.map (·.2)) := by
  obtain ⟨h0, inner, ho, hr⟩ := h.R
  refine ⟨h0, inner, by rw [List.length_map]; exact ho, by rw [List.length_map]; exact hr.1, fun j p hj => ?_⟩
  rw [List.getElem?_map] at hj
  obtain ⟨x, hx, rfl⟩ := Option.map_eq_some_iff.1 hj
  have hM := hr.2 j x hx
  exact ⟨hM.1, (here d).K_len ((here d).K_of_M hM), (here d).K_one ((here d).K_of_M hM)⟩
theorem reps_flat {R : List Value → List Value → Prop} (hR : ∀ p c, R p c → c = p) {sz : Nat} : ∀ {ps : List (List Value)} {cs : List Value}, Reps R sz ps cs → cs = ps.flatten
  | [], cs, h => by
    have := h.1
    rw [List.length_nil, Nat.zero_mul] at this
    exact List.eq_nil_of_length_eq_zero this
  | p :: ps, cs, h => by
    have h0 := hR _ _ (h.2 0 p rfl)
    rw [Nat.zero_mul, List.drop_zero] at h0
    have hrest : Reps R sz ps (cs.drop sz) := by
      refine ⟨by rw [List.length_drop, h.1, List.length_cons, Nat.add_mul, Nat.one_mul]; omega, fun j q hq => ?_⟩
      have := h.2 (j + 1) q (by simpa using hq)
      rw [List.drop_drop, show sz + j * sz = (j + 1) * sz from by rw [Nat.add_mul, Nat.one_mul, Nat.add_comm]]
      exact this
    rw [List.flatten_cons, ← reps_flat hR hrest, ← h0, List.take_append_drop]
theorem own_raw {e sz : Nat} {w : World} {base : Nat} {ok : Nat → Prop} {v : Value} {rows : List (List Value)} (h : (Kd.raw sz).R e w base ok v rows) : w.ownsRow base e sz v rows.length rows.flatten := by
  obtain ⟨_, inner, ho, hr⟩ := h
  rw [← reps_flat (fun _ _ hp => hp.1) hr]
  exact ho
theorem St.raw {base : Nat} {w0 W : World} {L : List Atom} {α : Type} {d : Kd α} {e : Nat} {xs : List (α × List Value)} {v : Value} (h : St base w0 W (aM (sep e (here d)) xs [v] :: L)) : ∃ ok, (Kd.raw d.sz).R e W base ok v (xs.map (·.2)) := by
  obtain ⟨ok, v', he, hR⟩ := h.head
  cases he
  exact ⟨ok, hR.raw⟩
/-- xs[lo:hi:max], run. -/
theorem cut_three {P : Program} (t e : TypeId) {i : TypeInfo} (ht : P.underlying t = some (.slice e)) (hi : P.info? e = some i) (A : Option Addr) (n c : Nat) (lo hi' mx : Nat) (h1 : lo ≤ hi') (h2 : hi' ≤ mx) (hc : mx ≤ c) :
    ∃ v, ∀ W : World, (Instr.slice t (.slice A n c) (some (.int .i64 (lo : Int))) (some (.int .i64 (hi' : Int))) (some (.int .i64 (mx : Int)))).run P W = .ok v W := by
  refine ⟨.slice (if mx = lo then A else A.map (·.add (lo * i.size))) (hi' - lo) (mx - lo), fun W => ?_⟩
  have a1 : (0 : Int) ≤ (mx : Int) ∧ (mx : Int) ≤ (c : Int) := by omega
  have a2 : (0 : Int) ≤ (hi' : Int) ∧ (hi' : Int) ≤ (mx : Int) := by omega
  have a3 : (0 : Int) ≤ (lo : Int) ∧ (lo : Int) ≤ (hi' : Int) := by omega
  simp [Instr.slice, Instr.sliceBounds, Instr.sliceBound, run_underlying ht, asIntOf, sizeOf, typeInfo, hi, h1, h2, hc]
/-- xs[lo:], run. -/
theorem cut_from {P : Program} (t e : TypeId) {i : TypeInfo} (ht : P.underlying t = some (.slice e)) (hi : P.info? e = some i) (A : Option Addr) (n c : Nat) (lo : Nat) (h1 : lo ≤ n) (W : World) :
    (Instr.slice t (.slice A n c) (some (.int .i64 (lo : Int))) none none).run P W = .ok (.slice (if c = lo then A else A.map (·.add (lo * i.size))) (n - lo) (c - lo)) W := by
  simp [Instr.slice, Instr.sliceBounds, Instr.sliceBound, run_underlying ht, asIntOf, sizeOf, typeInfo, hi, h1]
/-- xs[lo:hi], run. -/
theorem cut_two {P : Program} (t e : TypeId) {i : TypeInfo} (ht : P.underlying t = some (.slice e)) (hi : P.info? e = some i) (A : Option Addr) (n c : Nat) (lo hi' : Nat) (h1 : lo ≤ hi') (h2 : hi' ≤ c) (W : World) :
    (Instr.slice t (.slice A n c) (some (.int .i64 (lo : Int))) (some (.int .i64 (hi' : Int))) none).run P W = .ok (.slice (if c = lo then A else A.map (·.add (lo * i.size))) (hi' - lo) (c - lo)) W := by
  simp [Instr.slice, Instr.sliceBounds, Instr.sliceBound, run_underlying ht, asIntOf, sizeOf, typeInfo, hi, h1, h2]
/-- xs[:hi], run. -/
theorem cut_upto {P : Program} (t e : TypeId) {i : TypeInfo} (ht : P.underlying t = some (.slice e)) (hi : P.info? e = some i) (A : Option Addr) (n c : Nat) (hi' : Nat) (h2 : hi' ≤ c) (W : World) :
    (Instr.slice t (.slice A n c) none (some (.int .i64 (hi' : Int))) none).run P W = .ok (.slice A hi' c) W := by
  simp [Instr.slice, Instr.sliceBounds, Instr.sliceBound, run_underlying ht, asIntOf, sizeOf, typeInfo, hi, h2]
  intro _
  cases A <;> rfl
/-- What a call has made, taken into the caller's state. -/
theorem St.with_ {base : Nat} {w0 w w1 : World} {L : List Atom} {α : Type} {d : Kd α} {x : α} {cs : List Value} (h : St base w0 w L) (hn : St w.heap.size w w1 [aM d x cs]) : St base w0 w1 (aM d x cs :: L) := by
  obtain ⟨ok, hM⟩ := hn.head
  exact h.newM hn.1 hM
theorem C_iso {α β : Type} {d : Kd α} {f : β → α} {w : World} {A : Option Addr} {xs : List β} (h : (Kd.iso d f).C w A xs.length xs) : d.C w A (xs.map f).length (xs.map f) := by
  refine ⟨rfl, by rw [List.length_map]; exact h.2.1, fun hn => ?_⟩
  rw [List.length_map] at hn
  obtain ⟨ad, he, hc⟩ := h.2.2 hn
  refine ⟨ad, he, fun j p hj => ?_⟩
  rw [List.getElem?_map] at hj
  obtain ⟨x, hx, rfl⟩ := Option.map_eq_some_iff.1 hj
  exact hc j x hx
theorem C_take' {α : Type} {d : Kd α} {w : World} {A : Option Addr} {xs : List α} (h : d.C w A xs.length xs) (m : Nat) : d.C w A (xs.take m).length (xs.take m) := by
  by_cases hm : m ≤ xs.length
  · exact Kd.C_take h hm
  · rw [List.take_of_length_le (by omega)]
    exact h
/-! ### rows of whole numbers of one's own: read and stored -/
section
variable {base : Nat} {w0 W w1 : World} {L : List Atom}
theorem ints_own {e : Nat} {k : IntKind} {ok : Nat → Prop} {v : Value} {xs : List Int} (h : (sep e (Kd.int k)).M W base ok xs [v]) : (∀ q, v.ownBlock = some q → ok q) ∧ W.ownsRow base e 1 v xs.length (nums k xs) := by
  obtain ⟨v', he, hR⟩ := h
  cases he
  exact ⟨hR.R.1, Kd.own_of_R hR.R⟩
theorem own_ints {e : Nat} {k : IntKind} {ok : Nat → Prop} {v : Value} {xs : List Int} (h0 : ∀ q, v.ownBlock = some q → ok q) (h : W.ownsRow base e 1 v xs.length (nums k xs)) : (sep e (Kd.int k)).M W base ok xs [v] :=
  ⟨v, rfl, RowS.of_R (Kd.R_of_own h h0)⟩
/-- Where a row that isn't empty lies. -/
theorem St.ints_head {e : Nat} {k : IntKind} {v : Value} {xs : List Int} (h : St base w0 W (aM (sep e (Kd.int k)) xs [v] :: L)) (hp : 0 < xs.length) : ∃ g c, v = .slice (some ⟨g, 0, none⟩) xs.length c ∧ xs.length ≤ c := by
  obtain ⟨ok, hM⟩ := h.head
  obtain ⟨g, c, rfl, _, _⟩ := (ints_own hM).2.form hp
  exact ⟨g, c, rfl, own_le (ints_own hM).2⟩
theorem St.ints_block {e n c : Nat} {A : Option Addr} {k : IntKind} {xs : List Int} (h : St base w0 W (aM (sep e (Kd.int k)) xs [.slice A n c] :: L)) (hp : 0 < xs.length) : ∃ g, A = some ⟨g, 0, none⟩ ∧ n = xs.length ∧ n ≤ c := by
  obtain ⟨g, c', he, hl⟩ := h.ints_head hp
  injection he with ha hb hc
  subst hb
  subst hc
  exact ⟨g, ha, rfl, hl⟩
theorem ints_n {e g n c : Nat} {k : IntKind} {xs : List Int} (h : St base w0 W (aM (sep e (Kd.int k)) xs [.slice (some ⟨g, 0, none⟩) n c] :: L)) : n = xs.length := by
  obtain ⟨ok, hM⟩ := h.head
  rcases (ints_own hM).2.2 with ⟨hv, _⟩ | ⟨g', cap, cur, hv, _⟩
  · cases hv
  · injection hv
theorem St.int_cell {e g n c : Nat} {k : IntKind} {xs : List Int} (h : St base w0 W (aM (sep e (Kd.int k)) xs [.slice (some ⟨g, 0, none⟩) n c] :: L)) (i : Nat) (hi : i < n) :
    W.cell? ⟨g, i, none⟩ = some (.int k (xs.getD i 0)) ∧ W.frozen? ⟨g, i, none⟩ = false := by
  obtain rfl := ints_n h
  obtain ⟨ok, hM⟩ := h.head
  have := own_at (ints_own hM).2 (i : Int) (by omega) (by omega)
  rwa [Int.toNat_natCast, show rd xs (i : Int) = xs.getD i 0 from by unfold rd; rw [Int.toNat_natCast]] at this
theorem St.int_set {e g n c : Nat} {k : IntKind} {xs : List Int} (h : St base w0 W (aM (sep e (Kd.int k)) xs [.slice (some ⟨g, 0, none⟩) n c] :: L)) (i : Nat) (x : Int) :
    St base w0 (W.setCell ⟨g, i, none⟩ (.int k x)) (aM (sep e (Kd.int k)) (xs.set i x) [.slice (some ⟨g, 0, none⟩) n c] :: L) := by
  obtain rfl := ints_n h
  refine h.upd (fun ok hok hM => ?_)
  obtain ⟨h0, ho⟩ := ints_own hM
  obtain ⟨h1, h2⟩ := own_store ho (i : Int) x
  rw [Int.toNat_natCast] at h1 h2
  refine ⟨⟨h2.os, h2.tape, h2.output, h2.size, fun q hq => h2.block q (by have := h.2.1; omega) (fun he => ?_)⟩, fun q hq hn => h2.block q hq (fun he => hn (h0 q (by rw [he]; rfl))), own_ints (fun q hq => .inl (h0 q hq)) (by rw [List.length_set]; exact h1)⟩
  have := own_base ho g rfl
  cases he
  omega
end
end Go.Proofs.Ytpggfnodpjofkaa.Sep
