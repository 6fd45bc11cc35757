/- Words of this session's own for rows: a reading of data, as the kinds' reading; by the type. -/
import Derived.Test.YtpggfnodpjofkaaWWords
import Derived.Test.YtpggfnodpjofkaaWLast
import Derived.Deep.Slices
import Derived.ChangeSame
import Derived.ChangeArms
import Derived.SizedLaws
import Derived.ProofKit
namespace Go.Proofs.Ytpggfnodpjofkaa.Own
open Go.RowKit Go.Proofs.YtpggfnodpjofkaaW.PrintWords Go.Proofs.YtpggfnodpjofkaaW.PrintLast Go.ChangeShapes Go.WideShapes
/-- What is read as a datum of the type, its weights in reach, is read as a value of the kind, of which 'ok' holds. -/
def Opens {α : Type} (P : Program) (d : Kd α) (t : TypeId) (ok : α → Prop) : Prop :=
  ∀ {H : Type} {enc : TypeId × Value → H} {w : World} {base fuel : Nat} {held : Bool} {cs : List Value} {D : DataW H} {ps : List MemPlace},
    DataW.trod enc P w base (fun _ => true) held fuel t cs = some (D, ps) → (∀ n ∈ D.weights P t, n ≤ reachBytes) → ∃ x, d.K w x cs ∧ ok x
section
variable {P : Program} {t e : TypeId} {α β : Type}
theorem opens_int {k : IntKind} (hu : P.underlying t = some (.int k)) : Opens P (Kd.int k) t (fun x => (Lit.int k x).wf = true) := by
  intro H enc w base fuel held cs D ps h _
  obtain ⟨n, rfl, _, hw⟩ := DataW.trod_int hu h
  exact ⟨n, rfl, hw⟩
theorem opens_bool (hu : P.underlying t = some .bool) : Opens P Kd.bool t (fun _ => True) := by
  intro H enc w base fuel held cs D ps h _
  obtain ⟨n, rfl, _⟩ := DataW.trod_bool hu h
  exact ⟨n, rfl, trivial⟩
theorem opens_string (hu : P.underlying t = some .string) : Opens P Kd.string t (fun x => x.size ≤ 140737488351232) := by
  intro H enc w base fuel held cs D ps h hw
  obtain ⟨s, rfl, hx, _⟩ := DataW.trod_string hu h
  obtain ⟨rfl, rfl⟩ := Prod.mk.inj hx
  refine ⟨s, rfl, ?_⟩
  have := hw _ (by simp only [DataW.weights]; exact List.mem_singleton.2 rfl)
  rw [Array.length_toList] at this
  exact this
theorem mem_weightsAll {H : Type} {D : DataW H} {n : Nat} : ∀ {l : List (DataW H)}, D ∈ l → n ∈ D.weights P e → n ∈ DataW.weightsAll P e l
  | a :: r, h, hn => by
    simp only [DataW.weightsAll, List.mem_append]
    rcases List.mem_cons.1 h with rfl | h
    · exact .inl hn
    · exact .inr (mem_weightsAll h hn)
theorem opens_slice {d : Kd α} {ok : α → Prop} (e' : Nat) {B : Nat} (hu : P.underlying t = some (.slice e)) (hc : P.cellsOf e = d.sz) (hB : P.bytesOf e = B) (hd : Opens P d e ok) :
    Opens P (Kd.slice e' d) t (fun xs => xs.length ≤ maxLen ∧ xs.length * B ≤ 140737488351232 ∧ ∀ x ∈ xs, ok x) := by
  intro H enc w base fuel held cs D ps h hw
  rcases Go.Deep.open_slice hu h with ⟨rfl, _⟩ | ⟨a, len, cap, m, n, D', Pl, rfl, _, hl, hm, hmm, hx, hi⟩
  · exact ⟨[], ⟨none, 0, rfl, Nat.le_refl _, rfl, by simp, fun h => absurd h (Nat.lt_irrefl 0)⟩, by simp, by simp, by simp⟩
  · simp only [if_true] at hmm
    have hmm' := hmm.symm
    subst hmm'
    obtain ⟨rfl, _⟩ := Prod.mk.inj hx
    have hbig : len * B ≤ 140737488351232 := by
      have := hw ((len + (cap - len)) * P.bytesOf e) (by simp [DataW.weights, hu])
      rw [hB] at this
      exact Nat.le_trans (Nat.mul_le_mul_right _ (Nat.le_add_right _ _)) this
    have each : ∀ i, i < len → ∃ q : Option α × List Value, ∃ x, q.1 = some x ∧ w.cells? base (a.add (i * P.cellsOf e)) (P.cellsOf e) = some q.2 ∧ d.K w x q.2 ∧ ok x := by
      intro i hi'
      obtain ⟨cs', h1, h2⟩ := hi i (by omega)
      obtain ⟨x, hx, ho⟩ := hd h2 (fun z hz => hw z (by
        simp only [DataW.weights, hu]
        exact List.mem_cons_of_mem _ (List.mem_append_left _ (mem_weightsAll (List.mem_map.2 ⟨i, List.mem_range.2 hi', rfl⟩) hz))))
      exact ⟨(some x, cs'), x, rfl, h1, hx, ho⟩
    obtain ⟨q, hq⟩ := Go.Deep.choose_lt each
    have xsOf : ∃ xs : List α, xs.length = len ∧ ∀ i x, xs[i]? = some x → ∃ cs', w.cells? base (a.add (i * P.cellsOf e)) (P.cellsOf e) = some cs' ∧ d.K w x cs' ∧ ok x := by
      have go : ∀ n, n ≤ len → ∃ xs : List α, xs.length = n ∧ ∀ i x, xs[i]? = some x → ∃ cs', w.cells? base (a.add (i * P.cellsOf e)) (P.cellsOf e) = some cs' ∧ d.K w x cs' ∧ ok x := by
        intro n
        induction n with
        | zero => exact fun _ => ⟨[], rfl, fun i x h => by simp at h⟩
        | succ n ih =>
          intro hn
          obtain ⟨xs, hl', hx⟩ := ih (by omega)
          obtain ⟨x, _, h1, h2, h3⟩ := hq n (by omega)
          refine ⟨xs ++ [x], by simp [hl'], fun i y hy => ?_⟩
          rcases Nat.lt_trichotomy i n with hlt | heq | hgt
          · rw [List.getElem?_append_left (by omega)] at hy
            exact hx i y hy
          · subst heq
            rw [List.getElem?_append_right (by omega), hl', Nat.sub_self] at hy
            obtain rfl := Option.some.inj hy
            exact ⟨_, h1, h2, h3⟩
          · rw [List.getElem?_eq_none (by simp; omega)] at hy
            cases hy
      exact go len (Nat.le_refl _)
    clear hx
    obtain ⟨xs, hxl, hx⟩ := xsOf
    subst hxl
    refine ⟨xs, ⟨some a, cap, rfl, hl, rfl, Nat.le_trans hl hm, fun _ => ⟨a, rfl, fun j p hj => ?_⟩⟩, Nat.le_trans hl hm, hbig, fun x hxm => ?_⟩
    · obtain ⟨cs', h1, h2, _⟩ := hx j p hj
      obtain ⟨_, hlen, hcell⟩ := World.cells?_some h1
      rw [hc] at hlen hcell
      refine ⟨cs', hlen, h2, fun i u hu' => ?_⟩
      have hi' : i < d.sz := by
        rcases Nat.lt_or_ge i cs'.length with h | h
        · omega
        · rw [List.getElem?_eq_none h] at hu'; cases hu'
      have := hcell i hi'
      rw [hu', Addr.add_add] at this
      exact this
    · obtain ⟨i, hi1, rfl⟩ := List.mem_iff_getElem.1 hxm
      obtain ⟨_, _, _, h3⟩ := hx i _ (List.getElem?_eq_getElem hi1)
      exact h3
/-- The fields of a struct from some offset on. -/
def OpensEach (P : Program) (d : Kd α) (fs : List Field) (off n : Nat) (ok : α → Prop) : Prop :=
  ∀ {H : Type} {enc : TypeId × Value → H} {w : World} {base fuel : Nat} {held : Bool} {cs : List Value} {xs : List (DataW H × List MemPlace)}, cs.length = n → xs.length = fs.length →
    (∀ (i : Nat) (f : Field), fs[i]? = some f → DataW.trod enc P w base (fun _ => true) held fuel f.type ((cs.drop f.offset).take (P.cellsOf f.type)) = xs[i]?) →
    (∀ m ∈ DataW.weightsEach P (fs.map (·.type)) (xs.map (·.1)), m ≤ reachBytes) → ∃ x, d.K w x (cs.drop off) ∧ ok x
theorem opens_last {d : Kd α} {f : Field} {off n : Nat} {ok : α → Prop} (hd : Opens P d f.type ok) (ho : f.offset = off) (hn : off + P.cellsOf f.type = n) : OpensEach P d [f] off n ok := by
  intro H enc w base fuel held cs xs hl hxl h hw
  subst ho
  obtain ⟨⟨D, ps⟩, rfl⟩ := List.length_eq_one_iff.1 hxl
  have h1 := h 0 f rfl
  rw [List.take_of_length_le (by rw [List.length_drop]; omega)] at h1
  exact hd h1 (fun m hm => hw m (by simp only [List.map_cons, DataW.weightsEach]; exact List.mem_append_left _ hm))
theorem opens_cons {d : Kd α} {d2 : Kd β} {f : Field} {fs : List Field} {off n : Nat} {ok : α → Prop} {ok2 : β → Prop} (hd : Opens P d f.type ok) (ho : f.offset = off) (off2 : Nat) (h2 : off + P.cellsOf f.type = off2) (hr : OpensEach P d2 fs off2 n ok2) :
    OpensEach P (Kd.pair d d2) (f :: fs) off n (fun x => ok x.1 ∧ ok2 x.2) := by
  intro H enc w base fuel held cs xs hl hxl h hw
  subst ho h2
  obtain _ | ⟨⟨D, ps⟩, ys⟩ := xs
  · simp at hxl
  obtain ⟨x, hx, hox⟩ := hd (h 0 f rfl) (fun m hm => hw m (by simp only [List.map_cons, DataW.weightsEach]; exact List.mem_append_left _ hm))
  obtain ⟨y, hy, hoy⟩ := hr (xs := ys) hl (by simpa using hxl) (fun i g hg => h (i + 1) g hg) (fun m hm => hw m (by simp only [List.map_cons, DataW.weightsEach]; exact List.mem_append_right _ hm))
  refine ⟨(x, y), ⟨_, _, ?_, hx, hy⟩, hox, hoy⟩
  rw [← List.drop_drop, List.take_append_drop]
theorem opens_struct {d : Kd α} {fs : Array Field} {n : Nat} {ok : α → Prop} (hu : P.underlying t = some (.struct fs)) (hn : P.cellsOf t = n) (h : OpensEach P d fs.toList 0 n ok) : Opens P d t ok := by
  intro H enc w base fuel held cs D ps ht hw
  obtain ⟨xs, m, _, hx, hl, hxl, hi⟩ := DataW.trod_struct hu ht
  obtain ⟨rfl, _⟩ := Prod.mk.inj hx
  obtain ⟨x, hx, ho⟩ := h (xs := xs) (by rw [hl, hn]) (by rw [hxl, Array.length_toList]) (fun i f hf => hi i f (by rw [← Array.getElem?_toList]; exact hf)) (fun z hz => hw z (by simp only [DataW.weights, hu]; exact hz))
  exact ⟨x, hx, ho⟩
theorem opens_iso {d : Kd α} {f : β → α} {g : α → β} (hf : ∀ x, f (g x) = x) {ok : α → Prop} (h : Opens P d t ok) : Opens P (Kd.iso d f) t (fun x => ok (f x)) := by
  intro H enc w base fuel held cs D ps ht hw
  obtain ⟨x, hx, ho⟩ := h ht hw
  refine ⟨g x, ?_, by show ok (f (g x)); rw [hf]; exact ho⟩
  show d.K w (f (g x)) cs
  rw [hf]
  exact hx
/-- A parameter that is a slice: its header, the row, and what holds of its elements. -/
theorem opens_row {d : Kd α} {ok : α → Prop} {B : Nat} {H : Type} {enc : TypeId × Value → H} {w : World} {base : Nat} {held : Bool} {a : Option Addr} {len cap : Nat} {D : DataW H} {ps : List MemPlace} {ts : List TypeId} {ds : List (DataW H)} {j : Nat}
    (hsz : (DataW.weightsEach P ts ds).all (· ≤ reachBytes) = true) (ht : ts[j]? = some t) (hd : ds[j]? = some D) (hu : P.underlying t = some (.slice e)) (hc : P.cellsOf e = d.sz) (hB : P.bytesOf e = B) (hop : Opens P d e ok)
    (h : DataW.Trod enc P w base (fun _ => true) held t (.slice a len cap) D ps) :
    ∃ l : List α, len = l.length ∧ d.C w a l.length l ∧ l.length ≤ cap ∧ l.length ≤ maxLen ∧ l.length * B ≤ 140737488351232 ∧ ∀ x ∈ l, ok x := by
  obtain ⟨fuel, hf⟩ := h
  obtain ⟨l, ⟨A, c, hcs, hl, hC⟩, h1, h2, h3⟩ := opens_slice 0 hu hc hB hop hf (fun n hn => by
    have := List.all_eq_true.1 hsz n (DataW.weights_mem_each ht hd n hn)
    simpa using this)
  simp [Value.cells] at hcs
  obtain ⟨rfl, rfl, rfl⟩ := hcs
  exact ⟨l, rfl, hC, hl, h1, h2, h3⟩
/-- A parameter that is a struct. -/
theorem opens_val {d : Kd α} {ok : α → Prop} {H : Type} {enc : TypeId × Value → H} {w : World} {base : Nat} {held : Bool} {v : Value} {D : DataW H} {ps : List MemPlace} {ts : List TypeId} {ds : List (DataW H)} {j : Nat}
    (hsz : (DataW.weightsEach P ts ds).all (· ≤ reachBytes) = true) (ht : ts[j]? = some t) (hd : ds[j]? = some D) (hop : Opens P d t ok) (h : DataW.Trod enc P w base (fun _ => true) held t v D ps) : ∃ x, d.K w x v.cells.toList ∧ ok x := by
  obtain ⟨fuel, hf⟩ := h
  exact hop hf (fun n hn => by
    have := List.all_eq_true.1 hsz n (DataW.weights_mem_each ht hd n hn)
    simpa using this)
theorem agg_of {v : Value} {l : List Value} (h : v.cells.toList = l) (hl : 2 ≤ l.length) : v = .agg l.toArray := by
  subst h
  cases v with
  | agg cs => simp [Value.cells]
  | _ => simp [Value.cells] at hl
end
end Go.Proofs.Ytpggfnodpjofkaa.Own
