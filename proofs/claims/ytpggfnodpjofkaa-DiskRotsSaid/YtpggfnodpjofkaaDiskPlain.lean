/- What the plain helpers answer. -/
import Derived.Test.YtpggfnodpjofkaaMDiskx1
import Derived.Test.YtpggfnodpjofkaaSep2
import Derived.Laws.BitsAllLaws
import Derived.OpenShut
namespace Go.Proofs.Ytpggfnodpjofkaa.Disk
open Go.RowKit Go.Proofs.YtpggfnodpjofkaaW.PrintWords Go.Proofs.YtpggfnodpjofkaaW.PrintLast Go.Proofs.YtpggfnodpjofkaaW.PrintMore Go.Proofs.Ytpggfnodpjofkaa.MDisk Go.Proofs.Ytpggfnodpjofkaa.Sep
set_option linter.unusedVariables false
set_option linter.unusedSimpArgs false
/-- numbers of a byte -/
def Byte (x : Int) : Prop := 0 ≤ x ∧ x < 256
theorem byte_wf {x : Int} (h : (Lit.int .u8 x).wf = true) : Byte x := by
  have := bounds_u8 h
  exact ⟨this.1, by omega⟩
theorem byte_nat {n : Nat} (h : n < 256) : Byte (n : Int) := ⟨by omega, by omega⟩
theorem nat_byte {a : Int} (h : Byte a) : a.toNat < 256 := by
  have := h.1
  have := h.2
  omega
def Bytes (xs : List Int) : Prop := ∀ x ∈ xs, Byte x
theorem zero_byte : Byte 0 := ⟨by decide, by decide⟩
theorem bytes_wf {l : List Int} (h : ∀ x ∈ l, (Lit.int .u8 x).wf = true) : Bytes l := fun x hx => byte_wf (h x hx)
theorem Bytes.at_ {xs : List Int} (h : Bytes xs) (j : Nat) : Byte (xs.getD j 0) := by
  rw [List.getD_eq_getElem?_getD]
  by_cases hj : j < xs.length
  · rw [List.getElem?_eq_getElem hj]; exact h _ (List.getElem_mem hj)
  · rw [List.getElem?_eq_none (by omega)]; exact zero_byte
theorem Bytes.app {xs ys : List Int} (h : Bytes xs) (k : Bytes ys) : Bytes (xs ++ ys) := by
  intro x hx
  rcases List.mem_append.1 hx with h1 | h1
  · exact h x h1
  · exact k x h1
theorem Bytes.take_ {xs : List Int} (h : Bytes xs) (n : Nat) : Bytes (xs.take n) := fun x hx => h x (List.mem_of_mem_take hx)
theorem Bytes.drop_ {xs : List Int} (h : Bytes xs) (n : Nat) : Bytes (xs.drop n) := fun x hx => h x (List.mem_of_mem_drop hx)
theorem rd_cast (xs : List Int) (j : Nat) : rd xs (j : Int) = xs.getD j 0 := by unfold rd; rw [Int.toNat_natCast]
theorem same_lists {a b : List Int} (he : a.length = b.length) (h : ∀ j, j < a.length → a.getD j 0 = b.getD j 0) : a = b := by
  refine List.ext_getElem he fun j h1 h2 => ?_
  have e := h j h1
  rw [List.getD_eq_getElem?_getD, List.getElem?_eq_getElem h1, List.getD_eq_getElem?_getD, List.getElem?_eq_getElem h2] at e
  simpa using e
theorem getD_oob (xs : List Int) (j : Nat) (h : xs.length ≤ j) : xs.getD j 0 = 0 := by
  rw [List.getD_eq_getElem?_getD, List.getElem?_eq_none h]; rfl
theorem wrap_up {i : Nat} (h : i ≤ 9223372036854775806) : wrap64 ((i : Int) + 1) = ((i + 1 : Nat) : Int) := by unfold wrap64; omega
theorem Ev.bind' {α β : Type} {g : Nat → Option α} {f : α → Nat → Option β} {a : α} {r : β} (h : Ev g a) (k : Ev (f a) r) : Ev (fun n => (g n).bind fun x => f x n) r := by
  obtain ⟨K, h⟩ := h
  obtain ⟨K', k⟩ := k
  refine ⟨max K K', fun n hn => ?_⟩
  have h1 := h n (by omega)
  have h2 := k n (by omega)
  simp only [h1, Option.bind_some]
  exact h2
theorem Ev.const {α : Type} {g : Option α} {r : α} (h : g = some r) : Ev (fun _ => g) r := ⟨0, fun _ _ => h⟩
theorem Copy_ok (a : List Int) (h : a.length < 140737488355328) : rillref00_CopyBytes.f a = some a := by
  unfold rillref00_CopyBytes.f
  simp only [Option.bind_some, List.length_nil, Nat.zero_add, List.nil_append]
  rw [if_pos h]
theorem Same_l0 (a b : List Int) (he : a.length = b.length) (hl : a.length ≤ 9223372036854775806) : ∀ (d i k : Nat), i + d = a.length → d < k → (∀ j, j < i → a.getD j 0 = b.getD j 0) →
    rillref00_SameBytes.l0 k a b (i : Int) = some (decide (a = b)) := by
  intro d
  induction d with
  | zero =>
    intro i k hi hk hsame
    obtain ⟨k, rfl⟩ : ∃ m, k = m + 1 := ⟨k - 1, by omega⟩
    simp only [rillref00_SameBytes.l0]
    rw [if_neg (by omega)]
    rw [decide_eq_true (same_lists he fun j hj => hsame j (by omega))]
  | succ d ih =>
    intro i k hi hk hsame
    obtain ⟨k, rfl⟩ : ∃ m, k = m + 1 := ⟨k - 1, by omega⟩
    simp only [rillref00_SameBytes.l0]
    rw [if_pos (by omega), if_pos (by omega), if_pos (by omega), rd_cast, rd_cast, wrap_up (by omega)]
    by_cases c : a.getD i 0 = b.getD i 0
    · rw [if_pos c]
      refine ih (i + 1) k (by omega) (by omega) fun j hj => ?_
      by_cases e : j = i
      · subst e; exact c
      · exact hsame j (by omega)
    · rw [if_neg c]
      have : a ≠ b := fun h => c (by rw [h])
      rw [decide_eq_false this]
theorem Same_ok (a b : List Int) (hl : a.length ≤ 9223372036854775806) (k : Nat) (hk : a.length < k) : rillref00_SameBytes.f k a b = some (decide (a = b)) := by
  unfold rillref00_SameBytes.f
  by_cases h : a.length = b.length
  · rw [if_pos (by omega)]
    exact Same_l0 a b h hl a.length 0 k (by omega) hk (fun j hj => by omega)
  · rw [if_neg (by omega), decide_eq_false (fun e => h (by rw [e]))]
theorem Same_ev (a b : List Int) (hl : a.length ≤ 9223372036854775806) : Ev (fun k => rillref00_SameBytes.f k a b) (decide (a = b)) := ⟨a.length + 1, fun k hk => Same_ok a b hl k hk⟩

theorem CopyInts_ok (a : List Int) (h : a.length < 17592186044416) : rillref00_CopyInts.f a = some a := by
  unfold rillref00_CopyInts.f
  simp only [Option.bind_some, List.length_nil, Nat.zero_add, List.nil_append]
  rw [if_pos h]
theorem SameI_l0 (a b : List Int) (he : a.length = b.length) (hl : a.length ≤ 9223372036854775806) : ∀ (d i k : Nat), i + d = a.length → d < k → (∀ j, j < i → a.getD j 0 = b.getD j 0) →
    rillref00_SameInts.l0 k a b (i : Int) = some (decide (a = b)) := by
  intro d
  induction d with
  | zero =>
    intro i k hi hk hsame
    obtain ⟨k, rfl⟩ : ∃ m, k = m + 1 := ⟨k - 1, by omega⟩
    simp only [rillref00_SameInts.l0]
    rw [if_neg (by omega)]
    rw [decide_eq_true (same_lists he fun j hj => hsame j (by omega))]
  | succ d ih =>
    intro i k hi hk hsame
    obtain ⟨k, rfl⟩ : ∃ m, k = m + 1 := ⟨k - 1, by omega⟩
    simp only [rillref00_SameInts.l0]
    rw [if_pos (by omega), if_pos (by omega), if_pos (by omega), rd_cast, rd_cast, wrap_up (by omega)]
    by_cases c : a.getD i 0 = b.getD i 0
    · rw [if_pos c]
      refine ih (i + 1) k (by omega) (by omega) fun j hj => ?_
      by_cases e : j = i
      · subst e; exact c
      · exact hsame j (by omega)
    · rw [if_neg c]
      have : a ≠ b := fun h => c (by rw [h])
      rw [decide_eq_false this]
theorem SameI_ok (a b : List Int) (hl : a.length ≤ 9223372036854775806) (k : Nat) (hk : a.length < k) : rillref00_SameInts.f k a b = some (decide (a = b)) := by
  unfold rillref00_SameInts.f
  by_cases h : a.length = b.length
  · rw [if_pos (by omega)]
    exact SameI_l0 a b h hl a.length 0 k (by omega) hk (fun j hj => by omega)
  · rw [if_neg (by omega), decide_eq_false (fun e => h (by rw [e]))]
theorem SameI_ev (a b : List Int) (hl : a.length ≤ 9223372036854775806) : Ev (fun k => rillref00_SameInts.f k a b) (decide (a = b)) := ⟨a.length + 1, fun k hk => SameI_ok a b hl k hk⟩

theorem rd_row (ls : List (List Int)) (i : Nat) : rd_L1 ls (i : Int) = ls.getD i [] := by unfold rd_L1; rw [Int.toNat_natCast]
theorem Concat_l1 (ls : List (List Int)) (hn : ls.length ≤ 9223372036854775806) : ∀ (d i : Nat) (out : List Int), i + d = ls.length → out.length + (ls.drop i).flatten.length < 140737488355328 →
    Ev (fun k => slices_Concat_byte_byte.l1 k out ls (ls.length : Int) (i : Int)) (out ++ (ls.drop i).flatten) := by
  intro d
  induction d with
  | zero =>
    intro i out hi ho
    refine Ev.step (f := fun _ => some out) (fun k => ?_) ?_
    · simp only [slices_Concat_byte_byte.l1]
      rw [if_neg (by omega)]
    · rw [List.drop_eq_nil_of_le (by omega), List.flatten_nil, List.append_nil]
      exact Ev.now _
  | succ d ih =>
    intro i out hi ho
    have hil : i < ls.length := by omega
    have e : ls.getD i [] = ls[i] := by rw [List.getD_eq_getElem?_getD, List.getElem?_eq_getElem hil]; rfl
    have hd : (ls.drop i).flatten = ls[i] ++ (ls.drop (i + 1)).flatten := by rw [List.drop_eq_getElem_cons hil, List.flatten_cons]
    rw [hd, List.length_append] at ho
    refine Ev.step (f := fun k => slices_Concat_byte_byte.l1 k (out ++ ls[i]) ls (ls.length : Int) ((i + 1 : Nat) : Int)) (fun k => ?_) ?_
    · simp only [slices_Concat_byte_byte.l1]
      rw [if_pos (by omega), if_pos (by omega), if_pos (by omega), rd_row, e, if_pos (by omega), wrap_up (by omega)]
    · have := ih (i + 1) (out ++ ls[i]) (by omega) (by rw [List.length_append]; omega)
      rw [List.append_assoc, ← hd] at this
      exact this
theorem Concat_l0 (ls : List (List Int)) (hn : ls.length ≤ 9223372036854775806) (hs : ls.flatten.length < 140737488355328) : ∀ (d i s : Nat), i + d = ls.length → s + (ls.drop i).flatten.length = ls.flatten.length →
    Ev (fun k => slices_Concat_byte_byte.l0 k ls (s : Int) ls (ls.length : Int) (i : Int)) ls.flatten := by
  intro d
  induction d with
  | zero =>
    intro i s hi hl
    refine Ev.step (f := fun k => slices_Concat_byte_byte.l1 k [] ls (ls.length : Int) ((0 : Nat) : Int)) (fun k => ?_) ?_
    · simp only [slices_Concat_byte_byte.l0]
      rw [if_neg (by omega)]
      unfold slices_Grow_byte_byte.f
      rw [if_pos (by omega), if_pos (by omega)]
      rfl
    · have := Concat_l1 ls hn ls.length 0 [] (by omega) (by simp only [List.length_nil, List.drop_zero]; omega)
      rw [List.drop_zero, List.nil_append] at this
      exact this
  | succ d ih =>
    intro i s hi hl
    have hil : i < ls.length := by omega
    have e : ls.getD i [] = ls[i] := by rw [List.getD_eq_getElem?_getD, List.getElem?_eq_getElem hil]; rfl
    have hd : (ls.drop i).flatten = ls[i] ++ (ls.drop (i + 1)).flatten := by rw [List.drop_eq_getElem_cons hil, List.flatten_cons]
    rw [hd, List.length_append] at hl
    have hw : wrap64 ((s : Int) + (ls[i].length : Int)) = ((s + ls[i].length : Nat) : Int) := by unfold wrap64; omega
    refine Ev.step (f := fun k => slices_Concat_byte_byte.l0 k ls ((s + ls[i].length : Nat) : Int) ls (ls.length : Int) ((i + 1 : Nat) : Int)) (fun k => ?_) ?_
    · simp only [slices_Concat_byte_byte.l0]
      rw [if_pos (by omega), if_pos (by omega), if_pos (by omega), rd_row, e, hw, if_neg (by omega), wrap_up (by omega)]
    · exact ih (i + 1) (s + ls[i].length) (by omega) (by omega)
theorem Concat_ev (ls : List (List Int)) (hn : ls.length ≤ 9223372036854775806) (hs : ls.flatten.length < 140737488355328) : Ev (fun k => slices_Concat_byte_byte.f k ls) ls.flatten := by
  have := Concat_l0 ls hn hs ls.length 0 0 (by omega) (by simp)
  exact this

theorem Clone_ok (a : List Int) (h : a.length < 140737488355328) : slices_Clone_byte_byte.f a = some a := if_pos h
theorem Concat2 (a b : List Int) (h : a.length + b.length < 140737488355328) : ∃ k, slices_Concat_byte_byte.f k [a, b] = some (a ++ b) := by
  have := (Concat_ev [a, b] (by simp) (by simpa using h)).rounds
  simpa using this
end Go.Proofs.Ytpggfnodpjofkaa.Disk
