/- FrameLinear: for all lists of bytes a, b and c, the law of check sums answers true. -/
import Derived.Test.YtddabfokgecnoaaMFrameLinearx4
import Derived.Laws.BitsAllLaws
import Derived.OpenShut
namespace Go.Proofs.Ytddabfokgecnoaa.Pure
open Go.RowKit Go.Proofs.Ytddabfokgecnoaa.MFrameLinear Go.Proofs.YtddabfokgecnoaaW.PrintWords Go.Proofs.YtddabfokgecnoaaW.PrintLast
open Go.Proofs.Ytddabfokgecnoaa

/-- numbers of a byte -/
def Byte (x : Int) : Prop := 0 ≤ x ∧ x < 256
theorem byte_wf {x : Int} (h : (Lit.int .u8 x).wf = true) : Byte x := by
  have := bounds_u8 h
  exact ⟨this.1, by omega⟩
theorem byte_nat {n : Nat} (h : n < 256) : Byte (n : Int) := ⟨by omega, by omega⟩
theorem nat_byte {a : Int} (h : Byte a) : a.toNat < 256 := by
  have := h.1
  have := h.2
  omega
def Bytes (xs : List Int) : Prop := ∀ x ∈ xs, Byte x
theorem zero_byte : Byte 0 := ⟨by decide, by decide⟩
theorem bytes_wf {l : List Int} (h : ∀ x ∈ l, (Lit.int .u8 x).wf = true) : Bytes l := fun x hx => byte_wf (h x hx)
theorem Bytes.at_ {xs : List Int} (h : Bytes xs) (j : Nat) : Byte (xs.getD j 0) := by
  rw [List.getD_eq_getElem?_getD]
  by_cases hj : j < xs.length
  · rw [List.getElem?_eq_getElem hj]; exact h _ (List.getElem_mem hj)
  · rw [List.getElem?_eq_none (by omega)]; exact zero_byte
theorem Bytes.app {xs ys : List Int} (h : Bytes xs) (k : Bytes ys) : Bytes (xs ++ ys) := by
  intro x hx
  rcases List.mem_append.1 hx with h1 | h1
  · exact h x h1
  · exact k x h1
theorem Bytes.take_ {xs : List Int} (h : Bytes xs) (n : Nat) : Bytes (xs.take n) := fun x hx => h x (List.mem_of_mem_take hx)
theorem Bytes.drop_ {xs : List Int} (h : Bytes xs) (n : Nat) : Bytes (xs.drop n) := fun x hx => h x (List.mem_of_mem_drop hx)
theorem rd_cast (xs : List Int) (j : Nat) : rd xs (j : Int) = xs.getD j 0 := by unfold rd; rw [Int.toNat_natCast]
theorem same_lists {a b : List Int} (he : a.length = b.length) (h : ∀ j, j < a.length → a.getD j 0 = b.getD j 0) : a = b := by
  refine List.ext_getElem he fun j h1 h2 => ?_
  have e := h j h1
  rw [List.getD_eq_getElem?_getD, List.getElem?_eq_getElem h1, List.getD_eq_getElem?_getD, List.getElem?_eq_getElem h2] at e
  simpa using e
theorem getD_oob (xs : List Int) (j : Nat) (h : xs.length ≤ j) : xs.getD j 0 = 0 := by
  rw [List.getD_eq_getElem?_getD, List.getElem?_eq_none h]; rfl
theorem wrap_up {i : Nat} (h : i ≤ 9223372036854775806) : wrap64 ((i : Int) + 1) = ((i + 1 : Nat) : Int) := by unfold wrap64; omega
theorem Ev.bind' {α β : Type} {g : Nat → Option α} {f : α → Nat → Option β} {a : α} {r : β} (h : Ev g a) (k : Ev (f a) r) : Ev (fun n => (g n).bind fun x => f x n) r := by
  obtain ⟨K, h⟩ := h
  obtain ⟨K', k⟩ := k
  refine ⟨max K K', fun n hn => ?_⟩
  have h1 := h n (by omega)
  have h2 := k n (by omega)
  simp only [h1, Option.bind_some]
  exact h2
theorem Ev.const {α : Type} {g : Option α} {r : α} (h : g = some r) : Ev (fun _ => g) r := ⟨0, fun _ _ => h⟩
theorem Same_l0 (a b : List Int) (he : a.length = b.length) (hl : a.length ≤ 9223372036854775806) : ∀ (d i k : Nat), i + d = a.length → d < k → (∀ j, j < i → a.getD j 0 = b.getD j 0) →
    rillref00_SameBytes.l0 k a b (i : Int) = some (decide (a = b)) := by
  intro d
  induction d with
  | zero =>
    intro i k hi hk hsame
    obtain ⟨k, rfl⟩ : ∃ m, k = m + 1 := ⟨k - 1, by omega⟩
    simp only [rillref00_SameBytes.l0]
    rw [if_neg (by omega)]
    rw [decide_eq_true (same_lists he fun j hj => hsame j (by omega))]
  | succ d ih =>
    intro i k hi hk hsame
    obtain ⟨k, rfl⟩ : ∃ m, k = m + 1 := ⟨k - 1, by omega⟩
    simp only [rillref00_SameBytes.l0]
    rw [if_pos (by omega), if_pos (by omega), if_pos (by omega), rd_cast, rd_cast, wrap_up (by omega)]
    by_cases c : a.getD i 0 = b.getD i 0
    · rw [if_pos c]
      refine ih (i + 1) k (by omega) (by omega) fun j hj => ?_
      by_cases e : j = i
      · subst e; exact c
      · exact hsame j (by omega)
    · rw [if_neg c]
      have : a ≠ b := fun h => c (by rw [h])
      rw [decide_eq_false this]
theorem Same_ok (a b : List Int) (hl : a.length ≤ 9223372036854775806) (k : Nat) (hk : a.length < k) : rillref00_SameBytes.f k a b = some (decide (a = b)) := by
  unfold rillref00_SameBytes.f
  by_cases h : a.length = b.length
  · rw [if_pos (by omega)]
    exact Same_l0 a b h hl a.length 0 k (by omega) hk (fun j hj => by omega)
  · rw [if_neg (by omega), decide_eq_false (fun e => h (by rw [e]))]
theorem Same_ev (a b : List Int) (hl : a.length ≤ 9223372036854775806) : Ev (fun k => rillref00_SameBytes.f k a b) (decide (a = b)) := ⟨a.length + 1, fun k hk => Same_ok a b hl k hk⟩
theorem Copy_ok (a : List Int) (h : a.length < 140737488355328) : rillref00_CopyBytes.f a = some a := by
  unfold rillref00_CopyBytes.f
  simp only [Option.bind_some, List.length_nil, Nat.zero_add, List.nil_append]
  rw [if_pos h]
theorem xor_cancel {a b c : Nat} (h : a ^^^ c = b ^^^ c) : a = b := by
  have e : ∀ x : Nat, x ^^^ c ^^^ c = x := fun x => by rw [Nat.xor_assoc, Nat.xor_self, Nat.xor_zero]
  rw [← e a, h, e b]
/-- one round of the check sum -/
def st1 (x : Nat) : Nat := (x >>> 1) ^^^ (if x.testBit 0 then 3988292384 else 0)
def st8 (x : Nat) : Nat := st1 (st1 (st1 (st1 (st1 (st1 (st1 (st1 x)))))))
def cst (x : Nat) (l : List Int) : Nat := l.foldl (fun v c => st8 (v ^^^ c.toNat)) x
theorem st1_lt {x : Nat} (h : x < 4294967296) : st1 x < 4294967296 := by
  unfold st1
  refine Nat.xor_lt_two_pow (n := 32) ?_ ?_
  · rw [Nat.shiftRight_eq_div_pow]; omega
  · split <;> omega
theorem st8_lt {x : Nat} (h : x < 4294967296) : st8 x < 4294967296 := st1_lt (st1_lt (st1_lt (st1_lt (st1_lt (st1_lt (st1_lt (st1_lt h)))))))
theorem xor_lt32 {a b : Nat} (ha : a < 4294967296) (hb : b < 4294967296) : a ^^^ b < 4294967296 := Nat.xor_lt_two_pow (n := 32) ha hb
theorem cst_lt {x : Nat} (h : x < 4294967296) (l : List Int) (hl : Bytes l) : cst x l < 4294967296 := by
  induction l generalizing x with
  | nil => exact h
  | cons c l ih =>
    refine ih (st8_lt (xor_lt32 h ?_)) fun y hy => hl y (List.mem_cons_of_mem _ hy)
    have := nat_byte (hl c List.mem_cons_self)
    omega
theorem st1_xor (x y : Nat) : st1 (x ^^^ y) = st1 x ^^^ st1 y := by
  unfold st1
  rw [Nat.shiftRight_xor_distrib, Nat.testBit_xor]
  cases x.testBit 0 <;> cases y.testBit 0 <;> simp
  · ac_rfl
  · ac_rfl
  · have e : ∀ p q r : Nat, p ^^^ q = p ^^^ r ^^^ (q ^^^ r) := by
      intro p q r
      rw [Nat.xor_assoc, ← Nat.xor_assoc r, Nat.xor_comm r q, Nat.xor_assoc, Nat.xor_self, Nat.xor_zero]
    exact e _ _ _
theorem st8_xor (x y : Nat) : st8 (x ^^^ y) = st8 x ^^^ st8 y := by unfold st8; simp only [st1_xor]
theorem st1_inj {x y : Nat} (hx : x < 4294967296) (hy : y < 4294967296) (h : st1 x = st1 y) : x = y := by
  have hp : (3988292384 : Nat).testBit 31 = true := by decide
  have hs : ∀ z : Nat, z < 4294967296 → (z >>> 1).testBit 31 = false := by
    intro z hz
    refine Nat.testBit_lt_two_pow ?_
    rw [Nat.shiftRight_eq_div_pow]
    omega
  have key : ∀ z : Nat, z < 4294967296 → (st1 z).testBit 31 = z.testBit 0 := by
    intro z hz
    unfold st1
    rw [Nat.testBit_xor, hs z hz]
    cases z.testBit 0
    · simp
    · simp [hp]
  have h0 : x.testBit 0 = y.testBit 0 := by rw [← key x hx, ← key y hy, h]
  unfold st1 at h
  rw [h0] at h
  have h1 := xor_cancel h
  rw [Nat.shiftRight_eq_div_pow, Nat.shiftRight_eq_div_pow] at h1
  rw [Nat.testBit_zero, Nat.testBit_zero] at h0
  have h2 := decide_eq_decide.1 h0
  omega
theorem st8_inj {x y : Nat} (hx : x < 4294967296) (hy : y < 4294967296) (h : st8 x = st8 y) : x = y := by
  unfold st8 at h
  have l : ∀ {z : Nat}, z < 4294967296 → st1 z < 4294967296 := fun h => st1_lt h
  exact st1_inj hx hy (st1_inj (l hx) (l hy) (st1_inj (l (l hx)) (l (l hy)) (st1_inj (l (l (l hx))) (l (l (l hy))) (st1_inj (l (l (l (l hx)))) (l (l (l (l hy)))) (st1_inj (l (l (l (l (l hx))))) (l (l (l (l (l hy)))))
    (st1_inj (l (l (l (l (l (l hx)))))) (l (l (l (l (l (l hy)))))) (st1_inj (l (l (l (l (l (l (l hx))))))) (l (l (l (l (l (l (l hy))))))) h)))))))
theorem cst_inj (l : List Int) (hl : Bytes l) {x y : Nat} (hx : x < 4294967296) (hy : y < 4294967296) (h : cst x l = cst y l) : x = y := by
  induction l generalizing x y with
  | nil => exact h
  | cons c l ih =>
    have hc := nat_byte (hl c List.mem_cons_self)
    have e := ih (fun z hz => hl z (List.mem_cons_of_mem _ hz)) (st8_lt (xor_lt32 hx (by omega))) (st8_lt (xor_lt32 hy (by omega))) h
    exact xor_cancel (st8_inj (xor_lt32 hx (by omega)) (xor_lt32 hy (by omega)) e)
theorem cst_append (x : Nat) (a b : List Int) : cst x (a ++ b) = cst (cst x a) b := by unfold cst; rw [List.foldl_append]
/-- the check sum -/
def crc (l : List Int) : Nat := 4294967295 ^^^ cst 4294967295 l
theorem crc_lt (l : List Int) (hl : Bytes l) : crc l < 4294967296 := xor_lt32 (by decide) (cst_lt (by decide) l hl)
theorem and_one32 (x : Nat) (hx : x < 4294967296) : Go.bits .and .u32 (x : Int) 1 = ((x % 2 : Nat) : Int) := by
  have := u32_and_nat x 1 hx (by decide)
  rw [show ((1 : Nat) : Int) = 1 from rfl] at this
  rw [this, Nat.and_one_is_mod]
theorem round32 (x : Nat) (hx : x < 4294967296) : Go.bits .xor .u32 ((x : Int) / 2) (Go.bits .and .u32 3988292384 ((-(Go.bits .and .u32 (x : Int) 1)) % 4294967296)) = ((st1 x : Nat) : Int) := by
  rw [and_one32 x hx]
  have e2 : (x : Int) / 2 = ((x / 2 : Nat) : Int) := by omega
  rw [e2]
  unfold st1
  rw [Nat.testBit_zero, Nat.shiftRight_eq_div_pow]
  rcases Nat.mod_two_eq_zero_or_one x with h | h
  · rw [h]
    have e : Go.bits .and .u32 3988292384 ((-((0 : Nat) : Int)) % 4294967296) = ((0 : Nat) : Int) := by decide +kernel
    rw [e, u32_xor_nat _ _ (by omega) (by decide)]
    simp
  · rw [h]
    have e : Go.bits .and .u32 3988292384 ((-((1 : Nat) : Int)) % 4294967296) = ((3988292384 : Nat) : Int) := by decide +kernel
    rw [e, u32_xor_nat _ _ (by omega) (by decide)]
    simp
theorem rd_row (xs : List (List Int)) (j : Nat) : rd_L1 xs (j : Int) = xs.getD j [] := by unfold rd_L1; rw [Int.toNat_natCast]
theorem Check_l2_round (k x : Nat) (hx : x < 4294967296) (x8 : List (List Int)) (x9 x10 : Int) (x14 : List Int) (x15 x16 : Int) (i : Nat) (hi : i < 8) :
    frame_Check.l2 (k + 1) (x : Int) x8 x9 x10 x14 x15 x16 (i : Int) = frame_Check.l2 k ((st1 x : Nat) : Int) x8 x9 x10 x14 x15 x16 ((i + 1 : Nat) : Int) := by
  simp only [frame_Check.l2]
  rw [if_pos (by omega), round32 x hx, wrap_up (by omega)]
theorem Check_l2 (x : Nat) (hx : x < 4294967296) (x8 : List (List Int)) (x9 x10 : Int) (x14 : List Int) (x15 x16 r : Int) (h : Ev (fun k => frame_Check.l1 k ((st8 x : Nat) : Int) x8 x9 x10 x14 x15 (wrap64 (x16 + 1))) r) :
    Ev (fun k => frame_Check.l2 k (x : Int) x8 x9 x10 x14 x15 x16 0) r := by
  have l : ∀ {z : Nat}, z < 4294967296 → st1 z < 4294967296 := fun h => st1_lt h
  refine Ev.step (fun k => Check_l2_round k x hx x8 x9 x10 x14 x15 x16 0 (by decide)) ?_
  refine Ev.step (fun k => Check_l2_round k _ (l hx) x8 x9 x10 x14 x15 x16 1 (by decide)) ?_
  refine Ev.step (fun k => Check_l2_round k _ (l (l hx)) x8 x9 x10 x14 x15 x16 2 (by decide)) ?_
  refine Ev.step (fun k => Check_l2_round k _ (l (l (l hx))) x8 x9 x10 x14 x15 x16 3 (by decide)) ?_
  refine Ev.step (fun k => Check_l2_round k _ (l (l (l (l hx)))) x8 x9 x10 x14 x15 x16 4 (by decide)) ?_
  refine Ev.step (fun k => Check_l2_round k _ (l (l (l (l (l hx))))) x8 x9 x10 x14 x15 x16 5 (by decide)) ?_
  refine Ev.step (fun k => Check_l2_round k _ (l (l (l (l (l (l hx)))))) x8 x9 x10 x14 x15 x16 6 (by decide)) ?_
  refine Ev.step (fun k => Check_l2_round k _ (l (l (l (l (l (l (l hx))))))) x8 x9 x10 x14 x15 x16 7 (by decide)) ?_
  refine Ev.step (fun k => ?_) h
  simp only [frame_Check.l2]
  rw [if_neg (by omega)]
  rfl
theorem xor_byte32 (x : Nat) (hx : x < 4294967296) {c : Int} (hc : Byte c) : Go.bits .xor .u32 (x : Int) (c % 4294967296) = ((x ^^^ c.toNat : Nat) : Int) := by
  obtain ⟨h1, h2⟩ := hc
  obtain ⟨n, rfl⟩ := Int.eq_ofNat_of_zero_le h1
  have e : (n : Int) % 4294967296 = (n : Int) := by omega
  rw [e, u32_xor_nat _ _ hx (by omega), Int.toNat_natCast]
theorem Check_l1 (x8 : List (List Int)) (x9 x10 r : Int) (l : List Int) (hb : Bytes l) (hl : l.length ≤ 9223372036854775806) : ∀ (d i x : Nat), x < 4294967296 → i + d = l.length →
    Ev (fun k => frame_Check.l0 k ((cst x (l.drop i) : Nat) : Int) x8 x9 (wrap64 (x10 + 1))) r → Ev (fun k => frame_Check.l1 k (x : Int) x8 x9 x10 l (l.length : Int) (i : Int)) r := by
  intro d
  induction d with
  | zero =>
    intro i x hx hi h
    rw [List.drop_eq_nil_of_le (by omega)] at h
    refine Ev.step (fun k => ?_) h
    simp only [frame_Check.l1]
    rw [if_neg (by omega)]
    rfl
  | succ d ih =>
    intro i x hx hi h
    have hil : i < l.length := by omega
    have hc := hb.at_ i
    have e : l.getD i 0 = l[i] := by rw [List.getD_eq_getElem?_getD, List.getElem?_eq_getElem hil]; rfl
    refine Ev.step (f := fun k => frame_Check.l2 k ((x ^^^ (l.getD i 0).toNat : Nat) : Int) x8 x9 x10 l (l.length : Int) (i : Int) 0) (fun k => ?_) ?_
    · simp only [frame_Check.l1]
      rw [if_pos (by omega), if_pos (by omega), if_pos (by omega), rd_cast, xor_byte32 x hx hc]
    · have hlt := nat_byte hc
      refine Check_l2 _ (xor_lt32 hx (by omega)) _ _ _ _ _ _ _ ?_
      rw [wrap_up (by omega)]
      refine ih (i + 1) _ (st8_lt (xor_lt32 hx (by omega))) (by omega) ?_
      have hd : cst x (l.drop i) = cst (st8 (x ^^^ (l.getD i 0).toNat)) (l.drop (i + 1)) := by
        rw [List.drop_eq_getElem_cons hil, e]
        rfl
      rw [hd] at h
      exact h
theorem Check_l0 (ls : List (List Int)) (hb : ∀ l ∈ ls, Bytes l) (hl : ∀ l ∈ ls, l.length ≤ 9223372036854775806) (hn : ls.length ≤ 9223372036854775806) : ∀ (d i x : Nat), x < 4294967296 → i + d = ls.length →
    Ev (fun k => frame_Check.l0 k (x : Int) ls (ls.length : Int) (i : Int)) (((4294967295 ^^^ cst x (ls.drop i).flatten) : Nat) : Int) := by
  intro d
  induction d with
  | zero =>
    intro i x hx hi
    refine Ev.step (f := fun _ => some (((4294967295 ^^^ x) : Nat) : Int)) (fun k => ?_) ?_
    · simp only [frame_Check.l0]
      rw [if_neg (by omega)]
      have := u32_xor_nat 4294967295 x (by decide) hx
      rw [show ((4294967295 : Nat) : Int) = 4294967295 from rfl] at this
      rw [this]
    · rw [List.drop_eq_nil_of_le (by omega)]
      exact Ev.now _
  | succ d ih =>
    intro i x hx hi
    have hil : i < ls.length := by omega
    have e : ls.getD i [] = ls[i] := by rw [List.getD_eq_getElem?_getD, List.getElem?_eq_getElem hil]; rfl
    refine Ev.step (f := fun k => frame_Check.l1 k (x : Int) ls (ls.length : Int) (i : Int) (ls.getD i []) ((ls.getD i []).length : Int) 0) (fun k => ?_) ?_
    · simp only [frame_Check.l0]
      rw [if_pos (by omega), if_pos (by omega), if_pos (by omega), rd_row]
    · rw [e]
      have hbi := hb _ (List.getElem_mem hil)
      have hli := hl _ (List.getElem_mem hil)
      refine Check_l1 ls (ls.length : Int) (i : Int) _ ls[i] hbi hli ls[i].length 0 x hx (by omega) ?_
      rw [wrap_up (by omega), List.drop_zero]
      have := ih (i + 1) (cst x ls[i]) (cst_lt hx _ hbi) (by omega)
      have hd : cst x (ls.drop i).flatten = cst (cst x ls[i]) (ls.drop (i + 1)).flatten := by
        rw [List.drop_eq_getElem_cons hil, List.flatten_cons, cst_append]
      rw [hd]
      exact this
theorem Check_ev (ls : List (List Int)) (hb : ∀ l ∈ ls, Bytes l) (hl : ∀ l ∈ ls, l.length ≤ 9223372036854775806) (hn : ls.length ≤ 9223372036854775806) : Ev (fun k => frame_Check.f k ls) ((crc ls.flatten : Nat) : Int) := by
  have := Check_l0 ls hb hl hn ls.length 0 4294967295 (by decide) (by omega)
  rw [List.drop_zero] at this
  exact this
theorem lin_cst (a b c : List Int) (h1 : a.length = b.length) (h2 : a.length = c.length) (ha : Bytes a) (hb : Bytes b) (hc : Bytes c) : ∀ x y z : Nat,
    cst (x ^^^ y ^^^ z) (a.mapIdx fun i v => ((v.toNat ^^^ (b.getD i 0).toNat ^^^ (c.getD i 0).toNat : Nat) : Int)) = cst x a ^^^ cst y b ^^^ cst z c := by
  induction a generalizing b c with
  | nil =>
    intro x y z
    cases b with
    | nil => cases c with
      | nil => rfl
      | cons _ _ => simp at h2
    | cons _ _ => simp at h1
  | cons u a ih =>
    intro x y z
    cases b with
    | nil => simp at h1
    | cons v b => cases c with
      | nil => simp at h2
      | cons w c =>
        simp only [List.length_cons] at h1 h2
        have e := ih b c (by omega) (by omega) (fun q hq => ha q (List.mem_cons_of_mem _ hq)) (fun q hq => hb q (List.mem_cons_of_mem _ hq)) (fun q hq => hc q (List.mem_cons_of_mem _ hq)) (st8 (x ^^^ u.toNat)) (st8 (y ^^^ v.toNat)) (st8 (z ^^^ w.toNat))
        rw [List.mapIdx_cons]
        show cst (st8 (x ^^^ y ^^^ z ^^^ ((((u.toNat ^^^ v.toNat ^^^ w.toNat : Nat) : Int)).toNat))) (a.mapIdx fun i q => ((q.toNat ^^^ ((v :: b).getD (i + 1) 0).toNat ^^^ ((w :: c).getD (i + 1) 0).toNat : Nat) : Int)) = cst (st8 (x ^^^ u.toNat)) a ^^^ cst (st8 (y ^^^ v.toNat)) b ^^^ cst (st8 (z ^^^ w.toNat)) c
        rw [← e, Int.toNat_natCast, ← st8_xor, ← st8_xor]
        have e2 : x ^^^ y ^^^ z ^^^ (u.toNat ^^^ v.toNat ^^^ w.toNat) = x ^^^ u.toNat ^^^ (y ^^^ v.toNat) ^^^ (z ^^^ w.toNat) := by ac_rfl
        rw [e2]
        rfl
def mix3 (a b c : List Int) : List Int := a.mapIdx fun i v => ((v.toNat ^^^ (b.getD i 0).toNat ^^^ (c.getD i 0).toNat : Nat) : Int)
theorem mix3_bytes {a b c : List Int} (ha : Bytes a) (hb : Bytes b) (hc : Bytes c) : Bytes (mix3 a b c) := by
  intro x hx
  unfold mix3 at hx
  rw [List.mem_iff_getElem] at hx
  obtain ⟨j, hj, rfl⟩ := hx
  rw [List.getElem_mapIdx]
  refine byte_nat (Nat.xor_lt_two_pow (n := 8) (Nat.xor_lt_two_pow (n := 8) (nat_byte (ha _ (List.getElem_mem _))) (nat_byte (hb.at_ _))) (nat_byte (hc.at_ _)))
theorem bits3 {x y z : Int} (hx : Byte x) (hy : Byte y) (hz : Byte z) : Go.bits .xor .u8 (Go.bits .xor .u8 x y) z = ((x.toNat ^^^ y.toNat ^^^ z.toNat : Nat) : Int) := by
  rw [u8_xor x y hx.1 hx.2 hy.1 hy.2]
  have hb : Byte ((x.toNat ^^^ y.toNat : Nat) : Int) := byte_nat (Nat.xor_lt_two_pow (n := 8) (nat_byte hx) (nat_byte hy))
  rw [u8_xor _ z hb.1 hb.2 hz.1 hz.2, Int.toNat_natCast]
theorem Lin_l0 (a b c : List Int) (ha : Bytes a) (hb : Bytes b) (hc : Bytes c) (h1 : a.length = b.length) (h2 : a.length = c.length) (hl : a.length ≤ 50000) : ∀ (d i : Nat), i + d = a.length →
    Ev (fun k => rilllaw07_FrameLinear.l0 k a b c ((mix3 a b c).take i) (i : Int)) true := by
  have hm : (mix3 a b c).length = a.length := by simp [mix3]
  intro d
  induction d with
  | zero =>
    intro i hi
    rw [List.take_of_length_le (by omega)]
    have hmb := mix3_bytes ha hb hc
    have one : ∀ l : List Int, Bytes l → l.length ≤ 50000 → Ev (fun k => frame_Check.f k [l]) ((crc l : Nat) : Int) := by
      intro l hb hl
      have := Check_ev [l] (by intro q hq; simp at hq; subst hq; exact hb) (by intro q hq; simp at hq; subst hq; omega) (by simp)
      rw [List.flatten_cons, List.flatten_nil, List.append_nil] at this
      exact this
    obtain ⟨K0, k0⟩ := one _ hmb (by omega)
    obtain ⟨K1, k1⟩ := one a ha (by omega)
    obtain ⟨K2, k2⟩ := one b hb (by omega)
    obtain ⟨K3, k3⟩ := one c hc (by omega)
    dsimp only at k0 k1 k2 k3
    refine ⟨K0 + K1 + K2 + K3 + 1, fun k hk => ?_⟩
    obtain ⟨k, rfl⟩ : ∃ m, k = m + 1 := ⟨k - 1, by omega⟩
    simp only [rilllaw07_FrameLinear.l0]
    rw [if_neg (by omega), k0 k (by omega), Copy_ok a (by omega), Copy_ok b (by omega), Copy_ok c (by omega)]
    simp only [Option.bind_some]
    rw [k1 k (by omega), k2 k (by omega), k3 k (by omega)]
    simp only [Option.bind_some]
    have ca := crc_lt a ha
    have cb := crc_lt b hb
    have cc := crc_lt c hc
    rw [u32_xor_nat _ _ ca cb, u32_xor_nat _ _ (xor_lt32 ca cb) cc]
    have key : crc (mix3 a b c) = crc a ^^^ crc b ^^^ crc c := by
      have e := lin_cst a b c h1 h2 ha hb hc 4294967295 4294967295 4294967295
      rw [show 4294967295 ^^^ 4294967295 ^^^ 4294967295 = 4294967295 from by decide] at e
      unfold crc
      show 4294967295 ^^^ cst 4294967295 (a.mapIdx _) = _
      rw [e]
      have e3 : ∀ p x y z : Nat, p ^^^ (x ^^^ y ^^^ z) = p ^^^ x ^^^ (p ^^^ y) ^^^ (p ^^^ z) := by
        intro p x y z
        have : p ^^^ x ^^^ (p ^^^ y) ^^^ (p ^^^ z) = (p ^^^ p) ^^^ (p ^^^ (x ^^^ y ^^^ z)) := by ac_rfl
        rw [this, Nat.xor_self, Nat.zero_xor]
      exact e3 _ _ _ _
    rw [key]
    simp
  | succ d ih =>
    intro i hi
    refine Ev.step (fun k => ?_) (ih (i + 1) (by omega))
    simp only [rilllaw07_FrameLinear.l0]
    rw [if_pos (by omega), if_pos (by omega), if_pos (by omega), if_pos (by omega), if_pos (by rw [List.length_take]; omega), wrap_up (by omega), rd_cast, rd_cast, rd_cast, bits3 (ha.at_ i) (hb.at_ i) (hc.at_ i)]
    congr 1
    have hil : i < (mix3 a b c).length := by omega
    rw [List.take_succ_eq_append_getElem hil]
    congr 1
    have hg : (mix3 a b c)[i]? = some (((a.getD i 0).toNat ^^^ (b.getD i 0).toNat ^^^ (c.getD i 0).toNat : Nat) : Int) := by
      unfold mix3
      rw [List.getElem?_mapIdx, List.getD_eq_getElem?_getD (l := a), List.getElem?_eq_getElem (show i < a.length by omega)]
      rfl
    rw [List.getElem?_eq_getElem hil] at hg
    have this := Option.some.inj hg
    rw [this]
theorem FrameLinear : rilllaw07_FrameLinear.Pure := by
  intro a b c _ _ wa _ _ wb _ _ wc
  have ha := bytes_wf wa
  have hb := bytes_wf wb
  have hc := bytes_wf wc
  refine Ev.rounds ?_
  by_cases h1 : a.length = b.length
  · by_cases h2 : a.length = c.length
    · by_cases h3 : a.length > 50000
      · refine ⟨1, fun k hk => ?_⟩
        obtain ⟨k, rfl⟩ : ∃ m, k = m + 1 := ⟨k - 1, by omega⟩
        unfold rilllaw07_FrameLinear.f rilllaw07_alive.f
        simp only [Option.bind_some, if_true]
        rw [if_pos (by omega), if_pos (by omega), rilllaw07_FrameLinear.j0, if_pos (by simp; omega)]
      · obtain ⟨K, hK⟩ := Lin_l0 a b c ha hb hc h1 h2 (by omega) a.length 0 (by omega)
        refine ⟨K + 1, fun k hk => ?_⟩
        obtain ⟨k, rfl⟩ : ∃ m, k = m + 1 := ⟨k - 1, by omega⟩
        unfold rilllaw07_FrameLinear.f rilllaw07_alive.f
        simp only [Option.bind_some, if_true]
        rw [if_pos (by omega), if_pos (by omega), rilllaw07_FrameLinear.j0, if_neg (by simp; omega)]
        exact hK k (by omega)
    · refine ⟨1, fun k hk => ?_⟩
      obtain ⟨k, rfl⟩ : ∃ m, k = m + 1 := ⟨k - 1, by omega⟩
      unfold rilllaw07_FrameLinear.f rilllaw07_alive.f
      simp only [Option.bind_some, if_true]
      rw [if_pos (by omega), if_neg (by omega), rilllaw07_FrameLinear.j0, if_pos rfl]
  · refine ⟨1, fun k hk => ?_⟩
    obtain ⟨k, rfl⟩ : ∃ m, k = m + 1 := ⟨k - 1, by omega⟩
    unfold rilllaw07_FrameLinear.f rilllaw07_alive.f
    simp only [Option.bind_some, if_true]
    rw [if_neg (by omega), rilllaw07_FrameLinear.j0, if_pos rfl]

end Go.Proofs.Ytddabfokgecnoaa.Pure
