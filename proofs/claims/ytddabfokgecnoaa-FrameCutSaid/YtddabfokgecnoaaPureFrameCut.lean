/- Rows of bytes: of frames that are cut off the whole ones are told. -/
import Derived.Test.YtddabfokgecnoaaMFrameCutx4
import Derived.Test.YtddabfokgecnoaaMFrameCutx3
import Derived.Laws.BitsAllLaws
import Derived.OpenShut
namespace Go.Proofs.Ytddabfokgecnoaa.Pure
open Go.RowKit Go.Proofs.Ytddabfokgecnoaa.MFrameCut Go.Proofs.YtddabfokgecnoaaW.PrintWords Go.Proofs.YtddabfokgecnoaaW.PrintLast
open Go.Proofs.Ytddabfokgecnoaa

/-- numbers of a byte -/
def Byte (x : Int) : Prop := 0 ≤ x ∧ x < 256
theorem byte_wf {x : Int} (h : (Lit.int .u8 x).wf = true) : Byte x := by
  have := bounds_u8 h
  exact ⟨this.1, by omega⟩
theorem byte_nat {n : Nat} (h : n < 256) : Byte (n : Int) := ⟨by omega, by omega⟩
theorem nat_byte {a : Int} (h : Byte a) : a.toNat < 256 := by
  have := h.1
  have := h.2
  omega
def Bytes (xs : List Int) : Prop := ∀ x ∈ xs, Byte x
theorem zero_byte : Byte 0 := ⟨by decide, by decide⟩
theorem bytes_wf {l : List Int} (h : ∀ x ∈ l, (Lit.int .u8 x).wf = true) : Bytes l := fun x hx => byte_wf (h x hx)
theorem Bytes.at_ {xs : List Int} (h : Bytes xs) (j : Nat) : Byte (xs.getD j 0) := by
  rw [List.getD_eq_getElem?_getD]
  by_cases hj : j < xs.length
  · rw [List.getElem?_eq_getElem hj]; exact h _ (List.getElem_mem hj)
  · rw [List.getElem?_eq_none (by omega)]; exact zero_byte
theorem Bytes.app {xs ys : List Int} (h : Bytes xs) (k : Bytes ys) : Bytes (xs ++ ys) := by
  intro x hx
  rcases List.mem_append.1 hx with h1 | h1
  · exact h x h1
  · exact k x h1
theorem Bytes.take_ {xs : List Int} (h : Bytes xs) (n : Nat) : Bytes (xs.take n) := fun x hx => h x (List.mem_of_mem_take hx)
theorem Bytes.drop_ {xs : List Int} (h : Bytes xs) (n : Nat) : Bytes (xs.drop n) := fun x hx => h x (List.mem_of_mem_drop hx)
theorem rd_cast (xs : List Int) (j : Nat) : rd xs (j : Int) = xs.getD j 0 := by unfold rd; rw [Int.toNat_natCast]
theorem same_lists {a b : List Int} (he : a.length = b.length) (h : ∀ j, j < a.length → a.getD j 0 = b.getD j 0) : a = b := by
  refine List.ext_getElem he fun j h1 h2 => ?_
  have e := h j h1
  rw [List.getD_eq_getElem?_getD, List.getElem?_eq_getElem h1, List.getD_eq_getElem?_getD, List.getElem?_eq_getElem h2] at e
  simpa using e
theorem getD_oob (xs : List Int) (j : Nat) (h : xs.length ≤ j) : xs.getD j 0 = 0 := by
  rw [List.getD_eq_getElem?_getD, List.getElem?_eq_none h]; rfl
theorem wrap_up {i : Nat} (h : i ≤ 9223372036854775806) : wrap64 ((i : Int) + 1) = ((i + 1 : Nat) : Int) := by unfold wrap64; omega
theorem Ev.bind' {α β : Type} {g : Nat → Option α} {f : α → Nat → Option β} {a : α} {r : β} (h : Ev g a) (k : Ev (f a) r) : Ev (fun n => (g n).bind fun x => f x n) r := by
  obtain ⟨K, h⟩ := h
  obtain ⟨K', k⟩ := k
  refine ⟨max K K', fun n hn => ?_⟩
  have h1 := h n (by omega)
  have h2 := k n (by omega)
  simp only [h1, Option.bind_some]
  exact h2
theorem Ev.const {α : Type} {g : Option α} {r : α} (h : g = some r) : Ev (fun _ => g) r := ⟨0, fun _ _ => h⟩
theorem Same_l0 (a b : List Int) (he : a.length = b.length) (hl : a.length ≤ 9223372036854775806) : ∀ (d i k : Nat), i + d = a.length → d < k → (∀ j, j < i → a.getD j 0 = b.getD j 0) →
    rillref00_SameBytes.l0 k a b (i : Int) = some (decide (a = b)) := by
  intro d
  induction d with
  | zero =>
    intro i k hi hk hsame
    obtain ⟨k, rfl⟩ : ∃ m, k = m + 1 := ⟨k - 1, by omega⟩
    simp only [rillref00_SameBytes.l0]
    rw [if_neg (by omega)]
    rw [decide_eq_true (same_lists he fun j hj => hsame j (by omega))]
  | succ d ih =>
    intro i k hi hk hsame
    obtain ⟨k, rfl⟩ : ∃ m, k = m + 1 := ⟨k - 1, by omega⟩
    simp only [rillref00_SameBytes.l0]
    rw [if_pos (by omega), if_pos (by omega), if_pos (by omega), rd_cast, rd_cast, wrap_up (by omega)]
    by_cases c : a.getD i 0 = b.getD i 0
    · rw [if_pos c]
      refine ih (i + 1) k (by omega) (by omega) fun j hj => ?_
      by_cases e : j = i
      · subst e; exact c
      · exact hsame j (by omega)
    · rw [if_neg c]
      have : a ≠ b := fun h => c (by rw [h])
      rw [decide_eq_false this]
theorem Same_ok (a b : List Int) (hl : a.length ≤ 9223372036854775806) (k : Nat) (hk : a.length < k) : rillref00_SameBytes.f k a b = some (decide (a = b)) := by
  unfold rillref00_SameBytes.f
  by_cases h : a.length = b.length
  · rw [if_pos (by omega)]
    exact Same_l0 a b h hl a.length 0 k (by omega) hk (fun j hj => by omega)
  · rw [if_neg (by omega), decide_eq_false (fun e => h (by rw [e]))]
theorem Same_ev (a b : List Int) (hl : a.length ≤ 9223372036854775806) : Ev (fun k => rillref00_SameBytes.f k a b) (decide (a = b)) := ⟨a.length + 1, fun k hk => Same_ok a b hl k hk⟩
theorem Copy_ok (a : List Int) (h : a.length < 140737488355328) : rillref00_CopyBytes.f a = some a := by
  unfold rillref00_CopyBytes.f
  simp only [Option.bind_some, List.length_nil, Nat.zero_add, List.nil_append]
  rw [if_pos h]
theorem xor_cancel {a b c : Nat} (h : a ^^^ c = b ^^^ c) : a = b := by
  have e : ∀ x : Nat, x ^^^ c ^^^ c = x := fun x => by rw [Nat.xor_assoc, Nat.xor_self, Nat.xor_zero]
  rw [← e a, h, e b]
/-- one round of the check sum -/
def st1 (x : Nat) : Nat := (x >>> 1) ^^^ (if x.testBit 0 then 3988292384 else 0)
def st8 (x : Nat) : Nat := st1 (st1 (st1 (st1 (st1 (st1 (st1 (st1 x)))))))
def cst (x : Nat) (l : List Int) : Nat := l.foldl (fun v c => st8 (v ^^^ c.toNat)) x
theorem st1_lt {x : Nat} (h : x < 4294967296) : st1 x < 4294967296 := by
  unfold st1
  refine Nat.xor_lt_two_pow (n := 32) ?_ ?_
  · rw [Nat.shiftRight_eq_div_pow]; omega
  · split <;> omega
theorem st8_lt {x : Nat} (h : x < 4294967296) : st8 x < 4294967296 := st1_lt (st1_lt (st1_lt (st1_lt (st1_lt (st1_lt (st1_lt (st1_lt h)))))))
theorem xor_lt32 {a b : Nat} (ha : a < 4294967296) (hb : b < 4294967296) : a ^^^ b < 4294967296 := Nat.xor_lt_two_pow (n := 32) ha hb
theorem cst_lt {x : Nat} (h : x < 4294967296) (l : List Int) (hl : Bytes l) : cst x l < 4294967296 := by
  induction l generalizing x with
  | nil => exact h
  | cons c l ih =>
    refine ih (st8_lt (xor_lt32 h ?_)) fun y hy => hl y (List.mem_cons_of_mem _ hy)
    have := nat_byte (hl c List.mem_cons_self)
    omega
theorem st1_xor (x y : Nat) : st1 (x ^^^ y) = st1 x ^^^ st1 y := by
  unfold st1
  rw [Nat.shiftRight_xor_distrib, Nat.testBit_xor]
  cases x.testBit 0 <;> cases y.testBit 0 <;> simp
  · ac_rfl
  · ac_rfl
  · have e : ∀ p q r : Nat, p ^^^ q = p ^^^ r ^^^ (q ^^^ r) := by
      intro p q r
      rw [Nat.xor_assoc, ← Nat.xor_assoc r, Nat.xor_comm r q, Nat.xor_assoc, Nat.xor_self, Nat.xor_zero]
    exact e _ _ _
theorem st8_xor (x y : Nat) : st8 (x ^^^ y) = st8 x ^^^ st8 y := by unfold st8; simp only [st1_xor]
theorem st1_inj {x y : Nat} (hx : x < 4294967296) (hy : y < 4294967296) (h : st1 x = st1 y) : x = y := by
  have hp : (3988292384 : Nat).testBit 31 = true := by decide
  have hs : ∀ z : Nat, z < 4294967296 → (z >>> 1).testBit 31 = false := by
    intro z hz
    refine Nat.testBit_lt_two_pow ?_
    rw [Nat.shiftRight_eq_div_pow]
    omega
  have key : ∀ z : Nat, z < 4294967296 → (st1 z).testBit 31 = z.testBit 0 := by
    intro z hz
    unfold st1
    rw [Nat.testBit_xor, hs z hz]
    cases z.testBit 0
    · simp
    · simp [hp]
  have h0 : x.testBit 0 = y.testBit 0 := by rw [← key x hx, ← key y hy, h]
  unfold st1 at h
  rw [h0] at h
  have h1 := xor_cancel h
  rw [Nat.shiftRight_eq_div_pow, Nat.shiftRight_eq_div_pow] at h1
  rw [Nat.testBit_zero, Nat.testBit_zero] at h0
  have h2 := decide_eq_decide.1 h0
  omega
theorem st8_inj {x y : Nat} (hx : x < 4294967296) (hy : y < 4294967296) (h : st8 x = st8 y) : x = y := by
  unfold st8 at h
  have l : ∀ {z : Nat}, z < 4294967296 → st1 z < 4294967296 := fun h => st1_lt h
  exact st1_inj hx hy (st1_inj (l hx) (l hy) (st1_inj (l (l hx)) (l (l hy)) (st1_inj (l (l (l hx))) (l (l (l hy))) (st1_inj (l (l (l (l hx)))) (l (l (l (l hy)))) (st1_inj (l (l (l (l (l hx))))) (l (l (l (l (l hy)))))
    (st1_inj (l (l (l (l (l (l hx)))))) (l (l (l (l (l (l hy)))))) (st1_inj (l (l (l (l (l (l (l hx))))))) (l (l (l (l (l (l (l hy))))))) h)))))))
theorem cst_inj (l : List Int) (hl : Bytes l) {x y : Nat} (hx : x < 4294967296) (hy : y < 4294967296) (h : cst x l = cst y l) : x = y := by
  induction l generalizing x y with
  | nil => exact h
  | cons c l ih =>
    have hc := nat_byte (hl c List.mem_cons_self)
    have e := ih (fun z hz => hl z (List.mem_cons_of_mem _ hz)) (st8_lt (xor_lt32 hx (by omega))) (st8_lt (xor_lt32 hy (by omega))) h
    exact xor_cancel (st8_inj (xor_lt32 hx (by omega)) (xor_lt32 hy (by omega)) e)
theorem cst_append (x : Nat) (a b : List Int) : cst x (a ++ b) = cst (cst x a) b := by unfold cst; rw [List.foldl_append]
/-- the check sum -/
def crc (l : List Int) : Nat := 4294967295 ^^^ cst 4294967295 l
theorem crc_lt (l : List Int) (hl : Bytes l) : crc l < 4294967296 := xor_lt32 (by decide) (cst_lt (by decide) l hl)
theorem and_one32 (x : Nat) (hx : x < 4294967296) : Go.bits .and .u32 (x : Int) 1 = ((x % 2 : Nat) : Int) := by
  have := u32_and_nat x 1 hx (by decide)
  rw [show ((1 : Nat) : Int) = 1 from rfl] at this
  rw [this, Nat.and_one_is_mod]
theorem round32 (x : Nat) (hx : x < 4294967296) : Go.bits .xor .u32 ((x : Int) / 2) (Go.bits .and .u32 3988292384 ((-(Go.bits .and .u32 (x : Int) 1)) % 4294967296)) = ((st1 x : Nat) : Int) := by
  rw [and_one32 x hx]
  have e2 : (x : Int) / 2 = ((x / 2 : Nat) : Int) := by omega
  rw [e2]
  unfold st1
  rw [Nat.testBit_zero, Nat.shiftRight_eq_div_pow]
  rcases Nat.mod_two_eq_zero_or_one x with h | h
  · rw [h]
    have e : Go.bits .and .u32 3988292384 ((-((0 : Nat) : Int)) % 4294967296) = ((0 : Nat) : Int) := by decide +kernel
    rw [e, u32_xor_nat _ _ (by omega) (by decide)]
    simp
  · rw [h]
    have e : Go.bits .and .u32 3988292384 ((-((1 : Nat) : Int)) % 4294967296) = ((3988292384 : Nat) : Int) := by decide +kernel
    rw [e, u32_xor_nat _ _ (by omega) (by decide)]
    simp
theorem rd_row (xs : List (List Int)) (j : Nat) : rd_L1 xs (j : Int) = xs.getD j [] := by unfold rd_L1; rw [Int.toNat_natCast]
theorem Check_l2_round (k x : Nat) (hx : x < 4294967296) (x8 : List (List Int)) (x9 x10 : Int) (x14 : List Int) (x15 x16 : Int) (i : Nat) (hi : i < 8) :
    frame_Check.l2 (k + 1) (x : Int) x8 x9 x10 x14 x15 x16 (i : Int) = frame_Check.l2 k ((st1 x : Nat) : Int) x8 x9 x10 x14 x15 x16 ((i + 1 : Nat) : Int) := by
  simp only [frame_Check.l2]
  rw [if_pos (by omega), round32 x hx, wrap_up (by omega)]
theorem Check_l2 (x : Nat) (hx : x < 4294967296) (x8 : List (List Int)) (x9 x10 : Int) (x14 : List Int) (x15 x16 r : Int) (h : Ev (fun k => frame_Check.l1 k ((st8 x : Nat) : Int) x8 x9 x10 x14 x15 (wrap64 (x16 + 1))) r) :
    Ev (fun k => frame_Check.l2 k (x : Int) x8 x9 x10 x14 x15 x16 0) r := by
  have l : ∀ {z : Nat}, z < 4294967296 → st1 z < 4294967296 := fun h => st1_lt h
  refine Ev.step (fun k => Check_l2_round k x hx x8 x9 x10 x14 x15 x16 0 (by decide)) ?_
  refine Ev.step (fun k => Check_l2_round k _ (l hx) x8 x9 x10 x14 x15 x16 1 (by decide)) ?_
  refine Ev.step (fun k => Check_l2_round k _ (l (l hx)) x8 x9 x10 x14 x15 x16 2 (by decide)) ?_
  refine Ev.step (fun k => Check_l2_round k _ (l (l (l hx))) x8 x9 x10 x14 x15 x16 3 (by decide)) ?_
  refine Ev.step (fun k => Check_l2_round k _ (l (l (l (l hx)))) x8 x9 x10 x14 x15 x16 4 (by decide)) ?_
  refine Ev.step (fun k => Check_l2_round k _ (l (l (l (l (l hx))))) x8 x9 x10 x14 x15 x16 5 (by decide)) ?_
  refine Ev.step (fun k => Check_l2_round k _ (l (l (l (l (l (l hx)))))) x8 x9 x10 x14 x15 x16 6 (by decide)) ?_
  refine Ev.step (fun k => Check_l2_round k _ (l (l (l (l (l (l (l hx))))))) x8 x9 x10 x14 x15 x16 7 (by decide)) ?_
  refine Ev.step (fun k => ?_) h
  simp only [frame_Check.l2]
  rw [if_neg (by omega)]
  rfl
theorem xor_byte32 (x : Nat) (hx : x < 4294967296) {c : Int} (hc : Byte c) : Go.bits .xor .u32 (x : Int) (c % 4294967296) = ((x ^^^ c.toNat : Nat) : Int) := by
  obtain ⟨h1, h2⟩ := hc
  obtain ⟨n, rfl⟩ := Int.eq_ofNat_of_zero_le h1
  have e : (n : Int) % 4294967296 = (n : Int) := by omega
  rw [e, u32_xor_nat _ _ hx (by omega), Int.toNat_natCast]
theorem Check_l1 (x8 : List (List Int)) (x9 x10 r : Int) (l : List Int) (hb : Bytes l) (hl : l.length ≤ 9223372036854775806) : ∀ (d i x : Nat), x < 4294967296 → i + d = l.length →
    Ev (fun k => frame_Check.l0 k ((cst x (l.drop i) : Nat) : Int) x8 x9 (wrap64 (x10 + 1))) r → Ev (fun k => frame_Check.l1 k (x : Int) x8 x9 x10 l (l.length : Int) (i : Int)) r := by
  intro d
  induction d with
  | zero =>
    intro i x hx hi h
    rw [List.drop_eq_nil_of_le (by omega)] at h
    refine Ev.step (fun k => ?_) h
    simp only [frame_Check.l1]
    rw [if_neg (by omega)]
    rfl
  | succ d ih =>
    intro i x hx hi h
    have hil : i < l.length := by omega
    have hc := hb.at_ i
    have e : l.getD i 0 = l[i] := by rw [List.getD_eq_getElem?_getD, List.getElem?_eq_getElem hil]; rfl
    refine Ev.step (f := fun k => frame_Check.l2 k ((x ^^^ (l.getD i 0).toNat : Nat) : Int) x8 x9 x10 l (l.length : Int) (i : Int) 0) (fun k => ?_) ?_
    · simp only [frame_Check.l1]
      rw [if_pos (by omega), if_pos (by omega), if_pos (by omega), rd_cast, xor_byte32 x hx hc]
    · have hlt := nat_byte hc
      refine Check_l2 _ (xor_lt32 hx (by omega)) _ _ _ _ _ _ _ ?_
      rw [wrap_up (by omega)]
      refine ih (i + 1) _ (st8_lt (xor_lt32 hx (by omega))) (by omega) ?_
      have hd : cst x (l.drop i) = cst (st8 (x ^^^ (l.getD i 0).toNat)) (l.drop (i + 1)) := by
        rw [List.drop_eq_getElem_cons hil, e]
        rfl
      rw [hd] at h
      exact h
theorem Check_l0 (ls : List (List Int)) (hb : ∀ l ∈ ls, Bytes l) (hl : ∀ l ∈ ls, l.length ≤ 9223372036854775806) (hn : ls.length ≤ 9223372036854775806) : ∀ (d i x : Nat), x < 4294967296 → i + d = ls.length →
    Ev (fun k => frame_Check.l0 k (x : Int) ls (ls.length : Int) (i : Int)) (((4294967295 ^^^ cst x (ls.drop i).flatten) : Nat) : Int) := by
  intro d
  induction d with
  | zero =>
    intro i x hx hi
    refine Ev.step (f := fun _ => some (((4294967295 ^^^ x) : Nat) : Int)) (fun k => ?_) ?_
    · simp only [frame_Check.l0]
      rw [if_neg (by omega)]
      have := u32_xor_nat 4294967295 x (by decide) hx
      rw [show ((4294967295 : Nat) : Int) = 4294967295 from rfl] at this
      rw [this]
    · rw [List.drop_eq_nil_of_le (by omega)]
      exact Ev.now _
  | succ d ih =>
    intro i x hx hi
    have hil : i < ls.length := by omega
    have e : ls.getD i [] = ls[i] := by rw [List.getD_eq_getElem?_getD, List.getElem?_eq_getElem hil]; rfl
    refine Ev.step (f := fun k => frame_Check.l1 k (x : Int) ls (ls.length : Int) (i : Int) (ls.getD i []) ((ls.getD i []).length : Int) 0) (fun k => ?_) ?_
    · simp only [frame_Check.l0]
      rw [if_pos (by omega), if_pos (by omega), if_pos (by omega), rd_row]
    · rw [e]
      have hbi := hb _ (List.getElem_mem hil)
      have hli := hl _ (List.getElem_mem hil)
      refine Check_l1 ls (ls.length : Int) (i : Int) _ ls[i] hbi hli ls[i].length 0 x hx (by omega) ?_
      rw [wrap_up (by omega), List.drop_zero]
      have := ih (i + 1) (cst x ls[i]) (cst_lt hx _ hbi) (by omega)
      have hd : cst x (ls.drop i).flatten = cst (cst x ls[i]) (ls.drop (i + 1)).flatten := by
        rw [List.drop_eq_getElem_cons hil, List.flatten_cons, cst_append]
      rw [hd]
      exact this
theorem Check_ev (ls : List (List Int)) (hb : ∀ l ∈ ls, Bytes l) (hl : ∀ l ∈ ls, l.length ≤ 9223372036854775806) (hn : ls.length ≤ 9223372036854775806) : Ev (fun k => frame_Check.f k ls) ((crc ls.flatten : Nat) : Int) := by
  have := Check_l0 ls hb hl hn ls.length 0 4294967295 (by decide) (by omega)
  rw [List.drop_zero] at this
  exact this
def hdr (n : Nat) : List Int := [90, ((n / 65536 % 256 : Nat) : Int), ((n / 256 % 256 : Nat) : Int), ((n % 256 : Nat) : Int)]
def tl (v : Nat) : List Int := [((v / 16777216 % 256 : Nat) : Int), ((v / 65536 % 256 : Nat) : Int), ((v / 256 % 256 : Nat) : Int), ((v % 256 : Nat) : Int)]
/-- the frame of a payload -/
def fr (p : List Int) : List Int := hdr p.length ++ p ++ tl (crc (hdr p.length ++ p))
theorem hdr_bytes (n : Nat) : Bytes (hdr n) := by
  intro x hx
  simp only [hdr, List.mem_cons, List.not_mem_nil, or_false] at hx
  rcases hx with rfl | rfl | rfl | rfl
  · exact ⟨by decide, by decide⟩
  · exact byte_nat (Nat.mod_lt _ (by decide))
  · exact byte_nat (Nat.mod_lt _ (by decide))
  · exact byte_nat (Nat.mod_lt _ (by decide))
theorem tl_bytes (n : Nat) : Bytes (tl n) := by
  intro x hx
  simp only [tl, List.mem_cons, List.not_mem_nil, or_false] at hx
  rcases hx with rfl | rfl | rfl | rfl <;> exact byte_nat (Nat.mod_lt _ (by decide))
theorem fr_bytes {p : List Int} (h : Bytes p) : Bytes (fr p) := ((hdr_bytes _).app h).app (tl_bytes _)
theorem fr_length (p : List Int) : (fr p).length = p.length + 8 := by simp [fr, hdr, tl]
theorem big_eq (v : Nat) : frame_big.f (v : Int) = some (tl v) := by
  unfold frame_big.f tl
  simp only [Option.some.injEq, List.cons.injEq, and_true]
  refine ⟨by omega, by omega, by omega, by omega⟩
theorem or_hdr (n : Nat) (h : n ≤ 32768) : Go.bits .or .u32 1509949440 ((n : Int) % 4294967296) = ((1509949440 + n : Nat) : Int) := by
  have e : (n : Int) % 4294967296 = (n : Int) := by omega
  have := u32_or_nat 1509949440 n (by decide) (by omega)
  rw [show ((1509949440 : Nat) : Int) = 1509949440 from rfl] at this
  rw [e, this]
  have h2 := Nat.two_pow_add_eq_or_of_lt (i := 24) (b := n) (by omega) 90
  rw [show 2 ^ 24 * 90 = 1509949440 from by decide] at h2
  rw [← h2]
theorem tl_hdr (n : Nat) (h : n ≤ 32768) : tl (1509949440 + n) = hdr n := by
  unfold tl hdr
  simp only [List.cons.injEq, and_true]
  refine ⟨by omega, by omega, by omega, by omega⟩
theorem Concat_l1 (ls : List (List Int)) (hn : ls.length ≤ 9223372036854775806) : ∀ (d i : Nat) (out : List Int), i + d = ls.length → out.length + (ls.drop i).flatten.length < 140737488355328 →
    Ev (fun k => slices_Concat_byte_byte.l1 k out ls (ls.length : Int) (i : Int)) (out ++ (ls.drop i).flatten) := by
  intro d
  induction d with
  | zero =>
    intro i out hi ho
    refine Ev.step (f := fun _ => some out) (fun k => ?_) ?_
    · simp only [slices_Concat_byte_byte.l1]
      rw [if_neg (by omega)]
    · rw [List.drop_eq_nil_of_le (by omega), List.flatten_nil, List.append_nil]
      exact Ev.now _
  | succ d ih =>
    intro i out hi ho
    have hil : i < ls.length := by omega
    have e : ls.getD i [] = ls[i] := by rw [List.getD_eq_getElem?_getD, List.getElem?_eq_getElem hil]; rfl
    have hd : (ls.drop i).flatten = ls[i] ++ (ls.drop (i + 1)).flatten := by rw [List.drop_eq_getElem_cons hil, List.flatten_cons]
    rw [hd, List.length_append] at ho
    refine Ev.step (f := fun k => slices_Concat_byte_byte.l1 k (out ++ ls[i]) ls (ls.length : Int) ((i + 1 : Nat) : Int)) (fun k => ?_) ?_
    · simp only [slices_Concat_byte_byte.l1]
      rw [if_pos (by omega), if_pos (by omega), if_pos (by omega), rd_row, e, if_pos (by omega), wrap_up (by omega)]
    · have := ih (i + 1) (out ++ ls[i]) (by omega) (by rw [List.length_append]; omega)
      rw [List.append_assoc, ← hd] at this
      exact this
theorem Concat_l0 (ls : List (List Int)) (hn : ls.length ≤ 9223372036854775806) (hs : ls.flatten.length < 140737488355328) : ∀ (d i s : Nat), i + d = ls.length → s + (ls.drop i).flatten.length = ls.flatten.length →
    Ev (fun k => slices_Concat_byte_byte.l0 k ls (s : Int) ls (ls.length : Int) (i : Int)) ls.flatten := by
  intro d
  induction d with
  | zero =>
    intro i s hi hl
    refine Ev.step (f := fun k => slices_Concat_byte_byte.l1 k [] ls (ls.length : Int) ((0 : Nat) : Int)) (fun k => ?_) ?_
    · simp only [slices_Concat_byte_byte.l0]
      rw [if_neg (by omega)]
      unfold slices_Grow_byte_byte.f
      rw [if_pos (by omega), if_pos (by omega)]
      rfl
    · have := Concat_l1 ls hn ls.length 0 [] (by omega) (by simp only [List.length_nil, List.drop_zero]; omega)
      rw [List.drop_zero, List.nil_append] at this
      exact this
  | succ d ih =>
    intro i s hi hl
    have hil : i < ls.length := by omega
    have e : ls.getD i [] = ls[i] := by rw [List.getD_eq_getElem?_getD, List.getElem?_eq_getElem hil]; rfl
    have hd : (ls.drop i).flatten = ls[i] ++ (ls.drop (i + 1)).flatten := by rw [List.drop_eq_getElem_cons hil, List.flatten_cons]
    rw [hd, List.length_append] at hl
    have hw : wrap64 ((s : Int) + (ls[i].length : Int)) = ((s + ls[i].length : Nat) : Int) := by unfold wrap64; omega
    refine Ev.step (f := fun k => slices_Concat_byte_byte.l0 k ls ((s + ls[i].length : Nat) : Int) ls (ls.length : Int) ((i + 1 : Nat) : Int)) (fun k => ?_) ?_
    · simp only [slices_Concat_byte_byte.l0]
      rw [if_pos (by omega), if_pos (by omega), if_pos (by omega), rd_row, e, hw, if_neg (by omega), wrap_up (by omega)]
    · exact ih (i + 1) (s + ls[i].length) (by omega) (by omega)
theorem Concat_ev (ls : List (List Int)) (hn : ls.length ≤ 9223372036854775806) (hs : ls.flatten.length < 140737488355328) : Ev (fun k => slices_Concat_byte_byte.f k ls) ls.flatten := by
  have := Concat_l0 ls hn hs ls.length 0 0 (by omega) (by simp)
  exact this
theorem Pack_ev (p : List Int) (hp : Bytes p) (hl : p.length ≤ 32768) : Ev (fun k => frame_Pack.f k p) (fr p, 0) := by
  have h1 := Check_ev [hdr p.length, p] (by intro l hl'; simp at hl'; rcases hl' with rfl | rfl; exact hdr_bytes _; exact hp) (by intro l hl'; simp at hl'; rcases hl' with rfl | rfl; simp [hdr]; omega) (by simp)
  have e1 : [hdr p.length, p].flatten = hdr p.length ++ p := by simp
  rw [e1] at h1
  have h2 := Concat_ev [hdr p.length, p, tl (crc (hdr p.length ++ p))] (by simp) (by simp [hdr, tl]; omega)
  have e2 : [hdr p.length, p, tl (crc (hdr p.length ++ p))].flatten = fr p := by simp [fr]
  rw [e2] at h2
  refine Ev.congr (f := fun k => (frame_Check.f k [hdr p.length, p]).bind fun c => (frame_big.f c).bind fun t => (slices_Concat_byte_byte.f k [hdr p.length, p, t]).bind fun r => some (r, 0)) (fun k => ?_) ?_
  · unfold frame_Pack.f
    rw [if_neg (by omega), or_hdr _ hl, big_eq, tl_hdr _ hl]
    rfl
  · refine Ev.bind' (f := fun c k => (frame_big.f c).bind fun t => (slices_Concat_byte_byte.f k [hdr p.length, p, t]).bind fun r => some (r, 0)) h1 ?_
    refine Ev.congr (f := fun k => (slices_Concat_byte_byte.f k [hdr p.length, p, tl (crc (hdr p.length ++ p))]).bind fun r => some (r, (0 : Int))) (fun k => ?_) ?_
    · rw [big_eq]
      rfl
    · exact Ev.bind' (f := fun r _ => some (r, (0 : Int))) h2 (Ev.now _)
theorem Pack_long (p : List Int) (hl : 32768 < p.length) (k : Nat) : frame_Pack.f k p = some ([], 71) := by
  unfold frame_Pack.f
  rw [if_pos (by omega)]
/-- the length that a head tells -/
def hn (b : List Int) : Nat := (b.getD 1 0).toNat * 65536 + (b.getD 2 0).toNat * 256 + (b.getD 3 0).toNat
/-- what Next answers -/
def nextS (b : List Int) : List Int × Int × Int :=
  if b.length = 0 then ([], 0, 0) else if b.getD 0 0 ≠ 90 then ([], 0, 70) else if b.length < 4 then ([], 0, 0) else
  if 32768 < hn b then ([], 0, 70) else if b.length < hn b + 8 then ([], 0, 0) else
  if (b.take (hn b + 8)).drop (hn b + 4) = tl (crc (b.take (hn b + 4))) then ((b.take (hn b + 4)).drop 4, ((hn b + 8 : Nat) : Int), 0) else ([], 0, 70)
theorem or_add (x y i : Nat) (hy : y < 2 ^ i) (hx : x < 2 ^ 40) (hi : i ≤ 40) (hm : x % 2 ^ i = 0) : Go.bits .or .i64 (x : Int) (y : Int) = ((x + y : Nat) : Int) := by
  have h := (bits_nat .i64 63 (by decide) (fun m h0 h1 => by rw [IntKind.wrap_i64]; omega) x y (Nat.lt_of_lt_of_le hx (by decide)) (Nat.lt_of_lt_of_le hy (Nat.pow_le_pow_right (by decide) (by omega)))).2
  rw [h]
  have h2 := Nat.two_pow_add_eq_or_of_lt hy (x / 2 ^ i)
  have h3 : 2 ^ i * (x / 2 ^ i) = x := by have := Nat.div_add_mod x (2 ^ i); omega
  rw [h3] at h2
  rw [← h2]
theorem head_or (b1 b2 b3 : Int) (h1 : Byte b1) (h2 : Byte b2) (h3 : Byte b3) :
    Go.bits .or .i64 (Go.bits .or .i64 (wrap64 (wrap64 b1 * 65536)) (wrap64 (wrap64 b2 * 256))) (wrap64 b3) = ((b1.toNat * 65536 + b2.toNat * 256 + b3.toNat : Nat) : Int) := by
  obtain ⟨l1, u1⟩ := h1
  obtain ⟨l2, u2⟩ := h2
  obtain ⟨l3, u3⟩ := h3
  obtain ⟨x, rfl⟩ := Int.eq_ofNat_of_zero_le l1
  obtain ⟨y, rfl⟩ := Int.eq_ofNat_of_zero_le l2
  obtain ⟨z, rfl⟩ := Int.eq_ofNat_of_zero_le l3
  have e1 : wrap64 (wrap64 (x : Int) * 65536) = ((x * 65536 : Nat) : Int) := by unfold wrap64; omega
  have e2 : wrap64 (wrap64 (y : Int) * 256) = ((y * 256 : Nat) : Int) := by unfold wrap64; omega
  have e3 : wrap64 (z : Int) = ((z : Nat) : Int) := by unfold wrap64; omega
  rw [e1, e2, e3, or_add (x * 65536) (y * 256) 16 (by omega) (by omega) (by decide) (by omega), or_add (x * 65536 + y * 256) z 8 (by omega) (by omega) (by decide) (by omega)]
  simp
theorem hn_lt {b : List Int} (hb : Bytes b) : hn b < 16777216 := by
  have h1 := nat_byte (hb.at_ 1)
  have h2 := nat_byte (hb.at_ 2)
  have h3 := nat_byte (hb.at_ 3)
  unfold hn
  omega
theorem tl_length (v : Nat) : (tl v).length = 4 := rfl
theorem Equal_l0 (a b : List Int) (he : a.length = b.length) (hl : a.length ≤ 9223372036854775806) : ∀ (d i : Nat), i + d = a.length → (∀ j, j < i → a.getD j 0 = b.getD j 0) →
    Ev (fun k => slices_Equal_byte_byte.l0 k a b (a.length : Int) (i : Int)) (decide (a = b)) := by
  intro d
  induction d with
  | zero =>
    intro i hi hs
    refine Ev.step (f := fun _ => some true) (fun k => ?_) ?_
    · simp only [slices_Equal_byte_byte.l0]
      rw [if_neg (by omega)]
    · rw [decide_eq_true (same_lists he fun j hj => hs j (by omega))]
      exact Ev.now _
  | succ d ih =>
    intro i hi hs
    by_cases c : a.getD i 0 = b.getD i 0
    · refine Ev.step (f := fun k => slices_Equal_byte_byte.l0 k a b (a.length : Int) ((i + 1 : Nat) : Int)) (fun k => ?_) (ih (i + 1) (by omega) fun j hj => ?_)
      · simp only [slices_Equal_byte_byte.l0]
        rw [if_pos (by omega), if_pos (by omega), if_pos (by omega), if_pos (by omega), rd_cast, rd_cast, if_pos c, wrap_up (by omega)]
      · by_cases e : j = i
        · subst e; exact c
        · exact hs j (by omega)
    · refine Ev.step (f := fun _ => some false) (fun k => ?_) ?_
      · simp only [slices_Equal_byte_byte.l0]
        rw [if_pos (by omega), if_pos (by omega), if_pos (by omega), if_pos (by omega), rd_cast, rd_cast, if_neg c]
      · rw [decide_eq_false (fun e => c (by rw [e]))]
        exact Ev.now _
theorem Equal_ev (a b : List Int) (hl : a.length ≤ 9223372036854775806) : Ev (fun k => slices_Equal_byte_byte.f k a b) (decide (a = b)) := by
  by_cases h : a.length = b.length
  · refine Ev.congr (fun k => ?_) (Equal_l0 a b h hl a.length 0 (by omega) (fun j hj => by omega))
    unfold slices_Equal_byte_byte.f
    rw [if_pos (by omega)]
    rfl
  · refine Ev.congr (f := fun _ => some false) (fun k => ?_) ?_
    · unfold slices_Equal_byte_byte.f
      rw [if_neg (by omega)]
    · rw [decide_eq_false (fun e => h (by rw [e]))]
      exact Ev.now _
theorem rd0 (b : List Int) : rd b 0 = b.getD 0 0 := rfl
theorem rd1 (b : List Int) : rd b 1 = b.getD 1 0 := rfl
theorem rd2 (b : List Int) : rd b 2 = b.getD 2 0 := rfl
theorem rd3 (b : List Int) : rd b 3 = b.getD 3 0 := rfl
theorem Next_ev (b : List Int) (hb : Bytes b) (hl : b.length < 140737488355328) : Ev (fun k => frame_Next.f k b) (nextS b) := by
  have now : ∀ r, nextS b = r → (∀ k, frame_Next.f k b = some r) → Ev (fun k => frame_Next.f k b) (nextS b) := by
    intro r hr h
    rw [hr]
    exact ⟨0, fun k _ => h k⟩
  by_cases c0 : b.length = 0
  · refine now _ (by unfold nextS; rw [if_pos c0]) fun k => ?_
    unfold frame_Next.f
    rw [if_pos (by omega)]
  by_cases c1 : b.getD 0 0 = 90
  rotate_left
  · refine now _ (by unfold nextS; rw [if_neg c0, if_pos c1]) fun k => ?_
    unfold frame_Next.f
    rw [if_neg (by omega), if_pos (by omega), rd0, if_neg c1]
  by_cases c2 : b.length < 4
  · refine now _ (by unfold nextS; rw [if_neg c0, if_neg (by simpa using c1), if_pos c2]) fun k => ?_
    unfold frame_Next.f
    rw [if_neg (by omega), if_pos (by omega), rd0, if_pos c1, if_pos (by omega)]
  have ho := head_or _ _ _ (hb.at_ 1) (hb.at_ 2) (hb.at_ 3)
  have hh : ((b.getD 1 0).toNat * 65536 + (b.getD 2 0).toNat * 256 + (b.getD 3 0).toNat) = hn b := rfl
  rw [hh] at ho
  have hlt := hn_lt hb
  have e4 : wrap64 (4 + ((hn b : Nat) : Int)) = ((hn b + 4 : Nat) : Int) := by unfold wrap64; omega
  have e8 : wrap64 (((hn b + 4 : Nat) : Int) + 4) = ((hn b + 8 : Nat) : Int) := by unfold wrap64; omega
  by_cases c3 : 32768 < hn b
  · refine now _ (by unfold nextS; rw [if_neg c0, if_neg (by simpa using c1), if_neg c2, if_pos c3]) fun k => ?_
    unfold frame_Next.f
    rw [if_neg (by omega), if_pos (by omega), rd0, rd1, rd2, rd3, if_pos c1, if_neg (by omega), if_pos (by omega), if_pos (by omega), if_pos (by omega), ho, if_pos (by omega)]
  by_cases c4 : b.length < hn b + 8
  · refine now _ (by unfold nextS; rw [if_neg c0, if_neg (by simpa using c1), if_neg c2, if_neg c3, if_pos c4]) fun k => ?_
    unfold frame_Next.f
    rw [if_neg (by omega), if_pos (by omega), rd0, rd1, rd2, rd3, if_pos c1, if_neg (by omega), if_pos (by omega), if_pos (by omega), if_pos (by omega), ho, if_neg (by omega), e4, e8, if_pos (by omega)]
  have hck := Check_ev [b.take (hn b + 4)] (by intro l hl'; simp at hl'; subst hl'; exact hb.take_ _) (by intro l hl'; simp at hl'; subst hl'; rw [List.length_take]; omega) (by simp)
  rw [List.flatten_cons, List.flatten_nil, List.append_nil] at hck
  have heq := Equal_ev ((b.take (hn b + 8)).drop (hn b + 4)) (tl (crc (b.take (hn b + 4)))) (by rw [List.length_drop, List.length_take]; omega)
  obtain ⟨K1, k1⟩ := hck
  obtain ⟨K2, k2⟩ := heq
  dsimp only at k1 k2
  refine ⟨K1 + K2, fun k hk => ?_⟩
  show frame_Next.f k b = some (nextS b)
  unfold frame_Next.f
  rw [if_neg (by omega), if_pos (by omega), rd0, rd1, rd2, rd3, if_pos c1, if_neg (by omega), if_pos (by omega), if_pos (by omega), if_pos (by omega), ho, if_neg (by omega), e4, e8, if_neg (by omega),
    if_pos (by omega), if_pos (by omega), if_pos (by omega), if_pos (by omega), Int.toNat_natCast, Int.toNat_natCast, k1 k (by omega)]
  simp only [Option.bind_some]
  rw [big_eq]
  simp only [Option.bind_some]
  rw [k2 k (by omega)]
  simp only [Option.bind_some, decide_eq_true_eq]
  have hn5 : nextS b = if (b.take (hn b + 8)).drop (hn b + 4) = tl (crc (b.take (hn b + 4))) then ((b.take (hn b + 4)).drop 4, ((hn b + 8 : Nat) : Int), 0) else ([], 0, 70) := by
    unfold nextS
    rw [if_neg c0, if_neg (by simpa using c1), if_neg c2, if_neg c3, if_neg c4]
  rw [hn5]
  by_cases c5 : (b.take (hn b + 8)).drop (hn b + 4) = tl (crc (b.take (hn b + 4)))
  · rw [if_pos c5, if_pos c5, if_pos (by omega)]
    unfold slices_Clone_byte_byte.f
    rw [if_pos (by rw [List.length_drop, List.length_take]; omega)]
    rfl
  · rw [if_neg c5, if_neg c5]
theorem tl_inj {v w : Nat} (hv : v < 4294967296) (hw : w < 4294967296) (h : tl v = tl w) : v = w := by
  unfold tl at h
  simp only [List.cons.injEq, and_true] at h
  obtain ⟨h1, h2, h3, h4⟩ := h
  omega
theorem getD_append_left (a b : List Int) (j : Nat) (h : j < a.length) : (a ++ b).getD j 0 = a.getD j 0 := by
  rw [List.getD_eq_getElem?_getD, List.getD_eq_getElem?_getD, List.getElem?_append_left h]
theorem hn_hdr (n : Nat) (h : n ≤ 32768) (r : List Int) : hn (hdr n ++ r) = n := by
  show (((n / 65536 % 256 : Nat) : Int)).toNat * 65536 + (((n / 256 % 256 : Nat) : Int)).toNat * 256 + (((n % 256 : Nat) : Int)).toNat = n
  rw [Int.toNat_natCast, Int.toNat_natCast, Int.toNat_natCast]
  omega
/-- a whole frame, and more behind it -/
theorem next_fr (p r : List Int) (hl : p.length ≤ 32768) : nextS (fr p ++ r) = (p, ((p.length + 8 : Nat) : Int), 0) := by
  have e : fr p ++ r = hdr p.length ++ (p ++ tl (crc (hdr p.length ++ p)) ++ r) := by simp [fr]
  have hh : hn (fr p ++ r) = p.length := by rw [e]; exact hn_hdr _ hl _
  have hlen : (fr p ++ r).length = p.length + 8 + r.length := by rw [List.length_append, fr_length]
  have h0 : (fr p ++ r).getD 0 0 = 90 := by rw [e]; rfl
  have hd : (hdr p.length).length = 4 := rfl
  have t4 : (fr p ++ r).take (p.length + 4) = hdr p.length ++ p := by
    have : fr p ++ r = (hdr p.length ++ p) ++ (tl (crc (hdr p.length ++ p)) ++ r) := by simp [fr]
    rw [this, List.take_append_of_le_length (by rw [List.length_append, hd]; omega), List.take_of_length_le (by rw [List.length_append, hd]; omega)]
  have t8 : (fr p ++ r).take (p.length + 8) = fr p := by
    rw [List.take_append_of_le_length (by rw [fr_length]; omega), List.take_of_length_le (by rw [fr_length]; omega)]
  have d4 : (fr p).drop (p.length + 4) = tl (crc (hdr p.length ++ p)) := by
    unfold fr
    rw [List.drop_append_of_le_length (by rw [List.length_append, hd]; omega), List.drop_eq_nil_of_le (by rw [List.length_append, hd]; omega), List.nil_append]
  have d0 : (hdr p.length ++ p).drop 4 = p := by
    rw [List.drop_append_of_le_length (by rw [hd]; omega), List.drop_eq_nil_of_le (by rw [hd]; omega), List.nil_append]
  unfold nextS
  rw [hh, if_neg (by omega), if_neg (by simpa using h0), if_neg (by omega), if_neg (by omega), if_neg (by omega), t4, t8, d4, if_pos rfl, d0]
/-- what a scan answers: the frames, and how many bytes they are -/
def scanS : Nat → List Int → List (List Int) × Nat
  | 0, _ => ([], 0)
  | f + 1, b => if (nextS b).2.2 = 0 ∧ (nextS b).2.1 ≠ 0 then ((nextS b).1 :: (scanS f (b.drop (nextS b).2.1.toNat)).1, (nextS b).2.1.toNat + (scanS f (b.drop (nextS b).2.1.toNat)).2) else ([], 0)
theorem next_size (b : List Int) : (nextS b).2.1 = 0 ∨ ∃ m, (nextS b).2.1 = ((m : Nat) : Int) ∧ 8 ≤ m ∧ m ≤ b.length ∧ (nextS b).1 = (b.take (m - 4)).drop 4 ∧ (nextS b).2.2 = 0 := by
  unfold nextS
  split
  · exact .inl rfl
  split
  · exact .inl rfl
  split
  · exact .inl rfl
  split
  · exact .inl rfl
  split
  · exact .inl rfl
  split
  · exact .inr ⟨hn b + 8, rfl, by omega, by omega, by rw [show hn b + 8 - 4 = hn b + 4 from by omega], rfl⟩
  · exact .inl rfl
theorem Scan_l0 (b : List Int) (hb : Bytes b) (hl : b.length < 5000000) : ∀ (f i : Nat) (out : List (List Int)), i ≤ b.length → b.length - i < f → out.length ≤ i →
    Ev (fun k => frame_Scan.l0 k b out (i : Int)) (out ++ (scanS f (b.drop i)).1, ((i + (scanS f (b.drop i)).2 : Nat) : Int)) := by
  intro f
  induction f with
  | zero => intro i out hi hf _; omega
  | succ f ih =>
    intro i out hi hf ho
    obtain ⟨K, hK⟩ := Next_ev (b.drop i) (hb.drop_ i) (by rw [List.length_drop]; omega)
    dsimp only at hK
    by_cases c : (nextS (b.drop i)).2.2 = 0 ∧ (nextS (b.drop i)).2.1 ≠ 0
    · rcases next_size (b.drop i) with h0 | ⟨m, hm, h8, hml, _, _⟩
      · exact absurd h0 c.2
      rw [List.length_drop] at hml
      have hs : scanS (f + 1) (b.drop i) = ((nextS (b.drop i)).1 :: (scanS f (b.drop (i + m))).1, m + (scanS f (b.drop (i + m))).2) := by
        simp only [scanS]
        rw [if_pos c, hm, Int.toNat_natCast, List.drop_drop]
      obtain ⟨K2, k2⟩ := ih (i + m) (out ++ [(nextS (b.drop i)).1]) (by omega) (by omega) (by rw [List.length_append, List.length_singleton]; omega)
      dsimp only at k2
      generalize nextS (b.drop i) = N at hK c hm hs k2 ⊢
      refine ⟨K + K2 + 1, fun k hk => ?_⟩
      obtain ⟨k, rfl⟩ : ∃ m, k = m + 1 := ⟨k - 1, by omega⟩
      show frame_Scan.l0 (k + 1) b out (i : Int) = _
      rw [frame_Scan.l0]
      rw [if_pos (by omega), if_pos (by omega), Int.toNat_natCast, hK k (by omega), Option.bind_some, if_pos c.1, if_neg c.2, if_pos (by omega), hm, show wrap64 ((i : Int) + (m : Int)) = ((i + m : Nat) : Int) from by unfold wrap64; omega, k2 k (by omega), hs]
      simp [Nat.add_assoc]
    · have hs : scanS (f + 1) (b.drop i) = ([], 0) := by
        simp only [scanS]
        rw [if_neg c]
      generalize nextS (b.drop i) = N at hK c hs ⊢
      refine ⟨K + 1, fun k hk => ?_⟩
      obtain ⟨k, rfl⟩ : ∃ m, k = m + 1 := ⟨k - 1, by omega⟩
      show frame_Scan.l0 (k + 1) b out (i : Int) = _
      rw [frame_Scan.l0]
      rw [if_pos (by omega), if_pos (by omega), Int.toNat_natCast, hK k (by omega), hs, Option.bind_some]
      by_cases c2 : N.2.2 = 0
      · have c3 : N.2.1 = 0 := by
          rcases Int.decEq N.2.1 0 with h | h
          · exact absurd ⟨c2, h⟩ c
          · exact h
        rw [if_pos c2, if_pos c3, List.append_nil, Nat.add_zero]
      · rw [if_neg c2, List.append_nil, Nat.add_zero]
theorem Scan_ev (b : List Int) (hb : Bytes b) (hl : b.length < 5000000) : Ev (fun k => frame_Scan.f k b) ((scanS (b.length + 1) b).1, (((scanS (b.length + 1) b).2 : Nat) : Int)) := by
  have := Scan_l0 b hb hl (b.length + 1) 0 [] (by omega) (by omega) (by simp)
  rw [List.drop_zero, List.nil_append, Nat.zero_add] at this
  exact this
theorem scan_size (f : Nat) : ∀ b : List Int, (scanS f b).2 ≤ b.length ∧ ((scanS f b).1).length * 8 ≤ (scanS f b).2 ∧ ∀ p ∈ (scanS f b).1, p.length ≤ b.length := by
  induction f with
  | zero => intro b; simp [scanS]
  | succ f ih =>
    intro b
    simp only [scanS]
    by_cases c : (nextS b).2.2 = 0 ∧ (nextS b).2.1 ≠ 0
    · rw [if_pos c]
      rcases next_size b with h0 | ⟨m, hm, h8, hml, hp, _⟩
      · exact absurd h0 c.2
      obtain ⟨i1, i2, i3⟩ := ih (b.drop m)
      rw [List.length_drop] at i1
      rw [hm, Int.toNat_natCast]
      refine ⟨by simp only; omega, by simp only [List.length_cons]; omega, fun p hp' => ?_⟩
      rcases List.mem_cons.1 hp' with rfl | h
      · rw [hp, List.length_drop, List.length_take]; omega
      · have := i3 p h
        rw [List.length_drop] at this
        omega
    · rw [if_neg c]
      simp
/-- the frames of payloads, one behind the other -/
def frs (l : List (List Int)) : List Int := (l.map fr).flatten
theorem frs_cons (p : List Int) (l : List (List Int)) : frs (p :: l) = fr p ++ frs l := by unfold frs; rw [List.map_cons, List.flatten_cons]
theorem frs_bytes {l : List (List Int)} (h : ∀ p ∈ l, Bytes p) : Bytes (frs l) := by
  intro x hx
  unfold frs at hx
  obtain ⟨q, hq, hxq⟩ := List.mem_flatten.1 hx
  obtain ⟨p, hp, rfl⟩ := List.mem_map.1 hq
  exact fr_bytes (h p hp) x hxq
/-- where each ends -/
def endsF : Nat → List (List Int) → List Int
  | _, [] => []
  | s, p :: r => ((s + (p.length + 8) : Nat) : Int) :: endsF (s + (p.length + 8)) r
theorem pack_step (l : List (List Int)) (i : Nat) (out ends : List Int) (p : List Int) (hi : i < l.length) (hp : l.getD i [] = p) (hl : l.length ≤ 100) (hpl : p.length < 140737488355328) (hpb : Bytes p) (c : p.length ≤ 32768) (ho : out.length ≤ 140000) (he : ends.length ≤ 100) :
    ∃ K, ∀ k, K ≤ k → rilllaw07_pack.l0 (k + 1) l out ends (i : Int) = if 100000 < out.length then some ([], [], false) else rilllaw07_pack.l0 k l (out ++ fr p) (ends ++ [((out.length + (p.length + 8) : Nat) : Int)]) ((i + 1 : Nat) : Int) := by
  obtain ⟨K, hK⟩ := Pack_ev p hpb c
  dsimp only at hK
  have h1 : (i : Int) < (l.length : Int) := by omega
  have h2 : (0 : Int) ≤ (i : Int) := by omega
  have h3 : out.length + (fr p).length < 140737488355328 := by rw [fr_length]; omega
  have h4 : ends.length < 17592186044416 := by omega
  have h6 : (out ++ fr p).length = out.length + (p.length + 8) := by rw [List.length_append, fr_length]
  refine ⟨K, fun k hk => ?_⟩
  rw [rilllaw07_pack.l0, if_pos h1, if_pos h2, rd_row, hp, Copy_ok p hpl, Option.bind_some, hK k hk, Option.bind_some, if_pos rfl]
  by_cases c2 : 100000 < out.length
  · rw [if_pos c2, if_pos (by omega)]
  · rw [if_neg c2, if_neg (by omega), if_pos h3, Option.bind_some, if_pos h4, h6, wrap_up (by omega)]
theorem pack_long (l : List (List Int)) (i : Nat) (out ends : List Int) (p : List Int) (hi : i < l.length) (hp : l.getD i [] = p) (hpl : p.length < 140737488355328) (c : 32768 < p.length) (k : Nat) :
    rilllaw07_pack.l0 (k + 1) l out ends (i : Int) = some ([], [], false) := by
  have h1 : (i : Int) < (l.length : Int) := by omega
  have h2 : (0 : Int) ≤ (i : Int) := by omega
  rw [rilllaw07_pack.l0, if_pos h1, if_pos h2, rd_row, hp, Copy_ok p hpl, Option.bind_some, Pack_long p c, Option.bind_some, if_neg (by decide)]
theorem pack_l0 (l : List (List Int)) (hb : ∀ p ∈ l, Bytes p) (hs : ∀ p ∈ l, p.length < 140737488355328) (hl : l.length ≤ 100) : ∀ (d i : Nat) (out ends : List Int), i + d = l.length → out.length ≤ 140000 → ends.length ≤ i →
    Ev (fun k => rilllaw07_pack.l0 k l out ends (i : Int)) ([], [], false) ∨
    ((∀ p ∈ l.drop i, p.length ≤ 32768) ∧ (out ++ frs (l.drop i)).length ≤ 140000 ∧ Ev (fun k => rilllaw07_pack.l0 k l out ends (i : Int)) (out ++ frs (l.drop i), ends ++ endsF out.length (l.drop i), true)) := by
  intro d
  induction d with
  | zero =>
    intro i out ends hi ho he
    right
    rw [List.drop_eq_nil_of_le (by omega)]
    refine ⟨fun p hp => by simp at hp, by simpa [frs] using ho, 1, fun k hk => ?_⟩
    obtain ⟨k, rfl⟩ : ∃ m, k = m + 1 := ⟨k - 1, by omega⟩
    show rilllaw07_pack.l0 (k + 1) l out ends (i : Int) = _
    rw [rilllaw07_pack.l0, if_neg (by omega)]
    simp [frs, endsF]
  | succ d ih =>
    intro i out ends hi ho he
    have hil : i < l.length := by omega
    have e : l.getD i [] = l[i] := by rw [List.getD_eq_getElem?_getD, List.getElem?_eq_getElem hil]; rfl
    have hm : l[i] ∈ l := List.getElem_mem hil
    have hdr' : l.drop i = l[i] :: l.drop (i + 1) := List.drop_eq_getElem_cons hil
    generalize l[i] = p at e hm hdr'
    by_cases c : p.length ≤ 32768
    · obtain ⟨K, hK⟩ := pack_step l i out ends p hil e hl (hs p hm) (hb p hm) c ho (by omega)
      by_cases c2 : 100000 < out.length
      · left
        refine ⟨K + 1, fun k hk => ?_⟩
        obtain ⟨k, rfl⟩ : ∃ m, k = m + 1 := ⟨k - 1, by omega⟩
        have := hK k (by omega)
        rw [if_pos c2] at this
        exact this
      · have step : ∀ k, K ≤ k → rilllaw07_pack.l0 (k + 1) l out ends (i : Int) = rilllaw07_pack.l0 k l (out ++ fr p) (ends ++ [((out.length + (p.length + 8) : Nat) : Int)]) ((i + 1 : Nat) : Int) := by
          intro k hk
          rw [hK k hk, if_neg c2]
        have ho2 : (out ++ fr p).length = out.length + (p.length + 8) := by rw [List.length_append, fr_length]
        have go : ∀ r, Ev (fun k => rilllaw07_pack.l0 k l (out ++ fr p) (ends ++ [((out.length + (p.length + 8) : Nat) : Int)]) ((i + 1 : Nat) : Int)) r → Ev (fun k => rilllaw07_pack.l0 k l out ends (i : Int)) r := by
          rintro r ⟨K2, k2⟩
          refine ⟨K + K2 + 1, fun k hk => ?_⟩
          obtain ⟨k, rfl⟩ : ∃ m, k = m + 1 := ⟨k - 1, by omega⟩
          show rilllaw07_pack.l0 (k + 1) l out ends (i : Int) = _
          rw [step k (by omega)]
          exact k2 k (by omega)
        rcases ih (i + 1) (out ++ fr p) (ends ++ [((out.length + (p.length + 8) : Nat) : Int)]) (by omega) (by rw [ho2]; omega) (by rw [List.length_append, List.length_singleton]; omega) with h | ⟨h1, h2, h3⟩
        · exact .inl (go _ h)
        · right
          rw [hdr', frs_cons, ← List.append_assoc]
          refine ⟨fun q hq => ?_, h2, ?_⟩
          · rcases List.mem_cons.1 hq with rfl | hq
            · exact c
            · exact h1 q hq
          · have := go _ h3
            rw [ho2] at this
            simpa [endsF] using this
    · left
      refine ⟨1, fun k hk => ?_⟩
      obtain ⟨k, rfl⟩ : ∃ m, k = m + 1 := ⟨k - 1, by omega⟩
      exact pack_long l i out ends p hil e (hs p hm) (by omega) k
theorem pack_ev (l : List (List Int)) (hb : ∀ p ∈ l, Bytes p) (hs : ∀ p ∈ l, p.length < 140737488355328) :
    Ev (fun k => rilllaw07_pack.f k l) ([], [], false) ∨
    (l.length ≤ 100 ∧ (∀ p ∈ l, p.length ≤ 32768) ∧ (frs l).length ≤ 140000 ∧ Ev (fun k => rilllaw07_pack.f k l) (frs l, endsF 0 l, true)) := by
  by_cases c : 100 < l.length
  · left
    refine ⟨0, fun k _ => ?_⟩
    show rilllaw07_pack.f k l = _
    unfold rilllaw07_pack.f
    rw [if_pos (by omega)]
  · have u : ∀ k, rilllaw07_pack.f k l = rilllaw07_pack.l0 k l [] [] ((0 : Nat) : Int) := by
      intro k
      unfold rilllaw07_pack.f
      rw [if_neg (by omega)]
      rfl
    rcases pack_l0 l hb hs (by omega) l.length 0 [] [] (by omega) (by simp) (by simp) with h | ⟨h1, h2, h3⟩
    · left
      simpa only [u] using h
    · right
      rw [List.drop_zero, List.nil_append] at h2
      rw [List.drop_zero] at h1
      rw [List.drop_zero, List.nil_append, List.nil_append, List.length_nil] at h3
      exact ⟨by omega, h1, h2, by simpa only [u] using h3⟩
theorem scan_fuel : ∀ (f g : Nat) (b : List Int), b.length < f → b.length < g → scanS f b = scanS g b := by
  intro f
  induction f with
  | zero => intro g b h; omega
  | succ f ih =>
    intro g b h1 h2
    obtain ⟨g, rfl⟩ : ∃ m, g = m + 1 := ⟨g - 1, by omega⟩
    simp only [scanS]
    by_cases c : (nextS b).2.2 = 0 ∧ (nextS b).2.1 ≠ 0
    · rw [if_pos c, if_pos c]
      rcases next_size b with h0 | ⟨m, hm, h8, hml, _, _⟩
      · exact absurd h0 c.2
      rw [hm, Int.toNat_natCast, ih g (b.drop m) (by rw [List.length_drop]; omega) (by rw [List.length_drop]; omega)]
    · rw [if_neg c, if_neg c]
theorem scan_frs (m : List Int) : ∀ (l : List (List Int)) (f : Nat), (∀ p ∈ l, p.length ≤ 32768) → (frs l ++ m).length < f → scanS f (frs l ++ m) = (l ++ (scanS (m.length + 1) m).1, (frs l).length + (scanS (m.length + 1) m).2) := by
  intro l
  induction l with
  | nil =>
    intro f _ h
    have e : frs [] ++ m = m := rfl
    rw [e] at h ⊢
    rw [scan_fuel f (m.length + 1) m h (by omega)]
    simp [frs]
  | cons p l ih =>
    intro f hp h
    rw [frs_cons, List.append_assoc] at h ⊢
    obtain ⟨f, rfl⟩ : ∃ m, f = m + 1 := ⟨f - 1, by omega⟩
    have hpl := hp p List.mem_cons_self
    have hn := next_fr p (frs l ++ m) hpl
    rw [List.length_append, fr_length] at h
    have hd : (fr p ++ (frs l ++ m)).drop (p.length + 8) = frs l ++ m := by
      rw [show p.length + 8 = (fr p).length from (fr_length p).symm, List.drop_left]
    generalize scanS (m.length + 1) m = Z at ih ⊢
    simp only [scanS]
    rw [hn]
    rw [if_pos ⟨rfl, by show ((p.length + 8 : Nat) : Int) ≠ 0; omega⟩, Int.toNat_natCast, hd, ih f (fun q hq => hp q (List.mem_cons_of_mem _ hq)) (by omega)]
    rw [List.length_append, fr_length]
    simp only [List.cons_append, Prod.mk.injEq, true_and]
    omega
theorem SameRows_l0 (a b : List (List Int)) (n : Nat) (he : a.length = b.length) (hl : a.length ≤ 9223372036854775806) (hn : ∀ p ∈ a, p.length ≤ n) (hn2 : n ≤ 9223372036854775806) : ∀ (d i k : Nat), i + d = a.length → d + n + 1 < k → (∀ j, j < i → a.getD j [] = b.getD j []) →
    rillref00_SameRows.l0 k a b (i : Int) = some (decide (a = b)) := by
  intro d
  induction d with
  | zero =>
    intro i k hi hk hs
    obtain ⟨k, rfl⟩ : ∃ m, k = m + 1 := ⟨k - 1, by omega⟩
    simp only [rillref00_SameRows.l0]
    rw [if_neg (by omega), decide_eq_true]
    refine List.ext_getElem he fun j h1 h2 => ?_
    have e := hs j (by omega)
    rw [List.getD_eq_getElem?_getD, List.getElem?_eq_getElem h1, List.getD_eq_getElem?_getD, List.getElem?_eq_getElem h2] at e
    simpa using e
  | succ d ih =>
    intro i k hi hk hs
    obtain ⟨k, rfl⟩ : ∃ m, k = m + 1 := ⟨k - 1, by omega⟩
    have hil : i < a.length := by omega
    have hgi : a.getD i [] = a[i] := by rw [List.getD_eq_getElem?_getD, List.getElem?_eq_getElem hil]; rfl
    have hni := hn _ (List.getElem_mem hil)
    simp only [rillref00_SameRows.l0]
    rw [if_pos (by omega), if_pos (by omega), if_pos (by omega), rd_row, rd_row, Same_ok _ _ (by rw [hgi]; omega) k (by rw [hgi]; omega), wrap_up (by omega)]
    simp only [Option.bind_some, decide_eq_true_eq]
    by_cases c : a.getD i [] = b.getD i []
    · rw [if_pos c]
      refine ih (i + 1) k (by omega) (by omega) fun j hj => ?_
      by_cases e : j = i
      · subst e; exact c
      · exact hs j (by omega)
    · rw [if_neg c, decide_eq_false (fun e => c (by rw [e]))]
theorem SameRows_ok (a b : List (List Int)) (n : Nat) (hl : a.length ≤ 9223372036854775806) (hn : ∀ p ∈ a, p.length ≤ n) (hn2 : n ≤ 9223372036854775806) (k : Nat) (hk : a.length + n + 1 < k) : rillref00_SameRows.f k a b = some (decide (a = b)) := by
  unfold rillref00_SameRows.f
  by_cases h : a.length = b.length
  · rw [if_pos (by omega)]
    exact SameRows_l0 a b n h hl hn hn2 a.length 0 k (by omega) hk (fun j hj => by omega)
  · rw [if_neg (by omega), decide_eq_false (fun e => h (by rw [e]))]
theorem next_part (p : List Int) (hl : p.length ≤ 32768) (j : Nat) (hj : j < (fr p).length) : nextS ((fr p).take j) = ([], 0, 0) := by
  have hfl := fr_length p
  have hlen : ((fr p).take j).length = j := by rw [List.length_take]; omega
  by_cases c0 : j = 0
  · unfold nextS
    rw [hlen, if_pos c0]
  have hf : fr p = hdr p.length ++ (p ++ tl (crc (hdr p.length ++ p))) := by unfold fr; rw [List.append_assoc]
  have h0 : ((fr p).take j).getD 0 0 = 90 := by
    rw [List.getD_eq_getElem?_getD, List.getElem?_take, if_pos (by omega), hf]
    rfl
  by_cases c4 : j < 4
  · unfold nextS
    rw [hlen, if_neg c0, if_neg (by rw [h0]; simp), if_pos c4]
  have hh : hn ((fr p).take j) = p.length := by
    have e : ∀ i, i < 4 → ((fr p).take j).getD i 0 = (fr p).getD i 0 := fun i hi => by
      rw [List.getD_eq_getElem?_getD, List.getElem?_take, if_pos (by omega), List.getD_eq_getElem?_getD]
    have h2 : hn ((fr p).take j) = hn (fr p) := by unfold hn; rw [e 1 (by omega), e 2 (by omega), e 3 (by omega)]
    rw [h2, hf]
    exact hn_hdr p.length hl _
  unfold nextS
  rw [hlen, if_neg c0, if_neg (by rw [h0]; simp), if_neg c4, hh, if_neg (by omega), if_pos (by omega)]
theorem next_nil : nextS [] = ([], 0, 0) := rfl
open rilllaw07_FrameCut in
theorem cnt_cons (x : Int) (en : List Int) (a : Int) : ∀ n, cntS (x :: en) a (n + 1) = (if x ≤ a then 1 else 0) + cntS en a n := by
  intro n
  induction n with
  | zero => simp [cntS]
  | succ n ih =>
    rw [cntS, ih]
    simp only [cntS, List.getD_cons_succ]
    omega
open rilllaw07_FrameCut in
theorem cnt_none (en : List Int) (a : Int) (h : ∀ e ∈ en, a < e) : ∀ n, n ≤ en.length → cntS en a n = 0 := by
  intro n
  induction n with
  | zero => intro _; rfl
  | succ n ih =>
    intro hn
    have e : en.getD n 0 = en[n] := by rw [List.getD_eq_getElem?_getD, List.getElem?_eq_getElem (by omega)]; rfl
    have := h _ (List.getElem_mem (show n < en.length by omega))
    rw [cntS, ih (by omega), e, if_neg (by omega)]
theorem ends_length : ∀ (l : List (List Int)) (s : Nat), (endsF s l).length = l.length
  | [], _ => rfl
  | p :: r, s => by simp only [endsF, List.length_cons]; rw [ends_length r]
theorem ends_ge : ∀ (l : List (List Int)) (s : Nat), ∀ e ∈ endsF s l, (s : Int) + 8 ≤ e
  | [], _, e, h => by simp [endsF] at h
  | p :: r, s, e, h => by
    simp only [endsF] at h
    rcases List.mem_cons.1 h with rfl | h
    · omega
    · have := ends_ge r _ e h
      omega
open rilllaw07_FrameCut in
theorem cut_list : ∀ (l : List (List Int)) (m : Nat), (∀ p ∈ l, p.length ≤ 32768) → m ≤ (frs l).length →
    ∃ (w : Nat) (rest : List Int), w ≤ l.length ∧ (frs l).take m = frs (l.take w) ++ rest ∧ nextS rest = ([], 0, 0) ∧
      ∀ s : Nat, cntS (endsF s l) ((s + m : Nat) : Int) l.length = w ∧ (0 < w → (endsF s l).getD (w - 1) 0 = ((s + (frs (l.take w)).length : Nat) : Int)) := by
  intro l
  induction l with
  | nil =>
    intro m _ hm
    have : m = 0 := by simpa [frs] using hm
    subst this
    exact ⟨0, [], Nat.le_refl _, rfl, next_nil, fun s => ⟨rfl, fun h => absurd h (Nat.lt_irrefl 0)⟩⟩
  | cons p l ih =>
    intro m hp hm
    have hfl := fr_length p
    have hpl := hp p List.mem_cons_self
    rw [frs_cons] at hm ⊢
    rw [List.length_append] at hm
    by_cases c : m < (fr p).length
    · refine ⟨0, (fr p).take m, Nat.zero_le _, ?_, next_part p hpl m c, fun s => ⟨?_, fun h => absurd h (Nat.lt_irrefl 0)⟩⟩
      · rw [List.take_append_of_le_length (by omega)]
        rfl
      · refine cnt_none _ _ (fun e he => ?_) _ (by rw [ends_length]; exact Nat.le_refl _)
        simp only [endsF] at he
        rcases List.mem_cons.1 he with rfl | he
        · omega
        · have := ends_ge l _ e he
          omega
    · obtain ⟨m', rfl⟩ : ∃ m', m = (fr p).length + m' := ⟨m - (fr p).length, by omega⟩
      obtain ⟨w, rest, h1, h2, h3, h4⟩ := ih m' (fun q hq => hp q (List.mem_cons_of_mem _ hq)) (by omega)
      refine ⟨w + 1, rest, by rw [List.length_cons]; omega, ?_, h3, fun s => ?_⟩
      · rw [List.take_length_add_append, h2, List.take_succ_cons, frs_cons, List.append_assoc]
      · obtain ⟨g1, g2⟩ := h4 (s + (p.length + 8))
        have es : s + ((fr p).length + m') = s + (p.length + 8) + m' := by omega
        refine ⟨?_, fun _ => ?_⟩
        · rw [List.length_cons, es]
          simp only [endsF]
          rw [cnt_cons, g1, if_pos (by omega)]
          omega
        · rw [List.take_succ_cons, frs_cons, List.length_append, hfl]
          simp only [endsF]
          by_cases cw : w = 0
          · subst cw
            simp [frs]
          · have := g2 (by omega)
            rw [show w + 1 - 1 = (w - 1) + 1 from by omega, List.getD_cons_succ, this]
            congr 1
            omega
theorem FrameCut : rilllaw07_FrameCut.Pure := by
  intro l a _ hl24 hw wa
  have hb : ∀ p ∈ l, Bytes p := fun p hp => bytes_wf (hw p hp).2.2
  have hs : ∀ p ∈ l, p.length < 140737488355328 := fun p hp => by have := (hw p hp).2.1; omega
  rcases pack_ev l hb hs with ⟨K, hK⟩ | ⟨hl, h32, hfl, K, hK⟩
  · exact ⟨K, [], [], .inl (hK K (Nat.le_refl _))⟩
  dsimp only at hK
  by_cases c : a < 0 ∨ a > ((frs l).length : Int)
  · exact ⟨K, _, _, .inr (.inl ⟨hK K (Nat.le_refl _), c⟩)⟩
  obtain ⟨m, rfl⟩ : ∃ m : Nat, a = (m : Int) := ⟨a.toNat, by omega⟩
  have hm : m ≤ (frs l).length := by omega
  obtain ⟨w, rest, h1, h2, h3, h4⟩ := cut_list l m h32 hm
  obtain ⟨g1, g2⟩ := h4 0
  have hlen : (frs (l.take w) ++ rest).length = m := by rw [← h2, List.length_take]; omega
  have hrB : Bytes rest := by
    have h5 : Bytes ((frs l).take m) := (frs_bytes hb).take_ m
    rw [h2] at h5
    exact fun x hx => h5 x (List.mem_append_right _ hx)
  rw [List.length_append] at hlen
  obtain ⟨K1, k1⟩ := Scan_ev ((frs l).take m) ((frs_bytes hb).take_ m) (by rw [List.length_take]; omega)
  obtain ⟨K2, k2⟩ := Next_ev rest hrB (by omega)
  dsimp only at k1 k2
  have hsr : scanS (rest.length + 1) rest = ([], 0) := by
    simp only [scanS]
    rw [h3, if_neg (by simp)]
  rw [h2] at k1
  rw [scan_frs rest (l.take w) _ (fun p hp => h32 p (List.mem_of_mem_take hp)) (by rw [List.length_append]; omega), hsr, List.append_nil, Nat.add_zero] at k1
  have hd : ((frs l).take m).drop (frs (l.take w)).length = rest := by rw [h2, List.drop_left]
  obtain ⟨M, hM⟩ : ∃ M : Nat, 900000 ≤ M := ⟨900000, Nat.le_refl _⟩
  have hwl : (endsF 0 l).length = l.length := ends_length l 0
  refine ⟨K + K1 + K2 + M, frs l, endsF 0 l, .inr (.inr ⟨m, w, (frs (l.take w)).length, [], l.take w, rfl, hK _ (by omega), hm, ?_, ?_, h1, ?_, by omega, ?_, ?_⟩)⟩
  · rw [h2]
    exact k1 _ (by omega)
  · rw [hwl]
    rw [Nat.zero_add] at g1
    exact g1.symm
  · rw [SameRows_ok _ _ 32768 (by rw [List.length_take]; omega) (fun p hp => h32 p (List.mem_of_mem_take hp)) (by omega) _ (by rw [List.length_take]; omega), decide_eq_true rfl]
  · rw [hd]
    have := k2 (K + K1 + K2 + M) (by omega)
    rw [h3] at this
    exact this
  · by_cases cw : w = 0
    · right
      subst cw
      exact ⟨rfl, rfl⟩
    · left
      refine ⟨by omega, by omega, by omega, ?_⟩
      have hw1 : wrap64 ((w : Int) - 1) = ((w - 1 : Nat) : Int) := by unfold wrap64; omega
      rw [hw1, rd_cast, g2 (by omega), Nat.zero_add]

end Go.Proofs.Ytddabfokgecnoaa.Pure
