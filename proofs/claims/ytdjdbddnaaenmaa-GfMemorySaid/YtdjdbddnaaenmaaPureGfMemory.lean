/- Lists of bytes: what is answered stands by itself. -/
import Derived.Test.YtdjdbddnaaenmaaMGfMemoryx3
import Derived.Test.YtdjdbddnaaenmaaMGfMemoryx2
import Derived.Test.YtdjdbddnaaenmaaMGfMemoryx1
import Derived.Test.YtdjdbddnaaenmaaGfMath
import Derived.Laws.BitsAllLaws
import Derived.OpenShut
namespace Go.Proofs.Ytdjdbddnaaenmaa.Pure
open Go.RowKit Go.Proofs.Ytdjdbddnaaenmaa.MGfMemory Go.Proofs.YtdjdbddnaaenmaaW.PrintWords Go.Proofs.YtdjdbddnaaenmaaW.PrintLast
open Go.Proofs.Ytdjdbddnaaenmaa

/-- numbers of a byte -/
def Byte (x : Int) : Prop := 0 ≤ x ∧ x < 256
theorem byte_wf {x : Int} (h : (Lit.int .u8 x).wf = true) : Byte x := by
  have := bounds_u8 h
  exact ⟨this.1, by omega⟩
theorem byte_nat {n : Nat} (h : n < 256) : Byte (n : Int) := ⟨by omega, by omega⟩
theorem xor_byte {a b : Int} (ha : Byte a) (hb : Byte b) : Go.bits .xor .u8 a b = ((a.toNat ^^^ b.toNat : Nat) : Int) := u8_xor a b ha.1 ha.2 hb.1 hb.2
def gm (a b : Int) : Int := ((GF.mul a.toNat b.toNat : Nat) : Int)
def gd (a : Int) : Int := ((GF.dbl a.toNat : Nat) : Int)
theorem gd_byte (a : Int) : Byte (gd a) := byte_nat (GF.dbl_lt _)
theorem gm_byte {a b : Int} (ha : Byte a) : Byte (gm a b) := byte_nat (GF.mul_lt (by have := ha.1; have := ha.2; omega))
theorem double_all : ∀ a : Nat, a < 256 → gf_double.f (a : Int) = some ((GF.dbl a : Nat) : Int) := by decide +kernel
theorem double_ok {a : Int} (ha : Byte a) : gf_double.f a = some (gd a) := by
  obtain ⟨h1, h2⟩ := ha
  obtain ⟨n, rfl⟩ := Int.eq_ofNat_of_zero_le h1
  rw [double_all n (by omega)]
  simp [gd]
theorem bit_all : ∀ b : Nat, b < 256 → ∀ i : Nat, i < 8 → Go.bits .and .u8 (shr .u8 (b : Int) (i : Int)) 1 = if b.testBit i then 1 else 0 := by decide +kernel
theorem mul_round (k a b o i : Nat) (ha : a < 256) (hb : b < 256) (ho : o < 256) (hi : i < 8) :
    gf_Mul.l0 (k + 1) (a : Int) (b : Int) (o : Int) (i : Int) = gf_Mul.l0 k ((GF.dbl a : Nat) : Int) (b : Int) ((o ^^^ GF.pick b i a : Nat) : Int) ((i + 1 : Nat) : Int) := by
  have hw : wrap64 ((i : Int) + 1) = ((i + 1 : Nat) : Int) := by unfold wrap64; omega
  simp only [gf_Mul.l0]
  rw [if_pos (by omega), if_pos (by omega), bit_all b hb i hi, double_all a ha, hw]
  unfold GF.pick
  by_cases h : b.testBit i = true
  · rw [if_pos h, if_pos h, if_neg (by decide), xor_byte (byte_nat ho) (byte_nat ha)]
    simp
  · rw [if_neg h, if_neg h, if_pos rfl]
    simp
theorem Mul_nat (k a b : Nat) (ha : a < 256) (hb : b < 256) (hk : 9 ≤ k) : gf_Mul.f k (a : Int) (b : Int) = some ((GF.mul a b : Nat) : Int) := by
  obtain ⟨k, rfl⟩ : ∃ m, k = m + 9 := ⟨k - 9, by omega⟩
  have p : ∀ i x, x < 256 → GF.pick b i x < 256 := fun i x h => GF.pick_lt h
  have d := GF.dbl_lt
  show gf_Mul.l0 (k + 9) (a : Int) (b : Int) ((0 : Nat) : Int) ((0 : Nat) : Int) = _
  rw [mul_round _ _ _ _ _ ha hb (by decide) (by decide)]
  rw [mul_round _ _ _ _ _ (d _) hb (GF.xor_lt (by decide) (p _ _ ha)) (by decide)]
  rw [mul_round _ _ _ _ _ (d _) hb (GF.xor_lt (GF.xor_lt (by decide) (p _ _ ha)) (p _ _ (d _))) (by decide)]
  rw [mul_round _ _ _ _ _ (d _) hb (GF.xor_lt (GF.xor_lt (GF.xor_lt (by decide) (p _ _ ha)) (p _ _ (d _))) (p _ _ (d _))) (by decide)]
  rw [mul_round _ _ _ _ _ (d _) hb (GF.xor_lt (GF.xor_lt (GF.xor_lt (GF.xor_lt (by decide) (p _ _ ha)) (p _ _ (d _))) (p _ _ (d _))) (p _ _ (d _))) (by decide)]
  rw [mul_round _ _ _ _ _ (d _) hb (GF.xor_lt (GF.xor_lt (GF.xor_lt (GF.xor_lt (GF.xor_lt (by decide) (p _ _ ha)) (p _ _ (d _))) (p _ _ (d _))) (p _ _ (d _))) (p _ _ (d _))) (by decide)]
  rw [mul_round _ _ _ _ _ (d _) hb (GF.xor_lt (GF.xor_lt (GF.xor_lt (GF.xor_lt (GF.xor_lt (GF.xor_lt (by decide) (p _ _ ha)) (p _ _ (d _))) (p _ _ (d _))) (p _ _ (d _))) (p _ _ (d _))) (p _ _ (d _))) (by decide)]
  rw [mul_round _ _ _ _ _ (d _) hb (GF.xor_lt (GF.xor_lt (GF.xor_lt (GF.xor_lt (GF.xor_lt (GF.xor_lt (GF.xor_lt (by decide) (p _ _ ha)) (p _ _ (d _))) (p _ _ (d _))) (p _ _ (d _))) (p _ _ (d _))) (p _ _ (d _))) (p _ _ (d _))) (by decide)]
  simp only [gf_Mul.l0]
  rw [if_neg (by omega)]
  unfold GF.mul
  simp only [Nat.zero_xor, Nat.xor_assoc]
theorem Mul_ok {a b : Int} (ha : Byte a) (hb : Byte b) (k : Nat) (hk : 9 ≤ k) : gf_Mul.f k a b = some (gm a b) := by
  obtain ⟨h1, h2⟩ := ha
  obtain ⟨h3, h4⟩ := hb
  obtain ⟨n, rfl⟩ := Int.eq_ofNat_of_zero_le h1
  obtain ⟨m, rfl⟩ := Int.eq_ofNat_of_zero_le h3
  rw [Mul_nat k n m (by omega) (by omega) hk]
  simp [gm]
theorem nat_byte {a : Int} (h : Byte a) : a.toNat < 256 := by
  have := h.1
  have := h.2
  omega
theorem gm_comm {a b : Int} (ha : Byte a) (hb : Byte b) : gm a b = gm b a := by unfold gm; rw [GF.mul_comm (nat_byte ha) (nat_byte hb)]
theorem gm_assoc {a b : Int} (ha : Byte a) (hb : Byte b) (c : Int) : gm (gm a b) c = gm a (gm b c) := by
  unfold gm
  rw [Int.toNat_natCast, Int.toNat_natCast, GF.mul_assoc (nat_byte ha) (nat_byte hb)]
theorem gm_one {a : Int} (ha : Byte a) : gm a 1 = a := by
  unfold gm
  have := ha.1
  rw [show (1 : Int).toNat = 1 from rfl, GF.mul_one]
  omega
theorem one_gm {a : Int} (ha : Byte a) : gm 1 a = a := by
  rw [gm_comm (by exact ⟨by decide, by decide⟩) ha, gm_one ha]
theorem gm_xor {a b c : Int} (hb : Byte b) (hc : Byte c) : gm a (Go.bits .xor .u8 b c) = ((GF.mul a.toNat b.toNat ^^^ GF.mul a.toNat c.toNat : Nat) : Int) := by
  unfold gm
  rw [xor_byte hb hc, Int.toNat_natCast, GF.mul_xor_right]
/-- powers as the program reckons them -/
def gp : Nat → Int → Nat → Int → Int
  | 0, _, _, o => o
  | k + 1, a, n, o => if n = 0 then o else gp k (gm a a) (n / 2) (if n % 2 = 1 then gm o a else o)
theorem and_one (n : Nat) (h : n < 9223372036854775808) : Go.bits .and .i64 (n : Int) 1 = ((n % 2 : Nat) : Int) := by
  have := (bits_nat .i64 63 (by decide) (fun m h0 h1 => by rw [IntKind.wrap_i64]; omega) n 1 (by omega) (by decide)).1
  rw [show ((1 : Nat) : Int) = 1 from rfl] at this
  rw [this, Nat.and_one_is_mod]
theorem power_l0 : ∀ (j k n : Nat) (a o : Int), Byte a → Byte o → n < 2 ^ j → j ≤ 62 → j + 10 ≤ k → gf_power.l0 k a (n : Int) o = some (gp j a n o) := by
  intro j
  induction j with
  | zero =>
    intro k n a o ha ho hn hj hk
    obtain ⟨k, rfl⟩ : ∃ m, k = m + 1 := ⟨k - 1, by omega⟩
    simp only [gf_power.l0]
    rw [if_neg (by omega)]
    rfl
  | succ j ih =>
    intro k n a o ha ho hn hj hk
    obtain ⟨k, rfl⟩ : ∃ m, k = m + 1 := ⟨k - 1, by omega⟩
    have hb : n < 9223372036854775808 := Nat.lt_of_lt_of_le hn (Nat.le_trans (Nat.pow_le_pow_right (by decide) (show j + 1 ≤ 63 by omega)) (by decide))
    simp only [gf_power.l0, gp]
    by_cases h0 : n = 0
    · rw [if_neg (by omega), if_pos h0]
    · rw [if_pos (by omega), if_neg h0, and_one n hb, Mul_ok ha ha k (by omega)]
      have e : (n : Int) / 2 = ((n / 2 : Nat) : Int) := by omega
      have hn2 : n / 2 < 2 ^ j := by rw [Nat.pow_succ] at hn; omega
      by_cases h1 : n % 2 = 1
      · rw [if_neg (by omega), if_pos h1, Mul_ok ho ha k (by omega)]
        simp only [Option.bind_some]
        rw [e]
        exact ih k (n / 2) _ _ (gm_byte ha) (gm_byte ho) hn2 (by omega) (by omega)
      · rw [if_pos (by omega), if_neg h1]
        simp only [Option.bind_some]
        rw [e]
        exact ih k (n / 2) _ _ (gm_byte ha) ho hn2 (by omega) (by omega)
def gi (a : Int) : Int := ((GF.inv a.toNat : Nat) : Int)
theorem gi_byte (a : Int) : Byte (gi a) := byte_nat (GF.inv_lt _)
theorem power_inv : ∀ a : Nat, a < 256 → 0 < a → gp 8 (a : Int) 254 1 = ((GF.inv a : Nat) : Int) := by decide +kernel
theorem power_254 {a : Int} (ha : Byte a) (h : a ≠ 0) (k : Nat) (hk : 20 ≤ k) : gf_power.f k a 254 = some (gi a) := by
  unfold gf_power.f
  obtain ⟨h1, h2⟩ := ha
  obtain ⟨n, rfl⟩ := Int.eq_ofNat_of_zero_le h1
  have := power_l0 8 k 254 (n : Int) 1 ⟨h1, h2⟩ ⟨by decide, by decide⟩ (by decide) (by decide) (by omega)
  rw [show ((254 : Nat) : Int) = 254 from rfl] at this
  rw [this, power_inv n (by omega) (by omega)]
  simp [gi]
theorem Inv_zero (k : Nat) : gf_Inv.f k 0 = some (0, 10) := by unfold gf_Inv.f; rw [if_pos rfl]
theorem Inv_ok {a : Int} (ha : Byte a) (h : a ≠ 0) (k : Nat) (hk : 20 ≤ k) : gf_Inv.f k a = some (gi a, 0) := by
  unfold gf_Inv.f
  rw [if_neg h, power_254 ha h k hk]
  rfl
theorem gm_gi {a : Int} (ha : Byte a) (h : a ≠ 0) : gm a (gi a) = 1 := by
  unfold gm gi
  rw [Int.toNat_natCast, GF.mul_inv (nat_byte ha) (by have := ha.1; omega)]
  rfl
theorem alive_40 : rilllaw01_alive.f 40 = some true := by decide +kernel
theorem alive_ok (k : Nat) (hk : 40 ≤ k) : rilllaw01_alive.f k = some true := at_rounds rilllaw01_alive.mono hk alive_40
/-- the sum of two bytes -/
def xi (x y : Int) : Int := ((x.toNat ^^^ y.toNat : Nat) : Int)
def Bytes (xs : List Int) : Prop := ∀ x ∈ xs, Byte x
theorem xi_byte {a b : Int} (ha : Byte a) (hb : Byte b) : Byte (xi a b) := byte_nat (GF.xor_lt (nat_byte ha) (nat_byte hb))
theorem zero_byte : Byte 0 := ⟨by decide, by decide⟩
theorem one_byte : Byte 1 := ⟨by decide, by decide⟩
theorem xi_zero {a : Int} (ha : Byte a) : xi a 0 = a := by unfold xi; rw [show (0 : Int).toNat = 0 from rfl, Nat.xor_zero]; have := ha.1; omega
theorem zero_xi {a : Int} (ha : Byte a) : xi 0 a = a := by unfold xi; rw [show (0 : Int).toNat = 0 from rfl, Nat.zero_xor]; have := ha.1; omega
theorem xi_xi {a b : Int} (ha : Byte a) : xi (xi a b) b = a := by unfold xi; rw [Int.toNat_natCast, Nat.xor_assoc, Nat.xor_self, Nat.xor_zero]; have := ha.1; omega
theorem gm_zero (a : Int) : gm a 0 = 0 := by unfold gm; rw [show (0 : Int).toNat = 0 from rfl, GF.mul_zero]; rfl
theorem zero_gm (a : Int) : gm 0 a = 0 := by unfold gm; rw [show (0 : Int).toNat = 0 from rfl, GF.zero_mul]; rfl
theorem gm_xi (a b c : Int) : gm a (xi b c) = xi (gm a b) (gm a c) := by
  unfold gm xi
  rw [Int.toNat_natCast, Int.toNat_natCast, Int.toNat_natCast, GF.mul_xor_right]
theorem Bytes.at_ {xs : List Int} (h : Bytes xs) (j : Nat) : Byte (xs.getD j 0) := by
  rw [List.getD_eq_getElem?_getD]
  by_cases hj : j < xs.length
  · rw [List.getElem?_eq_getElem hj]; exact h _ (List.getElem_mem hj)
  · rw [List.getElem?_eq_none (by omega)]; exact zero_byte
theorem rd_cast (xs : List Int) (j : Nat) : rd xs (j : Int) = xs.getD j 0 := by unfold rd; rw [Int.toNat_natCast]
theorem rd_row (xs : List (List Int)) (j : Nat) : rd_L1 xs (j : Int) = xs.getD j [] := by unfold rd_L1; rw [Int.toNat_natCast]
/-- the list of n elements that a function tells -/
def tab (n : Nat) (f : Nat → Int) : List Int := (List.range n).map f
theorem tab_length (n : Nat) (f : Nat → Int) : (tab n f).length = n := by simp [tab]
theorem tab_getD (n : Nat) (f : Nat → Int) (j : Nat) : (tab n f).getD j 0 = if j < n then f j else 0 := by
  unfold tab
  rw [List.getD_eq_getElem?_getD, List.getElem?_map]
  by_cases h : j < n
  · rw [List.getElem?_range h, if_pos h]; rfl
  · rw [List.getElem?_eq_none (by simpa using h), if_neg h]; rfl
theorem eq_tab {xs : List Int} {n : Nat} {f : Nat → Int} (h : xs.length = n) (hf : ∀ j, j < n → xs.getD j 0 = f j) : xs = tab n f := by
  refine List.ext_getElem (by rw [h, tab_length]) fun j h1 h2 => ?_
  have e1 := hf j (by omega)
  have e2 := tab_getD n f j
  rw [if_pos (by omega)] at e2
  rw [List.getD_eq_getElem?_getD, List.getElem?_eq_getElem h1] at e1
  rw [List.getD_eq_getElem?_getD, List.getElem?_eq_getElem h2] at e2
  simp only [Option.getD_some] at e1 e2
  rw [e1, e2]
theorem tab_congr {n m : Nat} {f g : Nat → Int} (h : n = m) (hf : ∀ j, j < n → f j = g j) : tab n f = tab m g := by
  subst h
  refine eq_tab (tab_length _ _) fun j hj => ?_
  rw [tab_getD, if_pos hj, hf j hj]
theorem tab_bytes {n : Nat} {f : Nat → Int} (h : ∀ j, j < n → Byte (f j)) : Bytes (tab n f) := by
  intro x hx
  obtain ⟨j, hj, rfl⟩ := List.mem_map.1 hx
  exact h j (List.mem_range.1 hj)
theorem getD_set (xs : List Int) (i j : Nat) (v : Int) : (xs.set i v).getD j 0 = if i = j ∧ i < xs.length then v else xs.getD j 0 := by
  rw [List.getD_eq_getElem?_getD, List.getElem?_set, List.getD_eq_getElem?_getD]
  by_cases h : i = j
  · subst h
    by_cases h2 : i < xs.length
    · simp [h2]
    · simp [h2]
  · simp [h]
theorem getD_set_ne (xs : List Int) (i j : Nat) (v : Int) (h : i ≠ j) : (xs.set i v).getD j 0 = xs.getD j 0 := by rw [getD_set, if_neg (fun e => h e.1)]
theorem set_bytes {xs : List Int} (h : Bytes xs) (i : Nat) {v : Int} (hv : Byte v) : Bytes (xs.set i v) := by
  intro x hx
  rcases List.mem_or_eq_of_mem_set hx with h1 | rfl
  · exact h x h1
  · exact hv
theorem getD_oob (xs : List Int) (j : Nat) (h : xs.length ≤ j) : xs.getD j 0 = 0 := by
  rw [List.getD_eq_getElem?_getD, List.getElem?_eq_none h]; rfl
theorem into_l0 (a : List Int) (ha : Bytes a) (hl : a.length ≤ 281474976710656) : ∀ (d i k : Nat) (out : List Int), Bytes out → a.length ≤ out.length → i + d = a.length → d < k →
    ∃ r, gf_into.l0 k out a (a.length : Int) (i : Int) = some r ∧ r.length = out.length ∧ Bytes r ∧ ∀ j, r.getD j 0 = if i ≤ j then xi (out.getD j 0) (a.getD j 0) else out.getD j 0 := by
  intro d
  induction d with
  | zero =>
    intro i k out ho hal hi hk
    obtain ⟨k, rfl⟩ : ∃ m, k = m + 1 := ⟨k - 1, by omega⟩
    simp only [gf_into.l0]
    rw [if_neg (by omega)]
    refine ⟨out, rfl, rfl, ho, fun j => ?_⟩
    split
    · rw [getD_oob a j (by omega), xi_zero (ho.at_ j)]
    · rfl
  | succ d ih =>
    intro i k out ho hal hi hk
    obtain ⟨k, rfl⟩ : ∃ m, k = m + 1 := ⟨k - 1, by omega⟩
    have hw : wrap64 ((i : Int) + 1) = ((i + 1 : Nat) : Int) := by unfold wrap64; omega
    have e : Go.bits .xor .u8 (rd out (i : Int)) (rd a (i : Int)) = xi (out.getD i 0) (a.getD i 0) := by rw [rd_cast, rd_cast, xor_byte (ho.at_ i) (ha.at_ i)]; rfl
    simp only [gf_into.l0]
    rw [if_pos (by omega), if_pos (by omega), if_pos (by omega), if_pos (by omega), e, hw, Int.toNat_natCast]
    obtain ⟨r, h1, h2, h3, h4⟩ := ih (i + 1) k (out.set i (xi (out.getD i 0) (a.getD i 0))) (set_bytes ho i (xi_byte (ho.at_ i) (ha.at_ i))) (by rw [List.length_set]; omega) (by omega) (by omega)
    refine ⟨r, h1, by rw [h2, List.length_set], h3, fun j => ?_⟩
    rw [h4 j]
    by_cases c : i = j
    · subst c
      rw [if_neg (by omega), getD_set, if_pos ⟨rfl, by omega⟩, if_pos (by omega)]
    · rw [getD_set_ne _ _ _ _ c]
      by_cases c2 : i ≤ j
      · rw [if_pos (by omega), if_pos c2]
      · rw [if_neg (by omega), if_neg c2]
theorem into_l1 (q : Int) (hq : Byte q) (a : List Int) (ha : Bytes a) (hl : a.length ≤ 281474976710656) : ∀ (d i k : Nat) (out : List Int), Bytes out → a.length ≤ out.length → i + d = a.length → d + 9 < k →
    ∃ r, gf_into.l1 k out q a (a.length : Int) (i : Int) = some r ∧ r.length = out.length ∧ Bytes r ∧ ∀ j, r.getD j 0 = if i ≤ j then xi (out.getD j 0) (gm q (a.getD j 0)) else out.getD j 0 := by
  intro d
  induction d with
  | zero =>
    intro i k out ho hal hi hk
    obtain ⟨k, rfl⟩ : ∃ m, k = m + 1 := ⟨k - 1, by omega⟩
    simp only [gf_into.l1]
    rw [if_neg (by omega)]
    refine ⟨out, rfl, rfl, ho, fun j => ?_⟩
    split
    · rw [getD_oob a j (by omega), gm_zero, xi_zero (ho.at_ j)]
    · rfl
  | succ d ih =>
    intro i k out ho hal hi hk
    obtain ⟨k, rfl⟩ : ∃ m, k = m + 1 := ⟨k - 1, by omega⟩
    have hw : wrap64 ((i : Int) + 1) = ((i + 1 : Nat) : Int) := by unfold wrap64; omega
    have e : Go.bits .xor .u8 (rd out (i : Int)) (gm q (a.getD i 0)) = xi (out.getD i 0) (gm q (a.getD i 0)) := by rw [rd_cast, xor_byte (ho.at_ i) (gm_byte hq)]; rfl
    simp only [gf_into.l1]
    rw [if_pos (by omega), if_pos (by omega), if_pos (by omega), if_pos (by omega), rd_cast a i, Mul_ok hq (ha.at_ i) k (by omega)]
    simp only [Option.bind_some]
    rw [e, hw, Int.toNat_natCast]
    obtain ⟨r, h1, h2, h3, h4⟩ := ih (i + 1) k (out.set i (xi (out.getD i 0) (gm q (a.getD i 0)))) (set_bytes ho i (xi_byte (ho.at_ i) (gm_byte hq))) (by rw [List.length_set]; omega) (by omega) (by omega)
    refine ⟨r, h1, by rw [h2, List.length_set], h3, fun j => ?_⟩
    rw [h4 j]
    by_cases c : i = j
    · subst c
      rw [if_neg (by omega), getD_set, if_pos ⟨rfl, by omega⟩, if_pos (by omega)]
    · rw [getD_set_ne _ _ _ _ c]
      by_cases c2 : i ≤ j
      · rw [if_pos (by omega), if_pos c2]
      · rw [if_neg (by omega), if_neg c2]
theorem into_ok (q : Int) (hq : Byte q) (a out : List Int) (ha : Bytes a) (ho : Bytes out) (hl : a.length ≤ 281474976710656) (hal : a.length ≤ out.length) (k : Nat) (hk : a.length + 10 < k) :
    ∃ r, gf_into.f k out q a = some r ∧ r.length = out.length ∧ Bytes r ∧ ∀ j, r.getD j 0 = xi (out.getD j 0) (gm q (a.getD j 0)) := by
  unfold gf_into.f
  by_cases h0 : q = 0
  · subst h0
    rw [if_pos rfl]
    exact ⟨out, rfl, rfl, ho, fun j => by rw [zero_gm, xi_zero (ho.at_ j)]⟩
  rw [if_neg h0]
  by_cases h1 : q = 1
  · subst h1
    rw [if_pos rfl]
    obtain ⟨r, e1, e2, e3, e4⟩ := into_l0 a ha hl a.length 0 k out ho hal (by omega) (by omega)
    exact ⟨r, e1, e2, e3, fun j => by rw [e4 j, if_pos (Nat.zero_le _), one_gm (ha.at_ j)]⟩
  · rw [if_neg h1]
    obtain ⟨r, e1, e2, e3, e4⟩ := into_l1 q hq a ha hl a.length 0 k out ho hal (by omega) (by omega)
    exact ⟨r, e1, e2, e3, fun j => by rw [e4 j, if_pos (Nat.zero_le _)]⟩
/-- the greatest length of the first t lists -/
def maxl (vs : List (List Int)) : Nat → Nat
  | 0 => 0
  | t + 1 => max (maxl vs t) (vs.getD t []).length
/-- the sum of the first t lists, each scaled, at a place -/
def comb (ks : List Int) (vs : List (List Int)) (j : Nat) : Nat → Int
  | 0 => 0
  | t + 1 => if t < ks.length then xi (comb ks vs j t) (gm (ks.getD t 0) ((vs.getD t []).getD j 0)) else comb ks vs j t
theorem maxl_le (vs : List (List Int)) {t s : Nat} (h : t < s) : (vs.getD t []).length ≤ maxl vs s := by
  induction s with
  | zero => omega
  | succ s ih =>
    simp only [maxl]
    by_cases e : t = s
    · subst e; omega
    · have := ih (by omega); omega
theorem maxl_bound (vs : List (List Int)) (b : Nat) (h : ∀ v ∈ vs, v.length ≤ b) (t : Nat) : maxl vs t ≤ b := by
  induction t with
  | zero => exact Nat.zero_le _
  | succ t ih =>
    simp only [maxl]
    have : (vs.getD t []).length ≤ b := by
      rw [List.getD_eq_getElem?_getD]
      by_cases hj : t < vs.length
      · rw [List.getElem?_eq_getElem hj]; exact h _ (List.getElem_mem hj)
      · rw [List.getElem?_eq_none (by omega)]; exact Nat.zero_le _
    omega
theorem rows_at {vs : List (List Int)} (h : ∀ v ∈ vs, Bytes v) (t : Nat) : Bytes (vs.getD t []) := by
  rw [List.getD_eq_getElem?_getD]
  by_cases hj : t < vs.length
  · rw [List.getElem?_eq_getElem hj]; exact h _ (List.getElem_mem hj)
  · rw [List.getElem?_eq_none (by omega)]; intro x hx; simp at hx
theorem comb_byte {ks : List Int} (hks : Bytes ks) (vs : List (List Int)) (j t : Nat) : Byte (comb ks vs j t) := by
  induction t with
  | zero => exact zero_byte
  | succ t ih =>
    simp only [comb]
    split
    · exact xi_byte ih (gm_byte (hks.at_ t))
    · exact ih
theorem comb_oob (ks : List Int) (vs : List (List Int)) (t j : Nat) (h : maxl vs t ≤ j) : comb ks vs j t = 0 := by
  induction t with
  | zero => rfl
  | succ t ih =>
    simp only [maxl] at h
    simp only [comb]
    rw [ih (by omega), getD_oob _ j (by omega), gm_zero]
    split <;> rfl
theorem Mix_l1 (ks : List Int) (vs : List (List Int)) (hks : Bytes ks) (hvs : ∀ v ∈ vs, Bytes v) (hb : ∀ v ∈ vs, v.length ≤ 281474976710656) (hn : vs.length ≤ 9223372036854775806) (n : Nat) (hm : n = maxl vs vs.length) :
    ∀ (d t k : Nat), t + d = vs.length → d + n + 11 < k → gf_Mix.l1 k ks (tab n fun j => comb ks vs j t) vs (vs.length : Int) (t : Int) = some (tab n fun j => comb ks vs j vs.length) := by
  intro d
  induction d with
  | zero =>
    intro t k ht hk
    obtain ⟨k, rfl⟩ : ∃ m, k = m + 1 := ⟨k - 1, by omega⟩
    obtain rfl : t = vs.length := by omega
    simp only [gf_Mix.l1]
    rw [if_neg (by omega)]
  | succ d ih =>
    intro t k ht hk
    obtain ⟨k, rfl⟩ : ∃ m, k = m + 1 := ⟨k - 1, by omega⟩
    have hw : wrap64 ((t : Int) + 1) = ((t + 1 : Nat) : Int) := by unfold wrap64; omega
    simp only [gf_Mix.l1]
    rw [if_pos (by omega), if_pos (by omega), if_pos (by omega), hw]
    by_cases c : t < ks.length
    · rw [if_pos (by omega), rd_cast, rd_row]
      have hle := maxl_le vs (t := t) (s := vs.length) (by omega)
      have hbt : (vs.getD t []).length ≤ 281474976710656 := Nat.le_trans hle (maxl_bound vs _ hb _)
      obtain ⟨r, e1, e2, e3, e4⟩ := into_ok (ks.getD t 0) (hks.at_ t) (vs.getD t []) (tab n fun j => comb ks vs j t) (rows_at hvs t) (tab_bytes fun j _ => comb_byte hks vs j t) hbt (by rw [tab_length]; omega) k (by omega)
      rw [e1]
      simp only [Option.bind_some]
      have er : r = tab n fun j => comb ks vs j (t + 1) := by
        refine eq_tab (by rw [e2, tab_length]) fun j hj => ?_
        rw [e4 j, tab_getD, if_pos hj]
        simp only [comb]
        rw [if_pos c]
      rw [er]
      exact ih (t + 1) k (by omega) (by omega)
    · rw [if_neg (by omega)]
      have er : (tab n fun j => comb ks vs j t) = tab n fun j => comb ks vs j (t + 1) := tab_congr rfl fun j _ => by
        simp only [comb]
        rw [if_neg c]
      rw [er]
      exact ih (t + 1) k (by omega) (by omega)
theorem mx_nat (a b : Nat) : mx (a : Int) (b : Int) = ((max a b : Nat) : Int) := by unfold mx; split <;> omega
theorem Mix_l0 (ks : List Int) (vs : List (List Int)) (hks : Bytes ks) (hvs : ∀ v ∈ vs, Bytes v) (hb : ∀ v ∈ vs, v.length ≤ 281474976710656) (hn : vs.length ≤ 9223372036854775806) :
    ∀ (d t k : Nat), t + d = vs.length → d + vs.length + maxl vs vs.length + 12 < k → gf_Mix.l0 k ks vs ((maxl vs t : Nat) : Int) vs (vs.length : Int) (t : Int) = some (tab (maxl vs vs.length) fun j => comb ks vs j vs.length) := by
  intro d
  induction d with
  | zero =>
    intro t k ht hk
    obtain ⟨k, rfl⟩ : ∃ m, k = m + 1 := ⟨k - 1, by omega⟩
    obtain rfl : t = vs.length := by omega
    simp only [gf_Mix.l0]
    have hmb := maxl_bound vs _ hb vs.length
    rw [if_neg (by omega), if_pos (by omega), Int.toNat_natCast, if_pos hmb]
    have er : List.replicate (maxl vs vs.length) (0 : Int) = tab (maxl vs vs.length) fun j => comb ks vs j 0 := by
      refine eq_tab (by simp) fun j hj => ?_
      rw [List.getD_eq_getElem?_getD, List.getElem?_replicate, if_pos hj]
      rfl
    rw [er]
    exact Mix_l1 ks vs hks hvs hb hn _ rfl vs.length 0 k (by omega) (by omega)
  | succ d ih =>
    intro t k ht hk
    obtain ⟨k, rfl⟩ : ∃ m, k = m + 1 := ⟨k - 1, by omega⟩
    have hw : wrap64 ((t : Int) + 1) = ((t + 1 : Nat) : Int) := by unfold wrap64; omega
    simp only [gf_Mix.l0]
    rw [if_pos (by omega), if_pos (by omega), if_pos (by omega), hw, rd_row, mx_nat]
    exact ih (t + 1) k (by omega) (by omega)
theorem Mix_ok (ks : List Int) (vs : List (List Int)) (hks : Bytes ks) (hvs : ∀ v ∈ vs, Bytes v) (hb : ∀ v ∈ vs, v.length ≤ 281474976710656) (hn : vs.length ≤ 9223372036854775806) (k : Nat) (hk : 2 * vs.length + maxl vs vs.length + 12 < k) :
    gf_Mix.f k ks vs = some (tab (maxl vs vs.length) fun j => comb ks vs j vs.length) := by
  unfold gf_Mix.f
  exact Mix_l0 ks vs hks hvs hb hn vs.length 0 k (by omega) (by omega)
theorem Same_l0 (a b : List Int) (he : a.length = b.length) (hl : a.length ≤ 9223372036854775806) : ∀ (d i k : Nat), i + d = a.length → d < k → (∀ j, j < i → a.getD j 0 = b.getD j 0) →
    rillref00_SameBytes.l0 k a b (i : Int) = some (decide (a = b)) := by
  intro d
  induction d with
  | zero =>
    intro i k hi hk hsame
    obtain ⟨k, rfl⟩ : ∃ m, k = m + 1 := ⟨k - 1, by omega⟩
    simp only [rillref00_SameBytes.l0]
    rw [if_neg (by omega)]
    have : a = b := (eq_tab (f := fun j => a.getD j 0) rfl fun j _ => rfl).trans (eq_tab (xs := b) he.symm fun j hj => (hsame j (by omega)).symm).symm
    rw [decide_eq_true this]
  | succ d ih =>
    intro i k hi hk hsame
    obtain ⟨k, rfl⟩ : ∃ m, k = m + 1 := ⟨k - 1, by omega⟩
    have hw : wrap64 ((i : Int) + 1) = ((i + 1 : Nat) : Int) := by unfold wrap64; omega
    simp only [rillref00_SameBytes.l0]
    rw [if_pos (by omega), if_pos (by omega), if_pos (by omega), rd_cast, rd_cast, hw]
    by_cases c : a.getD i 0 = b.getD i 0
    · rw [if_pos c]
      refine ih (i + 1) k (by omega) (by omega) fun j hj => ?_
      by_cases e : j = i
      · subst e; exact c
      · exact hsame j (by omega)
    · rw [if_neg c]
      have : a ≠ b := fun h => c (by rw [h])
      rw [decide_eq_false this]
theorem Same_ok (a b : List Int) (hl : a.length ≤ 9223372036854775806) (k : Nat) (hk : a.length < k) : rillref00_SameBytes.f k a b = some (decide (a = b)) := by
  unfold rillref00_SameBytes.f
  by_cases h : a.length = b.length
  · rw [if_pos (by omega)]
    exact Same_l0 a b h hl a.length 0 k (by omega) hk (fun j hj => by omega)
  · rw [if_neg (by omega), decide_eq_false (fun e => h (by rw [e]))]
theorem Copy_ok (a : List Int) (h : a.length < 140737488355328) : rillref00_CopyBytes.f a = some a := by
  unfold rillref00_CopyBytes.f
  simp only [Option.bind_some, List.length_nil, Nat.zero_add, List.nil_append]
  rw [if_pos h]
theorem Add_ok (a b : List Int) (ha : Bytes a) (hb : Bytes b) (la : a.length ≤ 281474976710656) (lb : b.length ≤ 281474976710656) (k : Nat) (hk : max a.length b.length + 20 < k) :
    gf_Add.f k a b = some (tab (max a.length b.length) fun j => xi (a.getD j 0) (b.getD j 0)) := by
  unfold gf_Add.f
  have hm : maxl [a, b] [a, b].length = max a.length b.length := by simp [maxl]
  rw [Mix_ok [1, 1] [a, b] (by intro x hx; simp at hx; subst hx; exact one_byte) (by intro v hv; simp at hv; rcases hv with rfl | rfl <;> assumption) (by intro v hv; simp at hv; rcases hv with rfl | rfl <;> assumption) (by simp) k (by rw [hm]; simp; omega), hm]
  simp only [Option.bind_some]
  congr 1
  refine tab_congr rfl fun j _ => ?_
  show xi (xi 0 (gm 1 (a.getD j 0))) (gm 1 (b.getD j 0)) = _
  rw [one_gm (ha.at_ j), one_gm (hb.at_ j), zero_xi (ha.at_ j)]
theorem Scale_ok (q : Int) (a : List Int) (hq : Byte q) (ha : Bytes a) (la : a.length ≤ 281474976710656) (k : Nat) (hk : a.length + 20 < k) :
    gf_Scale.f k q a = some (tab a.length fun j => gm q (a.getD j 0)) := by
  unfold gf_Scale.f
  have hm : maxl [a] [a].length = a.length := by simp [maxl]
  rw [Mix_ok [q] [a] (by intro x hx; simp at hx; subst hx; exact hq) (by intro v hv; simp at hv; subst hv; exact ha) (by intro v hv; simp at hv; subst hv; exact la) (by simp) k (by rw [hm]; simp; omega), hm]
  simp only [Option.bind_some]
  congr 1
  refine tab_congr rfl fun j _ => ?_
  show xi 0 (gm q (a.getD j 0)) = _
  rw [zero_xi (gm_byte hq)]
theorem bytes_wf {l : List Int} (h : ∀ x ∈ l, (Lit.int .u8 x).wf = true) : Bytes l := fun x hx => byte_wf (h x hx)
/-- long multiplication, and its remainder, on natural numbers -/
def lm : Nat → Nat → Nat → Nat
  | 0, _, _ => 0
  | i + 1, a, b => lm i a b ^^^ GF.pick b i (a * 2 ^ i)
def rm : Nat → Nat → Nat
  | 0, x => x
  | i + 1, x => rm i (x ^^^ GF.pick x (i + 8) (285 * 2 ^ i))
theorem rm_xor (i : Nat) : ∀ x y, rm i (x ^^^ y) = rm i x ^^^ rm i y := by
  induction i with
  | zero => intro x y; rfl
  | succ i ih =>
    intro x y
    simp only [rm]
    rw [← ih, GF.pick_xor_left]
    congr 1
    ac_rfl
theorem rm_zero (i : Nat) : rm i 0 = 0 := by
  induction i with
  | zero => rfl
  | succ i ih => simp only [rm, GF.zero_pick, Nat.zero_xor]; exact ih
theorem rm_pick (i b j x : Nat) : rm i (GF.pick b j x) = GF.pick b j (rm i x) := by unfold GF.pick; split <;> simp [rm_zero]
theorem rm_dbl : ∀ a, a < 256 → rm 7 a = a ∧ rm 7 (a * 2) = GF.dbl a ∧ rm 7 (a * 4) = GF.dbl (GF.dbl a) ∧ rm 7 (a * 8) = GF.dbl (GF.dbl (GF.dbl a)) ∧ rm 7 (a * 16) = GF.dbl (GF.dbl (GF.dbl (GF.dbl a))) ∧
    rm 7 (a * 32) = GF.dbl (GF.dbl (GF.dbl (GF.dbl (GF.dbl a)))) ∧ rm 7 (a * 64) = GF.dbl (GF.dbl (GF.dbl (GF.dbl (GF.dbl (GF.dbl a))))) ∧ rm 7 (a * 128) = GF.dbl (GF.dbl (GF.dbl (GF.dbl (GF.dbl (GF.dbl (GF.dbl a)))))) := by decide +kernel
theorem lm_rm (a b : Nat) (ha : a < 256) : rm 7 (lm 8 a b) = GF.mul a b := by
  obtain ⟨h0, h1, h2, h3, h4, h5, h6, h7⟩ := rm_dbl a ha
  simp only [lm]
  simp only [Nat.pow_zero, Nat.mul_one, show (2 : Nat) ^ 1 = 2 from rfl, show (2 : Nat) ^ 2 = 4 from rfl, show (2 : Nat) ^ 3 = 8 from rfl, show (2 : Nat) ^ 4 = 16 from rfl, show (2 : Nat) ^ 5 = 32 from rfl, show (2 : Nat) ^ 6 = 64 from rfl, show (2 : Nat) ^ 7 = 128 from rfl]
  simp only [rm_xor, rm_pick, h0, h1, h2, h3, h4, h5, h6, h7, Nat.zero_xor]
  unfold GF.mul
  simp only [Nat.xor_assoc]
theorem lm_lt (a b : Nat) (ha : a < 256) : ∀ i, i ≤ 8 → lm i a b < 32768 := by
  intro i hi
  have h : ∀ j, j < 8 → GF.pick b j (a * 2 ^ j) < 2 ^ 15 := by
    intro j hj
    have : a * 2 ^ j < 2 ^ 15 := by
      have h1 : a * 2 ^ j < 256 * 2 ^ j := Nat.mul_lt_mul_of_pos_right ha (Nat.pow_pos (by decide))
      have h2 : 2 ^ j ≤ 2 ^ 7 := Nat.pow_le_pow_right (by decide) (by omega)
      omega
    unfold GF.pick
    split <;> omega
  induction i with
  | zero => show (0 : Nat) < 32768; decide
  | succ i ih => exact Nat.xor_lt_two_pow (n := 15) (ih (by omega)) (h i (by omega))
theorem i64_bits_nat (a b : Nat) (ha : a < 32768) (hb : b < 32768) : Go.bits .xor .i64 (a : Int) (b : Int) = ((a ^^^ b : Nat) : Int) := by
  have hx : a ^^^ b < 2 ^ 15 := Nat.xor_lt_two_pow ha hb
  show IntKind.i64.wrap ((BitVec.ofInt 64 (a : Int) ^^^ BitVec.ofInt 64 (b : Int)).toNat : Int) = _
  rw [BitVec.toNat_xor, ofInt_u64 a (by omega), ofInt_u64 b (by omega), IntKind.wrap_i64]
  omega
theorem refbit (x i : Nat) (hx : x < 32768) (hi : i < 64) : Go.bits .and .i64 (shr .i64 (x : Int) (i : Int)) 1 = if x.testBit i then 1 else 0 := by
  have e : shr .i64 (x : Int) (i : Int) = ((x / 2 ^ i : Nat) : Int) := by
    unfold shr
    rw [show min (i : Int).toNat IntKind.i64.bits = i from by show min _ 64 = i; omega]
    simp
  have hl : x / 2 ^ i ≤ x := Nat.div_le_self _ _
  rw [e, and_one _ (by omega)]
  rw [Nat.testBit_eq_decide_div_mod_eq]
  by_cases h : x / 2 ^ i % 2 = 1
  · rw [if_pos (by simp [h]), h]; rfl
  · rw [if_neg (by simp [h]), show x / 2 ^ i % 2 = 0 from by omega]; rfl
theorem ref_round (k a b i : Nat) (ha : a < 256) (hb : b < 256) (hi : i < 8) :
    rillref01_Mul.l0 (k + 1) (a : Int) (b : Int) ((lm i a b : Nat) : Int) (i : Int) = rillref01_Mul.l0 k (a : Int) (b : Int) ((lm (i + 1) a b : Nat) : Int) ((i + 1 : Nat) : Int) := by
  have hw : wrap64 ((i : Int) + 1) = ((i + 1 : Nat) : Int) := by unfold wrap64; omega
  have hu : IntKind.u64.wrap (i : Int) = (i : Int) := by rw [IntKind.wrap_u64]; omega
  simp only [rillref01_Mul.l0]
  rw [if_pos (by omega), hu, if_pos (by omega), bit_all b hb i hi, hw]
  simp only [lm]
  unfold GF.pick
  by_cases h : b.testBit i = true
  · rw [if_pos h, if_pos h, if_pos rfl]
    have hp : a * 2 ^ i < 32768 := by
      have h1 : a * 2 ^ i < 256 * 2 ^ i := Nat.mul_lt_mul_of_pos_right ha (Nat.pow_pos (by decide))
      have h2 : 2 ^ i ≤ 2 ^ 7 := Nat.pow_le_pow_right (by decide) (by omega)
      omega
    have e : shl .i64 (wrap64 (a : Int)) (i : Int) = ((a * 2 ^ i : Nat) : Int) := by
      unfold shl
      rw [show min (i : Int).toNat IntKind.i64.bits = i from by show min _ 64 = i; omega, show wrap64 (a : Int) = (a : Int) from by unfold wrap64; omega]
      rw [show (a : Int) * 2 ^ i = ((a * 2 ^ i : Nat) : Int) from by simp, IntKind.wrap_i64]
      omega
    rw [e, i64_bits_nat _ _ (lm_lt a b ha i (by omega)) hp]
  · rw [if_neg h, if_neg h, if_neg (by decide)]
    simp
theorem ref_l1 : ∀ (j k x : Nat), j ≤ 7 → x < 2 ^ (j + 8) → j < k → rillref01_Mul.l1 k (x : Int) ((j + 7 : Nat) : Int) = some ((rm j x : Nat) : Int) := by
  intro j
  induction j with
  | zero =>
    intro k x hj hx hk
    obtain ⟨k, rfl⟩ : ∃ m, k = m + 1 := ⟨k - 1, by omega⟩
    simp only [rillref01_Mul.l1]
    rw [if_neg (by omega)]
    have : (x : Int) % 256 = (x : Int) := by omega
    rw [this]
    rfl
  | succ j ih =>
    intro k x hj hx hk
    obtain ⟨k, rfl⟩ : ∃ m, k = m + 1 := ⟨k - 1, by omega⟩
    have hx15 : x < 32768 := Nat.lt_of_lt_of_le hx (show 2 ^ (j + 1 + 8) ≤ 2 ^ 15 from Nat.pow_le_pow_right (by decide) (by omega))
    have hu : IntKind.u64.wrap ((j + 1 + 7 : Nat) : Int) = ((j + 1 + 7 : Nat) : Int) := by rw [IntKind.wrap_u64]; omega
    have hw : wrap64 (((j + 1 + 7 : Nat) : Int) - 1) = ((j + 7 : Nat) : Int) := by unfold wrap64; omega
    have hw8 : wrap64 (((j + 1 + 7 : Nat) : Int) - 8) = (j : Int) := by unfold wrap64; omega
    have hu8 : IntKind.u64.wrap (j : Int) = (j : Int) := by rw [IntKind.wrap_u64]; omega
    simp only [rillref01_Mul.l1, rm]
    rw [if_pos (by omega), hu, if_pos (by omega), refbit x (j + 1 + 7) hx15 (by omega), hw, hw8, hu8]
    have eb : j + 1 + 7 = j + 8 := by omega
    rw [eb]
    unfold GF.pick
    have hp : 285 * 2 ^ j < 32768 * 2 := by
      have h2 : 2 ^ j ≤ 2 ^ 6 := Nat.pow_le_pow_right (by decide) (by omega)
      omega
    have hp' : 285 * 2 ^ j < 32768 := by
      have h2 : 2 ^ j ≤ 2 ^ 6 := Nat.pow_le_pow_right (by decide) (by omega)
      omega
    have hp9 : 285 * 2 ^ j < 2 ^ (j + 9) := by
      have h9 : 2 ^ (j + 9) = 2 ^ j * 512 := by rw [Nat.pow_add]
      have := Nat.pow_pos (n := j) (show 0 < 2 by decide)
      omega
    by_cases h : x.testBit (j + 8) = true
    · rw [if_pos h, if_pos h, if_pos rfl, if_pos (by omega)]
      have e : shl .i64 285 (j : Int) = ((285 * 2 ^ j : Nat) : Int) := by
        unfold shl
        rw [show min (j : Int).toNat IntKind.i64.bits = j from by show min _ 64 = j; omega]
        rw [show (285 : Int) * 2 ^ j = ((285 * 2 ^ j : Nat) : Int) from by simp, IntKind.wrap_i64]
        omega
      rw [e, i64_bits_nat _ _ hx15 hp']
      refine ih k _ (by omega) ?_ (by omega)
      refine Nat.lt_pow_two_of_testBit _ fun i hi => ?_
      rw [Nat.testBit_xor]
      by_cases e8 : i = j + 8
      · subst e8
        rw [h]
        have : (285 * 2 ^ j).testBit (j + 8) = true := by
          rw [← Nat.shiftLeft_eq, Nat.testBit_shiftLeft, show j + 8 - j = 8 from by omega]
          simp only [ge_iff_le, Nat.le_add_right, decide_true, Bool.true_and]
          decide
        rw [this]
        rfl
      · have h1 : x.testBit i = false := Nat.testBit_lt_two_pow (Nat.lt_of_lt_of_le hx (Nat.pow_le_pow_right (by decide) (by omega)))
        have h2 : (285 * 2 ^ j).testBit i = false := Nat.testBit_lt_two_pow (Nat.lt_of_lt_of_le hp9 (Nat.pow_le_pow_right (by decide) (by omega)))
        rw [h1, h2]
        rfl
    · rw [if_neg h, if_neg h, if_neg (by decide)]
      rw [Nat.xor_zero]
      refine ih k _ (by omega) ?_ (by omega)
      refine Nat.lt_pow_two_of_testBit _ fun i hi => ?_
      by_cases e8 : i = j + 8
      · subst e8; simpa using h
      · exact Nat.testBit_lt_two_pow (Nat.lt_of_lt_of_le hx (Nat.pow_le_pow_right (by decide) (by omega)))
theorem RefMul_nat (k a b : Nat) (ha : a < 256) (hb : b < 256) (hk : 20 ≤ k) : rillref01_Mul.f k (a : Int) (b : Int) = some ((GF.mul a b : Nat) : Int) := by
  obtain ⟨k, rfl⟩ : ∃ m, k = m + 9 := ⟨k - 9, by omega⟩
  show rillref01_Mul.l0 (k + 9) (a : Int) (b : Int) ((lm 0 a b : Nat) : Int) ((0 : Nat) : Int) = _
  rw [ref_round _ _ _ _ ha hb (by decide), ref_round _ _ _ _ ha hb (by decide), ref_round _ _ _ _ ha hb (by decide), ref_round _ _ _ _ ha hb (by decide),
    ref_round _ _ _ _ ha hb (by decide), ref_round _ _ _ _ ha hb (by decide), ref_round _ _ _ _ ha hb (by decide), ref_round _ _ _ _ ha hb (by decide)]
  simp only [rillref01_Mul.l0]
  rw [if_neg (by omega)]
  have := ref_l1 7 k (lm 8 a b) (by decide) (lm_lt a b ha 8 (by decide)) (by omega)
  rw [show ((7 + 7 : Nat) : Int) = 14 from rfl, lm_rm a b ha] at this
  exact this
theorem RefMul_ok {a b : Int} (ha : Byte a) (hb : Byte b) (k : Nat) (hk : 20 ≤ k) : rillref01_Mul.f k a b = some (gm a b) := by
  obtain ⟨h1, h2⟩ := ha
  obtain ⟨h3, h4⟩ := hb
  obtain ⟨n, rfl⟩ := Int.eq_ofNat_of_zero_le h1
  obtain ⟨m, rfl⟩ := Int.eq_ofNat_of_zero_le h3
  rw [RefMul_nat k n m (by omega) (by omega) hk]
  simp [gm]
theorem tab_succ (i : Nat) (f : Nat → Int) : tab (i + 1) f = tab i f ++ [f i] := by unfold tab; rw [List.range_succ, List.map_append]; rfl
theorem wrap_up {i : Nat} (h : i ≤ 9223372036854775806) : wrap64 ((i : Int) + 1) = ((i + 1 : Nat) : Int) := by unfold wrap64; omega
theorem xor_xi {a b : Int} (ha : Byte a) (hb : Byte b) : Go.bits .xor .u8 a b = xi a b := by rw [xor_byte ha hb]; rfl
theorem RefScale_l0 (q : Int) (hq : Byte q) (a : List Int) (ha : Bytes a) (hl : a.length ≤ 140737488351232) : ∀ (d i k : Nat), i + d = a.length → d + 21 < k →
    rillref01_Scale.l0 k q a (tab i fun j => gm q (a.getD j 0)) (i : Int) = some (tab a.length fun j => gm q (a.getD j 0)) := by
  intro d
  induction d with
  | zero =>
    intro i k hi hk
    obtain ⟨k, rfl⟩ : ∃ m, k = m + 1 := ⟨k - 1, by omega⟩
    obtain rfl : i = a.length := by omega
    rw [rillref01_Scale.l0, if_neg (by omega)]
  | succ d ih =>
    intro i k hi hk
    obtain ⟨k, rfl⟩ : ∃ m, k = m + 1 := ⟨k - 1, by omega⟩
    have hlen : (tab i fun j => gm q (a.getD j 0)).length < 140737488355328 := by rw [tab_length]; omega
    have e0 : (0 : Int) ≤ (i : Int) := by omega
    have f1 : (i : Int) < (a.length : Int) := by omega
    have hr := ih (i + 1) k (by omega) (by omega)
    rw [tab_succ] at hr
    have hw := wrap_up (i := i) (by omega)
    rw [rillref01_Scale.l0, if_pos f1, if_pos e0, rd_cast, RefMul_ok hq (ha.at_ i) k (by omega), Option.bind_some, if_pos hlen, hw]
    exact hr
theorem RefScale_ok (q : Int) (hq : Byte q) (a : List Int) (ha : Bytes a) (hl : a.length ≤ 140737488351232) (k : Nat) (hk : a.length + 21 < k) :
    rillref01_Scale.f k q a = some (tab a.length fun j => gm q (a.getD j 0)) := RefScale_l0 q hq a ha hl a.length 0 k (Nat.zero_add _) hk
theorem GfMemory : rilllaw01_GfMemory.Pure := by
  intro q a wq _ ha8 wa
  have hq := byte_wf wq
  have ha := bytes_wf wa
  have hal : a.length ≤ 140737488351232 := by omega
  have hnil : Bytes ([] : List Int) := fun x hx => by simp at hx
  have hone : Bytes [1] := fun x hx => by simp at hx; subst hx; exact one_byte
  have hra : ∀ v ∈ [a], Bytes v := fun v hv => by simp at hv; subst hv; exact ha
  have hla : ∀ v ∈ [a], v.length ≤ 281474976710656 := fun v hv => by simp at hv; subst hv; omega
  have hm : maxl [a] [a].length = a.length := by simp [maxl]
  have hsame : ∀ (x : List Int) (n k : Nat), x.length ≤ n → n ≤ 9223372036854775806 → n < k → rillref00_SameBytes.f k x x = some true := by
    intro x n k h1 h2 h3
    rw [Same_ok x x (by omega) k (by omega), decide_eq_true rfl]
  obtain ⟨N, hN⟩ : ∃ N, N = a.length + 100 := ⟨_, rfl⟩
  have e1 : a = tab (max a.length ([] : List Int).length) fun j => xi (a.getD j 0) (([] : List Int).getD j 0) := by
    refine eq_tab (by simp) fun j _ => ?_
    rw [getD_oob [] j (Nat.zero_le _), xi_zero (ha.at_ j)]
  refine ⟨N, a, tab a.length fun j => gm q (a.getD j 0), a, tab (maxl [a] [a].length) fun j => comb [1] [a] j [a].length, tab a.length fun j => gm q (a.getD j 0), alive_ok _ (by omega), Copy_ok a (by omega), Scale_ok q a hq ha (by omega) _ (by omega), ?_, ?_, ?_, ?_, ?_, ?_⟩
  · have := Add_ok a [] ha hnil (by omega) (by simp) N (by simp; omega)
    rw [← e1] at this
    exact this
  · exact Mix_ok [1] [a] hone hra hla (by simp) _ (by rw [hm]; simp; omega)
  · exact hsame _ _ _ (Nat.le_refl _) (by omega) (by omega)
  · exact hsame _ _ _ (Nat.le_refl _) (by omega) (by omega)
  · exact RefScale_ok q hq a ha hal _ (by omega)
  · exact hsame _ _ _ (Nat.le_of_eq (tab_length _ _)) (by omega) (by omega)

end Go.Proofs.Ytdjdbddnaaenmaa.Pure
