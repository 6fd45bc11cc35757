/- GfProducts: for all bytes a and b and all whole numbers n, Mul, Exp, Log and Inv answer what the reference answers. -/
import Derived.Test.YtdjdbddnaaenmaaPGfProductsx3
import Derived.Test.YtdjdbddnaaenmaaGfMath
import Derived.Laws.BitsAllLaws
import Derived.OpenShut
namespace Go.Proofs.Ytdjdbddnaaenmaa.Pure
open Go.RowKit Go.Proofs.Ytdjdbddnaaenmaa.PGfProducts Go.Proofs.YtdjdbddnaaenmaaW.PrintWords Go.Proofs.YtdjdbddnaaenmaaW.PrintLast
open Go.Proofs.Ytdjdbddnaaenmaa

/-- numbers of a byte -/
def Byte (x : Int) : Prop := 0 ≤ x ∧ x < 256
theorem byte_wf {x : Int} (h : (Lit.int .u8 x).wf = true) : Byte x := by
  have := bounds_u8 h
  exact ⟨this.1, by omega⟩
theorem byte_nat {n : Nat} (h : n < 256) : Byte (n : Int) := ⟨by omega, by omega⟩
theorem xor_byte {a b : Int} (ha : Byte a) (hb : Byte b) : Go.bits .xor .u8 a b = ((a.toNat ^^^ b.toNat : Nat) : Int) := u8_xor a b ha.1 ha.2 hb.1 hb.2
def gm (a b : Int) : Int := ((GF.mul a.toNat b.toNat : Nat) : Int)
def gd (a : Int) : Int := ((GF.dbl a.toNat : Nat) : Int)
theorem gd_byte (a : Int) : Byte (gd a) := byte_nat (GF.dbl_lt _)
theorem gm_byte {a b : Int} (ha : Byte a) : Byte (gm a b) := byte_nat (GF.mul_lt (by have := ha.1; have := ha.2; omega))
theorem double_all : ∀ a : Nat, a < 256 → gf_double.f (a : Int) = some ((GF.dbl a : Nat) : Int) := by decide +kernel
theorem double_ok {a : Int} (ha : Byte a) : gf_double.f a = some (gd a) := by
  obtain ⟨h1, h2⟩ := ha
  obtain ⟨n, rfl⟩ := Int.eq_ofNat_of_zero_le h1
  rw [double_all n (by omega)]
  simp [gd]
theorem bit_all : ∀ b : Nat, b < 256 → ∀ i : Nat, i < 8 → Go.bits .and .u8 (shr .u8 (b : Int) (i : Int)) 1 = if b.testBit i then 1 else 0 := by decide +kernel
theorem mul_round (k a b o i : Nat) (ha : a < 256) (hb : b < 256) (ho : o < 256) (hi : i < 8) :
    gf_Mul.l0 (k + 1) (a : Int) (b : Int) (o : Int) (i : Int) = gf_Mul.l0 k ((GF.dbl a : Nat) : Int) (b : Int) ((o ^^^ GF.pick b i a : Nat) : Int) ((i + 1 : Nat) : Int) := by
  have hw : wrap64 ((i : Int) + 1) = ((i + 1 : Nat) : Int) := by unfold wrap64; omega
  simp only [gf_Mul.l0]
  rw [if_pos (by omega), if_pos (by omega), bit_all b hb i hi, double_all a ha, hw]
  unfold GF.pick
  by_cases h : b.testBit i = true
  · rw [if_pos h, if_pos h, if_neg (by decide), xor_byte (byte_nat ho) (byte_nat ha)]
    simp
  · rw [if_neg h, if_neg h, if_pos rfl]
    simp
theorem Mul_nat (k a b : Nat) (ha : a < 256) (hb : b < 256) (hk : 9 ≤ k) : gf_Mul.f k (a : Int) (b : Int) = some ((GF.mul a b : Nat) : Int) := by
  obtain ⟨k, rfl⟩ : ∃ m, k = m + 9 := ⟨k - 9, by omega⟩
  have p : ∀ i x, x < 256 → GF.pick b i x < 256 := fun i x h => GF.pick_lt h
  have d := GF.dbl_lt
  show gf_Mul.l0 (k + 9) (a : Int) (b : Int) ((0 : Nat) : Int) ((0 : Nat) : Int) = _
  rw [mul_round _ _ _ _ _ ha hb (by decide) (by decide)]
  rw [mul_round _ _ _ _ _ (d _) hb (GF.xor_lt (by decide) (p _ _ ha)) (by decide)]
  rw [mul_round _ _ _ _ _ (d _) hb (GF.xor_lt (GF.xor_lt (by decide) (p _ _ ha)) (p _ _ (d _))) (by decide)]
  rw [mul_round _ _ _ _ _ (d _) hb (GF.xor_lt (GF.xor_lt (GF.xor_lt (by decide) (p _ _ ha)) (p _ _ (d _))) (p _ _ (d _))) (by decide)]
  rw [mul_round _ _ _ _ _ (d _) hb (GF.xor_lt (GF.xor_lt (GF.xor_lt (GF.xor_lt (by decide) (p _ _ ha)) (p _ _ (d _))) (p _ _ (d _))) (p _ _ (d _))) (by decide)]
  rw [mul_round _ _ _ _ _ (d _) hb (GF.xor_lt (GF.xor_lt (GF.xor_lt (GF.xor_lt (GF.xor_lt (by decide) (p _ _ ha)) (p _ _ (d _))) (p _ _ (d _))) (p _ _ (d _))) (p _ _ (d _))) (by decide)]
  rw [mul_round _ _ _ _ _ (d _) hb (GF.xor_lt (GF.xor_lt (GF.xor_lt (GF.xor_lt (GF.xor_lt (GF.xor_lt (by decide) (p _ _ ha)) (p _ _ (d _))) (p _ _ (d _))) (p _ _ (d _))) (p _ _ (d _))) (p _ _ (d _))) (by decide)]
  rw [mul_round _ _ _ _ _ (d _) hb (GF.xor_lt (GF.xor_lt (GF.xor_lt (GF.xor_lt (GF.xor_lt (GF.xor_lt (GF.xor_lt (by decide) (p _ _ ha)) (p _ _ (d _))) (p _ _ (d _))) (p _ _ (d _))) (p _ _ (d _))) (p _ _ (d _))) (p _ _ (d _))) (by decide)]
  simp only [gf_Mul.l0]
  rw [if_neg (by omega)]
  unfold GF.mul
  simp only [Nat.zero_xor, Nat.xor_assoc]
theorem Mul_ok {a b : Int} (ha : Byte a) (hb : Byte b) (k : Nat) (hk : 9 ≤ k) : gf_Mul.f k a b = some (gm a b) := by
  obtain ⟨h1, h2⟩ := ha
  obtain ⟨h3, h4⟩ := hb
  obtain ⟨n, rfl⟩ := Int.eq_ofNat_of_zero_le h1
  obtain ⟨m, rfl⟩ := Int.eq_ofNat_of_zero_le h3
  rw [Mul_nat k n m (by omega) (by omega) hk]
  simp [gm]
theorem nat_byte {a : Int} (h : Byte a) : a.toNat < 256 := by
  have := h.1
  have := h.2
  omega
theorem gm_comm {a b : Int} (ha : Byte a) (hb : Byte b) : gm a b = gm b a := by unfold gm; rw [GF.mul_comm (nat_byte ha) (nat_byte hb)]
theorem gm_assoc {a b : Int} (ha : Byte a) (hb : Byte b) (c : Int) : gm (gm a b) c = gm a (gm b c) := by
  unfold gm
  rw [Int.toNat_natCast, Int.toNat_natCast, GF.mul_assoc (nat_byte ha) (nat_byte hb)]
theorem gm_one {a : Int} (ha : Byte a) : gm a 1 = a := by
  unfold gm
  have := ha.1
  rw [show (1 : Int).toNat = 1 from rfl, GF.mul_one]
  omega
theorem one_gm {a : Int} (ha : Byte a) : gm 1 a = a := by
  rw [gm_comm (by exact ⟨by decide, by decide⟩) ha, gm_one ha]
theorem gm_xor {a b c : Int} (hb : Byte b) (hc : Byte c) : gm a (Go.bits .xor .u8 b c) = ((GF.mul a.toNat b.toNat ^^^ GF.mul a.toNat c.toNat : Nat) : Int) := by
  unfold gm
  rw [xor_byte hb hc, Int.toNat_natCast, GF.mul_xor_right]
/-- powers as the program reckons them -/
def gp : Nat → Int → Nat → Int → Int
  | 0, _, _, o => o
  | k + 1, a, n, o => if n = 0 then o else gp k (gm a a) (n / 2) (if n % 2 = 1 then gm o a else o)
theorem and_one (n : Nat) (h : n < 9223372036854775808) : Go.bits .and .i64 (n : Int) 1 = ((n % 2 : Nat) : Int) := by
  have := (bits_nat .i64 63 (by decide) (fun m h0 h1 => by rw [IntKind.wrap_i64]; omega) n 1 (by omega) (by decide)).1
  rw [show ((1 : Nat) : Int) = 1 from rfl] at this
  rw [this, Nat.and_one_is_mod]
theorem power_l0 : ∀ (j k n : Nat) (a o : Int), Byte a → Byte o → n < 2 ^ j → j ≤ 62 → j + 10 ≤ k → gf_power.l0 k a (n : Int) o = some (gp j a n o) := by
  intro j
  induction j with
  | zero =>
    intro k n a o ha ho hn hj hk
    obtain ⟨k, rfl⟩ : ∃ m, k = m + 1 := ⟨k - 1, by omega⟩
    simp only [gf_power.l0]
    rw [if_neg (by omega)]
    rfl
  | succ j ih =>
    intro k n a o ha ho hn hj hk
    obtain ⟨k, rfl⟩ : ∃ m, k = m + 1 := ⟨k - 1, by omega⟩
    have hb : n < 9223372036854775808 := Nat.lt_of_lt_of_le hn (Nat.le_trans (Nat.pow_le_pow_right (by decide) (show j + 1 ≤ 63 by omega)) (by decide))
    simp only [gf_power.l0, gp]
    by_cases h0 : n = 0
    · rw [if_neg (by omega), if_pos h0]
    · rw [if_pos (by omega), if_neg h0, and_one n hb, Mul_ok ha ha k (by omega)]
      have e : (n : Int) / 2 = ((n / 2 : Nat) : Int) := by omega
      have hn2 : n / 2 < 2 ^ j := by rw [Nat.pow_succ] at hn; omega
      by_cases h1 : n % 2 = 1
      · rw [if_neg (by omega), if_pos h1, Mul_ok ho ha k (by omega)]
        simp only [Option.bind_some]
        rw [e]
        exact ih k (n / 2) _ _ (gm_byte ha) (gm_byte ho) hn2 (by omega) (by omega)
      · rw [if_pos (by omega), if_neg h1]
        simp only [Option.bind_some]
        rw [e]
        exact ih k (n / 2) _ _ (gm_byte ha) ho hn2 (by omega) (by omega)
def gi (a : Int) : Int := ((GF.inv a.toNat : Nat) : Int)
theorem gi_byte (a : Int) : Byte (gi a) := byte_nat (GF.inv_lt _)
theorem power_inv : ∀ a : Nat, a < 256 → 0 < a → gp 8 (a : Int) 254 1 = ((GF.inv a : Nat) : Int) := by decide +kernel
theorem power_254 {a : Int} (ha : Byte a) (h : a ≠ 0) (k : Nat) (hk : 20 ≤ k) : gf_power.f k a 254 = some (gi a) := by
  unfold gf_power.f
  obtain ⟨h1, h2⟩ := ha
  obtain ⟨n, rfl⟩ := Int.eq_ofNat_of_zero_le h1
  have := power_l0 8 k 254 (n : Int) 1 ⟨h1, h2⟩ ⟨by decide, by decide⟩ (by decide) (by decide) (by omega)
  rw [show ((254 : Nat) : Int) = 254 from rfl] at this
  rw [this, power_inv n (by omega) (by omega)]
  simp [gi]
theorem Inv_zero (k : Nat) : gf_Inv.f k 0 = some (0, 10) := by unfold gf_Inv.f; rw [if_pos rfl]
theorem Inv_ok {a : Int} (ha : Byte a) (h : a ≠ 0) (k : Nat) (hk : 20 ≤ k) : gf_Inv.f k a = some (gi a, 0) := by
  unfold gf_Inv.f
  rw [if_neg h, power_254 ha h k hk]
  rfl
theorem gm_gi {a : Int} (ha : Byte a) (h : a ≠ 0) : gm a (gi a) = 1 := by
  unfold gm gi
  rw [Int.toNat_natCast, GF.mul_inv (nat_byte ha) (by have := ha.1; omega)]
  rfl
theorem Log_l0 (a : Nat) (ha : a < 256) (h0 : 0 < a) : ∀ (d n k : Nat), n + d = GF.lg a → d < k → gf_Log.l0 k (a : Int) (n : Int) ((GF.pw n : Nat) : Int) = some (((GF.lg a : Nat) : Int), (0 : Int)) := by
  obtain ⟨e1, e2⟩ := GF.pw_lg_all a ha h0
  intro d
  induction d with
  | zero =>
    intro n k hn hk
    obtain ⟨k, rfl⟩ : ∃ m, k = m + 1 := ⟨k - 1, by omega⟩
    simp only [gf_Log.l0]
    obtain rfl : n = GF.lg a := by omega
    rw [if_pos (by rw [e1])]
  | succ d ih =>
    intro n k hn hk
    obtain ⟨k, rfl⟩ : ∃ m, k = m + 1 := ⟨k - 1, by omega⟩
    simp only [gf_Log.l0]
    have hne : GF.pw n ≠ a := fun h => by
      have := GF.pw_inj (n := n) (m := GF.lg a) (by omega) e2 (by rw [h, e1])
      omega
    have hw : wrap64 ((n : Int) + 1) = ((n + 1 : Nat) : Int) := by unfold wrap64; omega
    rw [if_neg (by omega), double_all _ (GF.pw_lt n), hw]
    exact ih (n + 1) k (by omega) (by omega)
theorem Log_ok {a : Int} (ha : Byte a) (h : a ≠ 0) (k : Nat) (hk : 300 ≤ k) : gf_Log.f k a = some (((GF.lg a.toNat : Nat) : Int), 0) := by
  unfold gf_Log.f
  rw [if_neg h]
  obtain ⟨h1, h2⟩ := ha
  obtain ⟨n, rfl⟩ := Int.eq_ofNat_of_zero_le h1
  rw [Int.toNat_natCast]
  have := (GF.pw_lg_all n (by omega) (by omega)).2
  exact Log_l0 n (by omega) (by omega) (GF.lg n) 0 k (by omega) (by omega)
theorem Log_zero (k : Nat) : gf_Log.f k 0 = some (0, 10) := by unfold gf_Log.f; rw [if_pos rfl]
theorem power_pw : ∀ n : Nat, n < 255 → gp 8 2 n 1 = ((GF.pw n : Nat) : Int) := by decide +kernel
theorem tmod_255 (n : Int) (h1 : -9223372036854775808 ≤ n) (h2 : n ≤ 9223372036854775807) : Int.tmod (wrap64 (Int.tmod n 255 + 255)) 255 = n % 255 := by
  have h : Int.tmod n 255 = n % 255 ∨ Int.tmod n 255 = n % 255 - 255 := by
    rcases Int.lt_or_le n 0 with h | h
    · have e : Int.tmod n 255 = -((-n) % 255) := by
        rw [← Int.tmod_eq_emod_of_nonneg (a := -n) (by omega), Int.neg_tmod]; omega
      omega
    · exact .inl (Int.tmod_eq_emod_of_nonneg h)
  have e : wrap64 (Int.tmod n 255 + 255) = Int.tmod n 255 + 255 := by unfold wrap64; omega
  rw [e, Int.tmod_eq_emod_of_nonneg (by omega)]
  omega
theorem Exp_ok (n : Int) (h1 : -9223372036854775808 ≤ n) (h2 : n ≤ 9223372036854775807) (k : Nat) (hk : 20 ≤ k) : gf_Exp.f k n = some (((GF.pw (n % 255).toNat : Nat) : Int)) := by
  unfold gf_Exp.f gf_power.f
  rw [tmod_255 n h1 h2]
  obtain ⟨m, hm⟩ := Int.eq_ofNat_of_zero_le (show 0 ≤ n % 255 by omega)
  have hl : m < 255 := by omega
  rw [hm, Int.toNat_natCast, power_l0 8 k m 2 1 ⟨by decide, by decide⟩ ⟨by decide, by decide⟩ (by omega) (by decide) (by omega), power_pw m hl]
  rfl
theorem alive_40 : rilllaw01_alive.f 40 = some true := by decide +kernel
theorem alive_ok (k : Nat) (hk : 40 ≤ k) : rilllaw01_alive.f k = some true := at_rounds rilllaw01_alive.mono hk alive_40
/-- long multiplication, and its remainder, on natural numbers -/
def lm : Nat → Nat → Nat → Nat
  | 0, _, _ => 0
  | i + 1, a, b => lm i a b ^^^ GF.pick b i (a * 2 ^ i)
def rm : Nat → Nat → Nat
  | 0, x => x
  | i + 1, x => rm i (x ^^^ GF.pick x (i + 8) (285 * 2 ^ i))
theorem rm_xor (i : Nat) : ∀ x y, rm i (x ^^^ y) = rm i x ^^^ rm i y := by
  induction i with
  | zero => intro x y; rfl
  | succ i ih =>
    intro x y
    simp only [rm]
    rw [← ih, GF.pick_xor_left]
    congr 1
    ac_rfl
theorem rm_zero (i : Nat) : rm i 0 = 0 := by
  induction i with
  | zero => rfl
  | succ i ih => simp only [rm, GF.zero_pick, Nat.zero_xor]; exact ih
theorem rm_pick (i b j x : Nat) : rm i (GF.pick b j x) = GF.pick b j (rm i x) := by unfold GF.pick; split <;> simp [rm_zero]
theorem rm_dbl : ∀ a, a < 256 → rm 7 a = a ∧ rm 7 (a * 2) = GF.dbl a ∧ rm 7 (a * 4) = GF.dbl (GF.dbl a) ∧ rm 7 (a * 8) = GF.dbl (GF.dbl (GF.dbl a)) ∧ rm 7 (a * 16) = GF.dbl (GF.dbl (GF.dbl (GF.dbl a))) ∧
    rm 7 (a * 32) = GF.dbl (GF.dbl (GF.dbl (GF.dbl (GF.dbl a)))) ∧ rm 7 (a * 64) = GF.dbl (GF.dbl (GF.dbl (GF.dbl (GF.dbl (GF.dbl a))))) ∧ rm 7 (a * 128) = GF.dbl (GF.dbl (GF.dbl (GF.dbl (GF.dbl (GF.dbl (GF.dbl a)))))) := by decide +kernel
theorem lm_rm (a b : Nat) (ha : a < 256) : rm 7 (lm 8 a b) = GF.mul a b := by
  obtain ⟨h0, h1, h2, h3, h4, h5, h6, h7⟩ := rm_dbl a ha
  simp only [lm]
  simp only [Nat.pow_zero, Nat.mul_one, show (2 : Nat) ^ 1 = 2 from rfl, show (2 : Nat) ^ 2 = 4 from rfl, show (2 : Nat) ^ 3 = 8 from rfl, show (2 : Nat) ^ 4 = 16 from rfl, show (2 : Nat) ^ 5 = 32 from rfl, show (2 : Nat) ^ 6 = 64 from rfl, show (2 : Nat) ^ 7 = 128 from rfl]
  simp only [rm_xor, rm_pick, h0, h1, h2, h3, h4, h5, h6, h7, Nat.zero_xor]
  unfold GF.mul
  simp only [Nat.xor_assoc]
theorem lm_lt (a b : Nat) (ha : a < 256) : ∀ i, i ≤ 8 → lm i a b < 32768 := by
  intro i hi
  have h : ∀ j, j < 8 → GF.pick b j (a * 2 ^ j) < 2 ^ 15 := by
    intro j hj
    have : a * 2 ^ j < 2 ^ 15 := by
      have h1 : a * 2 ^ j < 256 * 2 ^ j := Nat.mul_lt_mul_of_pos_right ha (Nat.pow_pos (by decide))
      have h2 : 2 ^ j ≤ 2 ^ 7 := Nat.pow_le_pow_right (by decide) (by omega)
      omega
    unfold GF.pick
    split <;> omega
  induction i with
  | zero => show (0 : Nat) < 32768; decide
  | succ i ih => exact Nat.xor_lt_two_pow (n := 15) (ih (by omega)) (h i (by omega))
theorem i64_bits_nat (a b : Nat) (ha : a < 32768) (hb : b < 32768) : Go.bits .xor .i64 (a : Int) (b : Int) = ((a ^^^ b : Nat) : Int) := by
  have hx : a ^^^ b < 2 ^ 15 := Nat.xor_lt_two_pow ha hb
  show IntKind.i64.wrap ((BitVec.ofInt 64 (a : Int) ^^^ BitVec.ofInt 64 (b : Int)).toNat : Int) = _
  rw [BitVec.toNat_xor, ofInt_u64 a (by omega), ofInt_u64 b (by omega), IntKind.wrap_i64]
  omega
theorem refbit (x i : Nat) (hx : x < 32768) (hi : i < 64) : Go.bits .and .i64 (shr .i64 (x : Int) (i : Int)) 1 = if x.testBit i then 1 else 0 := by
  have e : shr .i64 (x : Int) (i : Int) = ((x / 2 ^ i : Nat) : Int) := by
    unfold shr
    rw [show min (i : Int).toNat IntKind.i64.bits = i from by show min _ 64 = i; omega]
    simp
  have hl : x / 2 ^ i ≤ x := Nat.div_le_self _ _
  rw [e, and_one _ (by omega)]
  rw [Nat.testBit_eq_decide_div_mod_eq]
  by_cases h : x / 2 ^ i % 2 = 1
  · rw [if_pos (by simp [h]), h]; rfl
  · rw [if_neg (by simp [h]), show x / 2 ^ i % 2 = 0 from by omega]; rfl
theorem ref_round (k a b i : Nat) (ha : a < 256) (hb : b < 256) (hi : i < 8) :
    rillref01_Mul.l0 (k + 1) (a : Int) (b : Int) ((lm i a b : Nat) : Int) (i : Int) = rillref01_Mul.l0 k (a : Int) (b : Int) ((lm (i + 1) a b : Nat) : Int) ((i + 1 : Nat) : Int) := by
  have hw : wrap64 ((i : Int) + 1) = ((i + 1 : Nat) : Int) := by unfold wrap64; omega
  have hu : IntKind.u64.wrap (i : Int) = (i : Int) := by rw [IntKind.wrap_u64]; omega
  simp only [rillref01_Mul.l0]
  rw [if_pos (by omega), hu, if_pos (by omega), bit_all b hb i hi, hw]
  simp only [lm]
  unfold GF.pick
  by_cases h : b.testBit i = true
  · rw [if_pos h, if_pos h, if_pos rfl]
    have hp : a * 2 ^ i < 32768 := by
      have h1 : a * 2 ^ i < 256 * 2 ^ i := Nat.mul_lt_mul_of_pos_right ha (Nat.pow_pos (by decide))
      have h2 : 2 ^ i ≤ 2 ^ 7 := Nat.pow_le_pow_right (by decide) (by omega)
      omega
    have e : shl .i64 (wrap64 (a : Int)) (i : Int) = ((a * 2 ^ i : Nat) : Int) := by
      unfold shl
      rw [show min (i : Int).toNat IntKind.i64.bits = i from by show min _ 64 = i; omega, show wrap64 (a : Int) = (a : Int) from by unfold wrap64; omega]
      rw [show (a : Int) * 2 ^ i = ((a * 2 ^ i : Nat) : Int) from by simp, IntKind.wrap_i64]
      omega
    rw [e, i64_bits_nat _ _ (lm_lt a b ha i (by omega)) hp]
  · rw [if_neg h, if_neg h, if_neg (by decide)]
    simp
theorem ref_l1 : ∀ (j k x : Nat), j ≤ 7 → x < 2 ^ (j + 8) → j < k → rillref01_Mul.l1 k (x : Int) ((j + 7 : Nat) : Int) = some ((rm j x : Nat) : Int) := by
  intro j
  induction j with
  | zero =>
    intro k x hj hx hk
    obtain ⟨k, rfl⟩ : ∃ m, k = m + 1 := ⟨k - 1, by omega⟩
    simp only [rillref01_Mul.l1]
    rw [if_neg (by omega)]
    have : (x : Int) % 256 = (x : Int) := by omega
    rw [this]
    rfl
  | succ j ih =>
    intro k x hj hx hk
    obtain ⟨k, rfl⟩ : ∃ m, k = m + 1 := ⟨k - 1, by omega⟩
    have hx15 : x < 32768 := Nat.lt_of_lt_of_le hx (show 2 ^ (j + 1 + 8) ≤ 2 ^ 15 from Nat.pow_le_pow_right (by decide) (by omega))
    have hu : IntKind.u64.wrap ((j + 1 + 7 : Nat) : Int) = ((j + 1 + 7 : Nat) : Int) := by rw [IntKind.wrap_u64]; omega
    have hw : wrap64 (((j + 1 + 7 : Nat) : Int) - 1) = ((j + 7 : Nat) : Int) := by unfold wrap64; omega
    have hw8 : wrap64 (((j + 1 + 7 : Nat) : Int) - 8) = (j : Int) := by unfold wrap64; omega
    have hu8 : IntKind.u64.wrap (j : Int) = (j : Int) := by rw [IntKind.wrap_u64]; omega
    simp only [rillref01_Mul.l1, rm]
    rw [if_pos (by omega), hu, if_pos (by omega), refbit x (j + 1 + 7) hx15 (by omega), hw, hw8, hu8]
    have eb : j + 1 + 7 = j + 8 := by omega
    rw [eb]
    unfold GF.pick
    have hp : 285 * 2 ^ j < 32768 * 2 := by
      have h2 : 2 ^ j ≤ 2 ^ 6 := Nat.pow_le_pow_right (by decide) (by omega)
      omega
    have hp' : 285 * 2 ^ j < 32768 := by
      have h2 : 2 ^ j ≤ 2 ^ 6 := Nat.pow_le_pow_right (by decide) (by omega)
      omega
    have hp9 : 285 * 2 ^ j < 2 ^ (j + 9) := by
      have h9 : 2 ^ (j + 9) = 2 ^ j * 512 := by rw [Nat.pow_add]
      have := Nat.pow_pos (n := j) (show 0 < 2 by decide)
      omega
    by_cases h : x.testBit (j + 8) = true
    · rw [if_pos h, if_pos h, if_pos rfl, if_pos (by omega)]
      have e : shl .i64 285 (j : Int) = ((285 * 2 ^ j : Nat) : Int) := by
        unfold shl
        rw [show min (j : Int).toNat IntKind.i64.bits = j from by show min _ 64 = j; omega]
        rw [show (285 : Int) * 2 ^ j = ((285 * 2 ^ j : Nat) : Int) from by simp, IntKind.wrap_i64]
        omega
      rw [e, i64_bits_nat _ _ hx15 hp']
      refine ih k _ (by omega) ?_ (by omega)
      refine Nat.lt_pow_two_of_testBit _ fun i hi => ?_
      rw [Nat.testBit_xor]
      by_cases e8 : i = j + 8
      · subst e8
        rw [h]
        have : (285 * 2 ^ j).testBit (j + 8) = true := by
          rw [← Nat.shiftLeft_eq, Nat.testBit_shiftLeft, show j + 8 - j = 8 from by omega]
          simp only [ge_iff_le, Nat.le_add_right, decide_true, Bool.true_and]
          decide
        rw [this]
        rfl
      · have h1 : x.testBit i = false := Nat.testBit_lt_two_pow (Nat.lt_of_lt_of_le hx (Nat.pow_le_pow_right (by decide) (by omega)))
        have h2 : (285 * 2 ^ j).testBit i = false := Nat.testBit_lt_two_pow (Nat.lt_of_lt_of_le hp9 (Nat.pow_le_pow_right (by decide) (by omega)))
        rw [h1, h2]
        rfl
    · rw [if_neg h, if_neg h, if_neg (by decide)]
      rw [Nat.xor_zero]
      refine ih k _ (by omega) ?_ (by omega)
      refine Nat.lt_pow_two_of_testBit _ fun i hi => ?_
      by_cases e8 : i = j + 8
      · subst e8; simpa using h
      · exact Nat.testBit_lt_two_pow (Nat.lt_of_lt_of_le hx (Nat.pow_le_pow_right (by decide) (by omega)))
theorem RefMul_nat (k a b : Nat) (ha : a < 256) (hb : b < 256) (hk : 20 ≤ k) : rillref01_Mul.f k (a : Int) (b : Int) = some ((GF.mul a b : Nat) : Int) := by
  obtain ⟨k, rfl⟩ : ∃ m, k = m + 9 := ⟨k - 9, by omega⟩
  show rillref01_Mul.l0 (k + 9) (a : Int) (b : Int) ((lm 0 a b : Nat) : Int) ((0 : Nat) : Int) = _
  rw [ref_round _ _ _ _ ha hb (by decide), ref_round _ _ _ _ ha hb (by decide), ref_round _ _ _ _ ha hb (by decide), ref_round _ _ _ _ ha hb (by decide),
    ref_round _ _ _ _ ha hb (by decide), ref_round _ _ _ _ ha hb (by decide), ref_round _ _ _ _ ha hb (by decide), ref_round _ _ _ _ ha hb (by decide)]
  simp only [rillref01_Mul.l0]
  rw [if_neg (by omega)]
  have := ref_l1 7 k (lm 8 a b) (by decide) (lm_lt a b ha 8 (by decide)) (by omega)
  rw [show ((7 + 7 : Nat) : Int) = 14 from rfl, lm_rm a b ha] at this
  exact this
theorem RefMul_ok {a b : Int} (ha : Byte a) (hb : Byte b) (k : Nat) (hk : 20 ≤ k) : rillref01_Mul.f k a b = some (gm a b) := by
  obtain ⟨h1, h2⟩ := ha
  obtain ⟨h3, h4⟩ := hb
  obtain ⟨n, rfl⟩ := Int.eq_ofNat_of_zero_le h1
  obtain ⟨m, rfl⟩ := Int.eq_ofNat_of_zero_le h3
  rw [RefMul_nat k n m (by omega) (by omega) hk]
  simp [gm]
theorem RefInv_l0 (a : Nat) (ha : a < 256) (h0 : 0 < a) : ∀ (d n k : Nat), 0 < n → n + d = GF.inv a → d + 30 ≤ k → rillref01_Inv.l0 k (a : Int) (n : Int) = some (((GF.inv a : Nat) : Int), (0 : Int)) := by
  have hl := GF.inv_lt a
  intro d
  induction d with
  | zero =>
    intro n k hn hd hk
    obtain ⟨k, rfl⟩ : ∃ m, k = m + 1 := ⟨k - 1, by omega⟩
    obtain rfl : n = GF.inv a := by omega
    simp only [rillref01_Inv.l0]
    have e : ((GF.inv a : Nat) : Int) % 256 = ((GF.inv a : Nat) : Int) := by omega
    rw [if_pos (by omega), e, RefMul_nat k a _ ha hl (by omega), GF.mul_inv ha h0]
    simp only [Option.bind_some]
    rw [if_pos (by decide)]
  | succ d ih =>
    intro n k hn hd hk
    obtain ⟨k, rfl⟩ : ∃ m, k = m + 1 := ⟨k - 1, by omega⟩
    simp only [rillref01_Inv.l0]
    have e : (n : Int) % 256 = (n : Int) := by omega
    have hne : GF.mul a n ≠ 1 := fun h => by
      have := GF.inv_unique ha (show n < 256 by omega) hl h (GF.mul_inv ha h0)
      omega
    have hw : wrap64 ((n : Int) + 1) = ((n + 1 : Nat) : Int) := by unfold wrap64; omega
    rw [if_pos (by omega), e, RefMul_nat k a _ ha (by omega) (by omega), hw]
    simp only [Option.bind_some]
    rw [if_neg (by omega)]
    exact ih (n + 1) k (by omega) (by omega) (by omega)
theorem RefInv_ok {a : Int} (ha : Byte a) (h : a ≠ 0) (k : Nat) (hk : 300 ≤ k) : rillref01_Inv.f k a = some (gi a, 0) := by
  unfold rillref01_Inv.f
  obtain ⟨h1, h2⟩ := ha
  obtain ⟨n, rfl⟩ := Int.eq_ofNat_of_zero_le h1
  have hp := GF.inv_pos (a := n) (by omega)
  have hl := GF.inv_lt n
  have := RefInv_l0 n (by omega) (by omega) (GF.inv n - 1) 1 k (by omega) (by omega) (by omega)
  rw [show ((1 : Nat) : Int) = 1 from rfl] at this
  rw [this]
  simp [gi]
theorem RefInv_zero : rillref01_Inv.f 400 0 = some (0, 10) := by decide +kernel
theorem RefLog_l0 (a : Nat) (ha : a < 256) (h0 : 0 < a) : ∀ (d n k : Nat), n + d = GF.lg a → d + 30 ≤ k → rillref01_Log.l0 k (a : Int) ((GF.pw n : Nat) : Int) (n : Int) = some (((GF.lg a : Nat) : Int), (0 : Int)) := by
  obtain ⟨e1, e2⟩ := GF.pw_lg_all a ha h0
  intro d
  induction d with
  | zero =>
    intro n k hn hk
    obtain ⟨k, rfl⟩ : ∃ m, k = m + 1 := ⟨k - 1, by omega⟩
    simp only [rillref01_Log.l0]
    obtain rfl : n = GF.lg a := by omega
    rw [if_pos (by omega), if_pos (by rw [e1])]
  | succ d ih =>
    intro n k hn hk
    obtain ⟨k, rfl⟩ : ∃ m, k = m + 1 := ⟨k - 1, by omega⟩
    simp only [rillref01_Log.l0]
    have hne : GF.pw n ≠ a := fun h => by
      have := GF.pw_inj (n := n) (m := GF.lg a) (by omega) e2 (by rw [h, e1])
      omega
    have hw : wrap64 ((n : Int) + 1) = ((n + 1 : Nat) : Int) := by unfold wrap64; omega
    have hm : GF.mul (GF.pw n) 2 = GF.pw (n + 1) := by
      rw [GF.mul_comm (GF.pw_lt n) (by decide), GF.mul_two (GF.pw_lt n)]; rfl
    have hr := RefMul_nat k (GF.pw n) 2 (GF.pw_lt n) (by decide) (by omega)
    rw [show ((2 : Nat) : Int) = 2 from rfl, hm] at hr
    rw [if_pos (by omega), if_neg (by omega), hr, hw]
    exact ih (n + 1) k (by omega) (by omega)
theorem RefLog_ok {a : Int} (ha : Byte a) (h : a ≠ 0) (k : Nat) (hk : 300 ≤ k) : rillref01_Log.f k a = some (((GF.lg a.toNat : Nat) : Int), 0) := by
  unfold rillref01_Log.f
  obtain ⟨h1, h2⟩ := ha
  obtain ⟨n, rfl⟩ := Int.eq_ofNat_of_zero_le h1
  rw [Int.toNat_natCast]
  have := (GF.pw_lg_all n (by omega) (by omega)).2
  exact RefLog_l0 n (by omega) (by omega) (GF.lg n) 0 k (by omega) (by omega)
theorem RefLog_zero : rillref01_Log.f 400 0 = some (0, 10) := by decide +kernel
theorem RefExp_l0 (p : Nat) (hp : p < 255) : ∀ (d n k : Nat), n + d = p → d + 30 ≤ k → rillref01_Exp.l0 k (p : Int) ((GF.pw n : Nat) : Int) (n : Int) = some ((GF.pw p : Nat) : Int) := by
  intro d
  induction d with
  | zero =>
    intro n k hn hk
    obtain ⟨k, rfl⟩ : ∃ m, k = m + 1 := ⟨k - 1, by omega⟩
    obtain rfl : n = p := by omega
    simp only [rillref01_Exp.l0]
    rw [if_neg (by omega)]
  | succ d ih =>
    intro n k hn hk
    obtain ⟨k, rfl⟩ : ∃ m, k = m + 1 := ⟨k - 1, by omega⟩
    simp only [rillref01_Exp.l0]
    have hw : wrap64 ((n : Int) + 1) = ((n + 1 : Nat) : Int) := by unfold wrap64; omega
    have hm : GF.mul (GF.pw n) 2 = GF.pw (n + 1) := by
      rw [GF.mul_comm (GF.pw_lt n) (by decide), GF.mul_two (GF.pw_lt n)]; rfl
    have hr := RefMul_nat k (GF.pw n) 2 (GF.pw_lt n) (by decide) (by omega)
    rw [show ((2 : Nat) : Int) = 2 from rfl, hm] at hr
    rw [if_pos (by omega), hr, hw]
    exact ih (n + 1) k (by omega) (by omega)
theorem RefExp_ok (n : Int) (h1 : -9223372036854775808 ≤ n) (h2 : n ≤ 9223372036854775807) : rillref01_Exp.f 400 n = some (((GF.pw (n % 255).toNat : Nat) : Int)) := by
  have h : Int.tmod n 255 = n % 255 ∨ Int.tmod n 255 = n % 255 - 255 ∧ n % 255 ≠ 0 := by
    rcases Int.lt_or_le n 0 with h | h
    · have e : Int.tmod n 255 = -((-n) % 255) := by
        rw [← Int.tmod_eq_emod_of_nonneg (a := -n) (by omega), Int.neg_tmod]; omega
      omega
    · exact .inl (Int.tmod_eq_emod_of_nonneg h)
  obtain ⟨m, hm⟩ := Int.eq_ofNat_of_zero_le (show 0 ≤ n % 255 by omega)
  have hl : m < 255 := by omega
  unfold rillref01_Exp.f
  rw [hm, Int.toNat_natCast]
  by_cases hn : Int.tmod n 255 < 0
  · have e : wrap64 (Int.tmod n 255 + 255) = (m : Int) := by unfold wrap64; omega
    rw [if_pos hn, e, rillref01_Exp.j0]
    exact RefExp_l0 m hl m 0 _ (by omega) (by omega)
  · have e : Int.tmod n 255 = (m : Int) := by omega
    rw [if_neg hn, e, rillref01_Exp.j0]
    exact RefExp_l0 m hl m 0 _ (by omega) (by omega)
theorem GfProducts : rilllaw01_GfProducts.Pure := by
  intro a b n wa wb wn
  have ha := byte_wf wa
  have hb := byte_wf wb
  have hn := bounds_i64 wn
  refine ⟨400, ?_⟩
  unfold rilllaw01_GfProducts.f
  rw [alive_ok 400 (by decide), Mul_ok ha hb _ (by decide), RefMul_ok ha hb _ (by decide), Exp_ok n (by omega) (by omega) _ (by decide), RefExp_ok n (by omega) (by omega)]
  by_cases h : a = 0
  · subst h
    rw [Inv_zero, RefInv_zero, Log_zero, RefLog_zero]
    simp
  · rw [Inv_ok ha h _ (by decide), RefInv_ok ha h _ (by decide), Log_ok ha h _ (by decide), RefLog_ok ha h _ (by decide)]
    simp

end Go.Proofs.Ytdjdbddnaaenmaa.Pure
