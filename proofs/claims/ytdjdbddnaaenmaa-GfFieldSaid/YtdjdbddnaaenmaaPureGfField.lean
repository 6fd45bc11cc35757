/- GfField: for all bytes a, b and c, the laws of a field answer true. -/
import Derived.Test.YtdjdbddnaaenmaaMGfFieldx2
import Derived.Test.YtdjdbddnaaenmaaGfMath
import Derived.Laws.BitsAllLaws
import Derived.OpenShut
namespace Go.Proofs.Ytdjdbddnaaenmaa.Pure
open Go.RowKit Go.Proofs.Ytdjdbddnaaenmaa.MGfField Go.Proofs.YtdjdbddnaaenmaaW.PrintWords Go.Proofs.YtdjdbddnaaenmaaW.PrintLast
open Go.Proofs.Ytdjdbddnaaenmaa

/-- numbers of a byte -/
def Byte (x : Int) : Prop := 0 ≤ x ∧ x < 256
theorem byte_wf {x : Int} (h : (Lit.int .u8 x).wf = true) : Byte x := by
  have := bounds_u8 h
  exact ⟨this.1, by omega⟩
theorem byte_nat {n : Nat} (h : n < 256) : Byte (n : Int) := ⟨by omega, by omega⟩
theorem xor_byte {a b : Int} (ha : Byte a) (hb : Byte b) : Go.bits .xor .u8 a b = ((a.toNat ^^^ b.toNat : Nat) : Int) := u8_xor a b ha.1 ha.2 hb.1 hb.2
def gm (a b : Int) : Int := ((GF.mul a.toNat b.toNat : Nat) : Int)
def gd (a : Int) : Int := ((GF.dbl a.toNat : Nat) : Int)
theorem gd_byte (a : Int) : Byte (gd a) := byte_nat (GF.dbl_lt _)
theorem gm_byte {a b : Int} (ha : Byte a) : Byte (gm a b) := byte_nat (GF.mul_lt (by have := ha.1; have := ha.2; omega))
theorem double_all : ∀ a : Nat, a < 256 → gf_double.f (a : Int) = some ((GF.dbl a : Nat) : Int) := by decide +kernel
theorem double_ok {a : Int} (ha : Byte a) : gf_double.f a = some (gd a) := by
  obtain ⟨h1, h2⟩ := ha
  obtain ⟨n, rfl⟩ := Int.eq_ofNat_of_zero_le h1
  rw [double_all n (by omega)]
  simp [gd]
theorem bit_all : ∀ b : Nat, b < 256 → ∀ i : Nat, i < 8 → Go.bits .and .u8 (shr .u8 (b : Int) (i : Int)) 1 = if b.testBit i then 1 else 0 := by decide +kernel
theorem mul_round (k a b o i : Nat) (ha : a < 256) (hb : b < 256) (ho : o < 256) (hi : i < 8) :
    gf_Mul.l0 (k + 1) (a : Int) (b : Int) (o : Int) (i : Int) = gf_Mul.l0 k ((GF.dbl a : Nat) : Int) (b : Int) ((o ^^^ GF.pick b i a : Nat) : Int) ((i + 1 : Nat) : Int) := by
  have hw : wrap64 ((i : Int) + 1) = ((i + 1 : Nat) : Int) := by unfold wrap64; omega
  simp only [gf_Mul.l0]
  rw [if_pos (by omega), if_pos (by omega), bit_all b hb i hi, double_all a ha, hw]
  unfold GF.pick
  by_cases h : b.testBit i = true
  · rw [if_pos h, if_pos h, if_neg (by decide), xor_byte (byte_nat ho) (byte_nat ha)]
    simp
  · rw [if_neg h, if_neg h, if_pos rfl]
    simp
theorem Mul_nat (k a b : Nat) (ha : a < 256) (hb : b < 256) (hk : 9 ≤ k) : gf_Mul.f k (a : Int) (b : Int) = some ((GF.mul a b : Nat) : Int) := by
  obtain ⟨k, rfl⟩ : ∃ m, k = m + 9 := ⟨k - 9, by omega⟩
  have p : ∀ i x, x < 256 → GF.pick b i x < 256 := fun i x h => GF.pick_lt h
  have d := GF.dbl_lt
  show gf_Mul.l0 (k + 9) (a : Int) (b : Int) ((0 : Nat) : Int) ((0 : Nat) : Int) = _
  rw [mul_round _ _ _ _ _ ha hb (by decide) (by decide)]
  rw [mul_round _ _ _ _ _ (d _) hb (GF.xor_lt (by decide) (p _ _ ha)) (by decide)]
  rw [mul_round _ _ _ _ _ (d _) hb (GF.xor_lt (GF.xor_lt (by decide) (p _ _ ha)) (p _ _ (d _))) (by decide)]
  rw [mul_round _ _ _ _ _ (d _) hb (GF.xor_lt (GF.xor_lt (GF.xor_lt (by decide) (p _ _ ha)) (p _ _ (d _))) (p _ _ (d _))) (by decide)]
  rw [mul_round _ _ _ _ _ (d _) hb (GF.xor_lt (GF.xor_lt (GF.xor_lt (GF.xor_lt (by decide) (p _ _ ha)) (p _ _ (d _))) (p _ _ (d _))) (p _ _ (d _))) (by decide)]
  rw [mul_round _ _ _ _ _ (d _) hb (GF.xor_lt (GF.xor_lt (GF.xor_lt (GF.xor_lt (GF.xor_lt (by decide) (p _ _ ha)) (p _ _ (d _))) (p _ _ (d _))) (p _ _ (d _))) (p _ _ (d _))) (by decide)]
  rw [mul_round _ _ _ _ _ (d _) hb (GF.xor_lt (GF.xor_lt (GF.xor_lt (GF.xor_lt (GF.xor_lt (GF.xor_lt (by decide) (p _ _ ha)) (p _ _ (d _))) (p _ _ (d _))) (p _ _ (d _))) (p _ _ (d _))) (p _ _ (d _))) (by decide)]
  rw [mul_round _ _ _ _ _ (d _) hb (GF.xor_lt (GF.xor_lt (GF.xor_lt (GF.xor_lt (GF.xor_lt (GF.xor_lt (GF.xor_lt (by decide) (p _ _ ha)) (p _ _ (d _))) (p _ _ (d _))) (p _ _ (d _))) (p _ _ (d _))) (p _ _ (d _))) (p _ _ (d _))) (by decide)]
  simp only [gf_Mul.l0]
  rw [if_neg (by omega)]
  unfold GF.mul
  simp only [Nat.zero_xor, Nat.xor_assoc]
theorem Mul_ok {a b : Int} (ha : Byte a) (hb : Byte b) (k : Nat) (hk : 9 ≤ k) : gf_Mul.f k a b = some (gm a b) := by
  obtain ⟨h1, h2⟩ := ha
  obtain ⟨h3, h4⟩ := hb
  obtain ⟨n, rfl⟩ := Int.eq_ofNat_of_zero_le h1
  obtain ⟨m, rfl⟩ := Int.eq_ofNat_of_zero_le h3
  rw [Mul_nat k n m (by omega) (by omega) hk]
  simp [gm]
theorem nat_byte {a : Int} (h : Byte a) : a.toNat < 256 := by
  have := h.1
  have := h.2
  omega
theorem gm_comm {a b : Int} (ha : Byte a) (hb : Byte b) : gm a b = gm b a := by unfold gm; rw [GF.mul_comm (nat_byte ha) (nat_byte hb)]
theorem gm_assoc {a b : Int} (ha : Byte a) (hb : Byte b) (c : Int) : gm (gm a b) c = gm a (gm b c) := by
  unfold gm
  rw [Int.toNat_natCast, Int.toNat_natCast, GF.mul_assoc (nat_byte ha) (nat_byte hb)]
theorem gm_one {a : Int} (ha : Byte a) : gm a 1 = a := by
  unfold gm
  have := ha.1
  rw [show (1 : Int).toNat = 1 from rfl, GF.mul_one]
  omega
theorem one_gm {a : Int} (ha : Byte a) : gm 1 a = a := by
  rw [gm_comm (by exact ⟨by decide, by decide⟩) ha, gm_one ha]
theorem gm_xor {a b c : Int} (hb : Byte b) (hc : Byte c) : gm a (Go.bits .xor .u8 b c) = ((GF.mul a.toNat b.toNat ^^^ GF.mul a.toNat c.toNat : Nat) : Int) := by
  unfold gm
  rw [xor_byte hb hc, Int.toNat_natCast, GF.mul_xor_right]
/-- powers as the program reckons them -/
def gp : Nat → Int → Nat → Int → Int
  | 0, _, _, o => o
  | k + 1, a, n, o => if n = 0 then o else gp k (gm a a) (n / 2) (if n % 2 = 1 then gm o a else o)
theorem and_one (n : Nat) (h : n < 9223372036854775808) : Go.bits .and .i64 (n : Int) 1 = ((n % 2 : Nat) : Int) := by
  have := (bits_nat .i64 63 (by decide) (fun m h0 h1 => by rw [IntKind.wrap_i64]; omega) n 1 (by omega) (by decide)).1
  rw [show ((1 : Nat) : Int) = 1 from rfl] at this
  rw [this, Nat.and_one_is_mod]
theorem power_l0 : ∀ (j k n : Nat) (a o : Int), Byte a → Byte o → n < 2 ^ j → j ≤ 62 → j + 10 ≤ k → gf_power.l0 k a (n : Int) o = some (gp j a n o) := by
  intro j
  induction j with
  | zero =>
    intro k n a o ha ho hn hj hk
    obtain ⟨k, rfl⟩ : ∃ m, k = m + 1 := ⟨k - 1, by omega⟩
    simp only [gf_power.l0]
    rw [if_neg (by omega)]
    rfl
  | succ j ih =>
    intro k n a o ha ho hn hj hk
    obtain ⟨k, rfl⟩ : ∃ m, k = m + 1 := ⟨k - 1, by omega⟩
    have hb : n < 9223372036854775808 := Nat.lt_of_lt_of_le hn (Nat.le_trans (Nat.pow_le_pow_right (by decide) (show j + 1 ≤ 63 by omega)) (by decide))
    simp only [gf_power.l0, gp]
    by_cases h0 : n = 0
    · rw [if_neg (by omega), if_pos h0]
    · rw [if_pos (by omega), if_neg h0, and_one n hb, Mul_ok ha ha k (by omega)]
      have e : (n : Int) / 2 = ((n / 2 : Nat) : Int) := by omega
      have hn2 : n / 2 < 2 ^ j := by rw [Nat.pow_succ] at hn; omega
      by_cases h1 : n % 2 = 1
      · rw [if_neg (by omega), if_pos h1, Mul_ok ho ha k (by omega)]
        simp only [Option.bind_some]
        rw [e]
        exact ih k (n / 2) _ _ (gm_byte ha) (gm_byte ho) hn2 (by omega) (by omega)
      · rw [if_pos (by omega), if_neg h1]
        simp only [Option.bind_some]
        rw [e]
        exact ih k (n / 2) _ _ (gm_byte ha) ho hn2 (by omega) (by omega)
def gi (a : Int) : Int := ((GF.inv a.toNat : Nat) : Int)
theorem gi_byte (a : Int) : Byte (gi a) := byte_nat (GF.inv_lt _)
theorem power_inv : ∀ a : Nat, a < 256 → 0 < a → gp 8 (a : Int) 254 1 = ((GF.inv a : Nat) : Int) := by decide +kernel
theorem power_254 {a : Int} (ha : Byte a) (h : a ≠ 0) (k : Nat) (hk : 20 ≤ k) : gf_power.f k a 254 = some (gi a) := by
  unfold gf_power.f
  obtain ⟨h1, h2⟩ := ha
  obtain ⟨n, rfl⟩ := Int.eq_ofNat_of_zero_le h1
  have := power_l0 8 k 254 (n : Int) 1 ⟨h1, h2⟩ ⟨by decide, by decide⟩ (by decide) (by decide) (by omega)
  rw [show ((254 : Nat) : Int) = 254 from rfl] at this
  rw [this, power_inv n (by omega) (by omega)]
  simp [gi]
theorem Inv_zero (k : Nat) : gf_Inv.f k 0 = some (0, 10) := by unfold gf_Inv.f; rw [if_pos rfl]
theorem Inv_ok {a : Int} (ha : Byte a) (h : a ≠ 0) (k : Nat) (hk : 20 ≤ k) : gf_Inv.f k a = some (gi a, 0) := by
  unfold gf_Inv.f
  rw [if_neg h, power_254 ha h k hk]
  rfl
theorem gm_gi {a : Int} (ha : Byte a) (h : a ≠ 0) : gm a (gi a) = 1 := by
  unfold gm gi
  rw [Int.toNat_natCast, GF.mul_inv (nat_byte ha) (by have := ha.1; omega)]
  rfl
theorem alive_40 : rilllaw01_alive.f 40 = some true := by decide +kernel
theorem alive_ok (k : Nat) (hk : 40 ≤ k) : rilllaw01_alive.f k = some true := at_rounds rilllaw01_alive.mono hk alive_40
theorem gm_bits (a b c : Int) (hb : Byte b) (hc : Byte c) (ha : Byte a) : gm a (Go.bits .xor .u8 b c) = Go.bits .xor .u8 (gm a b) (gm a c) := by
  rw [gm_xor hb hc, xor_byte (gm_byte ha) (gm_byte ha)]
  unfold gm
  rw [Int.toNat_natCast, Int.toNat_natCast]
theorem GfField : rilllaw01_GfField.Pure := by
  intro a b c wa wb wc
  have ha := byte_wf wa
  have hb := byte_wf wb
  have hc := byte_wf wc
  have hx : Byte (Go.bits .xor .u8 b c) := by rw [xor_byte hb hc]; exact byte_nat (GF.xor_lt (nat_byte hb) (nat_byte hc))
  refine ⟨100, ?_⟩
  unfold rilllaw01_GfField.f
  rw [alive_ok 100 (by decide), Mul_ok ha hb _ (by decide), Mul_ok hb ha _ (by decide)]
  simp only [Option.bind_some, if_true]
  rw [if_pos (gm_comm ha hb), Mul_ok (gm_byte ha) hc _ (by decide), Mul_ok hb hc _ (by decide)]
  simp only [Option.bind_some]
  rw [Mul_ok ha (gm_byte hb) _ (by decide)]
  simp only [Option.bind_some]
  rw [if_pos (gm_assoc ha hb c), Mul_ok ha hx _ (by decide), Mul_ok ha hc _ (by decide)]
  simp only [Option.bind_some]
  rw [if_pos (gm_bits a b c hb hc ha), Mul_ok ha ⟨by decide, by decide⟩ _ (by decide)]
  simp only [Option.bind_some]
  rw [gm_one ha, rilllaw01_GfField.j0, if_neg (by simp)]
  by_cases h : a = 0
  · subst h
    rw [Inv_zero]
    simp
  · rw [Inv_ok ha h _ (by decide)]
    simp only [Option.bind_some]
    rw [if_neg h, if_pos trivial, Mul_ok ha (gi_byte a) _ (by decide), gm_gi ha h]
    rfl

end Go.Proofs.Ytdjdbddnaaenmaa.Pure
