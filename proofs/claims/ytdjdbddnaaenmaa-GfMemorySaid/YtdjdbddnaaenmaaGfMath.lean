/- The plain mathematics of the field of 256 elements, on natural numbers below 256: no program in sight. -/
set_option autoImplicit false
namespace Go.Proofs.Ytdjdbddnaaenmaa.GF

/-- twice a -/
def dbl (a : Nat) : Nat := (2 * a) % 256 ^^^ (if a < 128 then 0 else 29)
/-- x, if bit i of b is set -/
def pick (b i x : Nat) : Nat := if b.testBit i then x else 0
/-- the product -/
def mul (a b : Nat) : Nat :=
  pick b 0 a ^^^ (pick b 1 (dbl a) ^^^ (pick b 2 (dbl (dbl a)) ^^^ (pick b 3 (dbl (dbl (dbl a))) ^^^ (pick b 4 (dbl (dbl (dbl (dbl a)))) ^^^
  (pick b 5 (dbl (dbl (dbl (dbl (dbl a))))) ^^^ (pick b 6 (dbl (dbl (dbl (dbl (dbl (dbl a)))))) ^^^ pick b 7 (dbl (dbl (dbl (dbl (dbl (dbl (dbl a)))))))))))))

theorem xor_lt {a b : Nat} (ha : a < 256) (hb : b < 256) : a ^^^ b < 256 := Nat.xor_lt_two_pow (n := 8) ha hb
theorem dbl_lt (a : Nat) : dbl a < 256 := by
  unfold dbl
  refine xor_lt (by omega) ?_
  split <;> omega
theorem pick_lt {b i x : Nat} (h : x < 256) : pick b i x < 256 := by unfold pick; split <;> omega
theorem mul_lt {a b : Nat} (h : a < 256) : mul a b < 256 := by
  unfold mul
  exact xor_lt (pick_lt h) (xor_lt (pick_lt (dbl_lt _)) (xor_lt (pick_lt (dbl_lt _)) (xor_lt (pick_lt (dbl_lt _)) (xor_lt (pick_lt (dbl_lt _)) (xor_lt (pick_lt (dbl_lt _)) (xor_lt (pick_lt (dbl_lt _)) (pick_lt (dbl_lt _))))))))

theorem dbl_xor_all : ∀ a, a < 256 → ∀ b, b < 256 → dbl (a ^^^ b) = dbl a ^^^ dbl b := by decide +kernel
theorem dbl_xor {a b : Nat} (ha : a < 256) (hb : b < 256) : dbl (a ^^^ b) = dbl a ^^^ dbl b := dbl_xor_all a ha b hb
theorem dbl_zero : dbl 0 = 0 := by decide
theorem dbl_pick (b i x : Nat) : dbl (pick b i x) = pick b i (dbl x) := by unfold pick; split <;> simp [dbl_zero]
theorem pick_xor_left (b c i x : Nat) : pick (b ^^^ c) i x = pick b i x ^^^ pick c i x := by
  unfold pick
  rw [Nat.testBit_xor]
  cases b.testBit i <;> cases c.testBit i <;> simp
theorem pick_xor_right (b i x y : Nat) : pick b i (x ^^^ y) = pick b i x ^^^ pick b i y := by unfold pick; split <;> simp
theorem pick_zero (b i : Nat) : pick b i 0 = 0 := by unfold pick; split <;> rfl
theorem zero_pick (i x : Nat) : pick 0 i x = 0 := by unfold pick; simp

theorem mul_xor_right (a b c : Nat) : mul a (b ^^^ c) = mul a b ^^^ mul a c := by
  unfold mul
  simp only [pick_xor_left]
  ac_rfl
theorem mul_xor_left {a b : Nat} (ha : a < 256) (hb : b < 256) (c : Nat) : mul (a ^^^ b) c = mul a c ^^^ mul b c := by
  unfold mul
  simp only [dbl_xor ha hb, dbl_xor (dbl_lt _) (dbl_lt _), pick_xor_right]
  ac_rfl
theorem mul_zero (a : Nat) : mul a 0 = 0 := by unfold mul; simp [zero_pick]
theorem zero_mul (a : Nat) : mul 0 a = 0 := by unfold mul; simp [dbl_zero, pick_zero]
theorem mul_pick_right (a b i x : Nat) : mul a (pick b i x) = pick b i (mul a x) := by unfold pick; split <;> simp [mul_zero]
theorem mul_pick_left (a b i x : Nat) : mul (pick b i x) a = pick b i (mul x a) := by unfold pick; split <;> simp [zero_mul]
theorem dbl_mul {a : Nat} (h : a < 256) (b : Nat) : mul (dbl a) b = dbl (mul a b) := by
  unfold mul
  rw [dbl_xor (pick_lt h) (xor_lt (pick_lt (dbl_lt _)) (xor_lt (pick_lt (dbl_lt _)) (xor_lt (pick_lt (dbl_lt _)) (xor_lt (pick_lt (dbl_lt _)) (xor_lt (pick_lt (dbl_lt _)) (xor_lt (pick_lt (dbl_lt _)) (pick_lt (dbl_lt _)))))))),
    dbl_xor (pick_lt (dbl_lt _)) (xor_lt (pick_lt (dbl_lt _)) (xor_lt (pick_lt (dbl_lt _)) (xor_lt (pick_lt (dbl_lt _)) (xor_lt (pick_lt (dbl_lt _)) (xor_lt (pick_lt (dbl_lt _)) (pick_lt (dbl_lt _))))))),
    dbl_xor (pick_lt (dbl_lt _)) (xor_lt (pick_lt (dbl_lt _)) (xor_lt (pick_lt (dbl_lt _)) (xor_lt (pick_lt (dbl_lt _)) (xor_lt (pick_lt (dbl_lt _)) (pick_lt (dbl_lt _)))))),
    dbl_xor (pick_lt (dbl_lt _)) (xor_lt (pick_lt (dbl_lt _)) (xor_lt (pick_lt (dbl_lt _)) (xor_lt (pick_lt (dbl_lt _)) (pick_lt (dbl_lt _))))),
    dbl_xor (pick_lt (dbl_lt _)) (xor_lt (pick_lt (dbl_lt _)) (xor_lt (pick_lt (dbl_lt _)) (pick_lt (dbl_lt _)))),
    dbl_xor (pick_lt (dbl_lt _)) (xor_lt (pick_lt (dbl_lt _)) (pick_lt (dbl_lt _))),
    dbl_xor (pick_lt (dbl_lt _)) (pick_lt (dbl_lt _))]
  simp only [dbl_pick]
theorem one_mul_all : ∀ b, b < 256 → mul 1 b = b := by decide +kernel
theorem mul_one (a : Nat) : mul a 1 = a := by
  unfold mul
  have h : ∀ i x, i ≠ 0 → pick 1 i x = 0 := by
    intro i x hi
    unfold pick
    rw [if_neg]
    simp [Nat.testBit_one_eq_true_iff_self_eq_zero]
    exact hi
  rw [h 1 _ (by decide), h 2 _ (by decide), h 3 _ (by decide), h 4 _ (by decide), h 5 _ (by decide), h 6 _ (by decide), h 7 _ (by decide)]
  simp [pick]
theorem parts_all : ∀ a, a < 256 → a = mul 1 a := by decide +kernel

/-- mul 1 a, opened -/
theorem mul_one_left_eq (a : Nat) : mul 1 a = pick a 0 1 ^^^ (pick a 1 2 ^^^ (pick a 2 4 ^^^ (pick a 3 8 ^^^ (pick a 4 16 ^^^ (pick a 5 32 ^^^ (pick a 6 64 ^^^ pick a 7 128)))))) := by
  have h : dbl 1 = 2 ∧ dbl 2 = 4 ∧ dbl 4 = 8 ∧ dbl 8 = 16 ∧ dbl 16 = 32 ∧ dbl 32 = 64 ∧ dbl 64 = 128 := by decide
  unfold mul
  simp only [h]
theorem mul_two {b : Nat} (hb : b < 256) : mul 2 b = dbl b := by
  have := dbl_mul (a := 1) (by decide) b
  rw [one_mul_all b hb] at this
  exact this
theorem mul_comm {a b : Nat} (ha : a < 256) (hb : b < 256) : mul a b = mul b a := by
  have h1 : mul 1 b = b := one_mul_all b hb
  have h2 : mul 2 b = dbl b := mul_two hb
  have h3 : mul 4 b = dbl (dbl b) := by have := dbl_mul (a := 2) (by decide) b; rw [h2] at this; exact this
  have h4 : mul 8 b = dbl (dbl (dbl b)) := by have := dbl_mul (a := 4) (by decide) b; rw [h3] at this; exact this
  have h5 : mul 16 b = dbl (dbl (dbl (dbl b))) := by have := dbl_mul (a := 8) (by decide) b; rw [h4] at this; exact this
  have h6 : mul 32 b = dbl (dbl (dbl (dbl (dbl b)))) := by have := dbl_mul (a := 16) (by decide) b; rw [h5] at this; exact this
  have h7 : mul 64 b = dbl (dbl (dbl (dbl (dbl (dbl b))))) := by have := dbl_mul (a := 32) (by decide) b; rw [h6] at this; exact this
  have h8 : mul 128 b = dbl (dbl (dbl (dbl (dbl (dbl (dbl b)))))) := by have := dbl_mul (a := 64) (by decide) b; rw [h7] at this; exact this
  have p : ∀ {i x : Nat}, x < 256 → pick a i x < 256 := fun h => pick_lt h
  calc mul a b = mul (mul 1 a) b := by rw [← parts_all a ha]
    _ = mul b a := by
      rw [mul_one_left_eq,
        mul_xor_left (p (by decide)) (xor_lt (p (by decide)) (xor_lt (p (by decide)) (xor_lt (p (by decide)) (xor_lt (p (by decide)) (xor_lt (p (by decide)) (xor_lt (p (by decide)) (p (by decide)))))))),
        mul_xor_left (p (by decide)) (xor_lt (p (by decide)) (xor_lt (p (by decide)) (xor_lt (p (by decide)) (xor_lt (p (by decide)) (xor_lt (p (by decide)) (p (by decide))))))),
        mul_xor_left (p (by decide)) (xor_lt (p (by decide)) (xor_lt (p (by decide)) (xor_lt (p (by decide)) (xor_lt (p (by decide)) (p (by decide)))))),
        mul_xor_left (p (by decide)) (xor_lt (p (by decide)) (xor_lt (p (by decide)) (xor_lt (p (by decide)) (p (by decide))))),
        mul_xor_left (p (by decide)) (xor_lt (p (by decide)) (xor_lt (p (by decide)) (p (by decide)))),
        mul_xor_left (p (by decide)) (xor_lt (p (by decide)) (p (by decide))),
        mul_xor_left (p (by decide)) (p (by decide))]
      simp only [mul_pick_left, h1, h2, h3, h4, h5, h6, h7, h8]
      rfl
theorem mul_dbl {a b : Nat} (ha : a < 256) (hb : b < 256) : mul a (dbl b) = dbl (mul a b) := by
  rw [mul_comm ha (dbl_lt b), dbl_mul hb, mul_comm ha hb]
theorem mul_assoc {a b : Nat} (ha : a < 256) (hb : b < 256) (c : Nat) : mul (mul a b) c = mul a (mul b c) := by
  have e0 : mul a (dbl b) = dbl (mul a b) := mul_dbl ha hb
  have e1 : ∀ x, mul a (dbl (dbl x)) = dbl (mul a (dbl x)) := fun x => mul_dbl ha (dbl_lt x)
  have hm : mul b c = pick c 0 b ^^^ (pick c 1 (dbl b) ^^^ (pick c 2 (dbl (dbl b)) ^^^ (pick c 3 (dbl (dbl (dbl b))) ^^^ (pick c 4 (dbl (dbl (dbl (dbl b)))) ^^^
    (pick c 5 (dbl (dbl (dbl (dbl (dbl b))))) ^^^ (pick c 6 (dbl (dbl (dbl (dbl (dbl (dbl b)))))) ^^^ pick c 7 (dbl (dbl (dbl (dbl (dbl (dbl (dbl b))))))))))))) := rfl
  rw [hm]
  simp only [mul_xor_right, mul_pick_right, e1, e0]
  rfl

/-- 2 to the power n -/
def pw : Nat → Nat
  | 0 => 1
  | n + 1 => dbl (pw n)
theorem pw_lt (n : Nat) : pw n < 256 := by cases n with
  | zero => decide
  | succ n => exact dbl_lt _
theorem pw_add (n m : Nat) : mul (pw n) (pw m) = pw (n + m) := by
  induction n with
  | zero => rw [Nat.zero_add]; exact one_mul_all _ (pw_lt m)
  | succ n ih => rw [Nat.succ_add]; show mul (dbl (pw n)) (pw m) = dbl (pw (n + m)); rw [dbl_mul (pw_lt n), ih]
theorem pw_255 : pw 255 = 1 := by decide +kernel
theorem pw_period (n : Nat) : pw (n + 255) = pw n := by rw [← pw_add, pw_255, mul_one]
theorem pw_mod (n : Nat) : pw (n % 255) = pw n := by
  have h : ∀ q r, pw (r + 255 * q) = pw r := by
    intro q r
    induction q with
    | zero => rfl
    | succ q ih => rw [Nat.mul_succ, ← Nat.add_assoc, pw_period, ih]
  have := h (n / 255) (n % 255)
  rw [Nat.mod_add_div] at this
  exact this.symm
/-- at which power a stands, searched from the power n on, whose value is v -/
def lgGo : Nat → Nat → Nat → Nat → Nat
  | 0, n, _, _ => n
  | k + 1, n, v, a => if v = a then n else lgGo k (n + 1) (dbl v) a
def lg (a : Nat) : Nat := lgGo 255 0 1 a
theorem lg_pw_all : ∀ n, n < 255 → lg (pw n) = n := by decide +kernel
theorem pw_inj {n m : Nat} (hn : n < 255) (hm : m < 255) (h : pw n = pw m) : n = m := by rw [← lg_pw_all n hn, ← lg_pw_all m hm, h]
theorem pw_lg_all : ∀ a, a < 256 → 0 < a → pw (lg a) = a ∧ lg a < 255 := by decide +kernel
theorem pw_pos (n : Nat) : 0 < pw n := by
  have h : ∀ m, m < 255 → 0 < pw m := by decide +kernel
  rw [← pw_mod]
  exact h _ (Nat.mod_lt _ (by decide))
/-- 1 by a -/
def inv (a : Nat) : Nat := if a = 0 then 0 else pw ((255 - lg a) % 255)
theorem inv_lt (a : Nat) : inv a < 256 := by unfold inv; split; decide; exact pw_lt _
theorem mul_inv {a : Nat} (ha : a < 256) (h : 0 < a) : mul a (inv a) = 1 := by
  obtain ⟨h1, h2⟩ := pw_lg_all a ha h
  unfold inv
  rw [if_neg (by omega), pw_mod]
  have : mul (pw (lg a)) (pw (255 - lg a)) = 1 := by rw [pw_add, show lg a + (255 - lg a) = 255 from by omega, pw_255]
  rw [h1] at this
  exact this
theorem inv_unique {a x y : Nat} (ha : a < 256) (hx : x < 256) (hy : y < 256) (h1 : mul a x = 1) (h2 : mul a y = 1) : x = y := by
  have e : mul (mul x a) y = mul x (mul a y) := mul_assoc hx ha y
  rw [mul_comm hx ha, h1, h2, mul_one, one_mul_all y hy] at e
  exact e.symm
theorem inv_pos {a : Nat} (h : 0 < a) : 0 < inv a := by unfold inv; rw [if_neg (by omega)]; exact pw_pos _
theorem mul_pos {a b : Nat} (ha : a < 256) (hb : b < 256) (h1 : 0 < a) (h2 : 0 < b) : 0 < mul a b := by
  obtain ⟨e1, _⟩ := pw_lg_all a ha h1
  obtain ⟨e2, _⟩ := pw_lg_all b hb h2
  rw [← e1, ← e2, pw_add]
  exact pw_pos _
theorem inv_inv {a : Nat} (ha : a < 256) (h : 0 < a) : inv (inv a) = a :=
  inv_unique (inv_lt a) (inv_lt _) ha (mul_inv (inv_lt a) (inv_pos h)) (by rw [mul_comm (inv_lt a) ha]; exact mul_inv ha h)
theorem mul_cancel {a x y : Nat} (ha : a < 256) (h : 0 < a) (hx : x < 256) (hy : y < 256) (e : mul a x = mul a y) : x = y := by
  have h1 := mul_assoc (inv_lt a) ha x
  have h2 := mul_assoc (inv_lt a) ha y
  rw [e, ← h2, mul_comm (inv_lt a) ha, mul_inv ha h, one_mul_all _ hx, one_mul_all _ hy] at h1
  exact h1
theorem inv_mul {a b : Nat} (ha : a < 256) (hb : b < 256) (h1 : 0 < a) (h2 : 0 < b) : inv (mul a b) = mul (inv a) (inv b) := by
  refine inv_unique (mul_lt ha) (inv_lt _) (mul_lt (inv_lt _)) (mul_inv (mul_lt ha) (mul_pos ha hb h1 h2)) ?_
  rw [mul_assoc ha hb, ← mul_assoc hb (inv_lt a), mul_comm hb (inv_lt a), mul_assoc (inv_lt a) hb, mul_inv hb h2, mul_one, mul_inv ha h1]
theorem lg_mul {a b : Nat} (ha : a < 256) (hb : b < 256) (h1 : 0 < a) (h2 : 0 < b) : lg (mul a b) = (lg a + lg b) % 255 := by
  obtain ⟨e1, l1⟩ := pw_lg_all a ha h1
  obtain ⟨e2, l2⟩ := pw_lg_all b hb h2
  have h := pw_add (lg a) (lg b)
  rw [e1, e2, ← pw_mod] at h
  rw [h, lg_pw_all _ (Nat.mod_lt _ (by decide))]
end Go.Proofs.Ytdjdbddnaaenmaa.GF
