-- printed by a program of this session (ownprint.py), out of the translation; Lean checks it
import Derived.Test.YtddabfokgecnoaaMFrameCutx0
import Derived.Test.YtddabfokgecnoaaMFrameCutx1
namespace Go.Proofs.Ytddabfokgecnoaa.MFrameCut
open Go.RowKit Go.Proofs.YtddabfokgecnoaaW.PrintWords Go.Proofs.YtddabfokgecnoaaW.PrintLast Go.Proofs.YtddabfokgecnoaaW.PrintMore
attribute [local go_sem] max2_int min2_int max_two min_two max_three min_three max_four min_four   -- for this text's walks alone
set_option linter.unusedVariables false
set_option linter.unusedSimpArgs false

/-! ### frame_Next: function 18 -/
def frame_Next.f (k : Nat) (l0 : List Int) : Option (List Int × Int × Int) := if (l0.length : Int) = 0 then (some (([] : List Int), 0, 0)) else (if 0 < (l0.length : Int) then (if (rd l0 0) = 90 then (if (l0.length : Int) < 4 then (some (([] : List Int), 0, 0)) else (if 1 < (l0.length : Int) then (if 2 < (l0.length : Int) then (if 3 < (l0.length : Int) then (if (Go.bits .or .i64 (Go.bits .or .i64 (wrap64 ((wrap64 (rd l0 1)) * 65536)) (wrap64 ((wrap64 (rd l0 2)) * 256))) (wrap64 (rd l0 3))) > 32768 then (some (([] : List Int), 0, 70)) else (if (l0.length : Int) < (wrap64 ((wrap64 (4 + (Go.bits .or .i64 (Go.bits .or .i64 (wrap64 ((wrap64 (rd l0 1)) * 65536)) (wrap64 ((wrap64 (rd l0 2)) * 256))) (wrap64 (rd l0 3))))) + 4)) then (some (([] : List Int), 0, 0)) else (if 0 ≤ (wrap64 (4 + (Go.bits .or .i64 (Go.bits .or .i64 (wrap64 ((wrap64 (rd l0 1)) * 65536)) (wrap64 ((wrap64 (rd l0 2)) * 256))) (wrap64 (rd l0 3))))) then (if (wrap64 (4 + (Go.bits .or .i64 (Go.bits .or .i64 (wrap64 ((wrap64 (rd l0 1)) * 65536)) (wrap64 ((wrap64 (rd l0 2)) * 256))) (wrap64 (rd l0 3))))) ≤ (wrap64 ((wrap64 (4 + (Go.bits .or .i64 (Go.bits .or .i64 (wrap64 ((wrap64 (rd l0 1)) * 65536)) (wrap64 ((wrap64 (rd l0 2)) * 256))) (wrap64 (rd l0 3))))) + 4)) then (if (wrap64 ((wrap64 (4 + (Go.bits .or .i64 (Go.bits .or .i64 (wrap64 ((wrap64 (rd l0 1)) * 65536)) (wrap64 ((wrap64 (rd l0 2)) * 256))) (wrap64 (rd l0 3))))) + 4)) ≤ (l0.length : Int) then (if (wrap64 (4 + (Go.bits .or .i64 (Go.bits .or .i64 (wrap64 ((wrap64 (rd l0 1)) * 65536)) (wrap64 ((wrap64 (rd l0 2)) * 256))) (wrap64 (rd l0 3))))) ≤ (l0.length : Int) then ((frame_Check.f k (([(l0.take ((wrap64 (4 + (Go.bits .or .i64 (Go.bits .or .i64 (wrap64 ((wrap64 (rd l0 1)) * 65536)) (wrap64 ((wrap64 (rd l0 2)) * 256))) (wrap64 (rd l0 3))))) : Int).toNat)] : List (List Int)))).bind fun t133 => ((frame_big.f t133).bind fun t134 => ((slices_Equal_byte_byte.f k ((l0.take ((wrap64 ((wrap64 (4 + (Go.bits .or .i64 (Go.bits .or .i64 (wrap64 ((wrap64 (rd l0 1)) * 65536)) (wrap64 ((wrap64 (rd l0 2)) * 256))) (wrap64 (rd l0 3))))) + 4)) : Int).toNat).drop ((wrap64 (4 + (Go.bits .or .i64 (Go.bits .or .i64 (wrap64 ((wrap64 (rd l0 1)) * 65536)) (wrap64 ((wrap64 (rd l0 2)) * 256))) (wrap64 (rd l0 3))))) : Int).toNat) t134).bind fun t137 => (if t137 = true then (if 4 ≤ (wrap64 (4 + (Go.bits .or .i64 (Go.bits .or .i64 (wrap64 ((wrap64 (rd l0 1)) * 65536)) (wrap64 ((wrap64 (rd l0 2)) * 256))) (wrap64 (rd l0 3))))) then ((slices_Clone_byte_byte.f ((l0.take ((wrap64 (4 + (Go.bits .or .i64 (Go.bits .or .i64 (wrap64 ((wrap64 (rd l0 1)) * 65536)) (wrap64 ((wrap64 (rd l0 2)) * 256))) (wrap64 (rd l0 3))))) : Int).toNat).drop 4)).bind fun t143 => (some (t143, wrap64 ((wrap64 (4 + (Go.bits .or .i64 (Go.bits .or .i64 (wrap64 ((wrap64 (rd l0 1)) * 65536)) (wrap64 ((wrap64 (rd l0 2)) * 256))) (wrap64 (rd l0 3))))) + 4), 0))) else (none)) else (some (([] : List Int), 0, 70)))))) else (none)) else (none)) else (none)) else (none)))) else (none)) else (none)) else (none))) else (some (([] : List Int), 0, 70))) else (none))
theorem frame_Next.mono : ∀ a0 k, LeO (frame_Next.f k a0) (frame_Next.f (k + 1) a0) := by
  intro a0 k
  unfold frame_Next.f
  repeat' first
      | (with_reducible exact frame_Check.mono _ _)
      | (with_reducible exact slices_Equal_byte_byte.mono _ _ _)
      | (with_reducible exact LeO.refl _)
      | (with_reducible exact LeO.none _)
      | (with_reducible refine LeO.ite ?_ ?_)
      | (with_reducible refine LeO.bind ?_ (fun _ => ?_))
      | exact frame_Check.mono _ _
      | exact slices_Equal_byte_byte.mono _ _ _
      | exact LeO.none _
      | refine LeO.ite ?_ ?_
      | refine LeO.bind ?_ (fun _ => ?_)
def frame_Next.T7 : Bool × List (List Nat × List Nat) := (true, [([], []), ([0], [0]), ([1], [1]), ([2], [2]), ([3], [3]), ([], []), ([5], [5]), ([6], [6]), ([7], [7]), ([8], [8]), ([4, 9], [4, 9]), ([], []), ([11], [11]), ([12], [12]), ([13], [13]), ([10, 14], [10, 14]), ([15, 0, 1, 2, 3, 4, 5, 6, 7, 8, 9, 10, 11, 12, 13, 14, 15], [15])])
def frame_Next.B7 : List Nat := [0, 1, 3, 7, 15, 0, 32, 96, 224, 480, 1023, 0, 2048, 6144, 14336, 32767, 65535]
theorem frame_Next.tab7 : rtab .any (opsOf Try.f18 7) = frame_Next.T7 := by kernel_rfl
theorem frame_Next.bits7 : waitsOk frame_Next.T7.2 frame_Next.B7 = true := by kernel_rfl
def frame_Next.T13 : Bool × List (List Nat × List Nat) := (true, [([], []), ([], []), ([], []), ([2], [2]), ([0, 1, 3], [0, 1, 3]), ([], []), ([], []), ([5, 6], [5, 6]), ([7], [7]), ([8], [8]), ([9, 9], [9]), ([4, 10, 10], [4, 10]), ([11], [11]), ([12, 11], [12])])
def frame_Next.B13 : List Nat := [0, 0, 0, 4, 15, 0, 0, 96, 224, 480, 992, 2047, 4095, 8191]
theorem frame_Next.tab13 : rtab .any (opsOf Try.f18 13) = frame_Next.T13 := by kernel_rfl
theorem frame_Next.bits13 : waitsOk frame_Next.T13.2 frame_Next.B13 = true := by kernel_rfl
set_option maxHeartbeats 8000000 in
set_option maxRecDepth 100000 in
theorem frame_Next.callsV (k : Nat) (P0_ : Nat → Prop) (A0 : Option Addr) (c0 : Nat) (l0 : List Int) (r1 : List Int) (r2 : Int) (r3 : Int) (w : World) (hs0 : Kd.V (Kd.int .u8) 5 w w.heap.size (fun k_ => P0_ k_) (.slice A0 l0.length c0) l0) (h : frame_Next.f k l0 = some (r1, r2, r3)) :
    Calls Try.prog 18 #[.slice A0 l0.length c0] w fun e w' => ∃ v0_ : Value, e = .returned (.tuple #[v0_, .int .i64 r2, .int .i64 r3]) ∧ Kd.R (Kd.int .u8) 5 w' w.heap.size (fun k_ => (w.heap.size ≤ k_)) v0_ r1 ∧ Below w.heap.size w w' := by
  have HO0 := Aside0.mk (show Kd.V (Kd.int .u8) 5 w w.heap.size (fun k_ => (P0_ k_ ∨ w.heap.size ≤ k_)) (.slice A0 l0.length c0) l0 from Kd.V_mono hs0 (fun k_ hk => .inl hk))
  have HB := Aside0.mk (Below.refl w.heap.size w)
  have H : (if (l0.length : Int) = 0 then (some (([] : List Int), 0, 0)) else (if 0 < (l0.length : Int) then (if (rd l0 0) = 90 then (if (l0.length : Int) < 4 then (some (([] : List Int), 0, 0)) else (if 1 < (l0.length : Int) then (if 2 < (l0.length : Int) then (if 3 < (l0.length : Int) then (if (Go.bits .or .i64 (Go.bits .or .i64 (wrap64 ((wrap64 (rd l0 1)) * 65536)) (wrap64 ((wrap64 (rd l0 2)) * 256))) (wrap64 (rd l0 3))) > 32768 then (some (([] : List Int), 0, 70)) else (if (l0.length : Int) < (wrap64 ((wrap64 (4 + (Go.bits .or .i64 (Go.bits .or .i64 (wrap64 ((wrap64 (rd l0 1)) * 65536)) (wrap64 ((wrap64 (rd l0 2)) * 256))) (wrap64 (rd l0 3))))) + 4)) then (some (([] : List Int), 0, 0)) else (if 0 ≤ (wrap64 (4 + (Go.bits .or .i64 (Go.bits .or .i64 (wrap64 ((wrap64 (rd l0 1)) * 65536)) (wrap64 ((wrap64 (rd l0 2)) * 256))) (wrap64 (rd l0 3))))) then (if (wrap64 (4 + (Go.bits .or .i64 (Go.bits .or .i64 (wrap64 ((wrap64 (rd l0 1)) * 65536)) (wrap64 ((wrap64 (rd l0 2)) * 256))) (wrap64 (rd l0 3))))) ≤ (wrap64 ((wrap64 (4 + (Go.bits .or .i64 (Go.bits .or .i64 (wrap64 ((wrap64 (rd l0 1)) * 65536)) (wrap64 ((wrap64 (rd l0 2)) * 256))) (wrap64 (rd l0 3))))) + 4)) then (if (wrap64 ((wrap64 (4 + (Go.bits .or .i64 (Go.bits .or .i64 (wrap64 ((wrap64 (rd l0 1)) * 65536)) (wrap64 ((wrap64 (rd l0 2)) * 256))) (wrap64 (rd l0 3))))) + 4)) ≤ (l0.length : Int) then (if (wrap64 (4 + (Go.bits .or .i64 (Go.bits .or .i64 (wrap64 ((wrap64 (rd l0 1)) * 65536)) (wrap64 ((wrap64 (rd l0 2)) * 256))) (wrap64 (rd l0 3))))) ≤ (l0.length : Int) then ((frame_Check.f k (([(l0.take ((wrap64 (4 + (Go.bits .or .i64 (Go.bits .or .i64 (wrap64 ((wrap64 (rd l0 1)) * 65536)) (wrap64 ((wrap64 (rd l0 2)) * 256))) (wrap64 (rd l0 3))))) : Int).toNat)] : List (List Int)))).bind fun t133 => ((frame_big.f t133).bind fun t134 => ((slices_Equal_byte_byte.f k ((l0.take ((wrap64 ((wrap64 (4 + (Go.bits .or .i64 (Go.bits .or .i64 (wrap64 ((wrap64 (rd l0 1)) * 65536)) (wrap64 ((wrap64 (rd l0 2)) * 256))) (wrap64 (rd l0 3))))) + 4)) : Int).toNat).drop ((wrap64 (4 + (Go.bits .or .i64 (Go.bits .or .i64 (wrap64 ((wrap64 (rd l0 1)) * 65536)) (wrap64 ((wrap64 (rd l0 2)) * 256))) (wrap64 (rd l0 3))))) : Int).toNat) t134).bind fun t137 => (if t137 = true then (if 4 ≤ (wrap64 (4 + (Go.bits .or .i64 (Go.bits .or .i64 (wrap64 ((wrap64 (rd l0 1)) * 65536)) (wrap64 ((wrap64 (rd l0 2)) * 256))) (wrap64 (rd l0 3))))) then ((slices_Clone_byte_byte.f ((l0.take ((wrap64 (4 + (Go.bits .or .i64 (Go.bits .or .i64 (wrap64 ((wrap64 (rd l0 1)) * 65536)) (wrap64 ((wrap64 (rd l0 2)) * 256))) (wrap64 (rd l0 3))))) : Int).toNat).drop 4)).bind fun t143 => (some (t143, wrap64 ((wrap64 (4 + (Go.bits .or .i64 (Go.bits .or .i64 (wrap64 ((wrap64 (rd l0 1)) * 65536)) (wrap64 ((wrap64 (rd l0 2)) * 256))) (wrap64 (rd l0 3))))) + 4), 0))) else (none)) else (some (([] : List Int), 0, 70)))))) else (none)) else (none)) else (none)) else (none)))) else (none)) else (none)) else (none))) else (some (([] : List Int), 0, 70))) else (none))) = some (r1, r2, r3) := h
  clear h
  by_cases c2 : (l0.length : Int) = 0
  · rw [if_pos c2] at H
    have c2b0 : ((l0.length : Int) == 0) = true := beq_iff_eq.mpr c2
    have c2b1 : ((l0.length : Int) != 0) = false := bne_eq_false_iff_eq.mpr c2
    clear c2
    simp only [Option.some.injEq, Prod.mk.injEq] at H
    obtain ⟨rfl, rfl, rfl⟩ := H
    go_enter Try.func18, Try.ntmps18
    go_wp2
    go_ret3
    exact ⟨_, by first | rfl | (simp [errW_none, errW_some] <;> rfl) | (simp [*, errW_none, errW_some] <;> rfl), by first | exact Kd.R_nil _ _ _ _ _ | exact Kd.N_nil _ _ _ _ _ | exact Kd.V_nil _ _ _ _ _ | exact Kd.Q_nil _ _ _ _ _ | exact Kd.S_nil _ _ _ _ _, by repeat (first | (with_reducible first | exact HB.out | apply below_alloc | apply pw_below_drewN | apply below_drew1) | exact HB.out)⟩
  · rw [if_neg c2] at H
    have c2b0 : ((l0.length : Int) == 0) = false := beq_eq_false_iff_ne.mpr c2
    have c2b1 : ((l0.length : Int) != 0) = true := bne_iff_ne.mpr c2
    have c2b2 : ¬ (l0 = []) := fun h_ => c2 (by rw [h_]; rfl)
    by_cases c3 : 0 < (l0.length : Int)
    · rw [if_pos c3] at H
      have c3b0 : decide (0 < (l0.length : Int)) = true := decide_eq_true c3
      have c3b1 : decide (0 < l0.length) = true := decide_eq_true (by omega)
      clear c3
      by_cases c4 : (rd l0 0) = 90
      · rw [if_pos c4] at H
        have c4b0 : ((rd l0 0) == 90) = true := beq_iff_eq.mpr c4
        have c4b1 : ((rd l0 0) != 90) = false := bne_eq_false_iff_eq.mpr c4
        clear c4
        by_cases c5 : (l0.length : Int) < 4
        · rw [if_pos c5] at H
          have c5b0 : decide ((l0.length : Int) < 4) = true := decide_eq_true c5
          have c5b1 : decide (l0.length < 4) = true := decide_eq_true (by omega)
          clear c5
          simp only [Option.some.injEq, Prod.mk.injEq] at H
          obtain ⟨rfl, rfl, rfl⟩ := H
          have p116 : 0 ≤ (0 : Int) := (by omega)
          have q116 : 0 < (l0.length : Int) := of_decide_eq_true (by first | (with_reducible assumption) | assumption)
          obtain ⟨ad116, e116, hx116_0⟩ := Kd.at_int (Kd.V_reads' HO0.out).2.2 0 p116 q116
          cases e116
          have qi116 : (0 < l0.length) = True := eq_true (by omega)
          (try rw [show ((0 : Int)).toNat = 0 from rfl] at hx116_0)
          (try rw [Addr.add_zero'] at hx116_0)
          replace p116 := eq_true p116
          replace q116 := eq_true q116
          go_enter Try.func18, Try.ntmps18
          go_wp2
          go_ret3
          exact ⟨_, by first | rfl | (simp [errW_none, errW_some] <;> rfl) | (simp [*, errW_none, errW_some] <;> rfl), by first | exact Kd.R_nil _ _ _ _ _ | exact Kd.N_nil _ _ _ _ _ | exact Kd.V_nil _ _ _ _ _ | exact Kd.Q_nil _ _ _ _ _ | exact Kd.S_nil _ _ _ _ _, by repeat (first | (with_reducible first | exact HB.out | apply below_alloc | apply pw_below_drewN | apply below_drew1) | exact HB.out)⟩
        · rw [if_neg c5] at H
          have c5b0 : decide ((l0.length : Int) < 4) = false := decide_eq_false c5
          have c5b1 : decide (l0.length < 4) = false := decide_eq_false (by omega)
          clear c5
          by_cases c6 : 1 < (l0.length : Int)
          · rw [if_pos c6] at H
            have c6b0 : decide (1 < (l0.length : Int)) = true := decide_eq_true c6
            have c6b1 : decide (1 < l0.length) = true := decide_eq_true (by omega)
            clear c6
            by_cases c7 : 2 < (l0.length : Int)
            · rw [if_pos c7] at H
              have c7b0 : decide (2 < (l0.length : Int)) = true := decide_eq_true c7
              have c7b1 : decide (2 < l0.length) = true := decide_eq_true (by omega)
              clear c7
              by_cases c8 : 3 < (l0.length : Int)
              · rw [if_pos c8] at H
                have c8b0 : decide (3 < (l0.length : Int)) = true := decide_eq_true c8
                have c8b1 : decide (3 < l0.length) = true := decide_eq_true (by omega)
                clear c8
                by_cases c9 : (Go.bits .or .i64 (Go.bits .or .i64 (wrap64 ((wrap64 (rd l0 1)) * 65536)) (wrap64 ((wrap64 (rd l0 2)) * 256))) (wrap64 (rd l0 3))) > 32768
                · rw [if_pos c9] at H
                  have c9b0 : decide (32768 < (Go.bits .or .i64 (Go.bits .or .i64 (wrap64 ((wrap64 (rd l0 1)) * 65536)) (wrap64 ((wrap64 (rd l0 2)) * 256))) (wrap64 (rd l0 3)))) = true := decide_eq_true c9
                  clear c9
                  simp only [Option.some.injEq, Prod.mk.injEq] at H
                  obtain ⟨rfl, rfl, rfl⟩ := H
                  have p116 : 0 ≤ (0 : Int) := (by omega)
                  have q116 : 0 < (l0.length : Int) := of_decide_eq_true (by first | (with_reducible assumption) | assumption)
                  obtain ⟨ad116, e116, hx116_0⟩ := Kd.at_int (Kd.V_reads' HO0.out).2.2 0 p116 q116
                  cases e116
                  have qi116 : (0 < l0.length) = True := eq_true (by omega)
                  (try rw [show ((0 : Int)).toNat = 0 from rfl] at hx116_0)
                  (try rw [Addr.add_zero'] at hx116_0)
                  replace p116 := eq_true p116
                  replace q116 := eq_true q116
                  go_enter Try.func18, Try.ntmps18
                  try go_wp2
                  have n0_ := Aside0.mk (Kd.V_drew HO0.out)
                  have n1_ := Aside0.mk (below_drew1 HB.out)
                  clear HO0
                  clear HB
                  have HO0 := n0_
                  have HB := n1_
                  clear n0_ n1_
                  have p117 : 0 ≤ (1 : Int) := (by omega)
                  have q117 : 1 < (l0.length : Int) := of_decide_eq_true (by first | (with_reducible assumption) | assumption)
                  obtain ⟨ad117, e117, hx117_0⟩ := Kd.at_int (Kd.V_reads' HO0.out).2.2 1 p117 q117
                  obtain rfl : ad116 = ad117 := (by injection e117)
                  (try simp only [show (1 : Int).toNat = 1 from rfl, Nat.reduceMul, Nat.reduceEqDiff, Go.Addr.add, ↓reduceIte] at hx117_0)
                  have qi117 : (1 < l0.length) = True := eq_true (by omega)
                  (try rw [show ((1 : Int)).toNat = 1 from rfl] at hx117_0)
                  replace p117 := eq_true p117
                  replace q117 := eq_true q117
                  have p118 : 0 ≤ (2 : Int) := (by omega)
                  have q118 : 2 < (l0.length : Int) := of_decide_eq_true (by first | (with_reducible assumption) | assumption)
                  obtain ⟨ad118, e118, hx118_0⟩ := Kd.at_int (Kd.V_reads' HO0.out).2.2 2 p118 q118
                  obtain rfl : ad116 = ad118 := (by injection e118)
                  (try simp only [show (2 : Int).toNat = 2 from rfl, Nat.reduceMul, Nat.reduceEqDiff, Go.Addr.add, ↓reduceIte] at hx118_0)
                  have qi118 : (2 < l0.length) = True := eq_true (by omega)
                  (try rw [show ((2 : Int)).toNat = 2 from rfl] at hx118_0)
                  replace p118 := eq_true p118
                  replace q118 := eq_true q118
                  have p119 : 0 ≤ (3 : Int) := (by omega)
                  have q119 : 3 < (l0.length : Int) := of_decide_eq_true (by first | (with_reducible assumption) | assumption)
                  obtain ⟨ad119, e119, hx119_0⟩ := Kd.at_int (Kd.V_reads' HO0.out).2.2 3 p119 q119
                  obtain rfl : ad116 = ad119 := (by injection e119)
                  (try simp only [show (3 : Int).toNat = 3 from rfl, Nat.reduceMul, Nat.reduceEqDiff, Go.Addr.add, ↓reduceIte] at hx119_0)
                  have qi119 : (3 < l0.length) = True := eq_true (by omega)
                  (try rw [show ((3 : Int)).toNat = 3 from rfl] at hx119_0)
                  replace p119 := eq_true p119
                  replace q119 := eq_true q119
                  refine start_ (n := 17) (S := fun w' => w'.cell? ⟨ad116.block, ad116.off + 1, none⟩ = some (.int .u8 (rd l0 1)) ∧ w'.cell? ⟨ad116.block, ad116.off + 2, none⟩ = some (.int .u8 (rd l0 2)) ∧ w'.cell? ⟨ad116.block, ad116.off + 3, none⟩ = some (.int .u8 (rd l0 3))) (ds := []) #[false, false, false, false, false, false, false, false, false, false, false, false, false, false, false, false, false] (by kernel_rfl) rfl rfl ⟨hx117_0, hx118_0, hx119_0⟩ (fun hHeld => ?_); refine with_tabW frame_Next.tab7 frame_Next.bits7 (fun HT_ HW_ => ?_)
                  generalize w.drew = w10 at HO0 HB hx117_0 hx118_0 hx119_0 hHeld ⊢
                  refine pure_ (i := 0) (N := some 20) (v := ?_) (a' := ?_) #[true, false, false, false, false, false, false, false, false, false, false, false, false, false, false, false, false] rfl rfl (any_of HT_.out (by kernel_rfl)) (fun _ _ _ h => h) (Or.inl ⟨by rfl, ?_⟩) ?_ ?_
                  rotate_left
                  · intro w'
                    go_simp
                    with_reducible rfl
                  rotate_left
                  · simp only [Act.put, List.setIfInBounds_toArray, List.set_cons_zero, List.set_cons_succ, i64_w, i32_w]
                    rfl
                  refine pure_ (i := 1) (N := some 21) (v := ?_) (a' := ?_) #[true, true, false, false, false, false, false, false, false, false, false, false, false, false, false, false, false] rfl rfl (any_of HT_.out (by kernel_rfl)) (fun _ _ _ h => h) (Or.inl ⟨by rfl, ?_⟩) ?_ ?_
                  rotate_left
                  · intro w'
                    go_simp
                    with_reducible rfl
                  rotate_left
                  · simp only [Act.put, List.setIfInBounds_toArray, List.set_cons_zero, List.set_cons_succ, i64_w, i32_w]
                    rfl
                  refine pure_ (i := 5) (N := some 25) (v := ?_) (a' := ?_) #[true, true, false, false, false, true, false, false, false, false, false, false, false, false, false, false, false] rfl rfl (any_of HT_.out (by kernel_rfl)) (fun _ _ _ h => h) (Or.inl ⟨by rfl, ?_⟩) ?_ ?_
                  rotate_left
                  · intro w'
                    go_simp
                    with_reducible rfl
                  rotate_left
                  · simp only [Act.put, List.setIfInBounds_toArray, List.set_cons_zero, List.set_cons_succ, i64_w, i32_w]
                    rfl
                  refine pure_ (i := 6) (N := some 26) (v := ?_) (a' := ?_) #[true, true, false, false, false, true, true, false, false, false, false, false, false, false, false, false, false] rfl rfl (any_of HT_.out (by kernel_rfl)) (fun _ _ _ h => h) (Or.inl ⟨by rfl, ?_⟩) ?_ ?_
                  rotate_left
                  · intro w'
                    go_simp
                    with_reducible rfl
                  rotate_left
                  · simp only [Act.put, List.setIfInBounds_toArray, List.set_cons_zero, List.set_cons_succ, i64_w, i32_w]
                    rfl
                  refine pure_ (i := 11) (N := some 31) (v := ?_) (a' := ?_) #[true, true, false, false, false, true, true, false, false, false, false, true, false, false, false, false, false] rfl rfl (any_of HT_.out (by kernel_rfl)) (fun _ _ _ h => h) (Or.inl ⟨by rfl, ?_⟩) ?_ ?_
                  rotate_left
                  · intro w'
                    go_simp
                    with_reducible rfl
                  rotate_left
                  · simp only [Act.put, List.setIfInBounds_toArray, List.set_cons_zero, List.set_cons_succ, i64_w, i32_w]
                    rfl
                  refine pure_ (i := 12) (N := some 32) (v := ?_) (a' := ?_) #[true, true, false, false, false, true, true, false, false, false, false, true, true, false, false, false, false] rfl rfl (any_of HT_.out (by kernel_rfl)) (fun _ _ _ h => h) (Or.inl ⟨by rfl, ?_⟩) ?_ ?_
                  rotate_left
                  · intro w'
                    go_simp
                    with_reducible rfl
                  rotate_left
                  · simp only [Act.put, List.setIfInBounds_toArray, List.set_cons_zero, List.set_cons_succ, i64_w, i32_w]
                    rfl
                  refine take_ (i := 2) (N := some 22) (v := ?_) (a' := ?_) #[true, true, true, false, false, true, true, false, false, false, false, true, true, false, false, false, false] rfl rfl (take_ofW HT_.out HW_.out (by kernel_rfl)) (fun _ _ _ h => h) (Or.inl ⟨by rfl, ?_⟩) hHeld ?_ ?_
                  rotate_left
                  · rintro w' ⟨s0, s1, s2⟩
                    go_simp
                    with_reducible rfl
                  rotate_left
                  · simp only [Act.put, List.setIfInBounds_toArray, List.set_cons_zero, List.set_cons_succ, i64_w, i32_w]
                    rfl
                  refine pure_ (i := 3) (N := some 23) (v := ?_) (a' := ?_) #[true, true, true, true, false, true, true, false, false, false, false, true, true, false, false, false, false] rfl rfl (any_of HT_.out (by kernel_rfl)) (fun _ _ _ h => h) (Or.inl ⟨by rfl, ?_⟩) ?_ ?_
                  rotate_left
                  · intro w'
                    go_simp
                    with_reducible rfl
                  rotate_left
                  · simp only [Act.put, List.setIfInBounds_toArray, List.set_cons_zero, List.set_cons_succ, i64_w, i32_w]
                    rfl
                  refine pure_ (i := 4) (N := some 24) (v := ?_) (a' := ?_) #[true, true, true, true, true, true, true, false, false, false, false, true, true, false, false, false, false] rfl rfl (any_of HT_.out (by kernel_rfl)) (fun _ _ _ h => h) (Or.inl ⟨by rfl, ?_⟩) ?_ ?_
                  rotate_left
                  · intro w'
                    go_simp
                    with_reducible rfl
                  rotate_left
                  · simp only [Act.put, List.setIfInBounds_toArray, List.set_cons_zero, List.set_cons_succ, i64_w, i32_w]
                    rfl
                  refine take_ (i := 7) (N := some 27) (v := ?_) (a' := ?_) #[true, true, true, true, true, true, true, true, false, false, false, true, true, false, false, false, false] rfl rfl (take_ofW HT_.out HW_.out (by kernel_rfl)) (fun _ _ _ h => h) (Or.inl ⟨by rfl, ?_⟩) hHeld ?_ ?_
                  rotate_left
                  · rintro w' ⟨s0, s1, s2⟩
                    go_simp
                    with_reducible rfl
                  rotate_left
                  · simp only [Act.put, List.setIfInBounds_toArray, List.set_cons_zero, List.set_cons_succ, i64_w, i32_w]
                    rfl
                  refine pure_ (i := 8) (N := some 28) (v := ?_) (a' := ?_) #[true, true, true, true, true, true, true, true, true, false, false, true, true, false, false, false, false] rfl rfl (any_of HT_.out (by kernel_rfl)) (fun _ _ _ h => h) (Or.inl ⟨by rfl, ?_⟩) ?_ ?_
                  rotate_left
                  · intro w'
                    go_simp
                    with_reducible rfl
                  rotate_left
                  · simp only [Act.put, List.setIfInBounds_toArray, List.set_cons_zero, List.set_cons_succ, i64_w, i32_w]
                    rfl
                  refine pure_ (i := 9) (N := some 29) (v := ?_) (a' := ?_) #[true, true, true, true, true, true, true, true, true, true, false, true, true, false, false, false, false] rfl rfl (any_of HT_.out (by kernel_rfl)) (fun _ _ _ h => h) (Or.inl ⟨by rfl, ?_⟩) ?_ ?_
                  rotate_left
                  · intro w'
                    go_simp
                    with_reducible rfl
                  rotate_left
                  · simp only [Act.put, List.setIfInBounds_toArray, List.set_cons_zero, List.set_cons_succ, i64_w, i32_w]
                    rfl
                  refine pure_ (i := 10) (N := some 30) (v := ?_) (a' := ?_) #[true, true, true, true, true, true, true, true, true, true, true, true, true, false, false, false, false] rfl rfl (any_of HT_.out (by kernel_rfl)) (fun _ _ _ h => h) (Or.inl ⟨by rfl, ?_⟩) ?_ ?_
                  rotate_left
                  · intro w'
                    go_simp
                    with_reducible rfl
                  rotate_left
                  · simp only [Act.put, List.setIfInBounds_toArray, List.set_cons_zero, List.set_cons_succ, i64_w, i32_w]
                    rfl
                  refine take_ (i := 13) (N := some 33) (v := ?_) (a' := ?_) #[true, true, true, true, true, true, true, true, true, true, true, true, true, true, false, false, false] rfl rfl (take_ofW HT_.out HW_.out (by kernel_rfl)) (fun _ _ _ h => h) (Or.inl ⟨by rfl, ?_⟩) hHeld ?_ ?_
                  rotate_left
                  · rintro w' ⟨s0, s1, s2⟩
                    go_simp
                    with_reducible rfl
                  rotate_left
                  · simp only [Act.put, List.setIfInBounds_toArray, List.set_cons_zero, List.set_cons_succ, i64_w, i32_w]
                    rfl
                  refine pure_ (i := 14) (N := some 34) (v := ?_) (a' := ?_) #[true, true, true, true, true, true, true, true, true, true, true, true, true, true, true, false, false] rfl rfl (any_of HT_.out (by kernel_rfl)) (fun _ _ _ h => h) (Or.inl ⟨by rfl, ?_⟩) ?_ ?_
                  rotate_left
                  · intro w'
                    go_simp
                    with_reducible rfl
                  rotate_left
                  · simp only [Act.put, List.setIfInBounds_toArray, List.set_cons_zero, List.set_cons_succ, i64_w, i32_w]
                    rfl
                  refine pure_ (i := 15) (N := some 35) (v := ?_) (a' := ?_) #[true, true, true, true, true, true, true, true, true, true, true, true, true, true, true, true, false] rfl rfl (any_of HT_.out (by kernel_rfl)) (fun _ _ _ h => h) (Or.inl ⟨by rfl, ?_⟩) ?_ ?_
                  rotate_left
                  · intro w'
                    go_simp
                    with_reducible rfl
                  rotate_left
                  · simp only [Act.put, List.setIfInBounds_toArray, List.set_cons_zero, List.set_cons_succ, i64_w, i32_w]
                    rfl
                  refine pure_ (i := 16) (N := some 5) (v := ?_) (a' := ?_) #[true, true, true, true, true, true, true, true, true, true, true, true, true, true, true, true, true] rfl rfl (any_of HT_.out (by kernel_rfl)) (fun _ _ _ h => h) (Or.inl ⟨by rfl, ?_⟩) ?_ ?_
                  rotate_left
                  · intro w'
                    go_simp
                    with_reducible rfl
                  rotate_left
                  · simp only [Act.put, List.setIfInBounds_toArray, List.set_cons_zero, List.set_cons_succ, i64_w, i32_w]
                    rfl
                  refine done_ (done_of HT_.out (by kernel_rfl)) ?_
                  try go_wp2
                  go_ret3
                  exact ⟨_, by first | rfl | (simp [errW_none, errW_some] <;> rfl) | (simp [*, errW_none, errW_some] <;> rfl), by first | exact Kd.R_nil _ _ _ _ _ | exact Kd.N_nil _ _ _ _ _ | exact Kd.V_nil _ _ _ _ _ | exact Kd.Q_nil _ _ _ _ _ | exact Kd.S_nil _ _ _ _ _, by repeat (first | (with_reducible first | exact HB.out | apply below_alloc | apply pw_below_drewN | apply below_drew1) | exact HB.out)⟩
                · rw [if_neg c9] at H
                  have c9b0 : decide (32768 < (Go.bits .or .i64 (Go.bits .or .i64 (wrap64 ((wrap64 (rd l0 1)) * 65536)) (wrap64 ((wrap64 (rd l0 2)) * 256))) (wrap64 (rd l0 3)))) = false := decide_eq_false c9
                  clear c9
                  by_cases c11 : (l0.length : Int) < (wrap64 ((wrap64 (4 + (Go.bits .or .i64 (Go.bits .or .i64 (wrap64 ((wrap64 (rd l0 1)) * 65536)) (wrap64 ((wrap64 (rd l0 2)) * 256))) (wrap64 (rd l0 3))))) + 4))
                  · rw [if_pos c11] at H
                    have c11b0 : decide ((l0.length : Int) < (wrap64 ((wrap64 (4 + (Go.bits .or .i64 (Go.bits .or .i64 (wrap64 ((wrap64 (rd l0 1)) * 65536)) (wrap64 ((wrap64 (rd l0 2)) * 256))) (wrap64 (rd l0 3))))) + 4))) = true := decide_eq_true c11
                    clear c11
                    simp only [Option.some.injEq, Prod.mk.injEq] at H
                    obtain ⟨rfl, rfl, rfl⟩ := H
                    have p116 : 0 ≤ (0 : Int) := (by omega)
                    have q116 : 0 < (l0.length : Int) := of_decide_eq_true (by first | (with_reducible assumption) | assumption)
                    obtain ⟨ad116, e116, hx116_0⟩ := Kd.at_int (Kd.V_reads' HO0.out).2.2 0 p116 q116
                    cases e116
                    have qi116 : (0 < l0.length) = True := eq_true (by omega)
                    (try rw [show ((0 : Int)).toNat = 0 from rfl] at hx116_0)
                    (try rw [Addr.add_zero'] at hx116_0)
                    replace p116 := eq_true p116
                    replace q116 := eq_true q116
                    go_enter Try.func18, Try.ntmps18
                    try go_wp2
                    have n0_ := Aside0.mk (Kd.V_drew HO0.out)
                    have n1_ := Aside0.mk (below_drew1 HB.out)
                    clear HO0
                    clear HB
                    have HO0 := n0_
                    have HB := n1_
                    clear n0_ n1_
                    have p117 : 0 ≤ (1 : Int) := (by omega)
                    have q117 : 1 < (l0.length : Int) := of_decide_eq_true (by first | (with_reducible assumption) | assumption)
                    obtain ⟨ad117, e117, hx117_0⟩ := Kd.at_int (Kd.V_reads' HO0.out).2.2 1 p117 q117
                    obtain rfl : ad116 = ad117 := (by injection e117)
                    (try simp only [show (1 : Int).toNat = 1 from rfl, Nat.reduceMul, Nat.reduceEqDiff, Go.Addr.add, ↓reduceIte] at hx117_0)
                    have qi117 : (1 < l0.length) = True := eq_true (by omega)
                    (try rw [show ((1 : Int)).toNat = 1 from rfl] at hx117_0)
                    replace p117 := eq_true p117
                    replace q117 := eq_true q117
                    have p118 : 0 ≤ (2 : Int) := (by omega)
                    have q118 : 2 < (l0.length : Int) := of_decide_eq_true (by first | (with_reducible assumption) | assumption)
                    obtain ⟨ad118, e118, hx118_0⟩ := Kd.at_int (Kd.V_reads' HO0.out).2.2 2 p118 q118
                    obtain rfl : ad116 = ad118 := (by injection e118)
                    (try simp only [show (2 : Int).toNat = 2 from rfl, Nat.reduceMul, Nat.reduceEqDiff, Go.Addr.add, ↓reduceIte] at hx118_0)
                    have qi118 : (2 < l0.length) = True := eq_true (by omega)
                    (try rw [show ((2 : Int)).toNat = 2 from rfl] at hx118_0)
                    replace p118 := eq_true p118
                    replace q118 := eq_true q118
                    have p119 : 0 ≤ (3 : Int) := (by omega)
                    have q119 : 3 < (l0.length : Int) := of_decide_eq_true (by first | (with_reducible assumption) | assumption)
                    obtain ⟨ad119, e119, hx119_0⟩ := Kd.at_int (Kd.V_reads' HO0.out).2.2 3 p119 q119
                    obtain rfl : ad116 = ad119 := (by injection e119)
                    (try simp only [show (3 : Int).toNat = 3 from rfl, Nat.reduceMul, Nat.reduceEqDiff, Go.Addr.add, ↓reduceIte] at hx119_0)
                    have qi119 : (3 < l0.length) = True := eq_true (by omega)
                    (try rw [show ((3 : Int)).toNat = 3 from rfl] at hx119_0)
                    replace p119 := eq_true p119
                    replace q119 := eq_true q119
                    refine start_ (n := 17) (S := fun w' => w'.cell? ⟨ad116.block, ad116.off + 1, none⟩ = some (.int .u8 (rd l0 1)) ∧ w'.cell? ⟨ad116.block, ad116.off + 2, none⟩ = some (.int .u8 (rd l0 2)) ∧ w'.cell? ⟨ad116.block, ad116.off + 3, none⟩ = some (.int .u8 (rd l0 3))) (ds := []) #[false, false, false, false, false, false, false, false, false, false, false, false, false, false, false, false, false] (by kernel_rfl) rfl rfl ⟨hx117_0, hx118_0, hx119_0⟩ (fun hHeld => ?_); refine with_tabW frame_Next.tab7 frame_Next.bits7 (fun HT_ HW_ => ?_)
                    generalize w.drew = w12 at HO0 HB hx117_0 hx118_0 hx119_0 hHeld ⊢
                    refine pure_ (i := 0) (N := some 20) (v := ?_) (a' := ?_) #[true, false, false, false, false, false, false, false, false, false, false, false, false, false, false, false, false] rfl rfl (any_of HT_.out (by kernel_rfl)) (fun _ _ _ h => h) (Or.inl ⟨by rfl, ?_⟩) ?_ ?_
                    rotate_left
                    · intro w'
                      go_simp
                      with_reducible rfl
                    rotate_left
                    · simp only [Act.put, List.setIfInBounds_toArray, List.set_cons_zero, List.set_cons_succ, i64_w, i32_w]
                      rfl
                    refine pure_ (i := 1) (N := some 21) (v := ?_) (a' := ?_) #[true, true, false, false, false, false, false, false, false, false, false, false, false, false, false, false, false] rfl rfl (any_of HT_.out (by kernel_rfl)) (fun _ _ _ h => h) (Or.inl ⟨by rfl, ?_⟩) ?_ ?_
                    rotate_left
                    · intro w'
                      go_simp
                      with_reducible rfl
                    rotate_left
                    · simp only [Act.put, List.setIfInBounds_toArray, List.set_cons_zero, List.set_cons_succ, i64_w, i32_w]
                      rfl
                    refine pure_ (i := 5) (N := some 25) (v := ?_) (a' := ?_) #[true, true, false, false, false, true, false, false, false, false, false, false, false, false, false, false, false] rfl rfl (any_of HT_.out (by kernel_rfl)) (fun _ _ _ h => h) (Or.inl ⟨by rfl, ?_⟩) ?_ ?_
                    rotate_left
                    · intro w'
                      go_simp
                      with_reducible rfl
                    rotate_left
                    · simp only [Act.put, List.setIfInBounds_toArray, List.set_cons_zero, List.set_cons_succ, i64_w, i32_w]
                      rfl
                    refine pure_ (i := 6) (N := some 26) (v := ?_) (a' := ?_) #[true, true, false, false, false, true, true, false, false, false, false, false, false, false, false, false, false] rfl rfl (any_of HT_.out (by kernel_rfl)) (fun _ _ _ h => h) (Or.inl ⟨by rfl, ?_⟩) ?_ ?_
                    rotate_left
                    · intro w'
                      go_simp
                      with_reducible rfl
                    rotate_left
                    · simp only [Act.put, List.setIfInBounds_toArray, List.set_cons_zero, List.set_cons_succ, i64_w, i32_w]
                      rfl
                    refine pure_ (i := 11) (N := some 31) (v := ?_) (a' := ?_) #[true, true, false, false, false, true, true, false, false, false, false, true, false, false, false, false, false] rfl rfl (any_of HT_.out (by kernel_rfl)) (fun _ _ _ h => h) (Or.inl ⟨by rfl, ?_⟩) ?_ ?_
                    rotate_left
                    · intro w'
                      go_simp
                      with_reducible rfl
                    rotate_left
                    · simp only [Act.put, List.setIfInBounds_toArray, List.set_cons_zero, List.set_cons_succ, i64_w, i32_w]
                      rfl
                    refine pure_ (i := 12) (N := some 32) (v := ?_) (a' := ?_) #[true, true, false, false, false, true, true, false, false, false, false, true, true, false, false, false, false] rfl rfl (any_of HT_.out (by kernel_rfl)) (fun _ _ _ h => h) (Or.inl ⟨by rfl, ?_⟩) ?_ ?_
                    rotate_left
                    · intro w'
                      go_simp
                      with_reducible rfl
                    rotate_left
                    · simp only [Act.put, List.setIfInBounds_toArray, List.set_cons_zero, List.set_cons_succ, i64_w, i32_w]
                      rfl
                    refine take_ (i := 2) (N := some 22) (v := ?_) (a' := ?_) #[true, true, true, false, false, true, true, false, false, false, false, true, true, false, false, false, false] rfl rfl (take_ofW HT_.out HW_.out (by kernel_rfl)) (fun _ _ _ h => h) (Or.inl ⟨by rfl, ?_⟩) hHeld ?_ ?_
                    rotate_left
                    · rintro w' ⟨s0, s1, s2⟩
                      go_simp
                      with_reducible rfl
                    rotate_left
                    · simp only [Act.put, List.setIfInBounds_toArray, List.set_cons_zero, List.set_cons_succ, i64_w, i32_w]
                      rfl
                    refine pure_ (i := 3) (N := some 23) (v := ?_) (a' := ?_) #[true, true, true, true, false, true, true, false, false, false, false, true, true, false, false, false, false] rfl rfl (any_of HT_.out (by kernel_rfl)) (fun _ _ _ h => h) (Or.inl ⟨by rfl, ?_⟩) ?_ ?_
                    rotate_left
                    · intro w'
                      go_simp
                      with_reducible rfl
                    rotate_left
                    · simp only [Act.put, List.setIfInBounds_toArray, List.set_cons_zero, List.set_cons_succ, i64_w, i32_w]
                      rfl
                    refine pure_ (i := 4) (N := some 24) (v := ?_) (a' := ?_) #[true, true, true, true, true, true, true, false, false, false, false, true, true, false, false, false, false] rfl rfl (any_of HT_.out (by kernel_rfl)) (fun _ _ _ h => h) (Or.inl ⟨by rfl, ?_⟩) ?_ ?_
                    rotate_left
                    · intro w'
                      go_simp
                      with_reducible rfl
                    rotate_left
                    · simp only [Act.put, List.setIfInBounds_toArray, List.set_cons_zero, List.set_cons_succ, i64_w, i32_w]
                      rfl
                    refine take_ (i := 7) (N := some 27) (v := ?_) (a' := ?_) #[true, true, true, true, true, true, true, true, false, false, false, true, true, false, false, false, false] rfl rfl (take_ofW HT_.out HW_.out (by kernel_rfl)) (fun _ _ _ h => h) (Or.inl ⟨by rfl, ?_⟩) hHeld ?_ ?_
                    rotate_left
                    · rintro w' ⟨s0, s1, s2⟩
                      go_simp
                      with_reducible rfl
                    rotate_left
                    · simp only [Act.put, List.setIfInBounds_toArray, List.set_cons_zero, List.set_cons_succ, i64_w, i32_w]
                      rfl
                    refine pure_ (i := 8) (N := some 28) (v := ?_) (a' := ?_) #[true, true, true, true, true, true, true, true, true, false, false, true, true, false, false, false, false] rfl rfl (any_of HT_.out (by kernel_rfl)) (fun _ _ _ h => h) (Or.inl ⟨by rfl, ?_⟩) ?_ ?_
                    rotate_left
                    · intro w'
                      go_simp
                      with_reducible rfl
                    rotate_left
                    · simp only [Act.put, List.setIfInBounds_toArray, List.set_cons_zero, List.set_cons_succ, i64_w, i32_w]
                      rfl
                    refine pure_ (i := 9) (N := some 29) (v := ?_) (a' := ?_) #[true, true, true, true, true, true, true, true, true, true, false, true, true, false, false, false, false] rfl rfl (any_of HT_.out (by kernel_rfl)) (fun _ _ _ h => h) (Or.inl ⟨by rfl, ?_⟩) ?_ ?_
                    rotate_left
                    · intro w'
                      go_simp
                      with_reducible rfl
                    rotate_left
                    · simp only [Act.put, List.setIfInBounds_toArray, List.set_cons_zero, List.set_cons_succ, i64_w, i32_w]
                      rfl
                    refine pure_ (i := 10) (N := some 30) (v := ?_) (a' := ?_) #[true, true, true, true, true, true, true, true, true, true, true, true, true, false, false, false, false] rfl rfl (any_of HT_.out (by kernel_rfl)) (fun _ _ _ h => h) (Or.inl ⟨by rfl, ?_⟩) ?_ ?_
                    rotate_left
                    · intro w'
                      go_simp
                      with_reducible rfl
                    rotate_left
                    · simp only [Act.put, List.setIfInBounds_toArray, List.set_cons_zero, List.set_cons_succ, i64_w, i32_w]
                      rfl
                    refine take_ (i := 13) (N := some 33) (v := ?_) (a' := ?_) #[true, true, true, true, true, true, true, true, true, true, true, true, true, true, false, false, false] rfl rfl (take_ofW HT_.out HW_.out (by kernel_rfl)) (fun _ _ _ h => h) (Or.inl ⟨by rfl, ?_⟩) hHeld ?_ ?_
                    rotate_left
                    · rintro w' ⟨s0, s1, s2⟩
                      go_simp
                      with_reducible rfl
                    rotate_left
                    · simp only [Act.put, List.setIfInBounds_toArray, List.set_cons_zero, List.set_cons_succ, i64_w, i32_w]
                      rfl
                    refine pure_ (i := 14) (N := some 34) (v := ?_) (a' := ?_) #[true, true, true, true, true, true, true, true, true, true, true, true, true, true, true, false, false] rfl rfl (any_of HT_.out (by kernel_rfl)) (fun _ _ _ h => h) (Or.inl ⟨by rfl, ?_⟩) ?_ ?_
                    rotate_left
                    · intro w'
                      go_simp
                      with_reducible rfl
                    rotate_left
                    · simp only [Act.put, List.setIfInBounds_toArray, List.set_cons_zero, List.set_cons_succ, i64_w, i32_w]
                      rfl
                    refine pure_ (i := 15) (N := some 35) (v := ?_) (a' := ?_) #[true, true, true, true, true, true, true, true, true, true, true, true, true, true, true, true, false] rfl rfl (any_of HT_.out (by kernel_rfl)) (fun _ _ _ h => h) (Or.inl ⟨by rfl, ?_⟩) ?_ ?_
                    rotate_left
                    · intro w'
                      go_simp
                      with_reducible rfl
                    rotate_left
                    · simp only [Act.put, List.setIfInBounds_toArray, List.set_cons_zero, List.set_cons_succ, i64_w, i32_w]
                      rfl
                    refine pure_ (i := 16) (N := some 5) (v := ?_) (a' := ?_) #[true, true, true, true, true, true, true, true, true, true, true, true, true, true, true, true, true] rfl rfl (any_of HT_.out (by kernel_rfl)) (fun _ _ _ h => h) (Or.inl ⟨by rfl, ?_⟩) ?_ ?_
                    rotate_left
                    · intro w'
                      go_simp
                      with_reducible rfl
                    rotate_left
                    · simp only [Act.put, List.setIfInBounds_toArray, List.set_cons_zero, List.set_cons_succ, i64_w, i32_w]
                      rfl
                    refine done_ (done_of HT_.out (by kernel_rfl)) ?_
                    try go_wp2
                    go_ret3
                    exact ⟨_, by first | rfl | (simp [errW_none, errW_some] <;> rfl) | (simp [*, errW_none, errW_some] <;> rfl), by first | exact Kd.R_nil _ _ _ _ _ | exact Kd.N_nil _ _ _ _ _ | exact Kd.V_nil _ _ _ _ _ | exact Kd.Q_nil _ _ _ _ _ | exact Kd.S_nil _ _ _ _ _, by repeat (first | (with_reducible first | exact HB.out | apply below_alloc | apply pw_below_drewN | apply below_drew1) | exact HB.out)⟩
                  · rw [if_neg c11] at H
                    have c11b0 : decide ((l0.length : Int) < (wrap64 ((wrap64 (4 + (Go.bits .or .i64 (Go.bits .or .i64 (wrap64 ((wrap64 (rd l0 1)) * 65536)) (wrap64 ((wrap64 (rd l0 2)) * 256))) (wrap64 (rd l0 3))))) + 4))) = false := decide_eq_false c11
                    clear c11
                    obtain ⟨ji13, hji13⟩ : ∃ j_ : Int, (wrap64 (4 + (Go.bits .or .i64 (Go.bits .or .i64 (wrap64 ((wrap64 (rd l0 1)) * 65536)) (wrap64 ((wrap64 (rd l0 2)) * 256))) (wrap64 (rd l0 3))))) = j_ := ⟨_, rfl⟩
                    replace H : (if 0 ≤ (ji13) then (if (ji13) ≤ (wrap64 ((ji13) + 4)) then (if (wrap64 ((ji13) + 4)) ≤ (l0.length : Int) then (if (ji13) ≤ (l0.length : Int) then ((frame_Check.f k (([(l0.take ((ji13) : Int).toNat)] : List (List Int)))).bind fun t133 => ((frame_big.f t133).bind fun t134 => ((slices_Equal_byte_byte.f k ((l0.take ((wrap64 ((ji13) + 4)) : Int).toNat).drop ((ji13) : Int).toNat) t134).bind fun t137 => (if t137 = true then (if 4 ≤ (ji13) then ((slices_Clone_byte_byte.f ((l0.take ((ji13) : Int).toNat).drop 4)).bind fun t143 => (some (t143, wrap64 ((ji13) + 4), 0))) else (none)) else (some (([] : List Int), 0, 70)))))) else (none)) else (none)) else (none)) else (none)) = some (r1, r2, r3) := by first | (rw [hji13] at H; exact H) | (simp only [hji13] at H ⊢; exact H)
                    (try rw [hji13] at c11b0)
                    have hji13w : (IntKind.i64.wrap (4 + (Go.bits .or .i64 (Go.bits .or .i64 (wrap64 ((wrap64 (rd l0 1)) * 65536)) (wrap64 ((wrap64 (rd l0 2)) * 256))) (wrap64 (rd l0 3))))) = ji13 := (i64_w _).trans hji13
                    by_cases c14 : 0 ≤ (ji13)
                    · rw [if_pos c14] at H
                      have c14b0 := eq_true c14
                      have c14b1 : decide (0 ≤ (ji13)) = true := decide_eq_true c14
                      clear c14
                      by_cases c15 : (ji13) ≤ (wrap64 ((ji13) + 4))
                      · rw [if_pos c15] at H
                        have c15b0 := eq_true c15
                        have c15b1 : decide ((ji13) ≤ (wrap64 ((ji13) + 4))) = true := decide_eq_true c15
                        by_cases c16 : (wrap64 ((ji13) + 4)) ≤ (l0.length : Int)
                        · rw [if_pos c16] at H
                          have c16b0 := eq_true c16
                          have c16b1 : decide ((wrap64 ((ji13) + 4)) ≤ (l0.length : Int)) = true := decide_eq_true c16
                          obtain ⟨y120, hy120⟩ : ∃ y_ : List Int, y_ = ((l0.take ((wrap64 ((ji13) + 4)) : Int).toNat).drop ((ji13) : Int).toNat) := ⟨_, rfl⟩
                          replace H : (if (ji13) ≤ (l0.length : Int) then ((frame_Check.f k (([(l0.take ((ji13) : Int).toNat)] : List (List Int)))).bind fun t133 => ((frame_big.f t133).bind fun t134 => ((slices_Equal_byte_byte.f k y120 t134).bind fun t137 => (if t137 = true then (if 4 ≤ (ji13) then ((slices_Clone_byte_byte.f ((l0.take ((ji13) : Int).toNat).drop 4)).bind fun t143 => (some (t143, wrap64 ((ji13) + 4), 0))) else (none)) else (some (([] : List Int), 0, 70)))))) else (none)) = some (r1, r2, r3) := by first | (rw [hy120]; with_reducible exact H) | (have H2_ := (Option.bind_some _ _).symm.trans H; rw [hy120]; with_reducible exact H2_) | (have H2_ := (Option.bind_some _ _).symm.trans H; with_reducible exact H2_) | with_reducible exact H | (rw [hy120]; exact H) | exact H
                          have Ny120 := Aside0.mk hy120
                          clear hy120
                          have c17b0 := eq_true (of_decide_eq_true (by first | (with_reducible assumption) | assumption) : 0 ≤ (ji13))
                          by_cases c18 : (ji13) ≤ (l0.length : Int)
                          · rw [if_pos c18] at H
                            have c18b0 := eq_true c18
                            have c18b1 : decide ((ji13) ≤ (l0.length : Int)) = true := decide_eq_true c18
                            clear c18
                            obtain ⟨y125, hy125⟩ : ∃ y_ : List Int, y_ = (l0.take ((ji13) : Int).toNat) := ⟨_, rfl⟩
                            replace H : ((frame_Check.f k (([y125] : List (List Int)))).bind fun t133 => ((frame_big.f t133).bind fun t134 => ((slices_Equal_byte_byte.f k y120 t134).bind fun t137 => (if t137 = true then (if 4 ≤ (ji13) then ((slices_Clone_byte_byte.f ((l0.take ((ji13) : Int).toNat).drop 4)).bind fun t143 => (some (t143, wrap64 ((ji13) + 4), 0))) else (none)) else (some (([] : List Int), 0, 70)))))) = some (r1, r2, r3) := by first | (rw [hy125]; with_reducible exact H) | (have H2_ := (Option.bind_some _ _).symm.trans H; rw [hy125]; with_reducible exact H2_) | (have H2_ := (Option.bind_some _ _).symm.trans H; with_reducible exact H2_) | with_reducible exact H | (rw [hy125]; exact H) | exact H
                            have Ny125 := Aside0.mk hy125
                            clear hy125
                            obtain ⟨y130, hy130⟩ : ∃ y_ : List (List Int), y_ = (([y125] : List (List Int))) := ⟨_, rfl⟩
                            replace H : ((frame_Check.f k y130).bind fun t133 => ((frame_big.f t133).bind fun t134 => ((slices_Equal_byte_byte.f k y120 t134).bind fun t137 => (if t137 = true then (if 4 ≤ (ji13) then ((slices_Clone_byte_byte.f ((l0.take ((ji13) : Int).toNat).drop 4)).bind fun t143 => (some (t143, wrap64 ((ji13) + 4), 0))) else (none)) else (some (([] : List Int), 0, 70)))))) = some (r1, r2, r3) := by first | (rw [hy130]; with_reducible exact H) | (have H2_ := (Option.bind_some _ _).symm.trans H; rw [hy130]; with_reducible exact H2_) | (have H2_ := (Option.bind_some _ _).symm.trans H; with_reducible exact H2_) | with_reducible exact H | (rw [hy130]; exact H) | exact H
                            have Ny130 := Aside0.mk hy130
                            clear hy130
                            replace H := Option.bind_eq_some_iff.mp H
                            obtain ⟨t133, A190, H⟩ := H
                            replace H : ((frame_big.f t133).bind fun t134 => ((slices_Equal_byte_byte.f k y120 t134).bind fun t137 => (if t137 = true then (if 4 ≤ (ji13) then ((slices_Clone_byte_byte.f ((l0.take ((ji13) : Int).toNat).drop 4)).bind fun t143 => (some (t143, wrap64 ((ji13) + 4), 0))) else (none)) else (some (([] : List Int), 0, 70))))) = some (r1, r2, r3) := H
                            have A19 := Aside0.mk A190
                            clear A190
                            replace H := Option.bind_eq_some_iff.mp H
                            obtain ⟨t134, A200, H⟩ := H
                            replace H : ((slices_Equal_byte_byte.f k y120 t134).bind fun t137 => (if t137 = true then (if 4 ≤ (ji13) then ((slices_Clone_byte_byte.f ((l0.take ((ji13) : Int).toNat).drop 4)).bind fun t143 => (some (t143, wrap64 ((ji13) + 4), 0))) else (none)) else (some (([] : List Int), 0, 70)))) = some (r1, r2, r3) := H
                            have A20 := Aside0.mk A200
                            clear A200
                            replace H := Option.bind_eq_some_iff.mp H
                            obtain ⟨t137, A210, H⟩ := H
                            replace H : (if t137 = true then (if 4 ≤ (ji13) then ((slices_Clone_byte_byte.f ((l0.take ((ji13) : Int).toNat).drop 4)).bind fun t143 => (some (t143, wrap64 ((ji13) + 4), 0))) else (none)) else (some (([] : List Int), 0, 70))) = some (r1, r2, r3) := H
                            have A21 := Aside0.mk A210
                            clear A210
                            by_cases c22 : t137 = true
                            · subst c22
                              have H1 : (if 4 ≤ (ji13) then ((slices_Clone_byte_byte.f ((l0.take ((ji13) : Int).toNat).drop 4)).bind fun t143 => (some (t143, wrap64 ((ji13) + 4), 0))) else (none)) = some (r1, r2, r3) := by rw [if_pos rfl] at H; exact H
                              clear H
                              have H := H1
                              clear H1
                              by_cases c23 : 4 ≤ (ji13)
                              · rw [if_pos c23] at H
                                have c23b0 := eq_true c23
                                have c23b1 : decide (4 ≤ (ji13)) = true := decide_eq_true c23
                                clear c23
                                have c24b0 := eq_true (of_decide_eq_true (by first | (with_reducible assumption) | assumption) : (ji13) ≤ (l0.length : Int))
                                obtain ⟨y138, hy138⟩ : ∃ y_ : List Int, y_ = ((l0.take ((ji13) : Int).toNat).drop 4) := ⟨_, rfl⟩
                                replace H : ((slices_Clone_byte_byte.f y138).bind fun t143 => (some (t143, wrap64 ((ji13) + 4), 0))) = some (r1, r2, r3) := by first | (rw [hy138]; with_reducible exact H) | (have H2_ := (Option.bind_some _ _).symm.trans H; rw [hy138]; with_reducible exact H2_) | (have H2_ := (Option.bind_some _ _).symm.trans H; with_reducible exact H2_) | with_reducible exact H | (rw [hy138]; exact H) | exact H
                                have Ny138 := Aside0.mk hy138
                                clear hy138
                                replace H := Option.bind_eq_some_iff.mp H
                                obtain ⟨t143, A250, H⟩ := H
                                replace H : (some (t143, wrap64 ((ji13) + 4), 0)) = some (r1, r2, r3) := H
                                have A25 := Aside0.mk A250
                                clear A250
                                simp only [Option.some.injEq, Prod.mk.injEq] at H
                                obtain ⟨rfl, rfl, rfl⟩ := H
                                have p116 : 0 ≤ (0 : Int) := (by omega)
                                have q116 : 0 < (l0.length : Int) := of_decide_eq_true (by first | (with_reducible assumption) | assumption)
                                obtain ⟨ad116, e116, hx116_0⟩ := Kd.at_int (Kd.V_reads' HO0.out).2.2 0 p116 q116
                                cases e116
                                have qi116 : (0 < l0.length) = True := eq_true (by omega)
                                (try rw [show ((0 : Int)).toNat = 0 from rfl] at hx116_0)
                                (try rw [Addr.add_zero'] at hx116_0)
                                replace p116 := eq_true p116
                                replace q116 := eq_true q116
                                go_enter Try.func18, Try.ntmps18
                                try go_wp2
                                have n0_ := Aside0.mk (Kd.V_drew HO0.out)
                                have n1_ := Aside0.mk (below_drew1 HB.out)
                                clear HO0
                                clear HB
                                have HO0 := n0_
                                have HB := n1_
                                clear n0_ n1_
                                have p117 : 0 ≤ (1 : Int) := (by omega)
                                have q117 : 1 < (l0.length : Int) := of_decide_eq_true (by first | (with_reducible assumption) | assumption)
                                obtain ⟨ad117, e117, hx117_0⟩ := Kd.at_int (Kd.V_reads' HO0.out).2.2 1 p117 q117
                                obtain rfl : ad116 = ad117 := (by injection e117)
                                (try simp only [show (1 : Int).toNat = 1 from rfl, Nat.reduceMul, Nat.reduceEqDiff, Go.Addr.add, ↓reduceIte] at hx117_0)
                                have qi117 : (1 < l0.length) = True := eq_true (by omega)
                                (try rw [show ((1 : Int)).toNat = 1 from rfl] at hx117_0)
                                replace p117 := eq_true p117
                                replace q117 := eq_true q117
                                have p118 : 0 ≤ (2 : Int) := (by omega)
                                have q118 : 2 < (l0.length : Int) := of_decide_eq_true (by first | (with_reducible assumption) | assumption)
                                obtain ⟨ad118, e118, hx118_0⟩ := Kd.at_int (Kd.V_reads' HO0.out).2.2 2 p118 q118
                                obtain rfl : ad116 = ad118 := (by injection e118)
                                (try simp only [show (2 : Int).toNat = 2 from rfl, Nat.reduceMul, Nat.reduceEqDiff, Go.Addr.add, ↓reduceIte] at hx118_0)
                                have qi118 : (2 < l0.length) = True := eq_true (by omega)
                                (try rw [show ((2 : Int)).toNat = 2 from rfl] at hx118_0)
                                replace p118 := eq_true p118
                                replace q118 := eq_true q118
                                have p119 : 0 ≤ (3 : Int) := (by omega)
                                have q119 : 3 < (l0.length : Int) := of_decide_eq_true (by first | (with_reducible assumption) | assumption)
                                obtain ⟨ad119, e119, hx119_0⟩ := Kd.at_int (Kd.V_reads' HO0.out).2.2 3 p119 q119
                                obtain rfl : ad116 = ad119 := (by injection e119)
                                (try simp only [show (3 : Int).toNat = 3 from rfl, Nat.reduceMul, Nat.reduceEqDiff, Go.Addr.add, ↓reduceIte] at hx119_0)
                                have qi119 : (3 < l0.length) = True := eq_true (by omega)
                                (try rw [show ((3 : Int)).toNat = 3 from rfl] at hx119_0)
                                replace p119 := eq_true p119
                                replace q119 := eq_true q119
                                refine start_ (n := 17) (S := fun w' => w'.cell? ⟨ad116.block, ad116.off + 1, none⟩ = some (.int .u8 (rd l0 1)) ∧ w'.cell? ⟨ad116.block, ad116.off + 2, none⟩ = some (.int .u8 (rd l0 2)) ∧ w'.cell? ⟨ad116.block, ad116.off + 3, none⟩ = some (.int .u8 (rd l0 3))) (ds := []) #[false, false, false, false, false, false, false, false, false, false, false, false, false, false, false, false, false] (by kernel_rfl) rfl rfl ⟨hx117_0, hx118_0, hx119_0⟩ (fun hHeld => ?_); refine with_tabW frame_Next.tab7 frame_Next.bits7 (fun HT_ HW_ => ?_)
                                generalize w.drew = w26 at HO0 HB hx117_0 hx118_0 hx119_0 hHeld ⊢
                                refine pure_ (i := 0) (N := some 20) (v := ?_) (a' := ?_) #[true, false, false, false, false, false, false, false, false, false, false, false, false, false, false, false, false] rfl rfl (any_of HT_.out (by kernel_rfl)) (fun _ _ _ h => h) (Or.inl ⟨by rfl, ?_⟩) ?_ ?_
                                rotate_left
                                · intro w'
                                  go_simp
                                  with_reducible rfl
                                rotate_left
                                · simp only [Act.put, List.setIfInBounds_toArray, List.set_cons_zero, List.set_cons_succ, i64_w, i32_w]
                                  rfl
                                refine pure_ (i := 1) (N := some 21) (v := ?_) (a' := ?_) #[true, true, false, false, false, false, false, false, false, false, false, false, false, false, false, false, false] rfl rfl (any_of HT_.out (by kernel_rfl)) (fun _ _ _ h => h) (Or.inl ⟨by rfl, ?_⟩) ?_ ?_
                                rotate_left
                                · intro w'
                                  go_simp
                                  with_reducible rfl
                                rotate_left
                                · simp only [Act.put, List.setIfInBounds_toArray, List.set_cons_zero, List.set_cons_succ, i64_w, i32_w]
                                  rfl
                                refine pure_ (i := 5) (N := some 25) (v := ?_) (a' := ?_) #[true, true, false, false, false, true, false, false, false, false, false, false, false, false, false, false, false] rfl rfl (any_of HT_.out (by kernel_rfl)) (fun _ _ _ h => h) (Or.inl ⟨by rfl, ?_⟩) ?_ ?_
                                rotate_left
                                · intro w'
                                  go_simp
                                  with_reducible rfl
                                rotate_left
                                · simp only [Act.put, List.setIfInBounds_toArray, List.set_cons_zero, List.set_cons_succ, i64_w, i32_w]
                                  rfl
                                refine pure_ (i := 6) (N := some 26) (v := ?_) (a' := ?_) #[true, true, false, false, false, true, true, false, false, false, false, false, false, false, false, false, false] rfl rfl (any_of HT_.out (by kernel_rfl)) (fun _ _ _ h => h) (Or.inl ⟨by rfl, ?_⟩) ?_ ?_
                                rotate_left
                                · intro w'
                                  go_simp
                                  with_reducible rfl
                                rotate_left
                                · simp only [Act.put, List.setIfInBounds_toArray, List.set_cons_zero, List.set_cons_succ, i64_w, i32_w]
                                  rfl
                                refine pure_ (i := 11) (N := some 31) (v := ?_) (a' := ?_) #[true, true, false, false, false, true, true, false, false, false, false, true, false, false, false, false, false] rfl rfl (any_of HT_.out (by kernel_rfl)) (fun _ _ _ h => h) (Or.inl ⟨by rfl, ?_⟩) ?_ ?_
                                rotate_left
                                · intro w'
                                  go_simp
                                  with_reducible rfl
                                rotate_left
                                · simp only [Act.put, List.setIfInBounds_toArray, List.set_cons_zero, List.set_cons_succ, i64_w, i32_w]
                                  rfl
                                refine pure_ (i := 12) (N := some 32) (v := ?_) (a' := ?_) #[true, true, false, false, false, true, true, false, false, false, false, true, true, false, false, false, false] rfl rfl (any_of HT_.out (by kernel_rfl)) (fun _ _ _ h => h) (Or.inl ⟨by rfl, ?_⟩) ?_ ?_
                                rotate_left
                                · intro w'
                                  go_simp
                                  with_reducible rfl
                                rotate_left
                                · simp only [Act.put, List.setIfInBounds_toArray, List.set_cons_zero, List.set_cons_succ, i64_w, i32_w]
                                  rfl
                                refine take_ (i := 2) (N := some 22) (v := ?_) (a' := ?_) #[true, true, true, false, false, true, true, false, false, false, false, true, true, false, false, false, false] rfl rfl (take_ofW HT_.out HW_.out (by kernel_rfl)) (fun _ _ _ h => h) (Or.inl ⟨by rfl, ?_⟩) hHeld ?_ ?_
                                rotate_left
                                · rintro w' ⟨s0, s1, s2⟩
                                  go_simp
                                  with_reducible rfl
                                rotate_left
                                · simp only [Act.put, List.setIfInBounds_toArray, List.set_cons_zero, List.set_cons_succ, i64_w, i32_w]
                                  rfl
                                refine pure_ (i := 3) (N := some 23) (v := ?_) (a' := ?_) #[true, true, true, true, false, true, true, false, false, false, false, true, true, false, false, false, false] rfl rfl (any_of HT_.out (by kernel_rfl)) (fun _ _ _ h => h) (Or.inl ⟨by rfl, ?_⟩) ?_ ?_
                                rotate_left
                                · intro w'
                                  go_simp
                                  with_reducible rfl
                                rotate_left
                                · simp only [Act.put, List.setIfInBounds_toArray, List.set_cons_zero, List.set_cons_succ, i64_w, i32_w]
                                  rfl
                                refine pure_ (i := 4) (N := some 24) (v := ?_) (a' := ?_) #[true, true, true, true, true, true, true, false, false, false, false, true, true, false, false, false, false] rfl rfl (any_of HT_.out (by kernel_rfl)) (fun _ _ _ h => h) (Or.inl ⟨by rfl, ?_⟩) ?_ ?_
                                rotate_left
                                · intro w'
                                  go_simp
                                  with_reducible rfl
                                rotate_left
                                · simp only [Act.put, List.setIfInBounds_toArray, List.set_cons_zero, List.set_cons_succ, i64_w, i32_w]
                                  rfl
                                refine take_ (i := 7) (N := some 27) (v := ?_) (a' := ?_) #[true, true, true, true, true, true, true, true, false, false, false, true, true, false, false, false, false] rfl rfl (take_ofW HT_.out HW_.out (by kernel_rfl)) (fun _ _ _ h => h) (Or.inl ⟨by rfl, ?_⟩) hHeld ?_ ?_
                                rotate_left
                                · rintro w' ⟨s0, s1, s2⟩
                                  go_simp
                                  with_reducible rfl
                                rotate_left
                                · simp only [Act.put, List.setIfInBounds_toArray, List.set_cons_zero, List.set_cons_succ, i64_w, i32_w]
                                  rfl
                                refine pure_ (i := 8) (N := some 28) (v := ?_) (a' := ?_) #[true, true, true, true, true, true, true, true, true, false, false, true, true, false, false, false, false] rfl rfl (any_of HT_.out (by kernel_rfl)) (fun _ _ _ h => h) (Or.inl ⟨by rfl, ?_⟩) ?_ ?_
                                rotate_left
                                · intro w'
                                  go_simp
                                  with_reducible rfl
                                rotate_left
                                · simp only [Act.put, List.setIfInBounds_toArray, List.set_cons_zero, List.set_cons_succ, i64_w, i32_w]
                                  rfl
                                refine pure_ (i := 9) (N := some 29) (v := ?_) (a' := ?_) #[true, true, true, true, true, true, true, true, true, true, false, true, true, false, false, false, false] rfl rfl (any_of HT_.out (by kernel_rfl)) (fun _ _ _ h => h) (Or.inl ⟨by rfl, ?_⟩) ?_ ?_
                                rotate_left
                                · intro w'
                                  go_simp
                                  with_reducible rfl
                                rotate_left
                                · simp only [Act.put, List.setIfInBounds_toArray, List.set_cons_zero, List.set_cons_succ, i64_w, i32_w]
                                  rfl
                                refine pure_ (i := 10) (N := some 30) (v := ?_) (a' := ?_) #[true, true, true, true, true, true, true, true, true, true, true, true, true, false, false, false, false] rfl rfl (any_of HT_.out (by kernel_rfl)) (fun _ _ _ h => h) (Or.inl ⟨by rfl, ?_⟩) ?_ ?_
                                rotate_left
                                · intro w'
                                  go_simp
                                  with_reducible rfl
                                rotate_left
                                · simp only [Act.put, List.setIfInBounds_toArray, List.set_cons_zero, List.set_cons_succ, i64_w, i32_w]
                                  rfl
                                refine take_ (i := 13) (N := some 33) (v := ?_) (a' := ?_) #[true, true, true, true, true, true, true, true, true, true, true, true, true, true, false, false, false] rfl rfl (take_ofW HT_.out HW_.out (by kernel_rfl)) (fun _ _ _ h => h) (Or.inl ⟨by rfl, ?_⟩) hHeld ?_ ?_
                                rotate_left
                                · rintro w' ⟨s0, s1, s2⟩
                                  go_simp
                                  with_reducible rfl
                                rotate_left
                                · simp only [Act.put, List.setIfInBounds_toArray, List.set_cons_zero, List.set_cons_succ, i64_w, i32_w]
                                  rfl
                                refine pure_ (i := 14) (N := some 34) (v := ?_) (a' := ?_) #[true, true, true, true, true, true, true, true, true, true, true, true, true, true, true, false, false] rfl rfl (any_of HT_.out (by kernel_rfl)) (fun _ _ _ h => h) (Or.inl ⟨by rfl, ?_⟩) ?_ ?_
                                rotate_left
                                · intro w'
                                  go_simp
                                  with_reducible rfl
                                rotate_left
                                · simp only [Act.put, List.setIfInBounds_toArray, List.set_cons_zero, List.set_cons_succ, i64_w, i32_w]
                                  rfl
                                refine pure_ (i := 15) (N := some 35) (v := ?_) (a' := ?_) #[true, true, true, true, true, true, true, true, true, true, true, true, true, true, true, true, false] rfl rfl (any_of HT_.out (by kernel_rfl)) (fun _ _ _ h => h) (Or.inl ⟨by rfl, ?_⟩) ?_ ?_
                                rotate_left
                                · intro w'
                                  go_simp
                                  with_reducible rfl
                                rotate_left
                                · simp only [Act.put, List.setIfInBounds_toArray, List.set_cons_zero, List.set_cons_succ, i64_w, i32_w]
                                  rfl
                                refine pure_ (i := 16) (N := some 5) (v := ?_) (a' := ?_) #[true, true, true, true, true, true, true, true, true, true, true, true, true, true, true, true, true] rfl rfl (any_of HT_.out (by kernel_rfl)) (fun _ _ _ h => h) (Or.inl ⟨by rfl, ?_⟩) ?_ ?_
                                rotate_left
                                · intro w'
                                  go_simp
                                  with_reducible rfl
                                rotate_left
                                · simp only [Act.put, List.setIfInBounds_toArray, List.set_cons_zero, List.set_cons_succ, i64_w, i32_w]
                                  rfl
                                refine done_ (done_of HT_.out (by kernel_rfl)) ?_
                                try go_wp2
                                have n0_ := Aside0.mk (Kd.V_drew HO0.out)
                                have n1_ := Aside0.mk (below_drew1 HB.out)
                                clear HO0
                                clear HB
                                have HO0 := n0_
                                have HB := n1_
                                clear n0_ n1_
                                have q28 : ((wrap64 ((ji13) + 4)) : Int) ≤ ((l0.length : Int) : Int) := of_decide_eq_true (by first | (with_reducible assumption) | assumption)
                                obtain ⟨i028, hi028, _, hsz28, _⟩ := info_parts info5
                                have hroom28 : l0.length ≤ c0 := (Kd.V_reads' HO0.out).2.1
                                have hC28 : Kd.F (Kd.int .u8) _ _ (some ad116) l0.length l0 := (Kd.V_at (base := w.heap.size) HO0.out).2.2
                                have ql28 : ((ji13) : Int) ≤ ((wrap64 ((ji13) + 4)) : Int) := of_decide_eq_true (by first | (with_reducible assumption) | assumption)
                                have q028 : (0 : Int) ≤ ((ji13) : Int) := of_decide_eq_true (by first | (with_reducible assumption) | assumption)
                                have hcut28 := cut_mid (P := Try.prog) 22 5 .i64 .i64 Try.underlying22 hi028 1 hsz28 (some ad116) l0.length c0 (ji13) (wrap64 ((ji13) + 4)) q028 ql28 q28 hroom28
                                have hr28 := Kd.F_mid (lo := ((ji13) : Int).toNat) (hi := ((wrap64 ((ji13) + 4)) : Int).toNat) (c := c0) hC28 (by omega) (by omega) hroom28
                                obtain ⟨A28, hA28⟩ : ∃ A1, A1 = (if c0 = ((ji13) : Int).toNat then (some ad116) else ((some ad116) : Option Addr).map (·.add (((ji13) : Int).toNat * 1))) := ⟨_, rfl⟩
                                obtain ⟨c28, hc28⟩ : ∃ c1, c1 = c0 - ((ji13) : Int).toNat := ⟨_, rfl⟩
                                have hy28 : y120.length = ((wrap64 ((ji13) + 4)) : Int).toNat - ((ji13) : Int).toNat := (by rw [Ny120.out, List.length_drop, List.length_take] <;> omega)
                                rw [show ((l0).take ((wrap64 ((ji13) + 4)) : Int).toNat).drop ((ji13) : Int).toNat = y120 from Ny120.out.symm] at hr28
                                replace hr28 : Kd.F (Kd.int .u8) _ _ A28 y120.length y120 := (by rw [hA28]; exact hr28)
                                rw [← hy28, ← hA28, ← hc28] at hcut28
                                have HO124 := Aside0.mk (show Kd.V (Kd.int .u8) 5 _ w.heap.size _ (.slice A28 y120.length c28) y120 from Kd.V_mk (by rw [hy28, hc28]; exact Nat.sub_le_sub_right (Nat.le_trans (by omega) hroom28) _) hr28)
                                have HC124 := Aside0.mk (show y120.length ≤ c28 from by rw [hy28, hc28]; exact Nat.sub_le_sub_right (Nat.le_trans (by omega) hroom28) _)
                                clear hr28 hC28 hroom28 hi028 hsz28 hc28
                                have KY28 := Aside0.mk hy28
                                have KA28 := Aside0.mk hA28
                                clear hy28 hA28
                                replace q28 := eq_true q28
                                have q29 : ((ji13) : Int) ≤ ((l0.length : Int) : Int) := of_decide_eq_true (by first | (with_reducible assumption) | assumption)
                                obtain ⟨i029, hi029, _, hsz29, _⟩ := info_parts info5
                                have hroom29 : l0.length ≤ c0 := (Kd.V_reads' HO0.out).2.1
                                have hC29 : Kd.F (Kd.int .u8) _ _ (some ad116) l0.length l0 := (Kd.V_at (base := w.heap.size) HO0.out).2.2
                                have hcut29 := cut_to (P := Try.prog) 22 5 .i64 Try.underlying22 hi029 (some ad116) l0.length c0 (ji13) (of_decide_eq_true (by first | (with_reducible assumption) | assumption)) q29 hroom29
                                have hr29 := Kd.F_take (m := ((ji13) : Int).toNat) hC29 (by omega)
                                have hy29 : y125.length = ((ji13) : Int).toNat := (by rw [Ny125.out, List.length_take]; omega)
                                rw [← Ny125.out] at hr29
                                rw [← hy29] at hcut29
                                have HO129 := Aside0.mk (show Kd.V (Kd.int .u8) 5 _ w.heap.size _ (.slice (some ad116) y125.length c0) y125 from Kd.V_mk (by omega) hr29)
                                have HC129 := Aside0.mk (show y125.length ≤ c0 from by omega)
                                clear hr29 hC29 hroom29 hi029 hsz29
                                have KY29 := Aside0.mk hy29
                                clear hy29
                                replace q29 := eq_true q29
                                refine start_ (n := 14) (S := fun w' => True) (ds := []) #[false, false, false, false, false, false, false, false, false, false, false, false, false, false] (by kernel_rfl) rfl rfl trivial (fun hHeld => ?_); refine with_tabW frame_Next.tab13 frame_Next.bits13 (fun HT_ HW_ => ?_)
                                generalize w26.drew = w27 at HO0 HB HO124 HO129 hHeld ⊢
                                refine pure_ (i := 0) (N := some 48) (v := ?_) (a' := ?_) #[true, false, false, false, false, false, false, false, false, false, false, false, false, false] rfl rfl (any_of HT_.out (by kernel_rfl)) (fun _ _ _ h => h) (Or.inl ⟨by rfl, ?_⟩) ?_ ?_
                                rotate_left
                                · intro w'
                                  go_simp
                                  with_reducible rfl
                                rotate_left
                                · simp only [Act.put, List.setIfInBounds_toArray, List.set_cons_zero, List.set_cons_succ, i64_w, i32_w]
                                  rfl
                                refine pure_ (i := 1) (N := some 49) (v := ?_) (a' := ?_) #[true, true, false, false, false, false, false, false, false, false, false, false, false, false] rfl rfl (any_of HT_.out (by kernel_rfl)) (fun _ _ _ h => h) (Or.inl ⟨by rfl, ?_⟩) ?_ ?_
                                rotate_left
                                · intro w'
                                  go_simp
                                  with_reducible rfl
                                rotate_left
                                · simp only [Act.put, List.setIfInBounds_toArray, List.set_cons_zero, List.set_cons_succ, i64_w, i32_w]
                                  rfl
                                refine pure_ (i := 2) (N := some 50) (v := ?_) (a' := ?_) #[true, true, true, false, false, false, false, false, false, false, false, false, false, false] rfl rfl (any_of HT_.out (by kernel_rfl)) (fun _ _ _ h => h) (Or.inl ⟨by rfl, ?_⟩) ?_ ?_
                                rotate_left
                                · intro w'
                                  go_simp
                                  with_reducible rfl
                                rotate_left
                                · simp only [Act.put, List.setIfInBounds_toArray, List.set_cons_zero, List.set_cons_succ, i64_w, i32_w]
                                  rfl
                                refine pure_ (i := 3) (N := some 51) (v := ?_) (a' := ?_) #[true, true, true, true, false, false, false, false, false, false, false, false, false, false] rfl rfl (any_of HT_.out (by kernel_rfl)) (fun _ _ _ h => h) (Or.inl ⟨by rfl, ?_⟩) ?_ ?_
                                rotate_left
                                · intro w'
                                  go_simp
                                  with_reducible rfl
                                rotate_left
                                · simp only [Act.put, List.setIfInBounds_toArray, List.set_cons_zero, List.set_cons_succ, i64_w, i32_w]
                                  rfl
                                refine pure_ (i := 4) (N := some 52) (v := ?_) (a' := ?_) #[true, true, true, true, true, false, false, false, false, false, false, false, false, false] rfl rfl (any_of HT_.out (by kernel_rfl)) (fun _ _ _ h => h) (Or.inl ⟨by rfl, ?_⟩) ?_ ?_
                                rotate_left
                                · intro w'
                                  go_simp
                                  with_reducible rfl
                                rotate_left
                                · simp only [Act.put, List.setIfInBounds_toArray, List.set_cons_zero, List.set_cons_succ, i64_w, i32_w]
                                  rfl
                                refine pure_ (i := 5) (N := some 53) (v := ?_) (a' := ?_) #[true, true, true, true, true, true, false, false, false, false, false, false, false, false] rfl rfl (any_of HT_.out (by kernel_rfl)) (fun _ _ _ h => h) (Or.inl ⟨by rfl, ?_⟩) ?_ ?_
                                rotate_left
                                · intro w'
                                  go_simp
                                  with_reducible rfl
                                rotate_left
                                · simp only [Act.put, List.setIfInBounds_toArray, List.set_cons_zero, List.set_cons_succ, i64_w, i32_w]
                                  rfl
                                refine pure_ (i := 6) (N := some 54) (v := ?_) (a' := ?_) #[true, true, true, true, true, true, true, false, false, false, false, false, false, false] rfl rfl (any_of HT_.out (by kernel_rfl)) (fun _ _ _ h => h) (Or.inl ⟨by rfl, ?_⟩) ?_ ?_
                                rotate_left
                                · intro w'
                                  go_simp
                                  with_reducible rfl
                                rotate_left
                                · simp only [Act.put, List.setIfInBounds_toArray, List.set_cons_zero, List.set_cons_succ, i64_w, i32_w]
                                  rfl
                                refine pure_ (i := 7) (N := some 55) (v := ?_) (a' := ?_) #[true, true, true, true, true, true, true, true, false, false, false, false, false, false] rfl rfl (any_of HT_.out (by kernel_rfl)) (fun _ _ _ h => h) (Or.inl ⟨by rfl, ?_⟩) ?_ ?_
                                rotate_left
                                · intro w'
                                  go_simp
                                  with_reducible rfl
                                rotate_left
                                · simp only [Act.put, List.setIfInBounds_toArray, List.set_cons_zero, List.set_cons_succ, i64_w, i32_w]
                                  rfl
                                refine one_ (i := 8) (N := some 56) #[true, true, true, true, true, true, true, true, true, false, false, false, false, false] rfl rfl (one_of HT_.out (by kernel_rfl)) (by decide) (fun K hK => ?_)
                                refine Kd.N_lit_step (Kd.slice 5 (Kd.int .u8)) _ 22 ?hg (N' := 56) ?hd (xs := ([y125] : List (List Int))) (inner := [.slice (some ad116) y125.length c0]) (ok := (fun k_ => (P0_ k_ ∨ w.heap.size ≤ k_))) (okp := (fun k_ => (P0_ k_ ∨ w.heap.size ≤ k_))) ?hr ?hp (fun _ hk => hk) ((show ∀ k_, w27.heap.size ≤ k_ → (fun k_ => (P0_ k_ ∨ w.heap.size ≤ k_)) k_ from fun k_ hk => (.inr (Nat.le_trans (below_size (by repeat (first | (with_reducible first | exact HB.out | apply below_alloc | apply pw_below_drewN | apply below_drew1) | exact HB.out))) hk))) _ (Nat.le_refl _)) (Below.refl _ _) (Nat.le_refl _) (by simp) ?_; (case hd => rfl); (case hg => rfl); (case hr => first | (go_simp; done) | (go_simp; rfl)); (case hp => exact (Reps.one (show Kd.FK (Kd.slice 5 (Kd.int .u8)) _ _ y125 [.slice (some ad116) y125.length c0] from (Kd.FK_slice_mk (Kd.V_reads' (Kd.V_mono (ok' := (fun k_ => (P0_ k_ ∨ w.heap.size ≤ k_))) (HO129.out) (fun k_ hk => hk))).2.1 (Kd.V_F (Kd.V_mono (ok' := (fun k_ => (P0_ k_ ∨ w.heap.size ≤ k_))) (HO129.out) (fun k_ hk => hk))))) (Reps.none _ _)))
                                intro v131 w30 ho31 hb hg_ hnew_
                                clear hg_ hnew_
                                (first | rw [← Ny130.out] at ho31 | (simp only [Int.reduceToNat] at ho31; rw [← Ny130.out] at ho31))
                                have n0_ := Aside0.mk (Kd.V_elder' (by (with_reducible repeat (first | apply Kd.V_alloc | apply Kd.V_drewN | apply Kd.V_drew)); exact HO0.out) (Kd.N_base ho31) hb)
                                have n1_ := Aside0.mk (Kd.V_elder' (by (with_reducible repeat (first | apply Kd.V_alloc | apply Kd.V_drewN | apply Kd.V_drew)); exact HO124.out) (Kd.N_base ho31) hb)
                                have n2_ := Aside0.mk (Kd.V_elder' (by (with_reducible repeat (first | apply Kd.V_alloc | apply Kd.V_drewN | apply Kd.V_drew)); exact HO129.out) (Kd.N_base ho31) hb)
                                have n3_ := Aside0.mk (Kd.N_lower ho31 (below_size (by repeat (first | (with_reducible first | exact HB.out | apply below_alloc | apply pw_below_drewN | apply below_drew1) | exact HB.out))))
                                have n4_ := Aside0.mk (below_step (by repeat (first | (with_reducible first | exact HB.out | apply below_alloc | apply pw_below_drewN | apply below_drew1) | exact HB.out)) hb)
                                clear HO0
                                clear HO124
                                clear HO129
                                clear HB
                                have HO0 := n0_
                                have HO124 := n1_
                                have HO129 := n2_
                                have HO132 := n3_
                                have HB := n4_
                                clear n0_ n1_ n2_ n3_ n4_
                                clear hb ho31
                                obtain ⟨Ao32, co32, eo32⟩ := Kd.N_slice HO132.out
                                (first | subst eo32 | (injection eo32 with f1_ f2_ f3_; have f4_ := f1_.symm; have f5_ := f3_.symm; clear f1_ f2_ f3_; subst f4_; subst f5_))
                                refine hK.out _ _ trivial (fun hHeld => ?_)
                                clear hK K
                                refine norm_ (a' := ?_) ?_ ?_
                                rotate_left
                                · show Act.put _ (some 56) _ = _
                                  simp only [Act.put, List.setIfInBounds_toArray, List.set_cons_zero, List.set_cons_succ, i64_w, i32_w]
                                  rfl
                                refine one_ (i := 9) (N := some 57) #[true, true, true, true, true, true, true, true, true, true, false, false, false, false] rfl rfl (one_of HT_.out (by kernel_rfl)) (by decide) (fun K hK => ?_)
                                refine goes_ Try.func15 (by kernel_rfl) rfl #[.slice Ao32 y130.length co32] (by rfl) rfl rfl (by (try simp only [List.map_toArray, List.map_cons, List.map_nil]); first | done | rfl | (simp only [List.length_drop, List.length_take]; rfl)) ?_
                                with_reducible refine (frame_Check.calls k _ _ y130 t133 _ ?side1 ?side2 A19.out).mono ?_
                                (case side1 => repeat (first | exact (Kd.N_reads' HO132.out).2.2 | (with_reducible refine Kd.C_alloc ?_ _) | (with_reducible refine Kd.C_drewN ?_ _) | (with_reducible refine Kd.C_drew ?_)))
                                (case side2 => exact (Kd.N_reads' HO132.out).2.1)
                                rintro e w' ⟨rfl, ⟨nd, rfl⟩⟩
                                refine ⟨_, rfl, ?_⟩
                                refine hK.out _ _ trivial (fun hHeld => ?_)
                                clear hK K
                                refine norm_ (a' := ?_) ?_ ?_
                                rotate_left
                                · show Act.put _ (some 57) _ = _
                                  simp only [Act.put, List.setIfInBounds_toArray, List.set_cons_zero, List.set_cons_succ, i64_w, i32_w]
                                  rfl
                                refine one_ (i := 10) (N := some 58) #[true, true, true, true, true, true, true, true, true, true, true, false, false, false] rfl rfl (one_of HT_.out (by kernel_rfl)) (by decide) (fun K hK => ?_)
                                refine goes_ Try.func24 (by kernel_rfl) rfl #[.int .u32 t133] (by rfl) rfl rfl (by (try simp only [List.map_toArray, List.map_cons, List.map_nil]); first | done | rfl | (simp only [List.length_drop, List.length_take]; rfl)) ?_
                                with_reducible refine (frame_big.calls t133 t134 _ A20.out).mono ?_
                                rintro e w33 ⟨v135, rfl, ho0, hb⟩
                                refine ⟨_, rfl, ?_⟩
                                have n0_ := Aside0.mk (Kd.V_elder' (by (with_reducible repeat (first | apply Kd.V_alloc | apply Kd.V_drewN | apply Kd.V_drew)); exact HO0.out) (Kd.R_base ho0) hb)
                                have n1_ := Aside0.mk (Kd.V_elder' (by (with_reducible repeat (first | apply Kd.V_alloc | apply Kd.V_drewN | apply Kd.V_drew)); exact HO124.out) (Kd.R_base ho0) hb)
                                have n2_ := Aside0.mk (Kd.V_elder' (by (with_reducible repeat (first | apply Kd.V_alloc | apply Kd.V_drewN | apply Kd.V_drew)); exact HO129.out) (Kd.R_base ho0) hb)
                                have n3_ := Aside0.mk (Kd.N_elder' (by (with_reducible repeat (first | apply Kd.N_alloc | apply Kd.N_drewN | apply Kd.N_drew)); exact HO132.out) (Kd.R_base ho0) hb)
                                have n4_ := Aside0.mk (Kd.R_lower (Kd.R_newM (M := fun k_ => (w.heap.size ≤ k_)) ho0 (below_size (by repeat (first | (with_reducible first | exact HB.out | apply below_alloc | apply pw_below_drewN | apply below_drew1) | exact HB.out))) (fun k_ h_ => h_)) (below_size (by repeat (first | (with_reducible first | exact HB.out | apply below_alloc | apply pw_below_drewN | apply below_drew1) | exact HB.out))))
                                have n5_ := Aside0.mk (below_step (by repeat (first | (with_reducible first | exact HB.out | apply below_alloc | apply pw_below_drewN | apply below_drew1) | exact HB.out)) hb)
                                clear HO0
                                clear HO124
                                clear HO129
                                clear HO132
                                clear HB
                                have HO0 := n0_
                                have HO124 := n1_
                                have HO129 := n2_
                                have HO132 := n3_
                                have HO136 := n4_
                                have HB := n5_
                                clear n0_ n1_ n2_ n3_ n4_ n5_
                                (try clear hb)
                                (try clear hb2)
                                (try clear hk)
                                (try clear hi)
                                (try clear ho0)
                                obtain ⟨Ao34, co34, eo34⟩ := Kd.R_slice HO136.out
                                (first | subst eo34 | (injection eo34 with f1_ f2_ f3_; have f4_ := f1_.symm; have f5_ := f3_.symm; clear f1_ f2_ f3_; subst f4_; subst f5_))
                                refine hK.out _ _ trivial (fun hHeld => ?_)
                                clear hK K
                                refine norm_ (a' := ?_) ?_ ?_
                                rotate_left
                                · show Act.put _ (some 58) _ = _
                                  simp only [Act.put, List.setIfInBounds_toArray, List.set_cons_zero, List.set_cons_succ, i64_w, i32_w]
                                  rfl
                                refine one_ (i := 11) (N := some 59) #[true, true, true, true, true, true, true, true, true, true, true, true, false, false] rfl rfl (one_of HT_.out (by kernel_rfl)) (by decide) (fun K hK => ?_)
                                refine goes_ Try.func26 (by kernel_rfl) rfl #[.slice A28 y120.length c28, .slice Ao34 t134.length co34] (by rfl) rfl rfl (by (try simp only [List.map_toArray, List.map_cons, List.map_nil]); first | done | rfl | (simp only [List.length_drop, List.length_take]; rfl)) ?_
                                with_reducible refine (slices_Equal_byte_byte.calls k _ _ y120 _ _ t134 true _ ?side1 ?side2 ?side3 ?side4 A21.out).mono ?_
                                (case side1 => repeat (first | exact (Kd.V_reads' HO124.out).2.2 | (with_reducible refine Kd.C_alloc ?_ _) | (with_reducible refine Kd.C_drewN ?_ _) | (with_reducible refine Kd.C_drew ?_)))
                                (case side2 => exact (Kd.V_reads' HO124.out).2.1)
                                (case side3 => repeat (first | exact (Kd.R_reads' HO136.out).2.2 | (with_reducible refine Kd.C_alloc ?_ _) | (with_reducible refine Kd.C_drewN ?_ _) | (with_reducible refine Kd.C_drew ?_)))
                                (case side4 => exact (Kd.R_reads' HO136.out).2.1)
                                rintro e w' ⟨rfl, ⟨nd, rfl⟩⟩
                                refine ⟨_, rfl, ?_⟩
                                refine hK.out _ _ trivial (fun hHeld => ?_)
                                clear hK K
                                refine norm_ (a' := ?_) ?_ ?_
                                rotate_left
                                · show Act.put _ (some 59) _ = _
                                  simp only [Act.put, List.setIfInBounds_toArray, List.set_cons_zero, List.set_cons_succ, i64_w, i32_w]
                                  rfl
                                refine pure_ (i := 12) (N := some 60) (v := ?_) (a' := ?_) #[true, true, true, true, true, true, true, true, true, true, true, true, true, false] rfl rfl (any_of HT_.out (by kernel_rfl)) (fun _ _ _ h => h) (Or.inl ⟨by rfl, ?_⟩) ?_ ?_
                                rotate_left
                                · intro w'
                                  go_simp
                                  with_reducible rfl
                                rotate_left
                                · simp only [Act.put, List.setIfInBounds_toArray, List.set_cons_zero, List.set_cons_succ, i64_w, i32_w]
                                  rfl
                                refine pure_ (i := 13) (N := some 47) (v := ?_) (a' := ?_) #[true, true, true, true, true, true, true, true, true, true, true, true, true, true] rfl rfl (any_of HT_.out (by kernel_rfl)) (fun _ _ _ h => h) (Or.inl ⟨by rfl, ?_⟩) ?_ ?_
                                rotate_left
                                · intro w'
                                  go_simp
                                  with_reducible rfl
                                rotate_left
                                · simp only [Act.put, List.setIfInBounds_toArray, List.set_cons_zero, List.set_cons_succ, i64_w, i32_w]
                                  rfl
                                refine done_ (done_of HT_.out (by kernel_rfl)) ?_
                                have q35 : ((ji13) : Int) ≤ ((l0.length : Int) : Int) := of_decide_eq_true (by first | (with_reducible assumption) | assumption)
                                obtain ⟨i035, hi035, _, hsz35, _⟩ := info_parts info5
                                have hroom35 : l0.length ≤ c0 := (Kd.V_reads' HO0.out).2.1
                                have hC35 : Kd.F (Kd.int .u8) _ _ (some ad116) l0.length l0 := (Kd.V_at (base := w.heap.size) HO0.out).2.2
                                have ql35 : (4 : Int) ≤ ((ji13) : Int) := of_decide_eq_true (by first | (with_reducible assumption) | assumption)
                                have hcut35 := cut_mid (P := Try.prog) 22 5 .i64 .i64 Try.underlying22 hi035 1 hsz35 (some ad116) l0.length c0 4 (ji13) (by omega) ql35 q35 hroom35
                                have hr35 := Kd.F_mid (lo := (4 : Int).toNat) (hi := ((ji13) : Int).toNat) (c := c0) hC35 (by omega) (by omega) hroom35
                                obtain ⟨A35, hA35⟩ : ∃ A1, A1 = (if c0 = (4 : Int).toNat then (some ad116) else ((some ad116) : Option Addr).map (·.add ((4 : Int).toNat * 1))) := ⟨_, rfl⟩
                                obtain ⟨c35, hc35⟩ : ∃ c1, c1 = c0 - (4 : Int).toNat := ⟨_, rfl⟩
                                have hy35 : y138.length = ((ji13) : Int).toNat - (4 : Int).toNat := (by rw [Ny138.out, List.length_drop, List.length_take] <;> omega)
                                rw [show ((l0).take ((ji13) : Int).toNat).drop (4 : Int).toNat = y138 from Ny138.out.symm] at hr35
                                replace hr35 : Kd.F (Kd.int .u8) _ _ A35 y138.length y138 := (by rw [hA35]; exact hr35)
                                rw [← hy35, ← hA35, ← hc35] at hcut35
                                have HO142 := Aside0.mk (show Kd.V (Kd.int .u8) 5 _ w.heap.size _ (.slice A35 y138.length c35) y138 from Kd.V_mk (by rw [hy35, hc35]; exact Nat.sub_le_sub_right (Nat.le_trans (by omega) hroom35) _) hr35)
                                have HC142 := Aside0.mk (show y138.length ≤ c35 from by rw [hy35, hc35]; exact Nat.sub_le_sub_right (Nat.le_trans (by omega) hroom35) _)
                                clear hr35 hC35 hroom35 hi035 hsz35 hc35
                                have KY35 := Aside0.mk hy35
                                have KA35 := Aside0.mk hA35
                                clear hy35 hA35
                                replace q35 := eq_true q35
                                try go_wp2_with (first | ((with_reducible refine gate_callee (f := 27) rfl ?_); refine goesL_ (some 64) rfl rfl Try.func27 (by kernel_rfl) rfl #[.slice A35 y138.length c35] rfl (by (try simp only [List.map_toArray, List.map_cons, List.map_nil]); first | done | rfl | (simp only [List.length_drop, List.length_take]; rfl)) ?_; (with_reducible refine (slices_Clone_byte_byte.calls _ _ y138 t143 _ ?side1 ?side2 A25.out).mono ?_); (case side1 => repeat (first | exact (Kd.V_reads' HO142.out).2.2 | (with_reducible refine Kd.C_alloc ?_ _) | (with_reducible refine Kd.C_drewN ?_ _) | (with_reducible refine Kd.C_drew ?_))); (case side2 => exact (Kd.V_reads' HO142.out).2.1); rintro e w36 ⟨v144, rfl, ho0, hb⟩; refine ⟨_, rfl, ?_⟩; have n0_ := Aside0.mk (Kd.V_elder' (by (with_reducible repeat (first | apply Kd.V_alloc | apply Kd.V_drewN | apply Kd.V_drew)); exact HO0.out) (Kd.R_base ho0) hb); have n1_ := Aside0.mk (Kd.V_elder' (by (with_reducible repeat (first | apply Kd.V_alloc | apply Kd.V_drewN | apply Kd.V_drew)); exact HO124.out) (Kd.R_base ho0) hb); have n2_ := Aside0.mk (Kd.V_elder' (by (with_reducible repeat (first | apply Kd.V_alloc | apply Kd.V_drewN | apply Kd.V_drew)); exact HO129.out) (Kd.R_base ho0) hb); have n3_ := Aside0.mk (Kd.N_elder' (by (with_reducible repeat (first | apply Kd.N_alloc | apply Kd.N_drewN | apply Kd.N_drew)); exact HO132.out) (Kd.R_base ho0) hb); have n4_ := Aside0.mk (Kd.R_elder' (by (with_reducible repeat (first | apply Kd.R_alloc | apply Kd.R_drewN | apply Kd.R_drew)); exact HO136.out) (Kd.R_base ho0) hb); have n5_ := Aside0.mk (Kd.V_elder' (by (with_reducible repeat (first | apply Kd.V_alloc | apply Kd.V_drewN | apply Kd.V_drew)); exact HO142.out) (Kd.R_base ho0) hb); have n6_ := Aside0.mk (Kd.R_lower (Kd.R_new' (Kd.R_newM (M := fun k_ => (w.heap.size ≤ k_)) ho0 (below_size (by repeat (first | (with_reducible first | exact HB.out | apply below_alloc | apply pw_below_drewN | apply below_drew1) | exact HB.out))) (fun k_ h_ => h_)) (Kd.R_lt (by (with_reducible repeat (first | apply Kd.R_alloc | apply Kd.R_drewN | apply Kd.R_drew)); exact HO136.out))) (below_size (by repeat (first | (with_reducible first | exact HB.out | apply below_alloc | apply pw_below_drewN | apply below_drew1) | exact HB.out)))); have n7_ := Aside0.mk (below_step (by repeat (first | (with_reducible first | exact HB.out | apply below_alloc | apply pw_below_drewN | apply below_drew1) | exact HB.out)) hb); clear HO0; clear HO124; clear HO129; clear HO132; clear HO136; clear HO142; clear HB; have HO0 := n0_; have HO124 := n1_; have HO129 := n2_; have HO132 := n3_; have HO136 := n4_; have HO142 := n5_; have HO145 := n6_; have HB := n7_; clear n0_ n1_ n2_ n3_ n4_ n5_ n6_ n7_; (try clear hb); (try clear hb2); (try clear hk); (try clear hi); (try clear ho0)))
                                go_ret3
                                exact ⟨_, by first | rfl | (simp [errW_none, errW_some] <;> rfl) | (simp only [← hji13]; first | rfl | (simp [errW_none, errW_some] <;> rfl)) | (simp [*, errW_none, errW_some] <;> rfl), by (with_reducible repeat (first | apply Kd.R_alloc | apply Kd.R_drewN | apply Kd.R_drew)); exact Kd.R_mono HO145.out (fun _ hk => hk.1.1), by repeat (first | (with_reducible first | exact HB.out | apply below_alloc | apply pw_below_drewN | apply below_drew1) | exact HB.out)⟩
                              · rw [if_neg c23] at H
                                exact absurd H (by simp)
                            · replace c22 := Bool.eq_false_iff.mpr c22
                              subst c22
                              have H1 : (some (([] : List Int), 0, 70)) = some (r1, r2, r3) := by rw [if_neg (show ¬ (false = true) by decide)] at H; exact H
                              clear H
                              have H := H1
                              clear H1
                              simp only [Option.some.injEq, Prod.mk.injEq] at H
                              obtain ⟨rfl, rfl, rfl⟩ := H
                              have p116 : 0 ≤ (0 : Int) := (by omega)
                              have q116 : 0 < (l0.length : Int) := of_decide_eq_true (by first | (with_reducible assumption) | assumption)
                              obtain ⟨ad116, e116, hx116_0⟩ := Kd.at_int (Kd.V_reads' HO0.out).2.2 0 p116 q116
                              cases e116
                              have qi116 : (0 < l0.length) = True := eq_true (by omega)
                              (try rw [show ((0 : Int)).toNat = 0 from rfl] at hx116_0)
                              (try rw [Addr.add_zero'] at hx116_0)
                              replace p116 := eq_true p116
                              replace q116 := eq_true q116
                              go_enter Try.func18, Try.ntmps18
                              try go_wp2
                              have n0_ := Aside0.mk (Kd.V_drew HO0.out)
                              have n1_ := Aside0.mk (below_drew1 HB.out)
                              clear HO0
                              clear HB
                              have HO0 := n0_
                              have HB := n1_
                              clear n0_ n1_
                              have p117 : 0 ≤ (1 : Int) := (by omega)
                              have q117 : 1 < (l0.length : Int) := of_decide_eq_true (by first | (with_reducible assumption) | assumption)
                              obtain ⟨ad117, e117, hx117_0⟩ := Kd.at_int (Kd.V_reads' HO0.out).2.2 1 p117 q117
                              obtain rfl : ad116 = ad117 := (by injection e117)
                              (try simp only [show (1 : Int).toNat = 1 from rfl, Nat.reduceMul, Nat.reduceEqDiff, Go.Addr.add, ↓reduceIte] at hx117_0)
                              have qi117 : (1 < l0.length) = True := eq_true (by omega)
                              (try rw [show ((1 : Int)).toNat = 1 from rfl] at hx117_0)
                              replace p117 := eq_true p117
                              replace q117 := eq_true q117
                              have p118 : 0 ≤ (2 : Int) := (by omega)
                              have q118 : 2 < (l0.length : Int) := of_decide_eq_true (by first | (with_reducible assumption) | assumption)
                              obtain ⟨ad118, e118, hx118_0⟩ := Kd.at_int (Kd.V_reads' HO0.out).2.2 2 p118 q118
                              obtain rfl : ad116 = ad118 := (by injection e118)
                              (try simp only [show (2 : Int).toNat = 2 from rfl, Nat.reduceMul, Nat.reduceEqDiff, Go.Addr.add, ↓reduceIte] at hx118_0)
                              have qi118 : (2 < l0.length) = True := eq_true (by omega)
                              (try rw [show ((2 : Int)).toNat = 2 from rfl] at hx118_0)
                              replace p118 := eq_true p118
                              replace q118 := eq_true q118
                              have p119 : 0 ≤ (3 : Int) := (by omega)
                              have q119 : 3 < (l0.length : Int) := of_decide_eq_true (by first | (with_reducible assumption) | assumption)
                              obtain ⟨ad119, e119, hx119_0⟩ := Kd.at_int (Kd.V_reads' HO0.out).2.2 3 p119 q119
                              obtain rfl : ad116 = ad119 := (by injection e119)
                              (try simp only [show (3 : Int).toNat = 3 from rfl, Nat.reduceMul, Nat.reduceEqDiff, Go.Addr.add, ↓reduceIte] at hx119_0)
                              have qi119 : (3 < l0.length) = True := eq_true (by omega)
                              (try rw [show ((3 : Int)).toNat = 3 from rfl] at hx119_0)
                              replace p119 := eq_true p119
                              replace q119 := eq_true q119
                              refine start_ (n := 17) (S := fun w' => w'.cell? ⟨ad116.block, ad116.off + 1, none⟩ = some (.int .u8 (rd l0 1)) ∧ w'.cell? ⟨ad116.block, ad116.off + 2, none⟩ = some (.int .u8 (rd l0 2)) ∧ w'.cell? ⟨ad116.block, ad116.off + 3, none⟩ = some (.int .u8 (rd l0 3))) (ds := []) #[false, false, false, false, false, false, false, false, false, false, false, false, false, false, false, false, false] (by kernel_rfl) rfl rfl ⟨hx117_0, hx118_0, hx119_0⟩ (fun hHeld => ?_); refine with_tabW frame_Next.tab7 frame_Next.bits7 (fun HT_ HW_ => ?_)
                              generalize w.drew = w37 at HO0 HB hx117_0 hx118_0 hx119_0 hHeld ⊢
                              refine pure_ (i := 0) (N := some 20) (v := ?_) (a' := ?_) #[true, false, false, false, false, false, false, false, false, false, false, false, false, false, false, false, false] rfl rfl (any_of HT_.out (by kernel_rfl)) (fun _ _ _ h => h) (Or.inl ⟨by rfl, ?_⟩) ?_ ?_
                              rotate_left
                              · intro w'
                                go_simp
                                with_reducible rfl
                              rotate_left
                              · simp only [Act.put, List.setIfInBounds_toArray, List.set_cons_zero, List.set_cons_succ, i64_w, i32_w]
                                rfl
                              refine pure_ (i := 1) (N := some 21) (v := ?_) (a' := ?_) #[true, true, false, false, false, false, false, false, false, false, false, false, false, false, false, false, false] rfl rfl (any_of HT_.out (by kernel_rfl)) (fun _ _ _ h => h) (Or.inl ⟨by rfl, ?_⟩) ?_ ?_
                              rotate_left
                              · intro w'
                                go_simp
                                with_reducible rfl
                              rotate_left
                              · simp only [Act.put, List.setIfInBounds_toArray, List.set_cons_zero, List.set_cons_succ, i64_w, i32_w]
                                rfl
                              refine pure_ (i := 5) (N := some 25) (v := ?_) (a' := ?_) #[true, true, false, false, false, true, false, false, false, false, false, false, false, false, false, false, false] rfl rfl (any_of HT_.out (by kernel_rfl)) (fun _ _ _ h => h) (Or.inl ⟨by rfl, ?_⟩) ?_ ?_
                              rotate_left
                              · intro w'
                                go_simp
                                with_reducible rfl
                              rotate_left
                              · simp only [Act.put, List.setIfInBounds_toArray, List.set_cons_zero, List.set_cons_succ, i64_w, i32_w]
                                rfl
                              refine pure_ (i := 6) (N := some 26) (v := ?_) (a' := ?_) #[true, true, false, false, false, true, true, false, false, false, false, false, false, false, false, false, false] rfl rfl (any_of HT_.out (by kernel_rfl)) (fun _ _ _ h => h) (Or.inl ⟨by rfl, ?_⟩) ?_ ?_
                              rotate_left
                              · intro w'
                                go_simp
                                with_reducible rfl
                              rotate_left
                              · simp only [Act.put, List.setIfInBounds_toArray, List.set_cons_zero, List.set_cons_succ, i64_w, i32_w]
                                rfl
                              refine pure_ (i := 11) (N := some 31) (v := ?_) (a' := ?_) #[true, true, false, false, false, true, true, false, false, false, false, true, false, false, false, false, false] rfl rfl (any_of HT_.out (by kernel_rfl)) (fun _ _ _ h => h) (Or.inl ⟨by rfl, ?_⟩) ?_ ?_
                              rotate_left
                              · intro w'
                                go_simp
                                with_reducible rfl
                              rotate_left
                              · simp only [Act.put, List.setIfInBounds_toArray, List.set_cons_zero, List.set_cons_succ, i64_w, i32_w]
                                rfl
                              refine pure_ (i := 12) (N := some 32) (v := ?_) (a' := ?_) #[true, true, false, false, false, true, true, false, false, false, false, true, true, false, false, false, false] rfl rfl (any_of HT_.out (by kernel_rfl)) (fun _ _ _ h => h) (Or.inl ⟨by rfl, ?_⟩) ?_ ?_
                              rotate_left
                              · intro w'
                                go_simp
                                with_reducible rfl
                              rotate_left
                              · simp only [Act.put, List.setIfInBounds_toArray, List.set_cons_zero, List.set_cons_succ, i64_w, i32_w]
                                rfl
                              refine take_ (i := 2) (N := some 22) (v := ?_) (a' := ?_) #[true, true, true, false, false, true, true, false, false, false, false, true, true, false, false, false, false] rfl rfl (take_ofW HT_.out HW_.out (by kernel_rfl)) (fun _ _ _ h => h) (Or.inl ⟨by rfl, ?_⟩) hHeld ?_ ?_
                              rotate_left
                              · rintro w' ⟨s0, s1, s2⟩
                                go_simp
                                with_reducible rfl
                              rotate_left
                              · simp only [Act.put, List.setIfInBounds_toArray, List.set_cons_zero, List.set_cons_succ, i64_w, i32_w]
                                rfl
                              refine pure_ (i := 3) (N := some 23) (v := ?_) (a' := ?_) #[true, true, true, true, false, true, true, false, false, false, false, true, true, false, false, false, false] rfl rfl (any_of HT_.out (by kernel_rfl)) (fun _ _ _ h => h) (Or.inl ⟨by rfl, ?_⟩) ?_ ?_
                              rotate_left
                              · intro w'
                                go_simp
                                with_reducible rfl
                              rotate_left
                              · simp only [Act.put, List.setIfInBounds_toArray, List.set_cons_zero, List.set_cons_succ, i64_w, i32_w]
                                rfl
                              refine pure_ (i := 4) (N := some 24) (v := ?_) (a' := ?_) #[true, true, true, true, true, true, true, false, false, false, false, true, true, false, false, false, false] rfl rfl (any_of HT_.out (by kernel_rfl)) (fun _ _ _ h => h) (Or.inl ⟨by rfl, ?_⟩) ?_ ?_
                              rotate_left
                              · intro w'
                                go_simp
                                with_reducible rfl
                              rotate_left
                              · simp only [Act.put, List.setIfInBounds_toArray, List.set_cons_zero, List.set_cons_succ, i64_w, i32_w]
                                rfl
                              refine take_ (i := 7) (N := some 27) (v := ?_) (a' := ?_) #[true, true, true, true, true, true, true, true, false, false, false, true, true, false, false, false, false] rfl rfl (take_ofW HT_.out HW_.out (by kernel_rfl)) (fun _ _ _ h => h) (Or.inl ⟨by rfl, ?_⟩) hHeld ?_ ?_
                              rotate_left
                              · rintro w' ⟨s0, s1, s2⟩
                                go_simp
                                with_reducible rfl
                              rotate_left
                              · simp only [Act.put, List.setIfInBounds_toArray, List.set_cons_zero, List.set_cons_succ, i64_w, i32_w]
                                rfl
                              refine pure_ (i := 8) (N := some 28) (v := ?_) (a' := ?_) #[true, true, true, true, true, true, true, true, true, false, false, true, true, false, false, false, false] rfl rfl (any_of HT_.out (by kernel_rfl)) (fun _ _ _ h => h) (Or.inl ⟨by rfl, ?_⟩) ?_ ?_
                              rotate_left
                              · intro w'
                                go_simp
                                with_reducible rfl
                              rotate_left
                              · simp only [Act.put, List.setIfInBounds_toArray, List.set_cons_zero, List.set_cons_succ, i64_w, i32_w]
                                rfl
                              refine pure_ (i := 9) (N := some 29) (v := ?_) (a' := ?_) #[true, true, true, true, true, true, true, true, true, true, false, true, true, false, false, false, false] rfl rfl (any_of HT_.out (by kernel_rfl)) (fun _ _ _ h => h) (Or.inl ⟨by rfl, ?_⟩) ?_ ?_
                              rotate_left
                              · intro w'
                                go_simp
                                with_reducible rfl
                              rotate_left
                              · simp only [Act.put, List.setIfInBounds_toArray, List.set_cons_zero, List.set_cons_succ, i64_w, i32_w]
                                rfl
                              refine pure_ (i := 10) (N := some 30) (v := ?_) (a' := ?_) #[true, true, true, true, true, true, true, true, true, true, true, true, true, false, false, false, false] rfl rfl (any_of HT_.out (by kernel_rfl)) (fun _ _ _ h => h) (Or.inl ⟨by rfl, ?_⟩) ?_ ?_
                              rotate_left
                              · intro w'
                                go_simp
                                with_reducible rfl
                              rotate_left
                              · simp only [Act.put, List.setIfInBounds_toArray, List.set_cons_zero, List.set_cons_succ, i64_w, i32_w]
                                rfl
                              refine take_ (i := 13) (N := some 33) (v := ?_) (a' := ?_) #[true, true, true, true, true, true, true, true, true, true, true, true, true, true, false, false, false] rfl rfl (take_ofW HT_.out HW_.out (by kernel_rfl)) (fun _ _ _ h => h) (Or.inl ⟨by rfl, ?_⟩) hHeld ?_ ?_
                              rotate_left
                              · rintro w' ⟨s0, s1, s2⟩
                                go_simp
                                with_reducible rfl
                              rotate_left
                              · simp only [Act.put, List.setIfInBounds_toArray, List.set_cons_zero, List.set_cons_succ, i64_w, i32_w]
                                rfl
                              refine pure_ (i := 14) (N := some 34) (v := ?_) (a' := ?_) #[true, true, true, true, true, true, true, true, true, true, true, true, true, true, true, false, false] rfl rfl (any_of HT_.out (by kernel_rfl)) (fun _ _ _ h => h) (Or.inl ⟨by rfl, ?_⟩) ?_ ?_
                              rotate_left
                              · intro w'
                                go_simp
                                with_reducible rfl
                              rotate_left
                              · simp only [Act.put, List.setIfInBounds_toArray, List.set_cons_zero, List.set_cons_succ, i64_w, i32_w]
                                rfl
                              refine pure_ (i := 15) (N := some 35) (v := ?_) (a' := ?_) #[true, true, true, true, true, true, true, true, true, true, true, true, true, true, true, true, false] rfl rfl (any_of HT_.out (by kernel_rfl)) (fun _ _ _ h => h) (Or.inl ⟨by rfl, ?_⟩) ?_ ?_
                              rotate_left
                              · intro w'
                                go_simp
                                with_reducible rfl
                              rotate_left
                              · simp only [Act.put, List.setIfInBounds_toArray, List.set_cons_zero, List.set_cons_succ, i64_w, i32_w]
                                rfl
                              refine pure_ (i := 16) (N := some 5) (v := ?_) (a' := ?_) #[true, true, true, true, true, true, true, true, true, true, true, true, true, true, true, true, true] rfl rfl (any_of HT_.out (by kernel_rfl)) (fun _ _ _ h => h) (Or.inl ⟨by rfl, ?_⟩) ?_ ?_
                              rotate_left
                              · intro w'
                                go_simp
                                with_reducible rfl
                              rotate_left
                              · simp only [Act.put, List.setIfInBounds_toArray, List.set_cons_zero, List.set_cons_succ, i64_w, i32_w]
                                rfl
                              refine done_ (done_of HT_.out (by kernel_rfl)) ?_
                              try go_wp2
                              have n0_ := Aside0.mk (Kd.V_drew HO0.out)
                              have n1_ := Aside0.mk (below_drew1 HB.out)
                              clear HO0
                              clear HB
                              have HO0 := n0_
                              have HB := n1_
                              clear n0_ n1_
                              have q39 : ((wrap64 ((ji13) + 4)) : Int) ≤ ((l0.length : Int) : Int) := of_decide_eq_true (by first | (with_reducible assumption) | assumption)
                              obtain ⟨i039, hi039, _, hsz39, _⟩ := info_parts info5
                              have hroom39 : l0.length ≤ c0 := (Kd.V_reads' HO0.out).2.1
                              have hC39 : Kd.F (Kd.int .u8) _ _ (some ad116) l0.length l0 := (Kd.V_at (base := w.heap.size) HO0.out).2.2
                              have ql39 : ((ji13) : Int) ≤ ((wrap64 ((ji13) + 4)) : Int) := of_decide_eq_true (by first | (with_reducible assumption) | assumption)
                              have q039 : (0 : Int) ≤ ((ji13) : Int) := of_decide_eq_true (by first | (with_reducible assumption) | assumption)
                              have hcut39 := cut_mid (P := Try.prog) 22 5 .i64 .i64 Try.underlying22 hi039 1 hsz39 (some ad116) l0.length c0 (ji13) (wrap64 ((ji13) + 4)) q039 ql39 q39 hroom39
                              have hr39 := Kd.F_mid (lo := ((ji13) : Int).toNat) (hi := ((wrap64 ((ji13) + 4)) : Int).toNat) (c := c0) hC39 (by omega) (by omega) hroom39
                              obtain ⟨A39, hA39⟩ : ∃ A1, A1 = (if c0 = ((ji13) : Int).toNat then (some ad116) else ((some ad116) : Option Addr).map (·.add (((ji13) : Int).toNat * 1))) := ⟨_, rfl⟩
                              obtain ⟨c39, hc39⟩ : ∃ c1, c1 = c0 - ((ji13) : Int).toNat := ⟨_, rfl⟩
                              have hy39 : y120.length = ((wrap64 ((ji13) + 4)) : Int).toNat - ((ji13) : Int).toNat := (by rw [Ny120.out, List.length_drop, List.length_take] <;> omega)
                              rw [show ((l0).take ((wrap64 ((ji13) + 4)) : Int).toNat).drop ((ji13) : Int).toNat = y120 from Ny120.out.symm] at hr39
                              replace hr39 : Kd.F (Kd.int .u8) _ _ A39 y120.length y120 := (by rw [hA39]; exact hr39)
                              rw [← hy39, ← hA39, ← hc39] at hcut39
                              have HO124 := Aside0.mk (show Kd.V (Kd.int .u8) 5 _ w.heap.size _ (.slice A39 y120.length c39) y120 from Kd.V_mk (by rw [hy39, hc39]; exact Nat.sub_le_sub_right (Nat.le_trans (by omega) hroom39) _) hr39)
                              have HC124 := Aside0.mk (show y120.length ≤ c39 from by rw [hy39, hc39]; exact Nat.sub_le_sub_right (Nat.le_trans (by omega) hroom39) _)
                              clear hr39 hC39 hroom39 hi039 hsz39 hc39
                              have KY39 := Aside0.mk hy39
                              have KA39 := Aside0.mk hA39
                              clear hy39 hA39
                              replace q39 := eq_true q39
                              have q40 : ((ji13) : Int) ≤ ((l0.length : Int) : Int) := of_decide_eq_true (by first | (with_reducible assumption) | assumption)
                              obtain ⟨i040, hi040, _, hsz40, _⟩ := info_parts info5
                              have hroom40 : l0.length ≤ c0 := (Kd.V_reads' HO0.out).2.1
                              have hC40 : Kd.F (Kd.int .u8) _ _ (some ad116) l0.length l0 := (Kd.V_at (base := w.heap.size) HO0.out).2.2
                              have hcut40 := cut_to (P := Try.prog) 22 5 .i64 Try.underlying22 hi040 (some ad116) l0.length c0 (ji13) (of_decide_eq_true (by first | (with_reducible assumption) | assumption)) q40 hroom40
                              have hr40 := Kd.F_take (m := ((ji13) : Int).toNat) hC40 (by omega)
                              have hy40 : y125.length = ((ji13) : Int).toNat := (by rw [Ny125.out, List.length_take]; omega)
                              rw [← Ny125.out] at hr40
                              rw [← hy40] at hcut40
                              have HO129 := Aside0.mk (show Kd.V (Kd.int .u8) 5 _ w.heap.size _ (.slice (some ad116) y125.length c0) y125 from Kd.V_mk (by omega) hr40)
                              have HC129 := Aside0.mk (show y125.length ≤ c0 from by omega)
                              clear hr40 hC40 hroom40 hi040 hsz40
                              have KY40 := Aside0.mk hy40
                              clear hy40
                              replace q40 := eq_true q40
                              refine start_ (n := 14) (S := fun w' => True) (ds := []) #[false, false, false, false, false, false, false, false, false, false, false, false, false, false] (by kernel_rfl) rfl rfl trivial (fun hHeld => ?_); refine with_tabW frame_Next.tab13 frame_Next.bits13 (fun HT_ HW_ => ?_)
                              generalize w37.drew = w38 at HO0 HB HO124 HO129 hHeld ⊢
                              refine pure_ (i := 0) (N := some 48) (v := ?_) (a' := ?_) #[true, false, false, false, false, false, false, false, false, false, false, false, false, false] rfl rfl (any_of HT_.out (by kernel_rfl)) (fun _ _ _ h => h) (Or.inl ⟨by rfl, ?_⟩) ?_ ?_
                              rotate_left
                              · intro w'
                                go_simp
                                with_reducible rfl
                              rotate_left
                              · simp only [Act.put, List.setIfInBounds_toArray, List.set_cons_zero, List.set_cons_succ, i64_w, i32_w]
                                rfl
                              refine pure_ (i := 1) (N := some 49) (v := ?_) (a' := ?_) #[true, true, false, false, false, false, false, false, false, false, false, false, false, false] rfl rfl (any_of HT_.out (by kernel_rfl)) (fun _ _ _ h => h) (Or.inl ⟨by rfl, ?_⟩) ?_ ?_
                              rotate_left
                              · intro w'
                                go_simp
                                with_reducible rfl
                              rotate_left
                              · simp only [Act.put, List.setIfInBounds_toArray, List.set_cons_zero, List.set_cons_succ, i64_w, i32_w]
                                rfl
                              refine pure_ (i := 2) (N := some 50) (v := ?_) (a' := ?_) #[true, true, true, false, false, false, false, false, false, false, false, false, false, false] rfl rfl (any_of HT_.out (by kernel_rfl)) (fun _ _ _ h => h) (Or.inl ⟨by rfl, ?_⟩) ?_ ?_
                              rotate_left
                              · intro w'
                                go_simp
                                with_reducible rfl
                              rotate_left
                              · simp only [Act.put, List.setIfInBounds_toArray, List.set_cons_zero, List.set_cons_succ, i64_w, i32_w]
                                rfl
                              refine pure_ (i := 3) (N := some 51) (v := ?_) (a' := ?_) #[true, true, true, true, false, false, false, false, false, false, false, false, false, false] rfl rfl (any_of HT_.out (by kernel_rfl)) (fun _ _ _ h => h) (Or.inl ⟨by rfl, ?_⟩) ?_ ?_
                              rotate_left
                              · intro w'
                                go_simp
                                with_reducible rfl
                              rotate_left
                              · simp only [Act.put, List.setIfInBounds_toArray, List.set_cons_zero, List.set_cons_succ, i64_w, i32_w]
                                rfl
                              refine pure_ (i := 4) (N := some 52) (v := ?_) (a' := ?_) #[true, true, true, true, true, false, false, false, false, false, false, false, false, false] rfl rfl (any_of HT_.out (by kernel_rfl)) (fun _ _ _ h => h) (Or.inl ⟨by rfl, ?_⟩) ?_ ?_
                              rotate_left
                              · intro w'
                                go_simp
                                with_reducible rfl
                              rotate_left
                              · simp only [Act.put, List.setIfInBounds_toArray, List.set_cons_zero, List.set_cons_succ, i64_w, i32_w]
                                rfl
                              refine pure_ (i := 5) (N := some 53) (v := ?_) (a' := ?_) #[true, true, true, true, true, true, false, false, false, false, false, false, false, false] rfl rfl (any_of HT_.out (by kernel_rfl)) (fun _ _ _ h => h) (Or.inl ⟨by rfl, ?_⟩) ?_ ?_
                              rotate_left
                              · intro w'
                                go_simp
                                with_reducible rfl
                              rotate_left
                              · simp only [Act.put, List.setIfInBounds_toArray, List.set_cons_zero, List.set_cons_succ, i64_w, i32_w]
                                rfl
                              refine pure_ (i := 6) (N := some 54) (v := ?_) (a' := ?_) #[true, true, true, true, true, true, true, false, false, false, false, false, false, false] rfl rfl (any_of HT_.out (by kernel_rfl)) (fun _ _ _ h => h) (Or.inl ⟨by rfl, ?_⟩) ?_ ?_
                              rotate_left
                              · intro w'
                                go_simp
                                with_reducible rfl
                              rotate_left
                              · simp only [Act.put, List.setIfInBounds_toArray, List.set_cons_zero, List.set_cons_succ, i64_w, i32_w]
                                rfl
                              refine pure_ (i := 7) (N := some 55) (v := ?_) (a' := ?_) #[true, true, true, true, true, true, true, true, false, false, false, false, false, false] rfl rfl (any_of HT_.out (by kernel_rfl)) (fun _ _ _ h => h) (Or.inl ⟨by rfl, ?_⟩) ?_ ?_
                              rotate_left
                              · intro w'
                                go_simp
                                with_reducible rfl
                              rotate_left
                              · simp only [Act.put, List.setIfInBounds_toArray, List.set_cons_zero, List.set_cons_succ, i64_w, i32_w]
                                rfl
                              refine one_ (i := 8) (N := some 56) #[true, true, true, true, true, true, true, true, true, false, false, false, false, false] rfl rfl (one_of HT_.out (by kernel_rfl)) (by decide) (fun K hK => ?_)
                              refine Kd.N_lit_step (Kd.slice 5 (Kd.int .u8)) _ 22 ?hg (N' := 56) ?hd (xs := ([y125] : List (List Int))) (inner := [.slice (some ad116) y125.length c0]) (ok := (fun k_ => (P0_ k_ ∨ w.heap.size ≤ k_))) (okp := (fun k_ => (P0_ k_ ∨ w.heap.size ≤ k_))) ?hr ?hp (fun _ hk => hk) ((show ∀ k_, w38.heap.size ≤ k_ → (fun k_ => (P0_ k_ ∨ w.heap.size ≤ k_)) k_ from fun k_ hk => (.inr (Nat.le_trans (below_size (by repeat (first | (with_reducible first | exact HB.out | apply below_alloc | apply pw_below_drewN | apply below_drew1) | exact HB.out))) hk))) _ (Nat.le_refl _)) (Below.refl _ _) (Nat.le_refl _) (by simp) ?_; (case hd => rfl); (case hg => rfl); (case hr => first | (go_simp; done) | (go_simp; rfl)); (case hp => exact (Reps.one (show Kd.FK (Kd.slice 5 (Kd.int .u8)) _ _ y125 [.slice (some ad116) y125.length c0] from (Kd.FK_slice_mk (Kd.V_reads' (Kd.V_mono (ok' := (fun k_ => (P0_ k_ ∨ w.heap.size ≤ k_))) (HO129.out) (fun k_ hk => hk))).2.1 (Kd.V_F (Kd.V_mono (ok' := (fun k_ => (P0_ k_ ∨ w.heap.size ≤ k_))) (HO129.out) (fun k_ hk => hk))))) (Reps.none _ _)))
                              intro v131 w41 ho42 hb hg_ hnew_
                              clear hg_ hnew_
                              (first | rw [← Ny130.out] at ho42 | (simp only [Int.reduceToNat] at ho42; rw [← Ny130.out] at ho42))
                              have n0_ := Aside0.mk (Kd.V_elder' (by (with_reducible repeat (first | apply Kd.V_alloc | apply Kd.V_drewN | apply Kd.V_drew)); exact HO0.out) (Kd.N_base ho42) hb)
                              have n1_ := Aside0.mk (Kd.V_elder' (by (with_reducible repeat (first | apply Kd.V_alloc | apply Kd.V_drewN | apply Kd.V_drew)); exact HO124.out) (Kd.N_base ho42) hb)
                              have n2_ := Aside0.mk (Kd.V_elder' (by (with_reducible repeat (first | apply Kd.V_alloc | apply Kd.V_drewN | apply Kd.V_drew)); exact HO129.out) (Kd.N_base ho42) hb)
                              have n3_ := Aside0.mk (Kd.N_lower ho42 (below_size (by repeat (first | (with_reducible first | exact HB.out | apply below_alloc | apply pw_below_drewN | apply below_drew1) | exact HB.out))))
                              have n4_ := Aside0.mk (below_step (by repeat (first | (with_reducible first | exact HB.out | apply below_alloc | apply pw_below_drewN | apply below_drew1) | exact HB.out)) hb)
                              clear HO0
                              clear HO124
                              clear HO129
                              clear HB
                              have HO0 := n0_
                              have HO124 := n1_
                              have HO129 := n2_
                              have HO132 := n3_
                              have HB := n4_
                              clear n0_ n1_ n2_ n3_ n4_
                              clear hb ho42
                              obtain ⟨Ao43, co43, eo43⟩ := Kd.N_slice HO132.out
                              (first | subst eo43 | (injection eo43 with f1_ f2_ f3_; have f4_ := f1_.symm; have f5_ := f3_.symm; clear f1_ f2_ f3_; subst f4_; subst f5_))
                              refine hK.out _ _ trivial (fun hHeld => ?_)
                              clear hK K
                              refine norm_ (a' := ?_) ?_ ?_
                              rotate_left
                              · show Act.put _ (some 56) _ = _
                                simp only [Act.put, List.setIfInBounds_toArray, List.set_cons_zero, List.set_cons_succ, i64_w, i32_w]
                                rfl
                              refine one_ (i := 9) (N := some 57) #[true, true, true, true, true, true, true, true, true, true, false, false, false, false] rfl rfl (one_of HT_.out (by kernel_rfl)) (by decide) (fun K hK => ?_)
                              refine goes_ Try.func15 (by kernel_rfl) rfl #[.slice Ao43 y130.length co43] (by rfl) rfl rfl (by (try simp only [List.map_toArray, List.map_cons, List.map_nil]); first | done | rfl | (simp only [List.length_drop, List.length_take]; rfl)) ?_
                              with_reducible refine (frame_Check.calls k _ _ y130 t133 _ ?side1 ?side2 A19.out).mono ?_
                              (case side1 => repeat (first | exact (Kd.N_reads' HO132.out).2.2 | (with_reducible refine Kd.C_alloc ?_ _) | (with_reducible refine Kd.C_drewN ?_ _) | (with_reducible refine Kd.C_drew ?_)))
                              (case side2 => exact (Kd.N_reads' HO132.out).2.1)
                              rintro e w' ⟨rfl, ⟨nd, rfl⟩⟩
                              refine ⟨_, rfl, ?_⟩
                              refine hK.out _ _ trivial (fun hHeld => ?_)
                              clear hK K
                              refine norm_ (a' := ?_) ?_ ?_
                              rotate_left
                              · show Act.put _ (some 57) _ = _
                                simp only [Act.put, List.setIfInBounds_toArray, List.set_cons_zero, List.set_cons_succ, i64_w, i32_w]
                                rfl
                              refine one_ (i := 10) (N := some 58) #[true, true, true, true, true, true, true, true, true, true, true, false, false, false] rfl rfl (one_of HT_.out (by kernel_rfl)) (by decide) (fun K hK => ?_)
                              refine goes_ Try.func24 (by kernel_rfl) rfl #[.int .u32 t133] (by rfl) rfl rfl (by (try simp only [List.map_toArray, List.map_cons, List.map_nil]); first | done | rfl | (simp only [List.length_drop, List.length_take]; rfl)) ?_
                              with_reducible refine (frame_big.calls t133 t134 _ A20.out).mono ?_
                              rintro e w44 ⟨v135, rfl, ho0, hb⟩
                              refine ⟨_, rfl, ?_⟩
                              have n0_ := Aside0.mk (Kd.V_elder' (by (with_reducible repeat (first | apply Kd.V_alloc | apply Kd.V_drewN | apply Kd.V_drew)); exact HO0.out) (Kd.R_base ho0) hb)
                              have n1_ := Aside0.mk (Kd.V_elder' (by (with_reducible repeat (first | apply Kd.V_alloc | apply Kd.V_drewN | apply Kd.V_drew)); exact HO124.out) (Kd.R_base ho0) hb)
                              have n2_ := Aside0.mk (Kd.V_elder' (by (with_reducible repeat (first | apply Kd.V_alloc | apply Kd.V_drewN | apply Kd.V_drew)); exact HO129.out) (Kd.R_base ho0) hb)
                              have n3_ := Aside0.mk (Kd.N_elder' (by (with_reducible repeat (first | apply Kd.N_alloc | apply Kd.N_drewN | apply Kd.N_drew)); exact HO132.out) (Kd.R_base ho0) hb)
                              have n4_ := Aside0.mk (Kd.R_lower (Kd.R_newM (M := fun k_ => (w.heap.size ≤ k_)) ho0 (below_size (by repeat (first | (with_reducible first | exact HB.out | apply below_alloc | apply pw_below_drewN | apply below_drew1) | exact HB.out))) (fun k_ h_ => h_)) (below_size (by repeat (first | (with_reducible first | exact HB.out | apply below_alloc | apply pw_below_drewN | apply below_drew1) | exact HB.out))))
                              have n5_ := Aside0.mk (below_step (by repeat (first | (with_reducible first | exact HB.out | apply below_alloc | apply pw_below_drewN | apply below_drew1) | exact HB.out)) hb)
                              clear HO0
                              clear HO124
                              clear HO129
                              clear HO132
                              clear HB
                              have HO0 := n0_
                              have HO124 := n1_
                              have HO129 := n2_
                              have HO132 := n3_
                              have HO136 := n4_
                              have HB := n5_
                              clear n0_ n1_ n2_ n3_ n4_ n5_
                              (try clear hb)
                              (try clear hb2)
                              (try clear hk)
                              (try clear hi)
                              (try clear ho0)
                              obtain ⟨Ao45, co45, eo45⟩ := Kd.R_slice HO136.out
                              (first | subst eo45 | (injection eo45 with f1_ f2_ f3_; have f4_ := f1_.symm; have f5_ := f3_.symm; clear f1_ f2_ f3_; subst f4_; subst f5_))
                              refine hK.out _ _ trivial (fun hHeld => ?_)
                              clear hK K
                              refine norm_ (a' := ?_) ?_ ?_
                              rotate_left
                              · show Act.put _ (some 58) _ = _
                                simp only [Act.put, List.setIfInBounds_toArray, List.set_cons_zero, List.set_cons_succ, i64_w, i32_w]
                                rfl
                              refine one_ (i := 11) (N := some 59) #[true, true, true, true, true, true, true, true, true, true, true, true, false, false] rfl rfl (one_of HT_.out (by kernel_rfl)) (by decide) (fun K hK => ?_)
                              refine goes_ Try.func26 (by kernel_rfl) rfl #[.slice A39 y120.length c39, .slice Ao45 t134.length co45] (by rfl) rfl rfl (by (try simp only [List.map_toArray, List.map_cons, List.map_nil]); first | done | rfl | (simp only [List.length_drop, List.length_take]; rfl)) ?_
                              with_reducible refine (slices_Equal_byte_byte.calls k _ _ y120 _ _ t134 false _ ?side1 ?side2 ?side3 ?side4 A21.out).mono ?_
                              (case side1 => repeat (first | exact (Kd.V_reads' HO124.out).2.2 | (with_reducible refine Kd.C_alloc ?_ _) | (with_reducible refine Kd.C_drewN ?_ _) | (with_reducible refine Kd.C_drew ?_)))
                              (case side2 => exact (Kd.V_reads' HO124.out).2.1)
                              (case side3 => repeat (first | exact (Kd.R_reads' HO136.out).2.2 | (with_reducible refine Kd.C_alloc ?_ _) | (with_reducible refine Kd.C_drewN ?_ _) | (with_reducible refine Kd.C_drew ?_)))
                              (case side4 => exact (Kd.R_reads' HO136.out).2.1)
                              rintro e w' ⟨rfl, ⟨nd, rfl⟩⟩
                              refine ⟨_, rfl, ?_⟩
                              refine hK.out _ _ trivial (fun hHeld => ?_)
                              clear hK K
                              refine norm_ (a' := ?_) ?_ ?_
                              rotate_left
                              · show Act.put _ (some 59) _ = _
                                simp only [Act.put, List.setIfInBounds_toArray, List.set_cons_zero, List.set_cons_succ, i64_w, i32_w]
                                rfl
                              refine pure_ (i := 12) (N := some 60) (v := ?_) (a' := ?_) #[true, true, true, true, true, true, true, true, true, true, true, true, true, false] rfl rfl (any_of HT_.out (by kernel_rfl)) (fun _ _ _ h => h) (Or.inl ⟨by rfl, ?_⟩) ?_ ?_
                              rotate_left
                              · intro w'
                                go_simp
                                with_reducible rfl
                              rotate_left
                              · simp only [Act.put, List.setIfInBounds_toArray, List.set_cons_zero, List.set_cons_succ, i64_w, i32_w]
                                rfl
                              refine pure_ (i := 13) (N := some 47) (v := ?_) (a' := ?_) #[true, true, true, true, true, true, true, true, true, true, true, true, true, true] rfl rfl (any_of HT_.out (by kernel_rfl)) (fun _ _ _ h => h) (Or.inl ⟨by rfl, ?_⟩) ?_ ?_
                              rotate_left
                              · intro w'
                                go_simp
                                with_reducible rfl
                              rotate_left
                              · simp only [Act.put, List.setIfInBounds_toArray, List.set_cons_zero, List.set_cons_succ, i64_w, i32_w]
                                rfl
                              refine done_ (done_of HT_.out (by kernel_rfl)) ?_
                              try go_wp2
                              go_ret3
                              exact ⟨_, by first | rfl | (simp [errW_none, errW_some] <;> rfl) | (simp only [← hji13]; first | rfl | (simp [errW_none, errW_some] <;> rfl)) | (simp [*, errW_none, errW_some] <;> rfl), by first | exact Kd.R_nil _ _ _ _ _ | exact Kd.N_nil _ _ _ _ _ | exact Kd.V_nil _ _ _ _ _ | exact Kd.Q_nil _ _ _ _ _ | exact Kd.S_nil _ _ _ _ _, by repeat (first | (with_reducible first | exact HB.out | apply below_alloc | apply pw_below_drewN | apply below_drew1) | exact HB.out)⟩
                          · rw [if_neg c18] at H
                            exact absurd H (by simp)
                        · rw [if_neg c16] at H
                          exact absurd H (by simp)
                      · rw [if_neg c15] at H
                        exact absurd H (by simp)
                    · rw [if_neg c14] at H
                      exact absurd H (by simp)
              · rw [if_neg c8] at H
                exact absurd H (by simp)
            · rw [if_neg c7] at H
              exact absurd H (by simp)
          · rw [if_neg c6] at H
            exact absurd H (by simp)
      · rw [if_neg c4] at H
        have c4b0 : ((rd l0 0) == 90) = false := beq_eq_false_iff_ne.mpr c4
        have c4b1 : ((rd l0 0) != 90) = true := bne_iff_ne.mpr c4
        simp only [Option.some.injEq, Prod.mk.injEq] at H
        obtain ⟨rfl, rfl, rfl⟩ := H
        have p116 : 0 ≤ (0 : Int) := (by omega)
        have q116 : 0 < (l0.length : Int) := of_decide_eq_true (by first | (with_reducible assumption) | assumption)
        obtain ⟨ad116, e116, hx116_0⟩ := Kd.at_int (Kd.V_reads' HO0.out).2.2 0 p116 q116
        cases e116
        have qi116 : (0 < l0.length) = True := eq_true (by omega)
        (try rw [show ((0 : Int)).toNat = 0 from rfl] at hx116_0)
        (try rw [Addr.add_zero'] at hx116_0)
        replace p116 := eq_true p116
        replace q116 := eq_true q116
        go_enter Try.func18, Try.ntmps18
        go_wp2
        go_ret3
        exact ⟨_, by first | rfl | (simp [errW_none, errW_some] <;> rfl) | (simp [*, errW_none, errW_some] <;> rfl), by first | exact Kd.R_nil _ _ _ _ _ | exact Kd.N_nil _ _ _ _ _ | exact Kd.V_nil _ _ _ _ _ | exact Kd.Q_nil _ _ _ _ _ | exact Kd.S_nil _ _ _ _ _, by repeat (first | (with_reducible first | exact HB.out | apply below_alloc | apply pw_below_drewN | apply below_drew1) | exact HB.out)⟩
    · rw [if_neg c3] at H
      exact absurd H (by simp)

theorem frame_Next.calls (k : Nat) (A0 : Option Addr) (c0 : Nat) (l0 : List Int) (r1 : List Int) (r2 : Int) (r3 : Int) (w : World) (hr0 : Kd.C (Kd.int .u8) w A0 l0.length l0) (hc0 : l0.length ≤ c0) (h : frame_Next.f k l0 = some (r1, r2, r3)) :
    Calls Try.prog 18 #[.slice A0 l0.length c0] w fun e w' => ∃ v0_ : Value, e = .returned (.tuple #[v0_, .int .i64 r2, .int .i64 r3]) ∧ Kd.R (Kd.int .u8) 5 w' w.heap.size (fun _ => True) v0_ r1 ∧ Below w.heap.size w w' :=
  (frame_Next.callsV k (fun k_ => k_ < w.heap.size) A0 c0 l0 r1 r2 r3 w (Kd.V_mk hc0 (Kd.F_below (Kd.C_F (Kd.heap_int .u8) hr0) (Below.refl _ _))) h).mono fun e w' ⟨v, he, hr, hb⟩ => ⟨v, he, Kd.R_mono hr (fun _ _ => trivial), hb⟩

end Go.Proofs.Ytddabfokgecnoaa.MFrameCut
