-- printed by a program of this session (ownprint.py), out of the translation; Lean checks it
import Derived.Test.YtddabfokgecnoaaMFrameScansx0
import Derived.Test.YtddabfokgecnoaaMFrameScansx1
import Derived.Test.YtddabfokgecnoaaMFrameScansx2
namespace Go.Proofs.Ytddabfokgecnoaa.MFrameScans
open Go.RowKit Go.Proofs.YtddabfokgecnoaaW.PrintWords Go.Proofs.YtddabfokgecnoaaW.PrintLast Go.Proofs.YtddabfokgecnoaaW.PrintMore
attribute [local go_sem] max2_int min2_int max_two min_two max_three min_three max_four min_four   -- for this text's walks alone
set_option linter.unusedVariables false
set_option linter.unusedSimpArgs false

/-! ### frame_Scan: function 20 -/
def frame_Scan.l0 : Nat → List Int → List (List Int) → Int → Option ((List (List Int)) × Int)
  | 0, _, _, _ => none
  | k + 1, x0, x4, x5 => if 0 ≤ x5 then (if x5 ≤ (x0.length : Int) then ((frame_Next.f k (x0.drop (x5 : Int).toNat)).bind fun bt147 => (if bt147.2.2 = 0 then (if bt147.2.1 = 0 then (some (x4, x5)) else (if x4.length < 5864062014805 then (frame_Scan.l0 k x0 (x4 ++ [bt147.1]) (wrap64 (x5 + bt147.2.1))) else (none))) else (some (x4, x5)))) else (none)) else (none)
def frame_Scan.f (k : Nat) (l0 : List Int) : Option ((List (List Int)) × Int) := frame_Scan.l0 k l0 ([] : List (List Int)) 0
theorem frame_Scan.mono_l : ∀ k, (∀ y0 y1 y2, LeO (frame_Scan.l0 k y0 y1 y2) (frame_Scan.l0 (k + 1) y0 y1 y2))
  | 0 => fun _ _ _ r h => by simp [frame_Scan.l0] at h
  | k + 1 => by
    have ih0 := frame_Scan.mono_l k
    · intro y0 y1 y2
      unfold frame_Scan.l0
      repeat' first
      | (with_reducible exact ih0 _ _ _)
      | (with_reducible exact frame_Next.mono _ _)
      | (with_reducible exact LeO.refl _)
      | (with_reducible exact LeO.none _)
      | (with_reducible refine LeO.ite ?_ ?_)
      | (with_reducible refine LeO.bind ?_ (fun _ => ?_))
      | exact ih0 _ _ _
      | exact frame_Next.mono _ _
      | exact LeO.none _
      | refine LeO.ite ?_ ?_
      | refine LeO.bind ?_ (fun _ => ?_)
theorem frame_Scan.mono : ∀ a0 k, LeO (frame_Scan.f k a0) (frame_Scan.f (k + 1) a0) := by
  intro a0 k
  have ih0 := frame_Scan.mono_l k
  unfold frame_Scan.f
  repeat' first
      | (with_reducible exact ih0 _ _ _)
      | (with_reducible exact frame_Next.mono _ _)
      | (with_reducible exact LeO.refl _)
      | (with_reducible exact LeO.none _)
      | (with_reducible refine LeO.ite ?_ ?_)
      | (with_reducible refine LeO.bind ?_ (fun _ => ?_))
      | exact ih0 _ _ _
      | exact frame_Next.mono _ _
      | exact LeO.none _
      | refine LeO.ite ?_ ?_
      | refine LeO.bind ?_ (fun _ => ?_)
set_option maxHeartbeats 8000000 in
set_option maxRecDepth 100000 in
theorem frame_Scan.calls (k : Nat) (A0 : Option Addr) (c0 : Nat) (l0 : List Int) (r1 : List (List Int)) (r2 : Int) (w : World) (hr0 : Kd.C (Kd.int .u8) w A0 l0.length l0) (hc0 : l0.length ≤ c0) (h : frame_Scan.f k l0 = some (r1, r2)) :
    Calls Try.prog 20 #[.slice A0 l0.length c0] w fun e w' => ∃ v0_ : Value, e = .returned (.tuple #[v0_, .int .i64 r2]) ∧ Kd.S (Kd.slice 5 (Kd.int .u8)) 22 w' w.heap.size (fun _ => True) v0_ r1 ∧ Below w.heap.size w w' := by
  have HR0 := Aside0.mk hr0
  have HC0 := Aside0.mk hc0
  clear hr0 hc0
  have HB := Aside0.mk (Below.refl w.heap.size w)
  have H : (frame_Scan.l0 k l0 ([] : List (List Int)) 0) = some (r1, r2) := h
  clear h
  have H' := Aside0.mk H
  clear H
  go_enter Try.func20, Try.ntmps20
  go_wp2
  go_loopg [4, 5] k (fun kq v4 v5 w' => ∃ (x4_1 : List (List Int)) (x5_1 : Int), v5 = .int .i64 x5_1 ∧ Aside0 (frame_Scan.l0 kq l0 x4_1 x5_1 = some (r1, r2)) ∧ Aside0 (kq ≤ k) ∧ Aside0 (Kd.S (Kd.slice 5 (Kd.int .u8)) 22 w' w.heap.size (fun _ => True) v4 x4_1) ∧ Aside0 (Below w.heap.size w w'))
  case atStart => exact ⟨(([] : List (List Int))), (0), (by first | rfl | (simp; done) | (simp [*]; done)), H', ⟨Nat.le_refl _⟩, ⟨by first | exact Kd.S_nil _ _ _ _ _ | exact Kd.N_nil _ _ _ _ _ | exact Kd.V_nil _ _ _ _ _ | exact Kd.Q_nil _ _ _ _ _ | exact Kd.R_nil _ _ _ _ _⟩, ⟨by repeat (first | (with_reducible first | exact HB.out | apply below_alloc | apply pw_below_drewN | apply below_drew1) | exact HB.out)⟩⟩
  case round =>
    clear H'
    obtain ⟨x4_1, x5_1, rfl, HA, HK1, HO_4, HB⟩ := hrel
    cases gk with
    | zero => exact absurd HA.out (by simp [frame_Scan.l0])
    | succ k1 =>
      have H := HA.out
      clear HA
      simp only [frame_Scan.l0] at H
      by_cases c2 : 0 ≤ x5_1
      · rw [if_pos c2] at H
        have c2b0 := eq_true c2
        have c2b1 : decide (0 ≤ x5_1) = true := decide_eq_true c2
        clear c2
        by_cases c3 : x5_1 ≤ (l0.length : Int)
        · rw [if_pos c3] at H
          have c3b0 := eq_true c3
          have c3b1 : decide (x5_1 ≤ (l0.length : Int)) = true := decide_eq_true c3
          clear c3
          replace H := Option.bind_eq_some_iff.mp H
          obtain ⟨⟨t147, t148, t149⟩, A40, H⟩ := H
          replace H : (if t149 = 0 then (if t148 = 0 then (some (x4_1, x5_1)) else (if x4_1.length < 5864062014805 then (frame_Scan.l0 k1 l0 (x4_1 ++ [t147]) (wrap64 (x5_1 + t148))) else (none))) else (some (x4_1, x5_1))) = some (r1, r2) := H
          have A4 := Aside0.mk A40
          clear A40
          by_cases c5 : t149 = 0
          · rw [if_pos c5] at H
            have c5b0 : (t149 == 0) = true := beq_iff_eq.mpr c5
            have c5b1 : (t149 != 0) = false := bne_eq_false_iff_eq.mpr c5
            clear c5
            by_cases c6 : t148 = 0
            · rw [if_pos c6] at H
              have c6b0 : (t148 == 0) = true := beq_iff_eq.mpr c6
              have c6b1 : (t148 != 0) = false := bne_eq_false_iff_eq.mpr c6
              clear c6
              simp only [Option.some.injEq, Prod.mk.injEq] at H
              obtain ⟨rfl, rfl⟩ := H
              obtain ⟨i07, hi07, _, hsz7, _⟩ := info_parts info5
              obtain ⟨A7, hcut7, hA7, hC7⟩ := print_drop_of (P := Try.prog) (Value.int .u8) 0 22 5 .i64 Try.underlying22 hi07 hsz7 A0 c0 l0 x5_1 (of_decide_eq_true (by first | (with_reducible assumption) | assumption)) (of_decide_eq_true (by first | (with_reducible assumption) | assumption)) HC0.out
              have HR146 := Aside0.mk (Kd.C_of_reads (h1 := fun _ => rfl) (hA7 _ (Kd.reads_of_C HR0.out)))
              have HC146 := Aside0.mk hC7
              clear hA7 hC7 hi07 hsz7
              go_wp2_with (first | ((with_reducible refine gate_callee (f := 18) rfl ?_); refine goesL_ (some 13) rfl rfl Try.func18 (by kernel_rfl) rfl #[.slice A7 (l0.drop (x5_1 : Int).toNat).length (c0 - x5_1.toNat)] rfl (by (try simp only [List.map_toArray, List.map_cons, List.map_nil]); first | done | (rw [show (l0.drop (x5_1 : Int).toNat).length = (l0.length - x5_1.toNat) from List.length_drop] <;> rfl) | rfl | (simp only [List.length_drop, List.length_take]; rfl)) ?_; (with_reducible refine (frame_Next.calls k1 _ _ (l0.drop (x5_1 : Int).toNat) t147 t148 t149 _ ?side1 ?side2 A4.out).mono ?_); (case side1 => repeat (first | exact (Kd.C_below HR146.out HB.out) | (with_reducible refine Kd.C_alloc ?_ _) | (with_reducible refine Kd.C_drewN ?_ _) | (with_reducible refine Kd.C_drew ?_))); (case side2 => exact HC146.out); rintro e w8 ⟨v150, rfl, ho0, hb⟩; refine ⟨_, rfl, ?_⟩; have n0_ := Aside0.mk (Kd.S_elder' (by (with_reducible repeat (first | apply Kd.S_alloc | apply Kd.S_drewN | apply Kd.S_drew)); exact HO_4.out) (Kd.R_base ho0) hb); have n1_ := Aside0.mk (Kd.R_lower ho0 (below_size (by repeat (first | (with_reducible first | exact HB.out | apply below_alloc | apply pw_below_drewN | apply below_drew1) | exact HB.out)))); have n2_ := Aside0.mk (below_step (by repeat (first | (with_reducible first | exact HB.out | apply below_alloc | apply pw_below_drewN | apply below_drew1) | exact HB.out)) hb); clear HO_4; clear HB; have HO_4 := n0_; have HO151 := n1_; have HB := n2_; clear n0_ n1_ n2_; (try clear hb); (try clear hb2); (try clear hk); (try clear hi); (try clear ho0)))
              go_ret2
              exact ⟨_, by first | rfl | (simp [errW_none, errW_some] <;> rfl) | (simp [*, errW_none, errW_some] <;> rfl), by (with_reducible repeat (first | apply Kd.S_alloc | apply Kd.S_drewN | apply Kd.S_drew)); exact Kd.S_mono HO_4.out (fun _ hk => trivial), by repeat (first | (with_reducible first | exact HB.out | apply below_alloc | apply pw_below_drewN | apply below_drew1) | exact HB.out)⟩
            · rw [if_neg c6] at H
              have c6b0 : (t148 == 0) = false := beq_eq_false_iff_ne.mpr c6
              have c6b1 : (t148 != 0) = true := bne_iff_ne.mpr c6
              by_cases c9 : x4_1.length < 5864062014805
              · rw [if_pos c9] at H
                have LMc9 := Aside0.mk c9
                clear c9
                obtain ⟨y152, hy152⟩ : ∃ y_ : List (List Int), y_ = (x4_1 ++ [t147]) := ⟨_, rfl⟩
                replace H : (frame_Scan.l0 k1 l0 y152 (wrap64 (x5_1 + t148))) = some (r1, r2) := by first | (rw [hy152]; with_reducible exact H) | (have H2_ := (Option.bind_some _ _).symm.trans H; rw [hy152]; with_reducible exact H2_) | (have H2_ := (Option.bind_some _ _).symm.trans H; with_reducible exact H2_) | with_reducible exact H | (rw [hy152]; exact H) | exact H
                have Ny152 := Aside0.mk hy152
                clear hy152
                have H' := Aside0.mk H
                clear H
                obtain ⟨i010, hi010, _, hsz10, _⟩ := info_parts info5
                obtain ⟨A10, hcut10, hA10, hC10⟩ := print_drop_of (P := Try.prog) (Value.int .u8) 0 22 5 .i64 Try.underlying22 hi010 hsz10 A0 c0 l0 x5_1 (of_decide_eq_true (by first | (with_reducible assumption) | assumption)) (of_decide_eq_true (by first | (with_reducible assumption) | assumption)) HC0.out
                have HR146 := Aside0.mk (Kd.C_of_reads (h1 := fun _ => rfl) (hA10 _ (Kd.reads_of_C HR0.out)))
                have HC146 := Aside0.mk hC10
                clear hA10 hC10 hi010 hsz10
                go_wp2_with (first | ((with_reducible refine gate_callee (f := 18) rfl ?_); refine goesL_ (some 13) rfl rfl Try.func18 (by kernel_rfl) rfl #[.slice A10 (l0.drop (x5_1 : Int).toNat).length (c0 - x5_1.toNat)] rfl (by (try simp only [List.map_toArray, List.map_cons, List.map_nil]); first | done | (rw [show (l0.drop (x5_1 : Int).toNat).length = (l0.length - x5_1.toNat) from List.length_drop] <;> rfl) | rfl | (simp only [List.length_drop, List.length_take]; rfl)) ?_; (with_reducible refine (frame_Next.calls k1 _ _ (l0.drop (x5_1 : Int).toNat) t147 t148 t149 _ ?side1 ?side2 A4.out).mono ?_); (case side1 => repeat (first | exact (Kd.C_below HR146.out HB.out) | (with_reducible refine Kd.C_alloc ?_ _) | (with_reducible refine Kd.C_drewN ?_ _) | (with_reducible refine Kd.C_drew ?_))); (case side2 => exact HC146.out); rintro e w11 ⟨v150, rfl, ho0, hb⟩; refine ⟨_, rfl, ?_⟩; have n0_ := Aside0.mk (Kd.S_elder' (by (with_reducible repeat (first | apply Kd.S_alloc | apply Kd.S_drewN | apply Kd.S_drew)); exact HO_4.out) (Kd.R_base ho0) hb); have n1_ := Aside0.mk (Kd.R_lower ho0 (below_size (by repeat (first | (with_reducible first | exact HB.out | apply below_alloc | apply pw_below_drewN | apply below_drew1) | exact HB.out)))); have n2_ := Aside0.mk (below_step (by repeat (first | (with_reducible first | exact HB.out | apply below_alloc | apply pw_below_drewN | apply below_drew1) | exact HB.out)) hb); clear HO_4; clear HB; have HO_4 := n0_; have HO151 := n1_; have HB := n2_; clear n0_ n1_ n2_; (try clear hb); (try clear hb2); (try clear hk); (try clear hi); (try clear ho0); obtain ⟨Ao13, co13, eo13⟩ := Kd.R_slice HO151.out; subst eo13) | ((with_reducible refine gate_builtin (b := .append) (xs := #[.tmp 25, .tmp 27]) rfl ?_); at_builtin; refine Kd.S_append (Kd.slice 5 (Kd.int .u8)) (w0 := w) w.heap.size rfl (.tmp 25) (.tmp 27) 34 22 (.slice none 0 0) 24 rfl Try.underlying34 info22 rfl (by decide) (by omega) u4 x4_1 t147 [.slice Ao13 t147.length co13] (fun _ => True) (fun k_ => some k_ = (.slice Ao13 t147.length co13 : Value).ownBlock) rfl rfl ?aP (fun k_ hk_ => ((Kd.R_mono (ok' := fun k_ => ((fun _ => True)) k_ ∧ some k_ ≠ (u4 : Value).ownBlock) (Kd.R_apart' (HO151.out) (Kd.S_typed HO_4.out) (by decide)) (fun k_ hk => ⟨trivial, hk.2⟩))).1 k_ hk_.symm) ?aF ?aO ?aB ?aS ?aL ?_; (case aP => exact Kd.M_row (Kd.R_mono (Kd.R_tight rfl (Kd.R_mono (ok' := fun k_ => ((fun _ => True)) k_ ∧ some k_ ≠ (u4 : Value).ownBlock) (Kd.R_apart' (HO151.out) (Kd.S_typed HO_4.out) (by decide)) (fun k_ hk => ⟨trivial, hk.2⟩))) (fun _ h_ => h_))); (case aB => exact (by repeat (first | (with_reducible first | exact HB.out | apply below_alloc | apply pw_below_drewN | apply below_drew1) | exact HB.out))); (case aF => exact (fun _ _ => trivial)); (case aO => exact (by (with_reducible repeat (first | apply Kd.S_alloc | apply Kd.S_drewN | apply Kd.S_drew)); exact Kd.S_mono HO_4.out (fun k_ hk => ⟨trivial, fun e_ => hk.2 e_⟩))); (case aS => exact (below_size (by repeat (first | (with_reducible first | exact HB.out | apply below_alloc | apply pw_below_drewN | apply below_drew1) | exact HB.out)))); (case aL => have := LMc9.out; omega); intro v153 w12 ho hb hg hat; rw [← Ny152.out] at ho; have n0_ := Aside0.mk (hb); have n1_ := Aside0.mk (ho); clear HB; clear HO_4; clear HO151; have HB := n0_; have HO154 := n1_; clear n0_ n1_; clear ho hb hg hat))
                go_roundg k1
                case measure => have := HK1.out; omega
                case rel => exact ⟨(y152), (wrap64 (x5_1 + t148)), (by first | rfl | (simp; done) | (simp [*]; done)), H', ⟨by have := HK1.out; omega⟩, ⟨by (with_reducible repeat (first | apply Kd.S_alloc | apply Kd.S_drewN | apply Kd.S_drew)); exact HO154.out⟩, ⟨by repeat (first | (with_reducible first | exact HB.out | apply below_alloc | apply pw_below_drewN | apply below_drew1) | exact HB.out)⟩⟩
              · rw [if_neg c9] at H
                exact absurd H (by simp)
          · rw [if_neg c5] at H
            have c5b0 : (t149 == 0) = false := beq_eq_false_iff_ne.mpr c5
            have c5b1 : (t149 != 0) = true := bne_iff_ne.mpr c5
            simp only [Option.some.injEq, Prod.mk.injEq] at H
            obtain ⟨rfl, rfl⟩ := H
            obtain ⟨i014, hi014, _, hsz14, _⟩ := info_parts info5
            obtain ⟨A14, hcut14, hA14, hC14⟩ := print_drop_of (P := Try.prog) (Value.int .u8) 0 22 5 .i64 Try.underlying22 hi014 hsz14 A0 c0 l0 x5_1 (of_decide_eq_true (by first | (with_reducible assumption) | assumption)) (of_decide_eq_true (by first | (with_reducible assumption) | assumption)) HC0.out
            have HR146 := Aside0.mk (Kd.C_of_reads (h1 := fun _ => rfl) (hA14 _ (Kd.reads_of_C HR0.out)))
            have HC146 := Aside0.mk hC14
            clear hA14 hC14 hi014 hsz14
            go_wp2_with (first | ((with_reducible refine gate_callee (f := 18) rfl ?_); refine goesL_ (some 13) rfl rfl Try.func18 (by kernel_rfl) rfl #[.slice A14 (l0.drop (x5_1 : Int).toNat).length (c0 - x5_1.toNat)] rfl (by (try simp only [List.map_toArray, List.map_cons, List.map_nil]); first | done | (rw [show (l0.drop (x5_1 : Int).toNat).length = (l0.length - x5_1.toNat) from List.length_drop] <;> rfl) | rfl | (simp only [List.length_drop, List.length_take]; rfl)) ?_; (with_reducible refine (frame_Next.calls k1 _ _ (l0.drop (x5_1 : Int).toNat) t147 t148 t149 _ ?side1 ?side2 A4.out).mono ?_); (case side1 => repeat (first | exact (Kd.C_below HR146.out HB.out) | (with_reducible refine Kd.C_alloc ?_ _) | (with_reducible refine Kd.C_drewN ?_ _) | (with_reducible refine Kd.C_drew ?_))); (case side2 => exact HC146.out); rintro e w15 ⟨v150, rfl, ho0, hb⟩; refine ⟨_, rfl, ?_⟩; have n0_ := Aside0.mk (Kd.S_elder' (by (with_reducible repeat (first | apply Kd.S_alloc | apply Kd.S_drewN | apply Kd.S_drew)); exact HO_4.out) (Kd.R_base ho0) hb); have n1_ := Aside0.mk (Kd.R_lower ho0 (below_size (by repeat (first | (with_reducible first | exact HB.out | apply below_alloc | apply pw_below_drewN | apply below_drew1) | exact HB.out)))); have n2_ := Aside0.mk (below_step (by repeat (first | (with_reducible first | exact HB.out | apply below_alloc | apply pw_below_drewN | apply below_drew1) | exact HB.out)) hb); clear HO_4; clear HB; have HO_4 := n0_; have HO151 := n1_; have HB := n2_; clear n0_ n1_ n2_; (try clear hb); (try clear hb2); (try clear hk); (try clear hi); (try clear ho0)))
            go_ret2
            exact ⟨_, by first | rfl | (simp [errW_none, errW_some] <;> rfl) | (simp [*, errW_none, errW_some] <;> rfl), by (with_reducible repeat (first | apply Kd.S_alloc | apply Kd.S_drewN | apply Kd.S_drew)); exact Kd.S_mono HO_4.out (fun _ hk => trivial), by repeat (first | (with_reducible first | exact HB.out | apply below_alloc | apply pw_below_drewN | apply below_drew1) | exact HB.out)⟩
        · rw [if_neg c3] at H
          exact absurd H (by simp)
      · rw [if_neg c2] at H
        exact absurd H (by simp)

/-! ### rillref00_SameBytes: function 17 -/
def rillref00_SameBytes.l0 : Nat → List Int → List Int → Int → Option (Bool)
  | 0, _, _, _ => none
  | k + 1, x0, x1, x5 => if x5 < (x0.length : Int) then (if 0 ≤ x5 then (if x5 < (x1.length : Int) then (if (rd x0 x5) = (rd x1 x5) then (rillref00_SameBytes.l0 k x0 x1 (wrap64 (x5 + 1))) else (some false)) else (none)) else (none)) else (some true)
def rillref00_SameBytes.f (k : Nat) (l0 : List Int) (l1 : List Int) : Option (Bool) := if (l0.length : Int) = (l1.length : Int) then (rillref00_SameBytes.l0 k l0 l1 0) else (some false)
theorem rillref00_SameBytes.mono_l : ∀ k, (∀ y0 y1 y2, LeO (rillref00_SameBytes.l0 k y0 y1 y2) (rillref00_SameBytes.l0 (k + 1) y0 y1 y2))
  | 0 => fun _ _ _ r h => by simp [rillref00_SameBytes.l0] at h
  | k + 1 => by
    have ih0 := rillref00_SameBytes.mono_l k
    · intro y0 y1 y2
      unfold rillref00_SameBytes.l0
      repeat' first
      | (with_reducible exact ih0 _ _ _)
      | (with_reducible exact LeO.refl _)
      | (with_reducible exact LeO.none _)
      | (with_reducible refine LeO.ite ?_ ?_)
      | (with_reducible refine LeO.bind ?_ (fun _ => ?_))
      | exact ih0 _ _ _
      | exact LeO.none _
      | refine LeO.ite ?_ ?_
      | refine LeO.bind ?_ (fun _ => ?_)
theorem rillref00_SameBytes.mono : ∀ a0 a1 k, LeO (rillref00_SameBytes.f k a0 a1) (rillref00_SameBytes.f (k + 1) a0 a1) := by
  intro a0 a1 k
  have ih0 := rillref00_SameBytes.mono_l k
  unfold rillref00_SameBytes.f
  repeat' first
      | (with_reducible exact ih0 _ _ _)
      | (with_reducible exact LeO.refl _)
      | (with_reducible exact LeO.none _)
      | (with_reducible refine LeO.ite ?_ ?_)
      | (with_reducible refine LeO.bind ?_ (fun _ => ?_))
      | exact ih0 _ _ _
      | exact LeO.none _
      | refine LeO.ite ?_ ?_
      | refine LeO.bind ?_ (fun _ => ?_)
set_option maxHeartbeats 8000000 in
set_option maxRecDepth 100000 in
theorem rillref00_SameBytes.calls (k : Nat) (A0 : Option Addr) (c0 : Nat) (l0 : List Int) (A1 : Option Addr) (c1 : Nat) (l1 : List Int) (r : Bool) (w : World) (hr0 : Kd.C (Kd.int .u8) w A0 l0.length l0) (hc0 : l0.length ≤ c0) (hr1 : Kd.C (Kd.int .u8) w A1 l1.length l1) (hc1 : l1.length ≤ c1) (h : rillref00_SameBytes.f k l0 l1 = some r) :
    Calls Try.prog 17 #[.slice A0 l0.length c0, .slice A1 l1.length c1] w fun e w' => e = .returned (.bool r) ∧ Drawn0 w w' := by
  have HR0 := Aside0.mk hr0
  have HC0 := Aside0.mk hc0
  clear hr0 hc0
  have HR1 := Aside0.mk hr1
  have HC1 := Aside0.mk hc1
  clear hr1 hc1
  have H : (if (l0.length : Int) = (l1.length : Int) then (rillref00_SameBytes.l0 k l0 l1 0) else (some false)) = some r := h
  clear h
  by_cases c3 : (l0.length : Int) = (l1.length : Int)
  · rw [if_pos c3] at H
    have c3b0 : ((l0.length : Int) == (l1.length : Int)) = true := beq_iff_eq.mpr c3
    have c3b1 : ((l0.length : Int) != (l1.length : Int)) = false := bne_eq_false_iff_eq.mpr c3
    have c3b2 : (l0.length == l1.length) = true := by first | simpa using c3 | (simp at c3 ⊢; omega)
    clear c3
    have H' := Aside0.mk H
    clear H
    go_enter Try.func17, Try.ntmps17
    go_wp2
    repeat (go_quiet (fail); try go_wp2)
    go_loopg [5] k (fun kq v5 w' => ∃ (x5_1 : Int), v5 = .int .i64 x5_1 ∧ Aside0 (rillref00_SameBytes.l0 kq l0 l1 x5_1 = some r) ∧ Aside0 (kq ≤ k) ∧ Drawn0 w w')
    case atStart => exact ⟨(0), (by first | rfl | (simp; done) | (simp [*]; done)), H', ⟨Nat.le_refl _⟩, by repeat (first | exact Drawn0.refl _ | apply Drawn0.step)⟩
    case round =>
      clear H'
      try clear c1
      try clear p2
      try clear c3
      try clear c3b0
      try clear c3b1
      try clear c3b2
      obtain ⟨x5_1, rfl, HA, HK1, ⟨m1, rfl⟩⟩ := hrel
      cases gk with
      | zero => exact absurd HA.out (by simp [rillref00_SameBytes.l0])
      | succ k1 =>
        have H := HA.out
        clear HA
        simp only [rillref00_SameBytes.l0] at H
        by_cases c4 : x5_1 < (l0.length : Int)
        · rw [if_pos c4] at H
          have c4b0 : decide (x5_1 < (l0.length : Int)) = true := decide_eq_true c4
          clear c4
          by_cases c5 : 0 ≤ x5_1
          · rw [if_pos c5] at H
            have c5b0 : decide (0 ≤ x5_1) = true := decide_eq_true c5
            clear c5
            by_cases c6 : x5_1 < (l1.length : Int)
            · rw [if_pos c6] at H
              have c6b0 : decide (x5_1 < (l1.length : Int)) = true := decide_eq_true c6
              clear c6
              by_cases c7 : (rd l0 x5_1) = (rd l1 x5_1)
              · rw [if_pos c7] at H
                have c7b0 : ((rd l0 x5_1) == (rd l1 x5_1)) = true := beq_iff_eq.mpr c7
                have c7b1 : ((rd l0 x5_1) != (rd l1 x5_1)) = false := bne_eq_false_iff_eq.mpr c7
                clear c7
                have H' := Aside0.mk H
                clear H
                have p155 : 0 ≤ (x5_1 : Int) := of_decide_eq_true (by first | (with_reducible assumption) | assumption)
                have q155 : x5_1 < (l0.length : Int) := of_decide_eq_true (by first | (with_reducible assumption) | assumption)
                obtain ⟨ad155, e155, hx155_0⟩ := Kd.at_int HR0.out x5_1 p155 q155
                cases e155
                replace p155 := eq_true p155
                replace q155 := eq_true q155
                have p156 : 0 ≤ (x5_1 : Int) := of_decide_eq_true (by first | (with_reducible assumption) | assumption)
                have q156 : x5_1 < (l1.length : Int) := of_decide_eq_true (by first | (with_reducible assumption) | assumption)
                obtain ⟨ad156, e156, hx156_0⟩ := Kd.at_int HR1.out x5_1 p156 q156
                cases e156
                replace p156 := eq_true p156
                replace q156 := eq_true q156
                go_wp2
                repeat (go_quiet (fail); try go_wp2)
                go_roundg k1
                case measure => have := HK1.out; omega
                case rel => exact ⟨(wrap64 (x5_1 + 1)), (by first | rfl | (simp; done) | (simp [*]; done)), H', ⟨by have := HK1.out; omega⟩, by repeat (first | exact Drawn0.refl _ | apply Drawn0.step)⟩
              · rw [if_neg c7] at H
                have c7b0 : ((rd l0 x5_1) == (rd l1 x5_1)) = false := beq_eq_false_iff_ne.mpr c7
                have c7b1 : ((rd l0 x5_1) != (rd l1 x5_1)) = true := bne_iff_ne.mpr c7
                obtain rfl := Option.some.inj H
                have p155 : 0 ≤ (x5_1 : Int) := of_decide_eq_true (by first | (with_reducible assumption) | assumption)
                have q155 : x5_1 < (l0.length : Int) := of_decide_eq_true (by first | (with_reducible assumption) | assumption)
                obtain ⟨ad155, e155, hx155_0⟩ := Kd.at_int HR0.out x5_1 p155 q155
                cases e155
                replace p155 := eq_true p155
                replace q155 := eq_true q155
                have p156 : 0 ≤ (x5_1 : Int) := of_decide_eq_true (by first | (with_reducible assumption) | assumption)
                have q156 : x5_1 < (l1.length : Int) := of_decide_eq_true (by first | (with_reducible assumption) | assumption)
                obtain ⟨ad156, e156, hx156_0⟩ := Kd.at_int HR1.out x5_1 p156 q156
                cases e156
                replace p156 := eq_true p156
                replace q156 := eq_true q156
                go_wp2
                repeat (go_quiet (fail); try go_wp2)
                go_ret
                exact ⟨by first | rfl | (simp; done) | (simp [*]; done), by repeat (first | exact Drawn0.refl _ | apply Drawn0.step)⟩
            · rw [if_neg c6] at H
              exact absurd H (by simp)
          · rw [if_neg c5] at H
            exact absurd H (by simp)
        · rw [if_neg c4] at H
          have c4b0 : decide (x5_1 < (l0.length : Int)) = false := decide_eq_false c4
          clear c4
          obtain rfl := Option.some.inj H
          go_wp2
          repeat (go_quiet (fail); try go_wp2)
          go_ret
          exact ⟨by first | rfl | (simp; done) | (simp [*]; done), by repeat (first | exact Drawn0.refl _ | apply Drawn0.step)⟩
  · rw [if_neg c3] at H
    have c3b0 : ((l0.length : Int) == (l1.length : Int)) = false := beq_eq_false_iff_ne.mpr c3
    have c3b1 : ((l0.length : Int) != (l1.length : Int)) = true := bne_iff_ne.mpr c3
    have c3b2 : (l0.length == l1.length) = false := by first | simpa using c3 | (simp at c3 ⊢; omega)
    obtain rfl := Option.some.inj H
    go_enter Try.func17, Try.ntmps17
    go_wp2
    repeat (go_quiet (fail); try go_wp2)
    go_ret
    exact ⟨by first | rfl | (simp; done) | (simp [*]; done), by repeat (first | exact Drawn0.refl _ | apply Drawn0.step)⟩

/-! ### rillref00_SameRows: function 22 -/
def rillref00_SameRows.l0 : Nat → List (List Int) → List (List Int) → Int → Option (Bool)
  | 0, _, _, _ => none
  | k + 1, x0, x1, x5 => if x5 < (x0.length : Int) then (if 0 ≤ x5 then (if x5 < (x1.length : Int) then ((rillref00_SameBytes.f k (rd_L1 x0 x5) (rd_L1 x1 x5)).bind fun t159 => (if t159 = true then (rillref00_SameRows.l0 k x0 x1 (wrap64 (x5 + 1))) else (some false))) else (none)) else (none)) else (some true)
def rillref00_SameRows.f (k : Nat) (l0 : List (List Int)) (l1 : List (List Int)) : Option (Bool) := if (l0.length : Int) = (l1.length : Int) then (rillref00_SameRows.l0 k l0 l1 0) else (some false)
theorem rillref00_SameRows.mono_l : ∀ k, (∀ y0 y1 y2, LeO (rillref00_SameRows.l0 k y0 y1 y2) (rillref00_SameRows.l0 (k + 1) y0 y1 y2))
  | 0 => fun _ _ _ r h => by simp [rillref00_SameRows.l0] at h
  | k + 1 => by
    have ih0 := rillref00_SameRows.mono_l k
    · intro y0 y1 y2
      unfold rillref00_SameRows.l0
      repeat' first
      | (with_reducible exact ih0 _ _ _)
      | (with_reducible exact rillref00_SameBytes.mono _ _ _)
      | (with_reducible exact LeO.refl _)
      | (with_reducible exact LeO.none _)
      | (with_reducible refine LeO.ite ?_ ?_)
      | (with_reducible refine LeO.bind ?_ (fun _ => ?_))
      | exact ih0 _ _ _
      | exact rillref00_SameBytes.mono _ _ _
      | exact LeO.none _
      | refine LeO.ite ?_ ?_
      | refine LeO.bind ?_ (fun _ => ?_)
theorem rillref00_SameRows.mono : ∀ a0 a1 k, LeO (rillref00_SameRows.f k a0 a1) (rillref00_SameRows.f (k + 1) a0 a1) := by
  intro a0 a1 k
  have ih0 := rillref00_SameRows.mono_l k
  unfold rillref00_SameRows.f
  repeat' first
      | (with_reducible exact ih0 _ _ _)
      | (with_reducible exact rillref00_SameBytes.mono _ _ _)
      | (with_reducible exact LeO.refl _)
      | (with_reducible exact LeO.none _)
      | (with_reducible refine LeO.ite ?_ ?_)
      | (with_reducible refine LeO.bind ?_ (fun _ => ?_))
      | exact ih0 _ _ _
      | exact rillref00_SameBytes.mono _ _ _
      | exact LeO.none _
      | refine LeO.ite ?_ ?_
      | refine LeO.bind ?_ (fun _ => ?_)
set_option maxHeartbeats 8000000 in
set_option maxRecDepth 100000 in
theorem rillref00_SameRows.calls (k : Nat) (A0 : Option Addr) (c0 : Nat) (l0 : List (List Int)) (A1 : Option Addr) (c1 : Nat) (l1 : List (List Int)) (r : Bool) (w : World) (hr0 : Kd.C (Kd.slice 5 (Kd.int .u8)) w A0 l0.length l0) (hc0 : l0.length ≤ c0) (hr1 : Kd.C (Kd.slice 5 (Kd.int .u8)) w A1 l1.length l1) (hc1 : l1.length ≤ c1) (h : rillref00_SameRows.f k l0 l1 = some r) :
    Calls Try.prog 22 #[.slice A0 l0.length c0, .slice A1 l1.length c1] w fun e w' => e = .returned (.bool r) ∧ Drawn0 w w' := by
  have HR0 := Aside0.mk hr0
  have HC0 := Aside0.mk hc0
  clear hr0 hc0
  have HR1 := Aside0.mk hr1
  have HC1 := Aside0.mk hc1
  clear hr1 hc1
  have H : (if (l0.length : Int) = (l1.length : Int) then (rillref00_SameRows.l0 k l0 l1 0) else (some false)) = some r := h
  clear h
  by_cases c3 : (l0.length : Int) = (l1.length : Int)
  · rw [if_pos c3] at H
    have c3b0 : ((l0.length : Int) == (l1.length : Int)) = true := beq_iff_eq.mpr c3
    have c3b1 : ((l0.length : Int) != (l1.length : Int)) = false := bne_eq_false_iff_eq.mpr c3
    have c3b2 : (l0.length == l1.length) = true := by first | simpa using c3 | (simp at c3 ⊢; omega)
    clear c3
    have H' := Aside0.mk H
    clear H
    go_enter Try.func22, Try.ntmps22
    go_wp2
    repeat (go_quiet (fail); try go_wp2)
    go_loopg [5] k (fun kq v5 w' => ∃ (x5_1 : Int), v5 = .int .i64 x5_1 ∧ Aside0 (rillref00_SameRows.l0 kq l0 l1 x5_1 = some r) ∧ Aside0 (kq ≤ k) ∧ Drawn0 w w')
    case atStart => exact ⟨(0), (by first | rfl | (simp; done) | (simp [*]; done)), H', ⟨Nat.le_refl _⟩, by repeat (first | exact Drawn0.refl _ | apply Drawn0.step)⟩
    case round =>
      clear H'
      try clear c1
      try clear c2
      try clear p2
      try clear c3
      try clear c3b0
      try clear c3b1
      try clear c3b2
      obtain ⟨x5_1, rfl, HA, HK1, ⟨m1, rfl⟩⟩ := hrel
      cases gk with
      | zero => exact absurd HA.out (by simp [rillref00_SameRows.l0])
      | succ k1 =>
        have H := HA.out
        clear HA
        simp only [rillref00_SameRows.l0] at H
        by_cases c4 : x5_1 < (l0.length : Int)
        · rw [if_pos c4] at H
          have c4b0 : decide (x5_1 < (l0.length : Int)) = true := decide_eq_true c4
          clear c4
          by_cases c5 : 0 ≤ x5_1
          · rw [if_pos c5] at H
            have c5b0 : decide (0 ≤ x5_1) = true := decide_eq_true c5
            clear c5
            by_cases c6 : x5_1 < (l1.length : Int)
            · rw [if_pos c6] at H
              have c6b0 : decide (x5_1 < (l1.length : Int)) = true := decide_eq_true c6
              clear c6
              replace H := Option.bind_eq_some_iff.mp H
              obtain ⟨t159, A70, H⟩ := H
              replace H : (if t159 = true then (rillref00_SameRows.l0 k1 l0 l1 (wrap64 (x5_1 + 1))) else (some false)) = some r := H
              have A7 := Aside0.mk A70
              clear A70
              by_cases c8 : t159 = true
              · subst c8
                have H1 : (rillref00_SameRows.l0 k1 l0 l1 (wrap64 (x5_1 + 1))) = some r := by rw [if_pos rfl] at H; exact H
                clear H
                have H := H1
                clear H1
                have H' := Aside0.mk H
                clear H
                have p157 : 0 ≤ (x5_1 : Int) := of_decide_eq_true (by first | (with_reducible assumption) | assumption)
                have q157 : x5_1 < (l0.length : Int) := of_decide_eq_true (by first | (with_reducible assumption) | assumption)
                obtain ⟨ad157, A157_0, c157_0, e157, hx157_0, hl157_0, hi157_0⟩ := at_L1 HR0.out x5_1 p157 q157
                cases e157
                have HR157_0 := Aside0.mk hi157_0
                have HC157_0 := Aside0.mk hl157_0
                clear hi157_0 hl157_0
                replace p157 := eq_true p157
                replace q157 := eq_true q157
                have p158 : 0 ≤ (x5_1 : Int) := of_decide_eq_true (by first | (with_reducible assumption) | assumption)
                have q158 : x5_1 < (l1.length : Int) := of_decide_eq_true (by first | (with_reducible assumption) | assumption)
                obtain ⟨ad158, A158_0, c158_0, e158, hx158_0, hl158_0, hi158_0⟩ := at_L1 HR1.out x5_1 p158 q158
                cases e158
                have HR158_0 := Aside0.mk hi158_0
                have HC158_0 := Aside0.mk hl158_0
                clear hi158_0 hl158_0
                replace p158 := eq_true p158
                replace q158 := eq_true q158
                go_wp2_with (first | (go_at_call 17; (with_reducible refine (rillref00_SameBytes.calls k1 _ _ (rd_L1 l0 x5_1) _ _ (rd_L1 l1 x5_1) true _ ?side1 ?side2 ?side3 ?side4 A7.out).mono ?_); (case side1 => repeat (first | exact HR157_0.out | (with_reducible refine Kd.C_alloc ?_ _) | (with_reducible refine Kd.C_drewN ?_ _) | (with_reducible refine Kd.C_drew ?_))); (case side2 => exact HC157_0.out); (case side3 => repeat (first | exact HR158_0.out | (with_reducible refine Kd.C_alloc ?_ _) | (with_reducible refine Kd.C_drewN ?_ _) | (with_reducible refine Kd.C_drew ?_))); (case side4 => exact HC158_0.out); rintro e w' ⟨rfl, ⟨nd, rfl⟩⟩; (try first | exact ⟨rfl, _, World.drewN_drewN _ _ _⟩ | exact ⟨rfl, _, Eq.trans (World.drewN_drewN _ _ _) (congrArg (World.drewN _) (Nat.add_assoc _ _ _))⟩)))
                repeat (go_quiet (first | (go_at_call 17; (with_reducible refine (rillref00_SameBytes.calls k1 _ _ (rd_L1 l0 x5_1) _ _ (rd_L1 l1 x5_1) true _ ?side1 ?side2 ?side3 ?side4 A7.out).mono ?_); (case side1 => repeat (first | exact HR157_0.out | (with_reducible refine Kd.C_alloc ?_ _) | (with_reducible refine Kd.C_drewN ?_ _) | (with_reducible refine Kd.C_drew ?_))); (case side2 => exact HC157_0.out); (case side3 => repeat (first | exact HR158_0.out | (with_reducible refine Kd.C_alloc ?_ _) | (with_reducible refine Kd.C_drewN ?_ _) | (with_reducible refine Kd.C_drew ?_))); (case side4 => exact HC158_0.out); rintro e w' ⟨rfl, ⟨nd, rfl⟩⟩; (try first | exact ⟨rfl, _, World.drewN_drewN _ _ _⟩ | exact ⟨rfl, _, Eq.trans (World.drewN_drewN _ _ _) (congrArg (World.drewN _) (Nat.add_assoc _ _ _))⟩))); try go_wp2_with (first | (go_at_call 17; (with_reducible refine (rillref00_SameBytes.calls k1 _ _ (rd_L1 l0 x5_1) _ _ (rd_L1 l1 x5_1) true _ ?side1 ?side2 ?side3 ?side4 A7.out).mono ?_); (case side1 => repeat (first | exact HR157_0.out | (with_reducible refine Kd.C_alloc ?_ _) | (with_reducible refine Kd.C_drewN ?_ _) | (with_reducible refine Kd.C_drew ?_))); (case side2 => exact HC157_0.out); (case side3 => repeat (first | exact HR158_0.out | (with_reducible refine Kd.C_alloc ?_ _) | (with_reducible refine Kd.C_drewN ?_ _) | (with_reducible refine Kd.C_drew ?_))); (case side4 => exact HC158_0.out); rintro e w' ⟨rfl, ⟨nd, rfl⟩⟩; (try first | exact ⟨rfl, _, World.drewN_drewN _ _ _⟩ | exact ⟨rfl, _, Eq.trans (World.drewN_drewN _ _ _) (congrArg (World.drewN _) (Nat.add_assoc _ _ _))⟩))))
                go_roundg k1
                case measure => have := HK1.out; omega
                case rel => exact ⟨(wrap64 (x5_1 + 1)), (by first | rfl | (simp; done) | (simp [*]; done)), H', ⟨by have := HK1.out; omega⟩, by repeat (first | exact Drawn0.refl _ | apply Drawn0.step)⟩
              · replace c8 := Bool.eq_false_iff.mpr c8
                subst c8
                have H1 : (some false) = some r := by rw [if_neg (show ¬ (false = true) by decide)] at H; exact H
                clear H
                have H := H1
                clear H1
                obtain rfl := Option.some.inj H
                have p157 : 0 ≤ (x5_1 : Int) := of_decide_eq_true (by first | (with_reducible assumption) | assumption)
                have q157 : x5_1 < (l0.length : Int) := of_decide_eq_true (by first | (with_reducible assumption) | assumption)
                obtain ⟨ad157, A157_0, c157_0, e157, hx157_0, hl157_0, hi157_0⟩ := at_L1 HR0.out x5_1 p157 q157
                cases e157
                have HR157_0 := Aside0.mk hi157_0
                have HC157_0 := Aside0.mk hl157_0
                clear hi157_0 hl157_0
                replace p157 := eq_true p157
                replace q157 := eq_true q157
                have p158 : 0 ≤ (x5_1 : Int) := of_decide_eq_true (by first | (with_reducible assumption) | assumption)
                have q158 : x5_1 < (l1.length : Int) := of_decide_eq_true (by first | (with_reducible assumption) | assumption)
                obtain ⟨ad158, A158_0, c158_0, e158, hx158_0, hl158_0, hi158_0⟩ := at_L1 HR1.out x5_1 p158 q158
                cases e158
                have HR158_0 := Aside0.mk hi158_0
                have HC158_0 := Aside0.mk hl158_0
                clear hi158_0 hl158_0
                replace p158 := eq_true p158
                replace q158 := eq_true q158
                go_wp2_with (first | (go_at_call 17; (with_reducible refine (rillref00_SameBytes.calls k1 _ _ (rd_L1 l0 x5_1) _ _ (rd_L1 l1 x5_1) false _ ?side1 ?side2 ?side3 ?side4 A7.out).mono ?_); (case side1 => repeat (first | exact HR157_0.out | (with_reducible refine Kd.C_alloc ?_ _) | (with_reducible refine Kd.C_drewN ?_ _) | (with_reducible refine Kd.C_drew ?_))); (case side2 => exact HC157_0.out); (case side3 => repeat (first | exact HR158_0.out | (with_reducible refine Kd.C_alloc ?_ _) | (with_reducible refine Kd.C_drewN ?_ _) | (with_reducible refine Kd.C_drew ?_))); (case side4 => exact HC158_0.out); rintro e w' ⟨rfl, ⟨nd, rfl⟩⟩; (try first | exact ⟨rfl, _, World.drewN_drewN _ _ _⟩ | exact ⟨rfl, _, Eq.trans (World.drewN_drewN _ _ _) (congrArg (World.drewN _) (Nat.add_assoc _ _ _))⟩)))
                repeat (go_quiet (first | (go_at_call 17; (with_reducible refine (rillref00_SameBytes.calls k1 _ _ (rd_L1 l0 x5_1) _ _ (rd_L1 l1 x5_1) false _ ?side1 ?side2 ?side3 ?side4 A7.out).mono ?_); (case side1 => repeat (first | exact HR157_0.out | (with_reducible refine Kd.C_alloc ?_ _) | (with_reducible refine Kd.C_drewN ?_ _) | (with_reducible refine Kd.C_drew ?_))); (case side2 => exact HC157_0.out); (case side3 => repeat (first | exact HR158_0.out | (with_reducible refine Kd.C_alloc ?_ _) | (with_reducible refine Kd.C_drewN ?_ _) | (with_reducible refine Kd.C_drew ?_))); (case side4 => exact HC158_0.out); rintro e w' ⟨rfl, ⟨nd, rfl⟩⟩; (try first | exact ⟨rfl, _, World.drewN_drewN _ _ _⟩ | exact ⟨rfl, _, Eq.trans (World.drewN_drewN _ _ _) (congrArg (World.drewN _) (Nat.add_assoc _ _ _))⟩))); try go_wp2_with (first | (go_at_call 17; (with_reducible refine (rillref00_SameBytes.calls k1 _ _ (rd_L1 l0 x5_1) _ _ (rd_L1 l1 x5_1) false _ ?side1 ?side2 ?side3 ?side4 A7.out).mono ?_); (case side1 => repeat (first | exact HR157_0.out | (with_reducible refine Kd.C_alloc ?_ _) | (with_reducible refine Kd.C_drewN ?_ _) | (with_reducible refine Kd.C_drew ?_))); (case side2 => exact HC157_0.out); (case side3 => repeat (first | exact HR158_0.out | (with_reducible refine Kd.C_alloc ?_ _) | (with_reducible refine Kd.C_drewN ?_ _) | (with_reducible refine Kd.C_drew ?_))); (case side4 => exact HC158_0.out); rintro e w' ⟨rfl, ⟨nd, rfl⟩⟩; (try first | exact ⟨rfl, _, World.drewN_drewN _ _ _⟩ | exact ⟨rfl, _, Eq.trans (World.drewN_drewN _ _ _) (congrArg (World.drewN _) (Nat.add_assoc _ _ _))⟩))))
                go_ret
                exact ⟨by first | rfl | (simp; done) | (simp [*]; done), by repeat (first | exact Drawn0.refl _ | apply Drawn0.step)⟩
            · rw [if_neg c6] at H
              exact absurd H (by simp)
          · rw [if_neg c5] at H
            exact absurd H (by simp)
        · rw [if_neg c4] at H
          have c4b0 : decide (x5_1 < (l0.length : Int)) = false := decide_eq_false c4
          clear c4
          obtain rfl := Option.some.inj H
          go_wp2
          repeat (go_quiet (fail); try go_wp2)
          go_ret
          exact ⟨by first | rfl | (simp; done) | (simp [*]; done), by repeat (first | exact Drawn0.refl _ | apply Drawn0.step)⟩
  · rw [if_neg c3] at H
    have c3b0 : ((l0.length : Int) == (l1.length : Int)) = false := beq_eq_false_iff_ne.mpr c3
    have c3b1 : ((l0.length : Int) != (l1.length : Int)) = true := bne_iff_ne.mpr c3
    have c3b2 : (l0.length == l1.length) = false := by first | simpa using c3 | (simp at c3 ⊢; omega)
    obtain rfl := Option.some.inj H
    go_enter Try.func22, Try.ntmps22
    go_wp2
    repeat (go_quiet (fail); try go_wp2)
    go_ret
    exact ⟨by first | rfl | (simp; done) | (simp [*]; done), by repeat (first | exact Drawn0.refl _ | apply Drawn0.step)⟩

/-! ### rilllaw07_alive: function 10 -/
def rilllaw07_alive.f : Option Bool := some true
def rilllaw07_alive.fr : List Int := [90, 0, 0, 2, 97, 98, 192, 9, 4, 206]
theorem rilllaw07_alive.pk : frame_Pack.f 300 [97, 98] = some (rilllaw07_alive.fr, 0) := by decide +kernel
theorem rilllaw07_alive.ck : frame_Check.f 300 [[49, 50, 51, 52, 53, 54, 55, 56, 57]] = some 3421780262 := by decide +kernel
theorem rilllaw07_alive.sc : frame_Scan.f 300 rilllaw07_alive.fr = some ([[97, 98]], 10) := by decide +kernel
theorem rilllaw07_alive.sr : rillref00_SameRows.f 300 [[97, 98]] [[97, 98]] = some true := by decide +kernel
theorem rilllaw07_alive.ln : rilllaw07_alive.fr.length = 10 := by decide
set_option maxHeartbeats 8000000 in
set_option maxRecDepth 100000 in
theorem rilllaw07_alive.calls (r : Bool) (w : World) (h : rilllaw07_alive.f = some r) :
    Calls Try.prog 10 #[] w fun e w' => e = .returned (.bool r) ∧ Below w.heap.size w w' := by
  unfold rilllaw07_alive.f at h
  obtain rfl := Option.some.inj h
  clear h
  have kc := fun (W : World) (C : Array Value) (n c : Nat) => Lib.run_convert_bytes_const (P := Try.prog) W 22 5 C n c Try.underlying22 Try.underlying5
  have kl : (decide (((10 : Nat) : Int) = 10)) = true := by decide
  go_enter Try.func10, Try.ntmps10
  go_wp2_with fail
  refine (frame_Pack.calls 300 (some ⟨w.heap.size, 0, none⟩) 2 [97, 98] rilllaw07_alive.fr 0 (w.alloc (.cells #[.int .u8 97, .int .u8 98] 5 (2, 3))) (Own.const_C w 5 .u8 [97, 98] (2, 3) (by decide)) (Nat.le_refl _) rilllaw07_alive.pk).mono ?_
  rintro e w1 ⟨v1, rfl, ho1, hb1⟩
  obtain ⟨A1, c1, rfl, hl1, hr1⟩ := Kd.R_reads ho1
  have HB := Aside0.mk (below_step (below_alloc (Below.refl w.heap.size w) _) hb1)
  have HB1 := Aside0.mk (Below.refl w1.heap.size w1)
  rw [rilllaw07_alive.ln] at hr1 hl1
  rw [rilllaw07_alive.ln]
  have HR1 := Aside0.mk hr1
  have HC1 := Aside0.mk hl1
  clear ho1 hb1 hr1 hl1
  go_wp2_with fail
  have hs1 := Own.size_alloc w1 (.cells #[.int .u8 49, .int .u8 50, .int .u8 51, .int .u8 52, .int .u8 53, .int .u8 54, .int .u8 55, .int .u8 56, .int .u8 57] 5 (9, 10))
  have hk1 := Own.const_C w1 5 .u8 [49, 50, 51, 52, 53, 54, 55, 56, 57] (9, 10) (by decide)
  have hk2 := Own.lit1 (Kd.int .u8) 5 (w1.alloc (.cells #[.int .u8 49, .int .u8 50, .int .u8 51, .int .u8 52, .int .u8 53, .int .u8 54, .int .u8 55, .int .u8 56, .int .u8 57] 5 (9, 10))) 22 (A1 := some ⟨w1.heap.size, 0, none⟩) (c1 := 9) (l1 := [49, 50, 51, 52, 53, 54, 55, 56, 57]) (by decide) (Kd.C_below hk1 (below_alloc (Below.refl _ _) _))
  rw [hs1] at hk2
  refine (frame_Check.calls 300 (some ⟨w1.heap.size + 1, 0, none⟩) 1 [[49, 50, 51, 52, 53, 54, 55, 56, 57]] 3421780262 _ hk2 (Nat.le_refl _) rilllaw07_alive.ck).mono ?_
  clear hs1 hk1 hk2
  rintro e w2 ⟨rfl, ⟨nd, rfl⟩⟩
  go_wp2_with fail
  refine (frame_Scan.calls 300 A1 c1 rilllaw07_alive.fr [[97, 98]] 10 _ (Kd.C_below HR1.out (pw_below_drewN (below_alloc (below_alloc (Below.refl _ _) _) _) nd)) HC1.out rilllaw07_alive.sc).mono ?_
  rintro e w3 ⟨v3, rfl, ho3, hb3⟩
  obtain ⟨A3, c3, rfl, hl3, hr3⟩ := Kd.S_reads ho3
  have n0_ := Aside0.mk (below_step (below_step HB.out (pw_below_drewN (below_alloc (below_alloc (Below.refl _ _) _) _) nd)) hb3)
  have HR3 := Aside0.mk hr3
  have HC3 := Aside0.mk hl3
  clear HB HB1 HR1 HC1 ho3 hb3 hr3 hl3
  have HB := n0_
  clear n0_
  go_wp2_with fail
  have hs1 := Own.size_alloc w3 (.cells #[.int .u8 97, .int .u8 98] 5 (2, 3))
  have hk1 := Own.const_C w3 5 .u8 [97, 98] (2, 3) (by decide)
  have hk2 := Own.lit1 (Kd.int .u8) 5 (w3.alloc (.cells #[.int .u8 97, .int .u8 98] 5 (2, 3))) 22 (A1 := some ⟨w3.heap.size, 0, none⟩) (c1 := 2) (l1 := [97, 98]) (by decide) (Kd.C_below hk1 (below_alloc (Below.refl _ _) _))
  rw [hs1] at hk2
  refine (rillref00_SameRows.calls 300 A3 c3 [[97, 98]] (some ⟨w3.heap.size + 1, 0, none⟩) 1 [[97, 98]] true _ (Kd.C_below HR3.out (below_alloc (below_alloc (Below.refl _ _) _) _)) HC3.out hk2 (Nat.le_refl _) rilllaw07_alive.sr).mono ?_
  clear hs1 hk1 hk2
  rintro e w4 ⟨rfl, ⟨nd, rfl⟩⟩
  go_wp2
  go_ret
  exact ⟨rfl, pw_below_drewN (below_alloc (below_alloc HB.out _) _) _⟩

/-! ### rillref00_CopyBytes: function 11 -/
def rillref00_CopyBytes.f (l0 : List Int) : Option (List Int) := (some (([] : List Int) : List Int)).bind fun y160 => (if y160.length + l0.length < 140737488355328 then (some (y160 ++ l0)) else (none))
set_option maxHeartbeats 8000000 in
set_option maxRecDepth 100000 in
theorem rillref00_CopyBytes.calls (A0 : Option Addr) (c0 : Nat) (l0 : List Int) (r : List Int) (w : World) (hr0 : Kd.C (Kd.int .u8) w A0 l0.length l0) (hc0 : l0.length ≤ c0) (h : rillref00_CopyBytes.f l0 = some r) :
    Calls Try.prog 11 #[.slice A0 l0.length c0] w fun e w' => ∃ v0_ : Value, e = .returned (v0_) ∧ Kd.R (Kd.int .u8) 5 w' w.heap.size (fun _ => True) v0_ r ∧ Below w.heap.size w w' := by
  have HR0 := Aside0.mk hr0
  have HC0 := Aside0.mk hc0
  clear hr0 hc0
  have HB := Aside0.mk (Below.refl w.heap.size w)
  have H : ((some (([] : List Int) : List Int)).bind fun y160 => (if y160.length + l0.length < 140737488355328 then (some (y160 ++ l0)) else (none))) = some r := h
  clear h
  obtain ⟨y160, hy160⟩ : ∃ y_ : List Int, y_ = (([] : List Int)) := ⟨_, rfl⟩
  replace H : (if y160.length + l0.length < 140737488355328 then (some (y160 ++ l0)) else (none)) = some r := by first | (rw [hy160]; with_reducible exact H) | (have H2_ := (Option.bind_some _ _).symm.trans H; rw [hy160]; with_reducible exact H2_) | (have H2_ := (Option.bind_some _ _).symm.trans H; with_reducible exact H2_) | with_reducible exact H | (rw [hy160]; exact H) | exact H
  have Ny160 := Aside0.mk hy160
  clear hy160
  by_cases c2 : y160.length + l0.length < 140737488355328
  · rw [if_pos c2] at H
    have LMc2 := Aside0.mk c2
    clear c2
    obtain ⟨y163, hy163⟩ : ∃ y_ : List Int, y_ = (y160 ++ l0) := ⟨_, rfl⟩
    replace H : (some y163) = some r := by first | (rw [hy163]; with_reducible exact H) | (have H2_ := (Option.bind_some _ _).symm.trans H; rw [hy163]; with_reducible exact H2_) | (have H2_ := (Option.bind_some _ _).symm.trans H; with_reducible exact H2_) | with_reducible exact H | (rw [hy163]; exact H) | exact H
    have Ny163 := Aside0.mk hy163
    clear hy163
    obtain rfl := Option.some.inj H
    go_enter Try.func11, Try.ntmps11
    go_wp2_with (first | ((with_reducible refine gate_dst (N := 4) rfl ?_); refine Kd.R_lit (Kd.int .u8) _ 5 ?hg (N := 4) ?hd (xs := ([] : List Int)) (inner := []) (ok := fun _ => True) (okp := fun _ => True) ?hr ?hp (fun _ hk => hk) trivial (Below.refl _ _) (Nat.le_refl _) (by simp) ?_; (case hd => rfl); (case hg => rfl); (case hr => first | (go_simp; done) | (go_simp; rfl)); (case hp => exact (Reps.none _ _)); intro v161 w3 ho4 hb hg_ hnew_; clear hg_ hnew_; (first | rw [← Ny160.out] at ho4 | (simp only [Int.reduceToNat] at ho4; rw [← Ny160.out] at ho4)); have n0_ := Aside0.mk (Kd.R_lower ho4 (below_size (by repeat (first | (with_reducible first | exact HB.out | apply below_alloc | apply pw_below_drewN | apply below_drew1) | exact HB.out)))); have n1_ := Aside0.mk (below_step (by repeat (first | (with_reducible first | exact HB.out | apply below_alloc | apply pw_below_drewN | apply below_drew1) | exact HB.out)) hb); clear HB; have HO162 := n0_; have HB := n1_; clear n0_ n1_; clear hb ho4) | ((with_reducible refine gate_builtin (b := .append) (xs := #[.tmp 5, .tmp 6]) rfl ?_); at_builtin; refine Kd.R_append_rows (Kd.int .u8) (w0 := w) w.heap.size rfl (.tmp 5) (.tmp 6) 22 5 (.int .u8 0) 1 rfl Try.underlying22 info5 rfl (by decide) (by omega) v161 y160 l0 _ _ _ (fun _ => True) (fun _ => False) rfl rfl ?aO ?aR (fun _ _ h => h) (fun _ h => h.elim) ?aF ?aB ?aS ?aL ?_; (case aR => repeat (first | exact (Kd.C_below HR0.out HB.out) | (with_reducible refine Kd.C_alloc ?_ _) | (with_reducible refine Kd.C_drewN ?_ _) | (with_reducible refine Kd.C_drew ?_))); (case aB => exact (by repeat (first | (with_reducible first | exact HB.out | apply below_alloc | apply pw_below_drewN | apply below_drew1) | exact HB.out))); (case aF => exact (fun _ _ => trivial)); (case aO => exact (by (with_reducible repeat (first | apply Kd.R_alloc | apply Kd.R_drewN | apply Kd.R_drew)); exact HO162.out)); (case aS => exact (below_size (by repeat (first | (with_reducible first | exact HB.out | apply below_alloc | apply pw_below_drewN | apply below_drew1) | exact HB.out)))); (case aL => have := LMc2.out; omega); intro v164 w5 ho hb hg hat; rw [← Ny163.out] at ho; have n0_ := Aside0.mk (hb); have n1_ := Aside0.mk (ho); clear HB; clear HO162; have HB := n0_; have HO165 := n1_; clear n0_ n1_; clear ho hb hg hat))
    go_ret
    exact ⟨_, by first | rfl | (simp [errW_none, errW_some] <;> rfl) | (simp [*, errW_none, errW_some] <;> rfl), by (with_reducible repeat (first | apply Kd.R_alloc | apply Kd.R_drewN | apply Kd.R_drew)); exact HO165.out, by repeat (first | (with_reducible first | exact HB.out | apply below_alloc | apply pw_below_drewN | apply below_drew1) | exact HB.out)⟩
  · rw [if_neg c2] at H
    exact absurd H (by simp)

/-! ### rillref00_Spare: function 12 -/
def rillref00_Spare.l0 : Nat → List Int → Int → Option (List Int)
  | 0, _, _ => none
  | k + 1, x3, x4 => if x4 < 8 then (if x3.length < 140737488355328 then (rillref00_Spare.l0 k (x3 ++ [(wrap64 (201 + x4)) % 256]) (wrap64 (x4 + 1))) else (none)) else (some x3)
def rillref00_Spare.f (k : Nat) (l0 : List Int) : Option (List Int) := (rillref00_CopyBytes.f l0).bind fun t166 => (rillref00_Spare.l0 k t166 0)
theorem rillref00_Spare.mono_l : ∀ k, (∀ y0 y1, LeO (rillref00_Spare.l0 k y0 y1) (rillref00_Spare.l0 (k + 1) y0 y1))
  | 0 => fun _ _ r h => by simp [rillref00_Spare.l0] at h
  | k + 1 => by
    have ih0 := rillref00_Spare.mono_l k
    · intro y0 y1
      unfold rillref00_Spare.l0
      repeat' first
      | (with_reducible exact ih0 _ _)
      | (with_reducible exact LeO.refl _)
      | (with_reducible exact LeO.none _)
      | (with_reducible refine LeO.ite ?_ ?_)
      | (with_reducible refine LeO.bind ?_ (fun _ => ?_))
      | exact ih0 _ _
      | exact LeO.none _
      | refine LeO.ite ?_ ?_
      | refine LeO.bind ?_ (fun _ => ?_)
theorem rillref00_Spare.mono : ∀ a0 k, LeO (rillref00_Spare.f k a0) (rillref00_Spare.f (k + 1) a0) := by
  intro a0 k
  have ih0 := rillref00_Spare.mono_l k
  unfold rillref00_Spare.f
  repeat' first
      | (with_reducible exact ih0 _ _)
      | (with_reducible exact LeO.refl _)
      | (with_reducible exact LeO.none _)
      | (with_reducible refine LeO.ite ?_ ?_)
      | (with_reducible refine LeO.bind ?_ (fun _ => ?_))
      | exact ih0 _ _
      | exact LeO.none _
      | refine LeO.ite ?_ ?_
      | refine LeO.bind ?_ (fun _ => ?_)
set_option maxHeartbeats 8000000 in
set_option maxRecDepth 100000 in
theorem rillref00_Spare.calls (k : Nat) (A0 : Option Addr) (c0 : Nat) (l0 : List Int) (r : List Int) (w : World) (hr0 : Kd.C (Kd.int .u8) w A0 l0.length l0) (hc0 : l0.length ≤ c0) (h : rillref00_Spare.f k l0 = some r) :
    Calls Try.prog 12 #[.slice A0 l0.length c0] w fun e w' => ∃ v0_ : Value, e = .returned (v0_) ∧ Kd.R (Kd.int .u8) 5 w' w.heap.size (fun _ => True) v0_ r ∧ Below w.heap.size w w' := by
  have HR0 := Aside0.mk hr0
  have HC0 := Aside0.mk hc0
  clear hr0 hc0
  have HB := Aside0.mk (Below.refl w.heap.size w)
  have H : ((rillref00_CopyBytes.f l0).bind fun t166 => (rillref00_Spare.l0 k t166 0)) = some r := h
  clear h
  replace H := Option.bind_eq_some_iff.mp H
  obtain ⟨t166, A20, H⟩ := H
  replace H : (rillref00_Spare.l0 k t166 0) = some r := H
  have A2 := Aside0.mk A20
  clear A20
  have H' := Aside0.mk H
  clear H
  go_enter Try.func12, Try.ntmps12
  go_wp2_with (first | ((with_reducible refine gate_callee (f := 11) rfl ?_); refine goesL_ (some 6) rfl rfl Try.func11 (by kernel_rfl) rfl #[.slice A0 l0.length c0] rfl (by (try simp only [List.map_toArray, List.map_cons, List.map_nil]); first | done | rfl | (simp only [List.length_drop, List.length_take]; rfl)) ?_; (with_reducible refine (rillref00_CopyBytes.calls _ _ l0 t166 _ ?side1 ?side2 A2.out).mono ?_); (case side1 => repeat (first | exact HR0.out | (with_reducible refine Kd.C_alloc ?_ _) | (with_reducible refine Kd.C_drewN ?_ _) | (with_reducible refine Kd.C_drew ?_))); (case side2 => exact HC0.out); rintro e w3 ⟨v167, rfl, ho0, hb⟩; refine ⟨_, rfl, ?_⟩; have n0_ := Aside0.mk (Kd.R_lower ho0 (below_size (by repeat (first | (with_reducible first | exact HB.out | apply below_alloc | apply pw_below_drewN | apply below_drew1) | exact HB.out)))); have n1_ := Aside0.mk (below_step (by repeat (first | (with_reducible first | exact HB.out | apply below_alloc | apply pw_below_drewN | apply below_drew1) | exact HB.out)) hb); clear HB; have HO168 := n0_; have HB := n1_; clear n0_ n1_; (try clear hb); (try clear hb2); (try clear hk); (try clear hi); (try clear ho0)))
  go_loopg [3, 4] k (fun kq v3 v4 w' => ∃ (x3_1 : List Int) (x4_1 : Int), v4 = .int .i64 x4_1 ∧ Aside0 (rillref00_Spare.l0 kq x3_1 x4_1 = some r) ∧ Aside0 (kq ≤ k) ∧ Aside0 (Kd.R (Kd.int .u8) 5 w' w.heap.size (fun _ => True) v3 x3_1) ∧ Aside0 (Below w.heap.size w w'))
  case atStart => exact ⟨(t166), (0), (by first | rfl | (simp; done) | (simp [*]; done)), H', ⟨Nat.le_refl _⟩, ⟨by (with_reducible repeat (first | apply Kd.R_alloc | apply Kd.R_drewN | apply Kd.R_drew)); exact HO168.out⟩, ⟨by repeat (first | (with_reducible first | exact HB.out | apply below_alloc | apply pw_below_drewN | apply below_drew1) | exact HB.out)⟩⟩
  case round =>
    clear H'
    try clear c1
    try clear p2
    obtain ⟨x3_1, x4_1, rfl, HA, HK1, HO_3, HB⟩ := hrel
    cases gk with
    | zero => exact absurd HA.out (by simp [rillref00_Spare.l0])
    | succ k1 =>
      have H := HA.out
      clear HA
      simp only [rillref00_Spare.l0] at H
      by_cases c4 : x4_1 < 8
      · rw [if_pos c4] at H
        have c4b0 : decide (x4_1 < 8) = true := decide_eq_true c4
        clear c4
        by_cases c5 : x3_1.length < 140737488355328
        · rw [if_pos c5] at H
          have LMc5 := Aside0.mk c5
          clear c5
          obtain ⟨y169, hy169⟩ : ∃ y_ : List Int, y_ = (x3_1 ++ [(wrap64 (201 + x4_1)) % 256]) := ⟨_, rfl⟩
          replace H : (rillref00_Spare.l0 k1 y169 (wrap64 (x4_1 + 1))) = some r := by first | (rw [hy169]; with_reducible exact H) | (have H2_ := (Option.bind_some _ _).symm.trans H; rw [hy169]; with_reducible exact H2_) | (have H2_ := (Option.bind_some _ _).symm.trans H; with_reducible exact H2_) | with_reducible exact H | (rw [hy169]; exact H) | exact H
          have Ny169 := Aside0.mk hy169
          clear hy169
          have H' := Aside0.mk H
          clear H
          go_wp2_with (first | ((with_reducible refine gate_builtin (b := .append) (xs := #[.tmp 11, .tmp 15]) rfl ?_); at_builtin; refine Kd.R_append (Kd.int .u8) (w0 := w) w.heap.size rfl (.tmp 11) (.tmp 15) 22 5 (.int .u8 0) 1 rfl Try.underlying22 info5 rfl (by decide) (by omega) u3 x3_1 ((wrap64 (201 + x4_1)) % 256) [.int .u8 ((wrap64 (201 + x4_1)) % 256)] (fun _ => True) (fun _ => False) rfl rfl ?aP (fun _ hk => hk.elim) ?aF ?aO ?aB ?aS ?aL ?_; (case aP => exact rfl); (case aB => exact (by repeat (first | (with_reducible first | exact HB.out | apply below_alloc | apply pw_below_drewN | apply below_drew1) | exact HB.out))); (case aF => exact (fun _ _ => trivial)); (case aO => exact (by (with_reducible repeat (first | apply Kd.R_alloc | apply Kd.R_drewN | apply Kd.R_drew)); exact HO_3.out)); (case aS => exact (below_size (by repeat (first | (with_reducible first | exact HB.out | apply below_alloc | apply pw_below_drewN | apply below_drew1) | exact HB.out)))); (case aL => have := LMc5.out; omega); intro v170 w6 ho hb hg hat; rw [← Ny169.out] at ho; have n0_ := Aside0.mk (hb); have n1_ := Aside0.mk (ho); clear HB; clear HO_3; have HB := n0_; have HO171 := n1_; clear n0_ n1_; clear ho hb hg hat))
          go_roundg k1
          case measure => have := HK1.out; omega
          case rel => exact ⟨(y169), (wrap64 (x4_1 + 1)), (by first | rfl | (simp; done) | (simp [*]; done)), H', ⟨by have := HK1.out; omega⟩, ⟨by (with_reducible repeat (first | apply Kd.R_alloc | apply Kd.R_drewN | apply Kd.R_drew)); exact HO171.out⟩, ⟨by repeat (first | (with_reducible first | exact HB.out | apply below_alloc | apply pw_below_drewN | apply below_drew1) | exact HB.out)⟩⟩
        · rw [if_neg c5] at H
          exact absurd H (by simp)
      · rw [if_neg c4] at H
        have c4b0 : decide (x4_1 < 8) = false := decide_eq_false c4
        clear c4
        obtain rfl := Option.some.inj H
        go_wp2
        go_ret
        exact ⟨_, by first | rfl | (simp [errW_none, errW_some] <;> rfl) | (simp [*, errW_none, errW_some] <;> rfl), by (with_reducible repeat (first | apply Kd.R_alloc | apply Kd.R_drewN | apply Kd.R_drew)); exact HO_3.out, by repeat (first | (with_reducible first | exact HB.out | apply below_alloc | apply pw_below_drewN | apply below_drew1) | exact HB.out)⟩

/-! ### rillref07_Check: function 16 -/
mutual
def rillref07_Check.l0 : Nat → List Int → Int → Int → Option (Int)
  | 0, _, _, _ => none
  | k + 1, x0, x3, x4 => if x4 < (x0.length : Int) then (if 0 ≤ x4 then (rillref07_Check.l1 k x0 (Go.bits .xor .u32 x3 ((rd x0 x4) % 4294967296)) x4 0) else (none)) else (some (Go.bits .xor .u32 x3 4294967295))
def rillref07_Check.l1 : Nat → List Int → Int → Int → Int → Option (Int)
  | 0, _, _, _, _ => none
  | k + 1, x0, x3, x4, x5 => if x5 < 8 then (if (Int.tmod x3 2) = 1 then (rillref07_Check.l1 k x0 (Go.bits .xor .u32 ((Int.tdiv x3 2) % 4294967296) 3988292384) x4 (wrap64 (x5 + 1))) else (rillref07_Check.l1 k x0 ((Int.tdiv x3 2) % 4294967296) x4 (wrap64 (x5 + 1)))) else (rillref07_Check.l0 k x0 x3 (wrap64 (x4 + 1)))
end
def rillref07_Check.f (k : Nat) (l0 : List Int) : Option (Int) := rillref07_Check.l0 k l0 4294967295 0
theorem rillref07_Check.mono_l : ∀ k, (∀ y0 y1 y2, LeO (rillref07_Check.l0 k y0 y1 y2) (rillref07_Check.l0 (k + 1) y0 y1 y2)) ∧ (∀ y0 y1 y2 y3, LeO (rillref07_Check.l1 k y0 y1 y2 y3) (rillref07_Check.l1 (k + 1) y0 y1 y2 y3))
  | 0 => ⟨fun _ _ _ r h => by simp [rillref07_Check.l0] at h, fun _ _ _ _ r h => by simp [rillref07_Check.l1] at h⟩
  | k + 1 => by
    obtain ⟨ih0, ih1⟩ := rillref07_Check.mono_l k
    refine ⟨?_, ?_⟩
    · intro y0 y1 y2
      unfold rillref07_Check.l0
      repeat' first
      | (with_reducible exact ih0 _ _ _)
      | (with_reducible exact ih1 _ _ _ _)
      | (with_reducible exact LeO.refl _)
      | (with_reducible exact LeO.none _)
      | (with_reducible refine LeO.ite ?_ ?_)
      | (with_reducible refine LeO.bind ?_ (fun _ => ?_))
      | exact ih0 _ _ _
      | exact ih1 _ _ _ _
      | exact LeO.none _
      | refine LeO.ite ?_ ?_
      | refine LeO.bind ?_ (fun _ => ?_)
    · intro y0 y1 y2 y3
      unfold rillref07_Check.l1
      repeat' first
      | (with_reducible exact ih0 _ _ _)
      | (with_reducible exact ih1 _ _ _ _)
      | (with_reducible exact LeO.refl _)
      | (with_reducible exact LeO.none _)
      | (with_reducible refine LeO.ite ?_ ?_)
      | (with_reducible refine LeO.bind ?_ (fun _ => ?_))
      | exact ih0 _ _ _
      | exact ih1 _ _ _ _
      | exact LeO.none _
      | refine LeO.ite ?_ ?_
      | refine LeO.bind ?_ (fun _ => ?_)
theorem rillref07_Check.mono : ∀ a0 k, LeO (rillref07_Check.f k a0) (rillref07_Check.f (k + 1) a0) := by
  intro a0 k
  obtain ⟨ih0, ih1⟩ := rillref07_Check.mono_l k
  unfold rillref07_Check.f
  repeat' first
      | (with_reducible exact ih0 _ _ _)
      | (with_reducible exact ih1 _ _ _ _)
      | (with_reducible exact LeO.refl _)
      | (with_reducible exact LeO.none _)
      | (with_reducible refine LeO.ite ?_ ?_)
      | (with_reducible refine LeO.bind ?_ (fun _ => ?_))
      | exact ih0 _ _ _
      | exact ih1 _ _ _ _
      | exact LeO.none _
      | refine LeO.ite ?_ ?_
      | refine LeO.bind ?_ (fun _ => ?_)
set_option maxHeartbeats 8000000 in
set_option maxRecDepth 100000 in
theorem rillref07_Check.calls (k : Nat) (A0 : Option Addr) (c0 : Nat) (l0 : List Int) (r : Int) (w : World) (hr0 : Kd.C (Kd.int .u8) w A0 l0.length l0) (hc0 : l0.length ≤ c0) (h : rillref07_Check.f k l0 = some r) :
    Calls Try.prog 16 #[.slice A0 l0.length c0] w fun e w' => e = .returned (.int .u32 r) ∧ Drawn0 w w' := by
  have HR0 := Aside0.mk hr0
  have HC0 := Aside0.mk hc0
  clear hr0 hc0
  have H : (rillref07_Check.l0 k l0 4294967295 0) = some r := h
  clear h
  have H' := Aside0.mk H
  clear H
  go_enter Try.func16, Try.ntmps16
  go_wp2
  go_loopg [3, 4] k (fun kq v3 v4 w' => ∃ (x3_1 : Int) (x4_1 : Int), v3 = .int .u32 x3_1 ∧ v4 = .int .i64 x4_1 ∧ Aside0 (rillref07_Check.l0 kq l0 x3_1 x4_1 = some r) ∧ Aside0 (kq ≤ k) ∧ Drawn0 w w')
  case atStart => exact ⟨(4294967295), (0), (by first | rfl | (simp; done) | (simp [*]; done)), (by first | rfl | (simp; done) | (simp [*]; done)), H', ⟨Nat.le_refl _⟩, by repeat (first | exact Drawn0.refl _ | apply Drawn0.step)⟩
  case round =>
    clear H'
    try clear c1
    obtain ⟨x3_1, x4_1, rfl, rfl, HA, HK1, ⟨m1, rfl⟩⟩ := hrel
    cases gk with
    | zero => exact absurd HA.out (by simp [rillref07_Check.l0])
    | succ k1 =>
      have H := HA.out
      clear HA
      simp only [rillref07_Check.l0] at H
      by_cases c2 : x4_1 < (l0.length : Int)
      · rw [if_pos c2] at H
        have c2b0 : decide (x4_1 < (l0.length : Int)) = true := decide_eq_true c2
        clear c2
        by_cases c3 : 0 ≤ x4_1
        · rw [if_pos c3] at H
          have c3b0 : decide (0 ≤ x4_1) = true := decide_eq_true c3
          clear c3
          have H' := Aside0.mk H
          clear H
          have p172 : 0 ≤ (x4_1 : Int) := of_decide_eq_true (by first | (with_reducible assumption) | assumption)
          have q172 : x4_1 < (l0.length : Int) := of_decide_eq_true (by first | (with_reducible assumption) | assumption)
          obtain ⟨ad172, e172, hx172_0⟩ := Kd.at_int HR0.out x4_1 p172 q172
          cases e172
          replace p172 := eq_true p172
          replace q172 := eq_true q172
          go_wp2
          go_loopg [3, 5] k1 (fun kq v3 v5 w' => ∃ (x3_2 : Int) (x5_2 : Int), v3 = .int .u32 x3_2 ∧ v5 = .int .i64 x5_2 ∧ Aside0 (rillref07_Check.l1 kq l0 x3_2 x4_1 x5_2 = some r) ∧ Aside0 (kq ≤ k1) ∧ Drawn0 w w')
          case atStart => exact ⟨(Go.bits .xor .u32 x3_1 ((rd l0 x4_1) % 4294967296)), (0), (by first | rfl | (simp; done) | (simp [*]; done)), (by first | rfl | (simp; done) | (simp [*]; done)), H', ⟨Nat.le_refl _⟩, by repeat (first | exact Drawn0.refl _ | apply Drawn0.step)⟩
          case round =>
            clear H'
            try clear c1
            try clear p1
            try clear q1
            try clear hx1
            try clear c2
            try clear c2b0
            try clear p2
            try clear c3
            try clear c3b0
            try clear hx172_0
            try clear p172
            try clear q172
            obtain ⟨x3_2, x5_2, rfl, rfl, HA, HK2, ⟨m2, rfl⟩⟩ := hrel
            cases gk with
            | zero => exact absurd HA.out (by simp [rillref07_Check.l1])
            | succ k2 =>
              have H := HA.out
              clear HA
              simp only [rillref07_Check.l1] at H
              by_cases c4 : x5_2 < 8
              · rw [if_pos c4] at H
                have c4b0 : decide (x5_2 < 8) = true := decide_eq_true c4
                clear c4
                by_cases c5 : (Int.tmod x3_2 2) = 1
                · rw [if_pos c5] at H
                  have c5b0 : ((Int.tmod x3_2 2) == 1) = true := beq_iff_eq.mpr c5
                  have c5b1 : ((Int.tmod x3_2 2) != 1) = false := bne_eq_false_iff_eq.mpr c5
                  clear c5
                  have H' := Aside0.mk H
                  clear H
                  go_wp2
                  go_roundg k2
                  case measure => have := HK1.out; have := HK2.out; omega
                  case rel => exact ⟨(Go.bits .xor .u32 ((Int.tdiv x3_2 2) % 4294967296) 3988292384), (wrap64 (x5_2 + 1)), (by first | rfl | (simp; done) | (simp [*]; done)), (by first | rfl | (simp; done) | (simp [*]; done)), H', ⟨by have := HK1.out; have := HK2.out; omega⟩, by repeat (first | exact Drawn0.refl _ | apply Drawn0.step)⟩
                · rw [if_neg c5] at H
                  have c5b0 : ((Int.tmod x3_2 2) == 1) = false := beq_eq_false_iff_ne.mpr c5
                  have c5b1 : ((Int.tmod x3_2 2) != 1) = true := bne_iff_ne.mpr c5
                  have H' := Aside0.mk H
                  clear H
                  go_wp2
                  go_roundg k2
                  case measure => have := HK1.out; have := HK2.out; omega
                  case rel => exact ⟨((Int.tdiv x3_2 2) % 4294967296), (wrap64 (x5_2 + 1)), (by first | rfl | (simp; done) | (simp [*]; done)), (by first | rfl | (simp; done) | (simp [*]; done)), H', ⟨by have := HK1.out; have := HK2.out; omega⟩, by repeat (first | exact Drawn0.refl _ | apply Drawn0.step)⟩
              · rw [if_neg c4] at H
                have c4b0 : decide (x5_2 < 8) = false := decide_eq_false c4
                clear c4
                have H' := Aside0.mk H
                clear H
                go_wp2
                go_roundg k2
                case measure => have := HK1.out; have := HK2.out; omega
                case rel => exact ⟨(x3_2), (wrap64 (x4_1 + 1)), (by first | rfl | (simp; done) | (simp [*]; done)), (by first | rfl | (simp; done) | (simp [*]; done)), H', ⟨by have := HK1.out; have := HK2.out; omega⟩, by repeat (first | exact Drawn0.refl _ | apply Drawn0.step)⟩
        · rw [if_neg c3] at H
          exact absurd H (by simp)
      · rw [if_neg c2] at H
        have c2b0 : decide (x4_1 < (l0.length : Int)) = false := decide_eq_false c2
        clear c2
        obtain rfl := Option.some.inj H
        go_wp2
        go_ret
        exact ⟨by first | rfl | (simp; done) | (simp [*]; done), by repeat (first | exact Drawn0.refl _ | apply Drawn0.step)⟩

/-! ### rillref07_Pack: function 14 -/
def rillref07_Pack.f (k : Nat) (l0 : List Int) : Option (List Int × Int) := if (l0.length : Int) > 32768 then (some (([] : List Int), 71)) else ((some (([90, (wrap64 ((l0.length : Int) / 65536)) % 256, (wrap64 ((l0.length : Int) / 256)) % 256, ((l0.length : Int)) % 256] : List Int) : List Int)).bind fun y173 => (if y173.length + l0.length < 140737488355328 then ((some (y173 ++ l0 : List Int)).bind fun y176 => ((rillref07_Check.f k y176).bind fun t179 => ((some (([(t179 / 16777216) % 256, (t179 / 65536) % 256, (t179 / 256) % 256, (t179) % 256] : List Int) : List Int)).bind fun y180 => (if y176.length + y180.length < 140737488355328 then (some ((y176 ++ y180), 0)) else (none))))) else (none)))
theorem rillref07_Pack.mono : ∀ a0 k, LeO (rillref07_Pack.f k a0) (rillref07_Pack.f (k + 1) a0) := by
  intro a0 k
  unfold rillref07_Pack.f
  repeat' first
      | (with_reducible exact rillref07_Check.mono _ _)
      | (with_reducible exact LeO.refl _)
      | (with_reducible exact LeO.none _)
      | (with_reducible refine LeO.ite ?_ ?_)
      | (with_reducible refine LeO.bind ?_ (fun _ => ?_))
      | exact rillref07_Check.mono _ _
      | exact LeO.none _
      | refine LeO.ite ?_ ?_
      | refine LeO.bind ?_ (fun _ => ?_)
set_option maxHeartbeats 8000000 in
set_option maxRecDepth 100000 in
theorem rillref07_Pack.calls (k : Nat) (A0 : Option Addr) (c0 : Nat) (l0 : List Int) (r1 : List Int) (r2 : Int) (w : World) (hr0 : Kd.C (Kd.int .u8) w A0 l0.length l0) (hc0 : l0.length ≤ c0) (h : rillref07_Pack.f k l0 = some (r1, r2)) :
    Calls Try.prog 14 #[.slice A0 l0.length c0] w fun e w' => ∃ v0_ : Value, e = .returned (.tuple #[v0_, .int .i64 r2]) ∧ Kd.R (Kd.int .u8) 5 w' w.heap.size (fun _ => True) v0_ r1 ∧ Below w.heap.size w w' := by
  have HR0 := Aside0.mk hr0
  have HC0 := Aside0.mk hc0
  clear hr0 hc0
  have HB := Aside0.mk (Below.refl w.heap.size w)
  have H : (if (l0.length : Int) > 32768 then (some (([] : List Int), 71)) else ((some (([90, (wrap64 ((l0.length : Int) / 65536)) % 256, (wrap64 ((l0.length : Int) / 256)) % 256, ((l0.length : Int)) % 256] : List Int) : List Int)).bind fun y173 => (if y173.length + l0.length < 140737488355328 then ((some (y173 ++ l0 : List Int)).bind fun y176 => ((rillref07_Check.f k y176).bind fun t179 => ((some (([(t179 / 16777216) % 256, (t179 / 65536) % 256, (t179 / 256) % 256, (t179) % 256] : List Int) : List Int)).bind fun y180 => (if y176.length + y180.length < 140737488355328 then (some ((y176 ++ y180), 0)) else (none))))) else (none)))) = some (r1, r2) := h
  clear h
  by_cases c2 : (l0.length : Int) > 32768
  · rw [if_pos c2] at H
    have c2b0 : decide (32768 < (l0.length : Int)) = true := decide_eq_true c2
    have c2b1 : decide (32768 < l0.length) = true := decide_eq_true (by omega)
    clear c2
    simp only [Option.some.injEq, Prod.mk.injEq] at H
    obtain ⟨rfl, rfl⟩ := H
    go_enter Try.func14, Try.ntmps14
    go_wp2
    go_ret2
    exact ⟨_, by first | rfl | (simp [errW_none, errW_some] <;> rfl) | (simp [*, errW_none, errW_some] <;> rfl), by first | exact Kd.R_nil _ _ _ _ _ | exact Kd.N_nil _ _ _ _ _ | exact Kd.V_nil _ _ _ _ _ | exact Kd.Q_nil _ _ _ _ _ | exact Kd.S_nil _ _ _ _ _, by repeat (first | (with_reducible first | exact HB.out | apply below_alloc | apply pw_below_drewN | apply below_drew1) | exact HB.out)⟩
  · rw [if_neg c2] at H
    have c2b0 : decide (32768 < (l0.length : Int)) = false := decide_eq_false c2
    have c2b1 : decide (32768 < l0.length) = false := decide_eq_false (by omega)
    clear c2
    obtain ⟨y173, hy173⟩ : ∃ y_ : List Int, y_ = (([90, (wrap64 ((l0.length : Int) / 65536)) % 256, (wrap64 ((l0.length : Int) / 256)) % 256, ((l0.length : Int)) % 256] : List Int)) := ⟨_, rfl⟩
    replace H : (if y173.length + l0.length < 140737488355328 then ((some (y173 ++ l0 : List Int)).bind fun y176 => ((rillref07_Check.f k y176).bind fun t179 => ((some (([(t179 / 16777216) % 256, (t179 / 65536) % 256, (t179 / 256) % 256, (t179) % 256] : List Int) : List Int)).bind fun y180 => (if y176.length + y180.length < 140737488355328 then (some ((y176 ++ y180), 0)) else (none))))) else (none)) = some (r1, r2) := by first | (rw [hy173]; with_reducible exact H) | (have H2_ := (Option.bind_some _ _).symm.trans H; rw [hy173]; with_reducible exact H2_) | (have H2_ := (Option.bind_some _ _).symm.trans H; with_reducible exact H2_) | with_reducible exact H | (rw [hy173]; exact H) | exact H
    have Ny173 := Aside0.mk hy173
    clear hy173
    by_cases c3 : y173.length + l0.length < 140737488355328
    · rw [if_pos c3] at H
      have LMc3 := Aside0.mk c3
      clear c3
      obtain ⟨y176, hy176⟩ : ∃ y_ : List Int, y_ = (y173 ++ l0) := ⟨_, rfl⟩
      replace H : ((rillref07_Check.f k y176).bind fun t179 => ((some (([(t179 / 16777216) % 256, (t179 / 65536) % 256, (t179 / 256) % 256, (t179) % 256] : List Int) : List Int)).bind fun y180 => (if y176.length + y180.length < 140737488355328 then (some ((y176 ++ y180), 0)) else (none)))) = some (r1, r2) := by first | (rw [hy176]; with_reducible exact H) | (have H2_ := (Option.bind_some _ _).symm.trans H; rw [hy176]; with_reducible exact H2_) | (have H2_ := (Option.bind_some _ _).symm.trans H; with_reducible exact H2_) | with_reducible exact H | (rw [hy176]; exact H) | exact H
      have Ny176 := Aside0.mk hy176
      clear hy176
      replace H := Option.bind_eq_some_iff.mp H
      obtain ⟨t179, A40, H⟩ := H
      replace H : ((some (([(t179 / 16777216) % 256, (t179 / 65536) % 256, (t179 / 256) % 256, (t179) % 256] : List Int) : List Int)).bind fun y180 => (if y176.length + y180.length < 140737488355328 then (some ((y176 ++ y180), 0)) else (none))) = some (r1, r2) := H
      have A4 := Aside0.mk A40
      clear A40
      obtain ⟨y180, hy180⟩ : ∃ y_ : List Int, y_ = (([(t179 / 16777216) % 256, (t179 / 65536) % 256, (t179 / 256) % 256, (t179) % 256] : List Int)) := ⟨_, rfl⟩
      replace H : (if y176.length + y180.length < 140737488355328 then (some ((y176 ++ y180), 0)) else (none)) = some (r1, r2) := by first | (rw [hy180]; with_reducible exact H) | (have H2_ := (Option.bind_some _ _).symm.trans H; rw [hy180]; with_reducible exact H2_) | (have H2_ := (Option.bind_some _ _).symm.trans H; with_reducible exact H2_) | with_reducible exact H | (rw [hy180]; exact H) | exact H
      have Ny180 := Aside0.mk hy180
      clear hy180
      by_cases c5 : y176.length + y180.length < 140737488355328
      · rw [if_pos c5] at H
        have LMc5 := Aside0.mk c5
        clear c5
        obtain ⟨y183, hy183⟩ : ∃ y_ : List Int, y_ = (y176 ++ y180) := ⟨_, rfl⟩
        replace H : (some (y183, 0)) = some (r1, r2) := by first | (rw [hy183]; with_reducible exact H) | (have H2_ := (Option.bind_some _ _).symm.trans H; rw [hy183]; with_reducible exact H2_) | (have H2_ := (Option.bind_some _ _).symm.trans H; with_reducible exact H2_) | with_reducible exact H | (rw [hy183]; exact H) | exact H
        have Ny183 := Aside0.mk hy183
        clear hy183
        simp only [Option.some.injEq, Prod.mk.injEq] at H
        obtain ⟨rfl, rfl⟩ := H
        go_enter Try.func14, Try.ntmps14
        go_wp2_with (first | ((with_reducible refine gate_dst (N := 19) rfl ?_); refine Kd.R_lit (Kd.int .u8) _ 5 ?hg (N := 19) ?hd (xs := ([90, (wrap64 ((l0.length : Int) / 65536)) % 256, (wrap64 ((l0.length : Int) / 256)) % 256, ((l0.length : Int)) % 256] : List Int)) (inner := [.int .u8 90, .int .u8 ((wrap64 ((l0.length : Int) / 65536)) % 256), .int .u8 ((wrap64 ((l0.length : Int) / 256)) % 256), .int .u8 (((l0.length : Int)) % 256)]) (ok := fun _ => True) (okp := fun _ => True) ?hr ?hp (fun _ hk => hk) trivial (Below.refl _ _) (Nat.le_refl _) (by simp) ?_; (case hd => rfl); (case hg => rfl); (case hr => first | (go_simp; done) | (go_simp; rfl)); (case hp => exact (Reps.one (show Kd.M (Kd.int .u8) _ _ _ 90 [.int .u8 90] from rfl) (Reps.one (show Kd.M (Kd.int .u8) _ _ _ ((wrap64 ((l0.length : Int) / 65536)) % 256) [.int .u8 ((wrap64 ((l0.length : Int) / 65536)) % 256)] from rfl) (Reps.one (show Kd.M (Kd.int .u8) _ _ _ ((wrap64 ((l0.length : Int) / 256)) % 256) [.int .u8 ((wrap64 ((l0.length : Int) / 256)) % 256)] from rfl) (Reps.one (show Kd.M (Kd.int .u8) _ _ _ (((l0.length : Int)) % 256) [.int .u8 (((l0.length : Int)) % 256)] from rfl) (Reps.none _ _)))))); intro v174 w6 ho7 hb hg_ hnew_; clear hg_ hnew_; (first | rw [← Ny173.out] at ho7 | (simp only [Int.reduceToNat] at ho7; rw [← Ny173.out] at ho7)); have n0_ := Aside0.mk (Kd.R_lower ho7 (below_size (by repeat (first | (with_reducible first | exact HB.out | apply below_alloc | apply pw_below_drewN | apply below_drew1) | exact HB.out)))); have n1_ := Aside0.mk (below_step (by repeat (first | (with_reducible first | exact HB.out | apply below_alloc | apply pw_below_drewN | apply below_drew1) | exact HB.out)) hb); clear HB; have HO175 := n0_; have HB := n1_; clear n0_ n1_; clear hb ho7) | ((with_reducible refine gate_builtin (b := .append) (xs := #[.tmp 20, .tmp 21]) rfl ?_); at_builtin; refine Kd.R_append_rows (Kd.int .u8) (w0 := w) w.heap.size rfl (.tmp 20) (.tmp 21) 22 5 (.int .u8 0) 1 rfl Try.underlying22 info5 rfl (by decide) (by omega) v174 y173 l0 _ _ _ (fun _ => True) (fun _ => False) rfl rfl ?aO ?aR (fun _ _ h => h) (fun _ h => h.elim) ?aF ?aB ?aS ?aL ?_; (case aR => repeat (first | exact (Kd.C_below HR0.out HB.out) | (with_reducible refine Kd.C_alloc ?_ _) | (with_reducible refine Kd.C_drewN ?_ _) | (with_reducible refine Kd.C_drew ?_))); (case aB => exact (by repeat (first | (with_reducible first | exact HB.out | apply below_alloc | apply pw_below_drewN | apply below_drew1) | exact HB.out))); (case aF => exact (fun _ _ => trivial)); (case aO => exact (by (with_reducible repeat (first | apply Kd.R_alloc | apply Kd.R_drewN | apply Kd.R_drew)); exact HO175.out)); (case aS => exact (below_size (by repeat (first | (with_reducible first | exact HB.out | apply below_alloc | apply pw_below_drewN | apply below_drew1) | exact HB.out)))); (case aL => have := LMc3.out; omega); intro v177 w8 ho hb hg hat; rw [← Ny176.out] at ho; have n0_ := Aside0.mk (hb); have n1_ := Aside0.mk (ho); clear HB; clear HO175; have HB := n0_; have HO178 := n1_; clear n0_ n1_; clear ho hb hg hat; obtain ⟨Ao9, co9, eo9⟩ := Kd.R_slice HO178.out; subst eo9) | ((with_reducible refine gate_callee (f := 16) rfl ?_); refine goesL_ (some 24) rfl rfl Try.func16 (by kernel_rfl) rfl #[.slice Ao9 y176.length co9] rfl (by (try simp only [List.map_toArray, List.map_cons, List.map_nil]); first | done | rfl | (simp only [List.length_drop, List.length_take]; rfl)) ?_; (with_reducible refine (rillref07_Check.calls k _ _ y176 t179 _ ?side1 ?side2 A4.out).mono ?_); (case side1 => repeat (first | exact (Kd.R_reads' HO178.out).2.2 | (with_reducible refine Kd.C_alloc ?_ _) | (with_reducible refine Kd.C_drewN ?_ _) | (with_reducible refine Kd.C_drew ?_))); (case side2 => exact (Kd.R_reads' HO178.out).2.1); rintro e w' ⟨rfl, ⟨nd, rfl⟩⟩; refine ⟨_, rfl, ?_⟩) | ((with_reducible refine gate_dst (N := 37) rfl ?_); refine Kd.R_lit (Kd.int .u8) _ 5 ?hg (N := 37) ?hd (xs := ([(t179 / 16777216) % 256, (t179 / 65536) % 256, (t179 / 256) % 256, (t179) % 256] : List Int)) (inner := [.int .u8 ((t179 / 16777216) % 256), .int .u8 ((t179 / 65536) % 256), .int .u8 ((t179 / 256) % 256), .int .u8 ((t179) % 256)]) (ok := fun _ => True) (okp := fun _ => True) ?hr ?hp (fun _ hk => hk) trivial (Below.refl _ _) (Nat.le_refl _) (by simp) ?_; (case hd => rfl); (case hg => rfl); (case hr => first | (go_simp; done) | (go_simp; rfl)); (case hp => exact (Reps.one (show Kd.M (Kd.int .u8) _ _ _ ((t179 / 16777216) % 256) [.int .u8 ((t179 / 16777216) % 256)] from rfl) (Reps.one (show Kd.M (Kd.int .u8) _ _ _ ((t179 / 65536) % 256) [.int .u8 ((t179 / 65536) % 256)] from rfl) (Reps.one (show Kd.M (Kd.int .u8) _ _ _ ((t179 / 256) % 256) [.int .u8 ((t179 / 256) % 256)] from rfl) (Reps.one (show Kd.M (Kd.int .u8) _ _ _ ((t179) % 256) [.int .u8 ((t179) % 256)] from rfl) (Reps.none _ _)))))); intro v181 w10 ho11 hb hg_ hnew_; clear hg_ hnew_; (first | rw [← Ny180.out] at ho11 | (simp only [Int.reduceToNat] at ho11; rw [← Ny180.out] at ho11)); have n0_ := Aside0.mk (Kd.R_elder' (by (with_reducible repeat (first | apply Kd.R_alloc | apply Kd.R_drewN | apply Kd.R_drew)); exact HO178.out) (Kd.R_base ho11) hb); have n1_ := Aside0.mk (Kd.R_lower (Kd.R_new' ho11 (Kd.R_lt (by (with_reducible repeat (first | apply Kd.R_alloc | apply Kd.R_drewN | apply Kd.R_drew)); exact HO178.out))) (below_size (by repeat (first | (with_reducible first | exact HB.out | apply below_alloc | apply pw_below_drewN | apply below_drew1) | exact HB.out)))); have n2_ := Aside0.mk (below_step (by repeat (first | (with_reducible first | exact HB.out | apply below_alloc | apply pw_below_drewN | apply below_drew1) | exact HB.out)) hb); clear HO178; clear HB; have HO178 := n0_; have HO182 := n1_; have HB := n2_; clear n0_ n1_ n2_; clear hb ho11; obtain ⟨Ao13, co13, eo13⟩ := Kd.R_slice HO182.out; subst eo13) | ((with_reducible refine gate_builtin (b := .append) (xs := #[.tmp 25, .tmp 37]) rfl ?_); at_builtin; refine Kd.R_append_rows (Kd.int .u8) (w0 := w) w.heap.size rfl (.tmp 25) (.tmp 37) 22 5 (.int .u8 0) 1 rfl Try.underlying22 info5 rfl (by decide) (by omega) (.slice Ao9 y176.length co9) y176 y180 _ _ _ (fun k_ => some k_ ≠ (.slice Ao13 y180.length co13 : Value).ownBlock) (fun _ => False) rfl rfl ?aO ?aR (fun _ _ h => h) (fun _ h => h.elim) ?aF ?aB ?aS ?aL ?_; (case aR => repeat (first | exact (Kd.R_reads' HO182.out).2.2 | (with_reducible refine Kd.C_alloc ?_ _) | (with_reducible refine Kd.C_drewN ?_ _) | (with_reducible refine Kd.C_drew ?_))); (case aB => exact (by repeat (first | (with_reducible first | exact HB.out | apply below_alloc | apply pw_below_drewN | apply below_drew1) | exact HB.out))); (case aF => exact (fun k_ hk => Kd.fresh' (Kd.R_lt (by (with_reducible repeat (first | apply Kd.R_alloc | apply Kd.R_drewN | apply Kd.R_drew)); exact HO182.out)) k_ hk)); (case aO => exact (by (with_reducible repeat (first | apply Kd.R_alloc | apply Kd.R_drewN | apply Kd.R_drew)); exact Kd.R_mono HO178.out (fun _ hk => hk.2))); (case aS => exact (below_size (by repeat (first | (with_reducible first | exact HB.out | apply below_alloc | apply pw_below_drewN | apply below_drew1) | exact HB.out)))); (case aL => have := LMc5.out; omega); intro v184 w12 ho hb hg hat; rw [← Ny183.out] at ho; have n0_ := Aside0.mk (Kd.R_after (ok := (fun _ => True)) (by (with_reducible repeat (first | apply Kd.R_alloc | apply Kd.R_drewN | apply Kd.R_drew)); exact HO182.out) hg hat); have n1_ := Aside0.mk (hb); have n2_ := Aside0.mk (ho); clear HO182; clear HB; clear HO178; have HO182 := n0_; have HB := n1_; have HO185 := n2_; clear n0_ n1_ n2_; clear ho hb hg hat))
        go_ret2
        exact ⟨_, by first | rfl | (simp [errW_none, errW_some] <;> rfl) | (simp [*, errW_none, errW_some] <;> rfl), by (with_reducible repeat (first | apply Kd.R_alloc | apply Kd.R_drewN | apply Kd.R_drew)); exact Kd.R_mono HO185.out (fun _ hk => trivial), by repeat (first | (with_reducible first | exact HB.out | apply below_alloc | apply pw_below_drewN | apply below_drew1) | exact HB.out)⟩
      · rw [if_neg c5] at H
        exact absurd H (by simp)
    · rw [if_neg c3] at H
      exact absurd H (by simp)

end Go.Proofs.Ytddabfokgecnoaa.MFrameScans
