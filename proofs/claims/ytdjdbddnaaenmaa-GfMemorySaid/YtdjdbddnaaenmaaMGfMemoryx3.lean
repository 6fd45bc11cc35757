-- printed by a program of this session (ownprint.py), out of the translation; Lean checks it
import Derived.Test.YtdjdbddnaaenmaaMGfMemoryx0
import Derived.Test.YtdjdbddnaaenmaaMGfMemoryx1
import Derived.Test.YtdjdbddnaaenmaaMGfMemoryx2
namespace Go.Proofs.Ytdjdbddnaaenmaa.MGfMemory
open Go.RowKit Go.Proofs.YtdjdbddnaaenmaaW.PrintWords Go.Proofs.YtdjdbddnaaenmaaW.PrintLast Go.Proofs.YtdjdbddnaaenmaaW.PrintMore
attribute [local go_sem] max2_int min2_int max_two min_two max_three min_three max_four min_four   -- for this text's walks alone
set_option linter.unusedVariables false
set_option linter.unusedSimpArgs false

/-! ### rilllaw01_GfMemory: function 7 -/
set_option maxHeartbeats 8000000 in
set_option maxRecDepth 100000 in
theorem rilllaw01_GfMemory.walk0 (k : Nat) (a0 : Int) (A1 : Option Addr) (ca : Nat) (l1 : List Int) (w : World) (hr1 : Kd.C (Kd.int .u8) w A1 l1.length l1) (hc1 : l1.length ≤ ca)
    (o xs ys zs t : List Int) (hal : rilllaw01_alive.f k = some true) (hcp : rillref00_CopyBytes.f l1 = some o)
    (hsc : gf_Scale.f k a0 o = some xs) (had : gf_Add.f k o [] = some ys) (hmx : gf_Mix.f k [1] [o] = some zs)
    (hs1 : rillref00_SameBytes.f k o l1 = some true) (hs2 : rillref00_SameBytes.f k ys l1 = some true) (hrs : rillref01_Scale.f k a0 l1 = some t) (hs3 : rillref00_SameBytes.f k xs t = some true) :
    Calls Try.prog 7 #[.int .u8 a0, .slice A1 l1.length ca] w fun e w' => e = .returned (.bool true) ∧ Below w.heap.size w w' := by
  have HR1 := Aside0.mk hr1
  have HC1 := Aside0.mk hc1
  replace hcp := Aside0.mk hcp
  replace hsc := Aside0.mk hsc
  replace had := Aside0.mk had
  replace hmx := Aside0.mk hmx
  replace hs1 := Aside0.mk hs1
  replace hs2 := Aside0.mk hs2
  replace hrs := Aside0.mk hrs
  replace hs3 := Aside0.mk hs3
  clear hr1 hc1
  go_enter Try.func7, Try.ntmps7
  go_wp2_with fail
  refine (rilllaw01_alive.calls k true _ hal).mono ?_
  rintro e w1 ⟨rfl, hb_⟩
  have HB := Aside0.mk hb_
  replace HR1 := Aside0.mk (Kd.C_below HR1.out hb_)
  clear hb_
  go_wp2_with fail
  refine (rillref00_CopyBytes.calls A1 ca l1 o _ HR1.out HC1.out hcp.out).mono ?_
  rintro e w2 ⟨v_w2, rfl, ho_, hb_⟩
  obtain ⟨Ao, co, rfl, hl_, hr_⟩ := Kd.R_reads ho_
  replace HB := Aside0.mk (below_step HB.out hb_)
  replace HR1 := Aside0.mk (Kd.C_below HR1.out hb_)
  have HRo := Aside0.mk hr_
  have HCo := Aside0.mk hl_
  clear ho_ hb_ hl_ hr_
  have hle2 := Aside0.mk (below_size HB.out)
  have HRok := HRo
  have HR1k := HR1
  go_wp2_with fail
  refine (gf_Scale.calls k a0 Ao co o xs _ HRo.out HCo.out hsc.out).mono ?_
  rintro e w3 ⟨vx, rfl, ho_, hb_⟩
  have HOx := Aside0.mk (Kd.R_mono (ok' := fun k_ => k_ < w3.heap.size) (Kd.R_bound ho_) (fun k_ hk => hk.2.2.1))
  have HN := Aside0.mk hb_
  clear ho_
  have hle3 := Aside0.mk (below_size HN.out)
  replace HB := Aside0.mk (below_step HB.out hb_)
  replace HR1 := Aside0.mk (Kd.C_below HR1.out hb_)
  replace HRo := Aside0.mk (Kd.C_below HRo.out hb_)
  clear hb_
  go_wp2_with fail
  refine (gf_Add.calls k Ao co o none 0 [] ys _ HRo.out HCo.out ⟨rfl, by decide, fun h => absurd h (Nat.lt_irrefl 0)⟩ (Nat.le_refl 0) had.out).mono ?_
  rintro e w4 ⟨vy, rfl, ho_, hb_⟩
  have HOy := Aside0.mk (Kd.R_lower (Kd.R_mono (ok' := fun k_ => w3.heap.size ≤ k_ ∧ k_ < w4.heap.size) (Kd.R_bound ho_) (fun k_ hk => ⟨hk.2.1, hk.2.2.1⟩)) hle3.out)
  replace HOx := Aside0.mk (Kd.R_below HOx.out hb_)
  have hb34_ := Aside0.mk (below_size hb_)
  replace HN := Aside0.mk (below_step HN.out hb_)
  have hle4 := Aside0.mk (below_size HN.out)
  replace HB := Aside0.mk (below_step HB.out hb_)
  replace HR1 := Aside0.mk (Kd.C_below HR1.out hb_)
  replace HRo := Aside0.mk (Kd.C_below HRo.out hb_)
  clear hb_ ho_
  go_wp2_with fail
  have hk1 := Own.const_C w4 5 .u8 [1] (0, 0) (by decide)
  have hk2 := Own.lit1 (Kd.int .u8) 5 (w4.alloc (.cells #[.int .u8 1] 5)) 30 HCo.out (Kd.C_below HRo.out (below_alloc (below_alloc (Below.refl w4.heap.size w4) _) _))
  rw [Own.size_alloc] at hk2
  refine (gf_Mix.calls k (some ⟨w4.heap.size, 0, none⟩) 1 [1] (some ⟨w4.heap.size + 1, 0, none⟩) 1 [o] zs _ (Kd.C_below hk1 (below_alloc (Below.refl _ _) _)) (Nat.le_refl 1) hk2 (Nat.le_refl 1) hmx.out).mono ?_
  clear hk1 hk2
  rintro e w5 ⟨vz, rfl, ho_, hb_⟩
  rw [Own.size_alloc, Own.size_alloc] at ho_
  have HOz := Aside0.mk (Kd.R_lower (Kd.R_mono (ok' := fun k_ => w4.heap.size ≤ k_) (Kd.R_bound ho_) (fun k_ hk => Nat.le_trans (Nat.le_add_right _ 2) hk.2.1)) (Nat.le_trans hle4.out (Nat.le_add_right _ 2)))
  replace hb_ := below_step (below_alloc (below_alloc (Below.refl w4.heap.size w4) _) _) hb_
  replace HOx := Aside0.mk (Kd.R_below HOx.out hb_)
  replace HOy := Aside0.mk (Kd.R_below HOy.out hb_)
  replace HN := Aside0.mk (below_step HN.out hb_)
  replace HB := Aside0.mk (below_step HB.out hb_)
  replace HR1 := Aside0.mk (Kd.C_below HR1.out hb_)
  replace HRo := Aside0.mk (Kd.C_below HRo.out hb_)
  clear hb_ ho_
  go_wp2_with fail
  have hle34 := Aside0.mk (show w3.heap.size ≤ w4.heap.size from hb34_.out)
  have HL := Aside0.mk (show (xs.length : Int) ≤ 9223372036854775807 from by have := (Kd.R_reads HOx.out); obtain ⟨_, _, _, _, h⟩ := this; have := h.2.1; omega)
  go_loopg [9] (xs.length + 1) (fun kq v9 w' => ∃ (i : Int) (xs_ ys_ zs_ : List Int), v9 = .int .i64 i ∧ Aside0 (0 ≤ i) ∧ Aside0 ((kq : Int) + i = (xs.length : Int) + 1) ∧ Aside0 (xs_.length = xs.length) ∧ Aside0 (Kd.R (Kd.int .u8) 5 w' w2.heap.size (fun k_ => k_ < w3.heap.size) vx xs_) ∧ Aside0 (Kd.R (Kd.int .u8) 5 w' w2.heap.size (fun k_ => w3.heap.size ≤ k_ ∧ k_ < w4.heap.size) vy ys_) ∧ Aside0 (Kd.R (Kd.int .u8) 5 w' w2.heap.size (fun k_ => w4.heap.size ≤ k_) vz zs_) ∧ Aside0 (Below w2.heap.size w2 w') ∧ Aside0 (Below w.heap.size w w'))
  case atStart => exact ⟨0, xs, ys, zs, (by first | rfl | (simp; done)), ⟨Int.le_refl 0⟩, ⟨by omega⟩, ⟨rfl⟩, HOx, HOy, HOz, HN, HB⟩
  case round =>
    clear HOx HOy HOz HN HB
    obtain ⟨i, xs_, ys_, zs_, rfl, HI0, HIM, HXL, HOx, HOy, HOz, HN, HB⟩ := hrel
    obtain ⟨Ax, cx, ex⟩ := Kd.R_slice HOx.out
    subst ex
    obtain ⟨Ay, cy, ey⟩ := Kd.R_slice HOy.out
    subst ey
    obtain ⟨Az, cz, ez⟩ := Kd.R_slice HOz.out
    subst ez
    by_cases c1 : i < (xs_.length : Int)
    rotate_left
    · have c1b : decide (i < (xs_.length : Int)) = false := decide_eq_false c1
      have HRo := Aside0.mk (Kd.C_below HRok.out HN.out)
      have HR1 := Aside0.mk (Kd.C_below HR1k.out HN.out)
      clear HOx HOy HOz HN HI0 HIM HXL
      go_wp2_with fail
      refine (rillref00_SameBytes.calls k Ao co o A1 ca l1 true _ HRo.out HCo.out HR1.out HC1.out hs1.out).mono ?_
      rintro e w6 ⟨rfl, ⟨nd_, hw_⟩⟩
      have hb_ := pw_below_drewN (Below.refl wr.heap.size wr) nd_
      rw [← hw_] at hb_
      clear hw_
      replace HB := Aside0.mk (below_step HB.out hb_)
      replace HRo := Aside0.mk (Kd.C_below HRo.out hb_)
      replace HR1 := Aside0.mk (Kd.C_below HR1.out hb_)
      clear hb_ nd_
      go_wp2_with fail
      refine (gf_Add.calls k Ao co o none 0 [] ys _ HRo.out HCo.out ⟨rfl, by decide, fun h => absurd h (Nat.lt_irrefl 0)⟩ (Nat.le_refl 0) had.out).mono ?_
      rintro e w7 ⟨v_w7, rfl, ho_, hb_⟩
      obtain ⟨Aq, cq, rfl, hl_, hr_⟩ := Kd.R_reads ho_
      replace HB := Aside0.mk (below_step HB.out hb_)
      replace HRo := Aside0.mk (Kd.C_below HRo.out hb_)
      replace HR1 := Aside0.mk (Kd.C_below HR1.out hb_)
      have HRq := Aside0.mk hr_
      have HCq := Aside0.mk hl_
      clear ho_ hb_ hl_ hr_
      go_wp2_with fail
      refine (rillref00_SameBytes.calls k Aq cq ys A1 ca l1 true _ HRq.out HCq.out HR1.out HC1.out hs2.out).mono ?_
      rintro e w8 ⟨rfl, ⟨nd_, hw_⟩⟩
      have hb_ := pw_below_drewN (Below.refl w7.heap.size w7) nd_
      rw [← hw_] at hb_
      clear hw_
      replace HB := Aside0.mk (below_step HB.out hb_)
      replace HRo := Aside0.mk (Kd.C_below HRo.out hb_)
      replace HR1 := Aside0.mk (Kd.C_below HR1.out hb_)
      replace HRq := Aside0.mk (Kd.C_below HRq.out hb_)
      clear hb_ nd_
      go_wp2_with fail
      refine (gf_Scale.calls k a0 Ao co o xs _ HRo.out HCo.out hsc.out).mono ?_
      rintro e w9 ⟨v_w9, rfl, ho_, hb_⟩
      obtain ⟨As, cs, rfl, hl_, hr_⟩ := Kd.R_reads ho_
      replace HB := Aside0.mk (below_step HB.out hb_)
      replace HRo := Aside0.mk (Kd.C_below HRo.out hb_)
      replace HR1 := Aside0.mk (Kd.C_below HR1.out hb_)
      replace HRq := Aside0.mk (Kd.C_below HRq.out hb_)
      have HRs := Aside0.mk hr_
      have HCs := Aside0.mk hl_
      clear ho_ hb_ hl_ hr_
      go_wp2_with fail
      refine (rillref01_Scale.calls k a0 A1 ca l1 t _ HR1.out HC1.out hrs.out).mono ?_
      rintro e w10 ⟨v_w10, rfl, ho_, hb_⟩
      obtain ⟨At, ct, rfl, hl_, hr_⟩ := Kd.R_reads ho_
      replace HB := Aside0.mk (below_step HB.out hb_)
      replace HRo := Aside0.mk (Kd.C_below HRo.out hb_)
      replace HR1 := Aside0.mk (Kd.C_below HR1.out hb_)
      replace HRq := Aside0.mk (Kd.C_below HRq.out hb_)
      replace HRs := Aside0.mk (Kd.C_below HRs.out hb_)
      have HRt := Aside0.mk hr_
      have HCt := Aside0.mk hl_
      clear ho_ hb_ hl_ hr_
      go_wp2_with fail
      refine (rillref00_SameBytes.calls k As cs xs At ct t true _ HRs.out HCs.out HRt.out HCt.out hs3.out).mono ?_
      rintro e w11 ⟨rfl, ⟨nd_, hw_⟩⟩
      have hb_ := pw_below_drewN (Below.refl w10.heap.size w10) nd_
      rw [← hw_] at hb_
      clear hw_
      replace HB := Aside0.mk (below_step HB.out hb_)
      replace HRo := Aside0.mk (Kd.C_below HRo.out hb_)
      replace HR1 := Aside0.mk (Kd.C_below HR1.out hb_)
      replace HRq := Aside0.mk (Kd.C_below HRq.out hb_)
      replace HRs := Aside0.mk (Kd.C_below HRs.out hb_)
      replace HRt := Aside0.mk (Kd.C_below HRt.out hb_)
      clear hb_ nd_
      go_wp2
      go_ret
      exact ⟨rfl, HB.out⟩
    have c1b : decide (i < (xs_.length : Int)) = true := decide_eq_true c1
    by_cases c2 : i < (ys_.length : Int)
    rotate_left
    · have c2b : decide (i < (ys_.length : Int)) = false := decide_eq_false c2
      have HRo := Aside0.mk (Kd.C_below HRok.out HN.out)
      have HR1 := Aside0.mk (Kd.C_below HR1k.out HN.out)
      clear HOx HOy HOz HN HI0 HIM HXL
      go_wp2_with fail
      refine (rillref00_SameBytes.calls k Ao co o A1 ca l1 true _ HRo.out HCo.out HR1.out HC1.out hs1.out).mono ?_
      rintro e w6 ⟨rfl, ⟨nd_, hw_⟩⟩
      have hb_ := pw_below_drewN (Below.refl wr.heap.size wr) nd_
      rw [← hw_] at hb_
      clear hw_
      replace HB := Aside0.mk (below_step HB.out hb_)
      replace HRo := Aside0.mk (Kd.C_below HRo.out hb_)
      replace HR1 := Aside0.mk (Kd.C_below HR1.out hb_)
      clear hb_ nd_
      go_wp2_with fail
      refine (gf_Add.calls k Ao co o none 0 [] ys _ HRo.out HCo.out ⟨rfl, by decide, fun h => absurd h (Nat.lt_irrefl 0)⟩ (Nat.le_refl 0) had.out).mono ?_
      rintro e w7 ⟨v_w7, rfl, ho_, hb_⟩
      obtain ⟨Aq, cq, rfl, hl_, hr_⟩ := Kd.R_reads ho_
      replace HB := Aside0.mk (below_step HB.out hb_)
      replace HRo := Aside0.mk (Kd.C_below HRo.out hb_)
      replace HR1 := Aside0.mk (Kd.C_below HR1.out hb_)
      have HRq := Aside0.mk hr_
      have HCq := Aside0.mk hl_
      clear ho_ hb_ hl_ hr_
      go_wp2_with fail
      refine (rillref00_SameBytes.calls k Aq cq ys A1 ca l1 true _ HRq.out HCq.out HR1.out HC1.out hs2.out).mono ?_
      rintro e w8 ⟨rfl, ⟨nd_, hw_⟩⟩
      have hb_ := pw_below_drewN (Below.refl w7.heap.size w7) nd_
      rw [← hw_] at hb_
      clear hw_
      replace HB := Aside0.mk (below_step HB.out hb_)
      replace HRo := Aside0.mk (Kd.C_below HRo.out hb_)
      replace HR1 := Aside0.mk (Kd.C_below HR1.out hb_)
      replace HRq := Aside0.mk (Kd.C_below HRq.out hb_)
      clear hb_ nd_
      go_wp2_with fail
      refine (gf_Scale.calls k a0 Ao co o xs _ HRo.out HCo.out hsc.out).mono ?_
      rintro e w9 ⟨v_w9, rfl, ho_, hb_⟩
      obtain ⟨As, cs, rfl, hl_, hr_⟩ := Kd.R_reads ho_
      replace HB := Aside0.mk (below_step HB.out hb_)
      replace HRo := Aside0.mk (Kd.C_below HRo.out hb_)
      replace HR1 := Aside0.mk (Kd.C_below HR1.out hb_)
      replace HRq := Aside0.mk (Kd.C_below HRq.out hb_)
      have HRs := Aside0.mk hr_
      have HCs := Aside0.mk hl_
      clear ho_ hb_ hl_ hr_
      go_wp2_with fail
      refine (rillref01_Scale.calls k a0 A1 ca l1 t _ HR1.out HC1.out hrs.out).mono ?_
      rintro e w10 ⟨v_w10, rfl, ho_, hb_⟩
      obtain ⟨At, ct, rfl, hl_, hr_⟩ := Kd.R_reads ho_
      replace HB := Aside0.mk (below_step HB.out hb_)
      replace HRo := Aside0.mk (Kd.C_below HRo.out hb_)
      replace HR1 := Aside0.mk (Kd.C_below HR1.out hb_)
      replace HRq := Aside0.mk (Kd.C_below HRq.out hb_)
      replace HRs := Aside0.mk (Kd.C_below HRs.out hb_)
      have HRt := Aside0.mk hr_
      have HCt := Aside0.mk hl_
      clear ho_ hb_ hl_ hr_
      go_wp2_with fail
      refine (rillref00_SameBytes.calls k As cs xs At ct t true _ HRs.out HCs.out HRt.out HCt.out hs3.out).mono ?_
      rintro e w11 ⟨rfl, ⟨nd_, hw_⟩⟩
      have hb_ := pw_below_drewN (Below.refl w10.heap.size w10) nd_
      rw [← hw_] at hb_
      clear hw_
      replace HB := Aside0.mk (below_step HB.out hb_)
      replace HRo := Aside0.mk (Kd.C_below HRo.out hb_)
      replace HR1 := Aside0.mk (Kd.C_below HR1.out hb_)
      replace HRq := Aside0.mk (Kd.C_below HRq.out hb_)
      replace HRs := Aside0.mk (Kd.C_below HRs.out hb_)
      replace HRt := Aside0.mk (Kd.C_below HRt.out hb_)
      clear hb_ nd_
      go_wp2
      go_ret
      exact ⟨rfl, HB.out⟩
    have c2b : decide (i < (ys_.length : Int)) = true := decide_eq_true c2
    by_cases c3 : i < (zs_.length : Int)
    rotate_left
    · have c3b : decide (i < (zs_.length : Int)) = false := decide_eq_false c3
      have HRo := Aside0.mk (Kd.C_below HRok.out HN.out)
      have HR1 := Aside0.mk (Kd.C_below HR1k.out HN.out)
      clear HOx HOy HOz HN HI0 HIM HXL
      go_wp2_with fail
      refine (rillref00_SameBytes.calls k Ao co o A1 ca l1 true _ HRo.out HCo.out HR1.out HC1.out hs1.out).mono ?_
      rintro e w6 ⟨rfl, ⟨nd_, hw_⟩⟩
      have hb_ := pw_below_drewN (Below.refl wr.heap.size wr) nd_
      rw [← hw_] at hb_
      clear hw_
      replace HB := Aside0.mk (below_step HB.out hb_)
      replace HRo := Aside0.mk (Kd.C_below HRo.out hb_)
      replace HR1 := Aside0.mk (Kd.C_below HR1.out hb_)
      clear hb_ nd_
      go_wp2_with fail
      refine (gf_Add.calls k Ao co o none 0 [] ys _ HRo.out HCo.out ⟨rfl, by decide, fun h => absurd h (Nat.lt_irrefl 0)⟩ (Nat.le_refl 0) had.out).mono ?_
      rintro e w7 ⟨v_w7, rfl, ho_, hb_⟩
      obtain ⟨Aq, cq, rfl, hl_, hr_⟩ := Kd.R_reads ho_
      replace HB := Aside0.mk (below_step HB.out hb_)
      replace HRo := Aside0.mk (Kd.C_below HRo.out hb_)
      replace HR1 := Aside0.mk (Kd.C_below HR1.out hb_)
      have HRq := Aside0.mk hr_
      have HCq := Aside0.mk hl_
      clear ho_ hb_ hl_ hr_
      go_wp2_with fail
      refine (rillref00_SameBytes.calls k Aq cq ys A1 ca l1 true _ HRq.out HCq.out HR1.out HC1.out hs2.out).mono ?_
      rintro e w8 ⟨rfl, ⟨nd_, hw_⟩⟩
      have hb_ := pw_below_drewN (Below.refl w7.heap.size w7) nd_
      rw [← hw_] at hb_
      clear hw_
      replace HB := Aside0.mk (below_step HB.out hb_)
      replace HRo := Aside0.mk (Kd.C_below HRo.out hb_)
      replace HR1 := Aside0.mk (Kd.C_below HR1.out hb_)
      replace HRq := Aside0.mk (Kd.C_below HRq.out hb_)
      clear hb_ nd_
      go_wp2_with fail
      refine (gf_Scale.calls k a0 Ao co o xs _ HRo.out HCo.out hsc.out).mono ?_
      rintro e w9 ⟨v_w9, rfl, ho_, hb_⟩
      obtain ⟨As, cs, rfl, hl_, hr_⟩ := Kd.R_reads ho_
      replace HB := Aside0.mk (below_step HB.out hb_)
      replace HRo := Aside0.mk (Kd.C_below HRo.out hb_)
      replace HR1 := Aside0.mk (Kd.C_below HR1.out hb_)
      replace HRq := Aside0.mk (Kd.C_below HRq.out hb_)
      have HRs := Aside0.mk hr_
      have HCs := Aside0.mk hl_
      clear ho_ hb_ hl_ hr_
      go_wp2_with fail
      refine (rillref01_Scale.calls k a0 A1 ca l1 t _ HR1.out HC1.out hrs.out).mono ?_
      rintro e w10 ⟨v_w10, rfl, ho_, hb_⟩
      obtain ⟨At, ct, rfl, hl_, hr_⟩ := Kd.R_reads ho_
      replace HB := Aside0.mk (below_step HB.out hb_)
      replace HRo := Aside0.mk (Kd.C_below HRo.out hb_)
      replace HR1 := Aside0.mk (Kd.C_below HR1.out hb_)
      replace HRq := Aside0.mk (Kd.C_below HRq.out hb_)
      replace HRs := Aside0.mk (Kd.C_below HRs.out hb_)
      have HRt := Aside0.mk hr_
      have HCt := Aside0.mk hl_
      clear ho_ hb_ hl_ hr_
      go_wp2_with fail
      refine (rillref00_SameBytes.calls k As cs xs At ct t true _ HRs.out HCs.out HRt.out HCt.out hs3.out).mono ?_
      rintro e w11 ⟨rfl, ⟨nd_, hw_⟩⟩
      have hb_ := pw_below_drewN (Below.refl w10.heap.size w10) nd_
      rw [← hw_] at hb_
      clear hw_
      replace HB := Aside0.mk (below_step HB.out hb_)
      replace HRo := Aside0.mk (Kd.C_below HRo.out hb_)
      replace HR1 := Aside0.mk (Kd.C_below HR1.out hb_)
      replace HRq := Aside0.mk (Kd.C_below HRq.out hb_)
      replace HRs := Aside0.mk (Kd.C_below HRs.out hb_)
      replace HRt := Aside0.mk (Kd.C_below HRt.out hb_)
      clear hb_ nd_
      go_wp2
      go_ret
      exact ⟨rfl, HB.out⟩
    have c3b : decide (i < (zs_.length : Int)) = true := decide_eq_true c3
    have px : 0 ≤ i := HI0.out
    have qx : i < (xs_.length : Int) := c1
    obtain ⟨gx, kx, eo_, gbx, glx, hgx⟩ := Kd.R_form HOx.out (by omega)
    cases eo_
    have GBx := Aside0.mk gbx
    clear gbx glx hgx
    have GOx := Aside0.mk (HOx.out.1 _ rfl)
    have py : 0 ≤ i := HI0.out
    have qy : i < (ys_.length : Int) := c2
    obtain ⟨gy, ky, eo_, gby, gly, hgy⟩ := Kd.R_form HOy.out (by omega)
    cases eo_
    have GBy := Aside0.mk gby
    clear gby gly hgy
    have GOy := Aside0.mk (HOy.out.1 _ rfl)
    have pz : 0 ≤ i := HI0.out
    have qz : i < (zs_.length : Int) := c3
    obtain ⟨gz, kz, eo_, gbz, glz, hgz⟩ := Kd.R_form HOz.out (by omega)
    cases eo_
    have GBz := Aside0.mk gbz
    clear gbz glz hgz
    have GOz := Aside0.mk (HOz.out.1 _ rfl)
    obtain ⟨adx, ex, hxx⟩ := Kd.at_int (Kd.R_reads' HOx.out).2.2 i px qx
    cases ex
    simp only [add_plain] at hxx
    have hfx := (Kd.R_celln 0 HOx.out i px qx).2
    have HP := Kd.R_putg HOx.out i (Go.bits .xor .u8 (rd xs_ i) 255)
    replace HOy := Aside0.mk (Kd.R_grown HOy.out HP.2 (fun k_ hk e_ => by have h_ := GOx.out; injection e_ with e_; subst e_; exact absurd hk.1 (Nat.not_le_of_lt h_)))
    replace HOz := Aside0.mk (Kd.R_grown HOz.out HP.2 (fun k_ hk e_ => by have h_ := GOx.out; injection e_ with e_; subst e_; exact absurd (Nat.le_trans hle34.out hk) (Nat.not_le_of_lt h_)))
    replace HOx := Aside0.mk HP.1
    replace HN := Aside0.mk (below_set HN.out GBx.out (j := i.toNat) (v := .int .u8 (Go.bits .xor .u8 (rd xs_ i) 255)))
    replace HB := Aside0.mk (below_set HB.out (Nat.le_trans hle2.out GBx.out) (j := i.toNat) (v := .int .u8 (Go.bits .xor .u8 (rd xs_ i) 255)))
    clear HP
    obtain ⟨ady, ey, hxy⟩ := Kd.at_int (Kd.R_reads' HOy.out).2.2 i py qy
    cases ey
    simp only [add_plain] at hxy
    have hfy := (Kd.R_celln 0 HOy.out i py qy).2
    have HP := Kd.R_putg HOy.out i (Go.bits .xor .u8 (rd ys_ i) 255)
    replace HOx := Aside0.mk (Kd.R_grown HOx.out HP.2 (fun k_ hk e_ => by have h_ := GOy.out; injection e_ with e_; subst e_; exact absurd hk (Nat.not_lt_of_le h_.1)))
    replace HOz := Aside0.mk (Kd.R_grown HOz.out HP.2 (fun k_ hk e_ => by have h_ := GOy.out; injection e_ with e_; subst e_; exact absurd hk (Nat.not_le_of_lt h_.2)))
    replace HOy := Aside0.mk HP.1
    replace HN := Aside0.mk (below_set HN.out GBy.out (j := i.toNat) (v := .int .u8 (Go.bits .xor .u8 (rd ys_ i) 255)))
    replace HB := Aside0.mk (below_set HB.out (Nat.le_trans hle2.out GBy.out) (j := i.toNat) (v := .int .u8 (Go.bits .xor .u8 (rd ys_ i) 255)))
    clear HP
    obtain ⟨adz, ez, hxz⟩ := Kd.at_int (Kd.R_reads' HOz.out).2.2 i pz qz
    cases ez
    simp only [add_plain] at hxz
    have hfz := (Kd.R_celln 0 HOz.out i pz qz).2
    have HP := Kd.R_putg HOz.out i (Go.bits .xor .u8 (rd zs_ i) 255)
    replace HOx := Aside0.mk (Kd.R_grown HOx.out HP.2 (fun k_ hk e_ => by have h_ := GOz.out; injection e_ with e_; subst e_; exact absurd (Nat.lt_of_lt_of_le hk (Nat.le_trans hle34.out h_)) (Nat.lt_irrefl _)))
    replace HOy := Aside0.mk (Kd.R_grown HOy.out HP.2 (fun k_ hk e_ => by have h_ := GOz.out; injection e_ with e_; subst e_; exact absurd hk.2 (Nat.not_lt_of_le h_)))
    replace HOz := Aside0.mk HP.1
    replace HN := Aside0.mk (below_set HN.out GBz.out (j := i.toNat) (v := .int .u8 (Go.bits .xor .u8 (rd zs_ i) 255)))
    replace HB := Aside0.mk (below_set HB.out (Nat.le_trans hle2.out GBz.out) (j := i.toNat) (v := .int .u8 (Go.bits .xor .u8 (rd zs_ i) 255)))
    clear HP
    replace px := eq_true px
    replace qx := eq_true qx
    replace py := eq_true py
    replace qy := eq_true qy
    replace pz := eq_true pz
    replace qz := eq_true qz
    have HIX := Aside0.mk (show 0 ≤ wrap64 (i + 1) ∧ wrap64 (i + 1) = i + 1 from by have := HI0.out; have := HL.out; have := HXL.out; unfold wrap64; omega)
    have c1_ := Aside0.mk c1
    clear c1 c2 c3
    go_wp2_with fail
    go_roundg (gk - 1)
    case measure => have := HIM.out; have := HI0.out; have := c1_.out; have := HXL.out; omega
    case rel => exact ⟨_, _, _, _, rfl, ⟨HIX.out.1⟩, ⟨by rw [HIX.out.2]; have := HIM.out; have := HI0.out; have := c1_.out; have := HXL.out; omega⟩, ⟨by rw [List.length_set]; exact HXL.out⟩, HOx, HOy, HOz, HN, HB⟩
/-- THE ONE PURE STATEMENT of rilllaw01_GfMemory. -/
def rilllaw01_GfMemory.Pure : Prop := ∀ (a0 : Int) (l1 : List Int), (Lit.int .u8 a0).wf = true → l1.length ≤ maxLen → l1.length * 1 ≤ 140737488351232 → (∀ x ∈ l1, (Lit.int .u8 x).wf = true) → ∃ (k : Nat) (o xs ys zs t : List Int), rilllaw01_alive.f k = some true ∧ rillref00_CopyBytes.f l1 = some o ∧ gf_Scale.f k a0 o = some xs ∧ gf_Add.f k o [] = some ys ∧ gf_Mix.f k [1] [o] = some zs ∧ rillref00_SameBytes.f k o l1 = some true ∧ rillref00_SameBytes.f k ys l1 = some true ∧ rillref01_Scale.f k a0 l1 = some t ∧ rillref00_SameBytes.f k xs t = some true
theorem rilllaw01_GfMemory.walk (P : rilllaw01_GfMemory.Pure) (a0 : Int) (a1 : Option Addr) (len1 cap1 : Nat) (z1 : List Int) (w : World) (w0 : (Lit.int .u8 a0).wf = true) (w1 : (a1 = none ∧ len1 = 0 ∧ cap1 = 0 ∧ z1 = []) ∨ ∃ x, a1 = some x ∧ len1 ≤ cap1 ∧ cap1 ≤ maxLen ∧ z1.length = cap1 ∧ (∀ i, i < z1.length → w.cell? (x.add i) = some (.int .u8 (z1.getD i 0))) ∧ ∀ n ∈ z1, (Lit.int .u8 n).wf = true) (y1 : len1 * 1 ≤ 140737488351232) :
    Calls Try.prog 7 #[.int .u8 a0, .slice a1 len1 cap1] w fun e w' => e = .returned (.bool true) ∧ Below w.heap.size w w' := by
  obtain ⟨l1, rfl, hr1_, hm1, hw1, hc1⟩ := ReadsInt.ofRowC w1
  have hr1 := Kd.C_of_reads (d := (0 : Int)) (h1 := fun _ => rfl) hr1_
  have hP := P a0 l1 w0 hm1 y1 hw1
  obtain ⟨k, o, xs, ys, zs, t, hal, hcp, hsc, had, hmx, hs1, hs2, hrs, hs3⟩ := hP
  exact rilllaw01_GfMemory.walk0 k a0 _ _ l1 w hr1 hc1 o xs ys zs t hal hcp hsc had hmx hs1 hs2 hrs hs3

end Go.Proofs.Ytdjdbddnaaenmaa.MGfMemory
