-- printed by a program of this session (ownprint.py), out of the translation; Lean checks it
import Derived.Test.YtdjdbddnaaenmaaMGfListsx0
import Derived.Test.YtdjdbddnaaenmaaMGfListsx1
import Derived.Test.YtdjdbddnaaenmaaMGfListsx2
import Derived.Test.YtdjdbddnaaenmaaMGfListsx3
namespace Go.Proofs.Ytdjdbddnaaenmaa.MGfLists
open Go.RowKit Go.Proofs.YtdjdbddnaaenmaaW.PrintWords Go.Proofs.YtdjdbddnaaenmaaW.PrintLast Go.Proofs.YtdjdbddnaaenmaaW.PrintMore
attribute [local go_sem] max2_int min2_int max_two min_two max_three min_three max_four min_four   -- for this text's walks alone
set_option linter.unusedVariables false
set_option linter.unusedSimpArgs false

/-! ### rilllaw01_GfLists: function 5 -/
set_option maxHeartbeats 8000000 in
set_option maxRecDepth 100000 in
theorem rilllaw01_GfLists.walk0 (k : Nat) (a0 : Int) (A1 : Option Addr) (c1 : Nat) (l1 : List Int) (A2 : Option Addr) (c2 : Nat) (l2 : List Int) (A3 : Option Addr) (c3 : Nat) (l3 : List (List Int)) (w : World)
    (hr1 : Kd.C (Kd.int .u8) w A1 l1.length l1) (hc1 : l1.length ≤ c1) (hr2 : Kd.C (Kd.int .u8) w A2 l2.length l2) (hc2 : l2.length ≤ c2) (hr3 : Kd.C (Kd.slice 5 (Kd.int .u8)) w A3 l3.length l3) (hc3 : l3.length ≤ c3)
    (p pt r s t u : List Int) (q : List (List Int)) (hal : rilllaw01_alive.f k = some true) (h100 : ¬ (l3.length : Int) > 100) (hpos : ¬ (l3.length : Int) > 0)
    (hsp : rillref00_Spare.f k l1 = some p) (hpl : l1.length ≤ p.length) (hpt : pt = p.take l1.length) (hcr : rillref00_CopyRows.f k l3 = some q) (hcb : rillref00_CopyBytes.f l2 = some r)
    (had : gf_Add.f k pt ([] : List Int) = some s) (hrd : rillref01_Add.f k l1 ([] : List Int) = some s) (hs1 : rillref00_SameBytes.f k s s = some true)
    (hsc : gf_Scale.f k a0 pt = some t) (hrs : rillref01_Scale.f k a0 l1 = some t) (hs2 : rillref00_SameBytes.f k t t = some true)
    (hmx : gf_Mix.f k r q = some u) (hrm : rillref01_Mix.f k l2 l3 = some u) (hs3 : rillref00_SameBytes.f k u u = some true)
    (hs4 : rillref00_SameBytes.f k p p = some true) (hs5 : rillref00_SameRows.f k q l3 = some true) (hs6 : rillref00_SameBytes.f k r l2 = some true) :
    Calls Try.prog 5 #[.int .u8 a0, .slice A1 l1.length c1, .slice A2 l2.length c2, .slice A3 l3.length c3] w fun e w' => e = .returned (.bool true) ∧ Below w.heap.size w w' := by
  have HR1 := Aside0.mk hr1
  have HC1 := Aside0.mk hc1
  have HR2 := Aside0.mk hr2
  have HC2 := Aside0.mk hc2
  have HR3 := Aside0.mk hr3
  have HC3 := Aside0.mk hc3
  replace hsp := Aside0.mk hsp
  replace hpl := Aside0.mk hpl
  replace hpt := Aside0.mk hpt
  replace hcr := Aside0.mk hcr
  replace hcb := Aside0.mk hcb
  replace had := Aside0.mk had
  replace hrd := Aside0.mk hrd
  replace hs1 := Aside0.mk hs1
  replace hsc := Aside0.mk hsc
  replace hrs := Aside0.mk hrs
  replace hs2 := Aside0.mk hs2
  replace hmx := Aside0.mk hmx
  replace hrm := Aside0.mk hrm
  replace hs3 := Aside0.mk hs3
  replace hs4 := Aside0.mk hs4
  replace hs5 := Aside0.mk hs5
  replace hs6 := Aside0.mk hs6
  clear hr1 hc1 hr2 hc2 hr3 hc3
  go_enter Try.func5, Try.ntmps5
  go_wp2_with fail
  refine (rilllaw01_alive.calls k true _ hal).mono ?_
  rintro e w1 ⟨rfl, hb_⟩
  have HB := Aside0.mk hb_
  replace HR1 := Aside0.mk (Kd.C_below HR1.out hb_)
  replace HR2 := Aside0.mk (Kd.C_below HR2.out hb_)
  replace HR3 := Aside0.mk (Kd.C_below HR3.out hb_)
  clear hb_
  go_wp2_with fail
  refine (rillref00_Spare.calls k A1 c1 l1 p _ HR1.out HC1.out hsp.out).mono ?_
  rintro e w2 ⟨v_w2, rfl, ho_, hb_⟩
  obtain ⟨Ap, cp, rfl, hl_, hr_⟩ := Kd.R_reads ho_
  replace HB := Aside0.mk (below_step HB.out hb_)
  replace HR1 := Aside0.mk (Kd.C_below HR1.out hb_)
  replace HR2 := Aside0.mk (Kd.C_below HR2.out hb_)
  replace HR3 := Aside0.mk (Kd.C_below HR3.out hb_)
  have HRp := Aside0.mk hr_
  have HCp := Aside0.mk hl_
  clear ho_ hb_ hl_ hr_
  go_wp2_with fail
  refine (rillref00_CopyRows.calls k A3 c3 l3 q _ HR3.out HC3.out hcr.out).mono ?_
  rintro e w3 ⟨v_w3, rfl, ho_, hb_⟩
  obtain ⟨Aq, cq, rfl, hl_, hr_⟩ := Kd.S_reads ho_
  replace HB := Aside0.mk (below_step HB.out hb_)
  replace HR1 := Aside0.mk (Kd.C_below HR1.out hb_)
  replace HR2 := Aside0.mk (Kd.C_below HR2.out hb_)
  replace HR3 := Aside0.mk (Kd.C_below HR3.out hb_)
  replace HRp := Aside0.mk (Kd.C_below HRp.out hb_)
  have HRq := Aside0.mk hr_
  have HCq := Aside0.mk hl_
  clear ho_ hb_ hl_ hr_
  go_wp2_with fail
  refine (rillref00_CopyBytes.calls A2 c2 l2 r _ HR2.out HC2.out hcb.out).mono ?_
  rintro e w4 ⟨v_w4, rfl, ho_, hb_⟩
  obtain ⟨Ar, cr, rfl, hl_, hr_⟩ := Kd.R_reads ho_
  replace HB := Aside0.mk (below_step HB.out hb_)
  replace HR1 := Aside0.mk (Kd.C_below HR1.out hb_)
  replace HR2 := Aside0.mk (Kd.C_below HR2.out hb_)
  replace HR3 := Aside0.mk (Kd.C_below HR3.out hb_)
  replace HRp := Aside0.mk (Kd.C_below HRp.out hb_)
  replace HRq := Aside0.mk (Kd.C_below HRq.out hb_)
  have HRr := Aside0.mk hr_
  have HCr := Aside0.mk hl_
  clear ho_ hb_ hl_ hr_
  obtain ⟨i5, hi5, _, hsz5, _⟩ := info_parts info5
  have hcut := Own.cut_take (P := Try.prog) 30 5 .i64 Try.underlying30 hi5 hsz5 .u8 Ap cp p l1.length hpl.out HCp.out
  have HRt := Kd.C_take HRp.out hpl.out
  have HCt : (p.take l1.length).length ≤ cp := by rw [List.length_take]; have := HCp.out; omega
  rw [← hpt.out] at HRt HCt hcut
  replace HRt := Aside0.mk HRt
  replace HCt := Aside0.mk HCt
  clear hi5 hsz5
  have HCb := Aside0.mk (Nat.le_refl 0)
  have HRb := Aside0.mk (show Kd.C (Kd.int .u8) w4 (some ⟨w4.heap.size, 0, none⟩) 0 ([] : List Int) from ⟨rfl, by decide, fun h => absurd h (Nat.lt_irrefl 0)⟩)
  go_wp2_with fail
  refine (gf_Add.calls k Ap cp pt (some ⟨w4.heap.size, 0, none⟩) 0 ([] : List Int) s _ (Kd.C_below HRt.out (below_alloc (Below.refl w4.heap.size w4) (Obj.cells #[] 5))) HCt.out (Kd.C_below HRb.out (below_alloc (Below.refl w4.heap.size w4) (Obj.cells #[] 5))) HCb.out had.out).mono ?_
  rintro e w5 ⟨v_w5, rfl, ho_, hb_⟩
  obtain ⟨As, cs, rfl, hl_, hr_⟩ := Kd.R_reads ho_
  replace hb_ := below_step (below_alloc (Below.refl w4.heap.size w4) (Obj.cells #[] 5)) hb_
  replace HB := Aside0.mk (below_step HB.out hb_)
  replace HR1 := Aside0.mk (Kd.C_below HR1.out hb_)
  replace HR2 := Aside0.mk (Kd.C_below HR2.out hb_)
  replace HR3 := Aside0.mk (Kd.C_below HR3.out hb_)
  replace HRp := Aside0.mk (Kd.C_below HRp.out hb_)
  replace HRq := Aside0.mk (Kd.C_below HRq.out hb_)
  replace HRr := Aside0.mk (Kd.C_below HRr.out hb_)
  replace HRt := Aside0.mk (Kd.C_below HRt.out hb_)
  replace HRb := Aside0.mk (Kd.C_below HRb.out hb_)
  have HRs := Aside0.mk hr_
  have HCs := Aside0.mk hl_
  clear ho_ hb_ hl_ hr_
  go_wp2_with fail
  refine (rillref01_Add.calls k A1 c1 l1 (some ⟨w4.heap.size, 0, none⟩) 0 ([] : List Int) s _ HR1.out HC1.out HRb.out HCb.out hrd.out).mono ?_
  rintro e w6 ⟨v_w6, rfl, ho_, hb_⟩
  obtain ⟨As2, cs2, rfl, hl_, hr_⟩ := Kd.R_reads ho_
  replace HB := Aside0.mk (below_step HB.out hb_)
  replace HR1 := Aside0.mk (Kd.C_below HR1.out hb_)
  replace HR2 := Aside0.mk (Kd.C_below HR2.out hb_)
  replace HR3 := Aside0.mk (Kd.C_below HR3.out hb_)
  replace HRp := Aside0.mk (Kd.C_below HRp.out hb_)
  replace HRq := Aside0.mk (Kd.C_below HRq.out hb_)
  replace HRr := Aside0.mk (Kd.C_below HRr.out hb_)
  replace HRt := Aside0.mk (Kd.C_below HRt.out hb_)
  replace HRb := Aside0.mk (Kd.C_below HRb.out hb_)
  replace HRs := Aside0.mk (Kd.C_below HRs.out hb_)
  have HRs2 := Aside0.mk hr_
  have HCs2 := Aside0.mk hl_
  clear ho_ hb_ hl_ hr_
  go_wp2_with fail
  refine (rillref00_SameBytes.calls k As cs s As2 cs2 s true _ HRs.out HCs.out HRs2.out HCs2.out hs1.out).mono ?_
  rintro e w7 ⟨rfl, ⟨nd_, hw_⟩⟩
  have hb_ := pw_below_drewN (Below.refl w6.heap.size w6) nd_
  rw [← hw_] at hb_
  clear hw_
  replace HB := Aside0.mk (below_step HB.out hb_)
  replace HR1 := Aside0.mk (Kd.C_below HR1.out hb_)
  replace HR2 := Aside0.mk (Kd.C_below HR2.out hb_)
  replace HR3 := Aside0.mk (Kd.C_below HR3.out hb_)
  replace HRp := Aside0.mk (Kd.C_below HRp.out hb_)
  replace HRq := Aside0.mk (Kd.C_below HRq.out hb_)
  replace HRr := Aside0.mk (Kd.C_below HRr.out hb_)
  replace HRt := Aside0.mk (Kd.C_below HRt.out hb_)
  replace HRb := Aside0.mk (Kd.C_below HRb.out hb_)
  replace HRs := Aside0.mk (Kd.C_below HRs.out hb_)
  replace HRs2 := Aside0.mk (Kd.C_below HRs2.out hb_)
  clear hb_ nd_
  go_wp2_with fail
  refine (gf_Scale.calls k a0 Ap cp pt t _ HRt.out HCt.out hsc.out).mono ?_
  rintro e w8 ⟨v_w8, rfl, ho_, hb_⟩
  obtain ⟨At1, ct1, rfl, hl_, hr_⟩ := Kd.R_reads ho_
  replace HB := Aside0.mk (below_step HB.out hb_)
  replace HR1 := Aside0.mk (Kd.C_below HR1.out hb_)
  replace HR2 := Aside0.mk (Kd.C_below HR2.out hb_)
  replace HR3 := Aside0.mk (Kd.C_below HR3.out hb_)
  replace HRp := Aside0.mk (Kd.C_below HRp.out hb_)
  replace HRq := Aside0.mk (Kd.C_below HRq.out hb_)
  replace HRr := Aside0.mk (Kd.C_below HRr.out hb_)
  replace HRt := Aside0.mk (Kd.C_below HRt.out hb_)
  replace HRb := Aside0.mk (Kd.C_below HRb.out hb_)
  replace HRs := Aside0.mk (Kd.C_below HRs.out hb_)
  replace HRs2 := Aside0.mk (Kd.C_below HRs2.out hb_)
  have HRt1 := Aside0.mk hr_
  have HCt1 := Aside0.mk hl_
  clear ho_ hb_ hl_ hr_
  go_wp2_with fail
  refine (rillref01_Scale.calls k a0 A1 c1 l1 t _ HR1.out HC1.out hrs.out).mono ?_
  rintro e w9 ⟨v_w9, rfl, ho_, hb_⟩
  obtain ⟨At2, ct2, rfl, hl_, hr_⟩ := Kd.R_reads ho_
  replace HB := Aside0.mk (below_step HB.out hb_)
  replace HR1 := Aside0.mk (Kd.C_below HR1.out hb_)
  replace HR2 := Aside0.mk (Kd.C_below HR2.out hb_)
  replace HR3 := Aside0.mk (Kd.C_below HR3.out hb_)
  replace HRp := Aside0.mk (Kd.C_below HRp.out hb_)
  replace HRq := Aside0.mk (Kd.C_below HRq.out hb_)
  replace HRr := Aside0.mk (Kd.C_below HRr.out hb_)
  replace HRt := Aside0.mk (Kd.C_below HRt.out hb_)
  replace HRb := Aside0.mk (Kd.C_below HRb.out hb_)
  replace HRs := Aside0.mk (Kd.C_below HRs.out hb_)
  replace HRs2 := Aside0.mk (Kd.C_below HRs2.out hb_)
  replace HRt1 := Aside0.mk (Kd.C_below HRt1.out hb_)
  have HRt2 := Aside0.mk hr_
  have HCt2 := Aside0.mk hl_
  clear ho_ hb_ hl_ hr_
  go_wp2_with fail
  refine (rillref00_SameBytes.calls k At1 ct1 t At2 ct2 t true _ HRt1.out HCt1.out HRt2.out HCt2.out hs2.out).mono ?_
  rintro e w10 ⟨rfl, ⟨nd_, hw_⟩⟩
  have hb_ := pw_below_drewN (Below.refl w9.heap.size w9) nd_
  rw [← hw_] at hb_
  clear hw_
  replace HB := Aside0.mk (below_step HB.out hb_)
  replace HR1 := Aside0.mk (Kd.C_below HR1.out hb_)
  replace HR2 := Aside0.mk (Kd.C_below HR2.out hb_)
  replace HR3 := Aside0.mk (Kd.C_below HR3.out hb_)
  replace HRp := Aside0.mk (Kd.C_below HRp.out hb_)
  replace HRq := Aside0.mk (Kd.C_below HRq.out hb_)
  replace HRr := Aside0.mk (Kd.C_below HRr.out hb_)
  replace HRt := Aside0.mk (Kd.C_below HRt.out hb_)
  replace HRb := Aside0.mk (Kd.C_below HRb.out hb_)
  replace HRs := Aside0.mk (Kd.C_below HRs.out hb_)
  replace HRs2 := Aside0.mk (Kd.C_below HRs2.out hb_)
  replace HRt1 := Aside0.mk (Kd.C_below HRt1.out hb_)
  replace HRt2 := Aside0.mk (Kd.C_below HRt2.out hb_)
  clear hb_ nd_
  go_wp2_with fail
  refine (gf_Mix.calls k Ar cr r Aq cq q u _ HRr.out HCr.out HRq.out HCq.out hmx.out).mono ?_
  rintro e w11 ⟨v_w11, rfl, ho_, hb_⟩
  obtain ⟨Au1, cu1, rfl, hl_, hr_⟩ := Kd.R_reads ho_
  replace HB := Aside0.mk (below_step HB.out hb_)
  replace HR1 := Aside0.mk (Kd.C_below HR1.out hb_)
  replace HR2 := Aside0.mk (Kd.C_below HR2.out hb_)
  replace HR3 := Aside0.mk (Kd.C_below HR3.out hb_)
  replace HRp := Aside0.mk (Kd.C_below HRp.out hb_)
  replace HRq := Aside0.mk (Kd.C_below HRq.out hb_)
  replace HRr := Aside0.mk (Kd.C_below HRr.out hb_)
  replace HRt := Aside0.mk (Kd.C_below HRt.out hb_)
  replace HRb := Aside0.mk (Kd.C_below HRb.out hb_)
  replace HRs := Aside0.mk (Kd.C_below HRs.out hb_)
  replace HRs2 := Aside0.mk (Kd.C_below HRs2.out hb_)
  replace HRt1 := Aside0.mk (Kd.C_below HRt1.out hb_)
  replace HRt2 := Aside0.mk (Kd.C_below HRt2.out hb_)
  have HRu1 := Aside0.mk hr_
  have HCu1 := Aside0.mk hl_
  clear ho_ hb_ hl_ hr_
  go_wp2_with fail
  refine (rillref01_Mix.calls k A2 c2 l2 A3 c3 l3 u _ HR2.out HC2.out HR3.out HC3.out hrm.out).mono ?_
  rintro e w12 ⟨v_w12, rfl, ho_, hb_⟩
  obtain ⟨Au2, cu2, rfl, hl_, hr_⟩ := Kd.R_reads ho_
  replace HB := Aside0.mk (below_step HB.out hb_)
  replace HR1 := Aside0.mk (Kd.C_below HR1.out hb_)
  replace HR2 := Aside0.mk (Kd.C_below HR2.out hb_)
  replace HR3 := Aside0.mk (Kd.C_below HR3.out hb_)
  replace HRp := Aside0.mk (Kd.C_below HRp.out hb_)
  replace HRq := Aside0.mk (Kd.C_below HRq.out hb_)
  replace HRr := Aside0.mk (Kd.C_below HRr.out hb_)
  replace HRt := Aside0.mk (Kd.C_below HRt.out hb_)
  replace HRb := Aside0.mk (Kd.C_below HRb.out hb_)
  replace HRs := Aside0.mk (Kd.C_below HRs.out hb_)
  replace HRs2 := Aside0.mk (Kd.C_below HRs2.out hb_)
  replace HRt1 := Aside0.mk (Kd.C_below HRt1.out hb_)
  replace HRt2 := Aside0.mk (Kd.C_below HRt2.out hb_)
  replace HRu1 := Aside0.mk (Kd.C_below HRu1.out hb_)
  have HRu2 := Aside0.mk hr_
  have HCu2 := Aside0.mk hl_
  clear ho_ hb_ hl_ hr_
  go_wp2_with fail
  refine (rillref00_SameBytes.calls k Au1 cu1 u Au2 cu2 u true _ HRu1.out HCu1.out HRu2.out HCu2.out hs3.out).mono ?_
  rintro e w13 ⟨rfl, ⟨nd_, hw_⟩⟩
  have hb_ := pw_below_drewN (Below.refl w12.heap.size w12) nd_
  rw [← hw_] at hb_
  clear hw_
  replace HB := Aside0.mk (below_step HB.out hb_)
  replace HR1 := Aside0.mk (Kd.C_below HR1.out hb_)
  replace HR2 := Aside0.mk (Kd.C_below HR2.out hb_)
  replace HR3 := Aside0.mk (Kd.C_below HR3.out hb_)
  replace HRp := Aside0.mk (Kd.C_below HRp.out hb_)
  replace HRq := Aside0.mk (Kd.C_below HRq.out hb_)
  replace HRr := Aside0.mk (Kd.C_below HRr.out hb_)
  replace HRt := Aside0.mk (Kd.C_below HRt.out hb_)
  replace HRb := Aside0.mk (Kd.C_below HRb.out hb_)
  replace HRs := Aside0.mk (Kd.C_below HRs.out hb_)
  replace HRs2 := Aside0.mk (Kd.C_below HRs2.out hb_)
  replace HRt1 := Aside0.mk (Kd.C_below HRt1.out hb_)
  replace HRt2 := Aside0.mk (Kd.C_below HRt2.out hb_)
  replace HRu1 := Aside0.mk (Kd.C_below HRu1.out hb_)
  replace HRu2 := Aside0.mk (Kd.C_below HRu2.out hb_)
  clear hb_ nd_
  go_wp2_with fail
  refine (rillref00_Spare.calls k A1 c1 l1 p _ HR1.out HC1.out hsp.out).mono ?_
  rintro e w14 ⟨v_w14, rfl, ho_, hb_⟩
  obtain ⟨Ap2, cp2, rfl, hl_, hr_⟩ := Kd.R_reads ho_
  replace HB := Aside0.mk (below_step HB.out hb_)
  replace HR1 := Aside0.mk (Kd.C_below HR1.out hb_)
  replace HR2 := Aside0.mk (Kd.C_below HR2.out hb_)
  replace HR3 := Aside0.mk (Kd.C_below HR3.out hb_)
  replace HRp := Aside0.mk (Kd.C_below HRp.out hb_)
  replace HRq := Aside0.mk (Kd.C_below HRq.out hb_)
  replace HRr := Aside0.mk (Kd.C_below HRr.out hb_)
  replace HRt := Aside0.mk (Kd.C_below HRt.out hb_)
  replace HRb := Aside0.mk (Kd.C_below HRb.out hb_)
  replace HRs := Aside0.mk (Kd.C_below HRs.out hb_)
  replace HRs2 := Aside0.mk (Kd.C_below HRs2.out hb_)
  replace HRt1 := Aside0.mk (Kd.C_below HRt1.out hb_)
  replace HRt2 := Aside0.mk (Kd.C_below HRt2.out hb_)
  replace HRu1 := Aside0.mk (Kd.C_below HRu1.out hb_)
  replace HRu2 := Aside0.mk (Kd.C_below HRu2.out hb_)
  have HRp2 := Aside0.mk hr_
  have HCp2 := Aside0.mk hl_
  clear ho_ hb_ hl_ hr_
  go_wp2_with fail
  refine (rillref00_SameBytes.calls k Ap cp p Ap2 cp2 p true _ HRp.out HCp.out HRp2.out HCp2.out hs4.out).mono ?_
  rintro e w15 ⟨rfl, ⟨nd_, hw_⟩⟩
  have hb_ := pw_below_drewN (Below.refl w14.heap.size w14) nd_
  rw [← hw_] at hb_
  clear hw_
  replace HB := Aside0.mk (below_step HB.out hb_)
  replace HR1 := Aside0.mk (Kd.C_below HR1.out hb_)
  replace HR2 := Aside0.mk (Kd.C_below HR2.out hb_)
  replace HR3 := Aside0.mk (Kd.C_below HR3.out hb_)
  replace HRp := Aside0.mk (Kd.C_below HRp.out hb_)
  replace HRq := Aside0.mk (Kd.C_below HRq.out hb_)
  replace HRr := Aside0.mk (Kd.C_below HRr.out hb_)
  replace HRt := Aside0.mk (Kd.C_below HRt.out hb_)
  replace HRb := Aside0.mk (Kd.C_below HRb.out hb_)
  replace HRs := Aside0.mk (Kd.C_below HRs.out hb_)
  replace HRs2 := Aside0.mk (Kd.C_below HRs2.out hb_)
  replace HRt1 := Aside0.mk (Kd.C_below HRt1.out hb_)
  replace HRt2 := Aside0.mk (Kd.C_below HRt2.out hb_)
  replace HRu1 := Aside0.mk (Kd.C_below HRu1.out hb_)
  replace HRu2 := Aside0.mk (Kd.C_below HRu2.out hb_)
  replace HRp2 := Aside0.mk (Kd.C_below HRp2.out hb_)
  clear hb_ nd_
  go_wp2_with fail
  refine (rillref00_SameRows.calls k Aq cq q A3 c3 l3 true _ HRq.out HCq.out HR3.out HC3.out hs5.out).mono ?_
  rintro e w16 ⟨rfl, ⟨nd_, hw_⟩⟩
  have hb_ := pw_below_drewN (Below.refl w15.heap.size w15) nd_
  rw [← hw_] at hb_
  clear hw_
  replace HB := Aside0.mk (below_step HB.out hb_)
  replace HR1 := Aside0.mk (Kd.C_below HR1.out hb_)
  replace HR2 := Aside0.mk (Kd.C_below HR2.out hb_)
  replace HR3 := Aside0.mk (Kd.C_below HR3.out hb_)
  replace HRp := Aside0.mk (Kd.C_below HRp.out hb_)
  replace HRq := Aside0.mk (Kd.C_below HRq.out hb_)
  replace HRr := Aside0.mk (Kd.C_below HRr.out hb_)
  replace HRt := Aside0.mk (Kd.C_below HRt.out hb_)
  replace HRb := Aside0.mk (Kd.C_below HRb.out hb_)
  replace HRs := Aside0.mk (Kd.C_below HRs.out hb_)
  replace HRs2 := Aside0.mk (Kd.C_below HRs2.out hb_)
  replace HRt1 := Aside0.mk (Kd.C_below HRt1.out hb_)
  replace HRt2 := Aside0.mk (Kd.C_below HRt2.out hb_)
  replace HRu1 := Aside0.mk (Kd.C_below HRu1.out hb_)
  replace HRu2 := Aside0.mk (Kd.C_below HRu2.out hb_)
  replace HRp2 := Aside0.mk (Kd.C_below HRp2.out hb_)
  clear hb_ nd_
  go_wp2_with fail
  refine (rillref00_SameBytes.calls k Ar cr r A2 c2 l2 true _ HRr.out HCr.out HR2.out HC2.out hs6.out).mono ?_
  rintro e w17 ⟨rfl, ⟨nd_, hw_⟩⟩
  have hb_ := pw_below_drewN (Below.refl w16.heap.size w16) nd_
  rw [← hw_] at hb_
  clear hw_
  replace HB := Aside0.mk (below_step HB.out hb_)
  replace HR1 := Aside0.mk (Kd.C_below HR1.out hb_)
  replace HR2 := Aside0.mk (Kd.C_below HR2.out hb_)
  replace HR3 := Aside0.mk (Kd.C_below HR3.out hb_)
  replace HRp := Aside0.mk (Kd.C_below HRp.out hb_)
  replace HRq := Aside0.mk (Kd.C_below HRq.out hb_)
  replace HRr := Aside0.mk (Kd.C_below HRr.out hb_)
  replace HRt := Aside0.mk (Kd.C_below HRt.out hb_)
  replace HRb := Aside0.mk (Kd.C_below HRb.out hb_)
  replace HRs := Aside0.mk (Kd.C_below HRs.out hb_)
  replace HRs2 := Aside0.mk (Kd.C_below HRs2.out hb_)
  replace HRt1 := Aside0.mk (Kd.C_below HRt1.out hb_)
  replace HRt2 := Aside0.mk (Kd.C_below HRt2.out hb_)
  replace HRu1 := Aside0.mk (Kd.C_below HRu1.out hb_)
  replace HRu2 := Aside0.mk (Kd.C_below HRu2.out hb_)
  replace HRp2 := Aside0.mk (Kd.C_below HRp2.out hb_)
  clear hb_ nd_
  go_wp2
  go_ret
  exact ⟨rfl, HB.out⟩
set_option maxHeartbeats 8000000 in
set_option maxRecDepth 100000 in
theorem rilllaw01_GfLists.walk1 (k : Nat) (a0 : Int) (A1 : Option Addr) (c1 : Nat) (l1 : List Int) (A2 : Option Addr) (c2 : Nat) (l2 : List Int) (A3 : Option Addr) (c3 : Nat) (l3 : List (List Int)) (w : World)
    (hr1 : Kd.C (Kd.int .u8) w A1 l1.length l1) (hc1 : l1.length ≤ c1) (hr2 : Kd.C (Kd.int .u8) w A2 l2.length l2) (hc2 : l2.length ≤ c2) (hr3 : Kd.C (Kd.slice 5 (Kd.int .u8)) w A3 l3.length l3) (hc3 : l3.length ≤ c3)
    (p pt r s t u : List Int) (q : List (List Int)) (hal : rilllaw01_alive.f k = some true) (h100 : ¬ (l3.length : Int) > 100) (hpos : (l3.length : Int) > 0)
    (hsp : rillref00_Spare.f k l1 = some p) (hpl : l1.length ≤ p.length) (hpt : pt = p.take l1.length) (hcr : rillref00_CopyRows.f k l3 = some q) (hcb : rillref00_CopyBytes.f l2 = some r)
    (had : gf_Add.f k pt (rd_L1 l3 0) = some s) (hrd : rillref01_Add.f k l1 (rd_L1 l3 0) = some s) (hs1 : rillref00_SameBytes.f k s s = some true)
    (hsc : gf_Scale.f k a0 pt = some t) (hrs : rillref01_Scale.f k a0 l1 = some t) (hs2 : rillref00_SameBytes.f k t t = some true)
    (hmx : gf_Mix.f k r q = some u) (hrm : rillref01_Mix.f k l2 l3 = some u) (hs3 : rillref00_SameBytes.f k u u = some true)
    (hs4 : rillref00_SameBytes.f k p p = some true) (hs5 : rillref00_SameRows.f k q l3 = some true) (hs6 : rillref00_SameBytes.f k r l2 = some true) :
    Calls Try.prog 5 #[.int .u8 a0, .slice A1 l1.length c1, .slice A2 l2.length c2, .slice A3 l3.length c3] w fun e w' => e = .returned (.bool true) ∧ Below w.heap.size w w' := by
  have HR1 := Aside0.mk hr1
  have HC1 := Aside0.mk hc1
  have HR2 := Aside0.mk hr2
  have HC2 := Aside0.mk hc2
  have HR3 := Aside0.mk hr3
  have HC3 := Aside0.mk hc3
  replace hsp := Aside0.mk hsp
  replace hpl := Aside0.mk hpl
  replace hpt := Aside0.mk hpt
  replace hcr := Aside0.mk hcr
  replace hcb := Aside0.mk hcb
  replace had := Aside0.mk had
  replace hrd := Aside0.mk hrd
  replace hs1 := Aside0.mk hs1
  replace hsc := Aside0.mk hsc
  replace hrs := Aside0.mk hrs
  replace hs2 := Aside0.mk hs2
  replace hmx := Aside0.mk hmx
  replace hrm := Aside0.mk hrm
  replace hs3 := Aside0.mk hs3
  replace hs4 := Aside0.mk hs4
  replace hs5 := Aside0.mk hs5
  replace hs6 := Aside0.mk hs6
  clear hr1 hc1 hr2 hc2 hr3 hc3
  go_enter Try.func5, Try.ntmps5
  go_wp2_with fail
  refine (rilllaw01_alive.calls k true _ hal).mono ?_
  rintro e w1 ⟨rfl, hb_⟩
  have HB := Aside0.mk hb_
  replace HR1 := Aside0.mk (Kd.C_below HR1.out hb_)
  replace HR2 := Aside0.mk (Kd.C_below HR2.out hb_)
  replace HR3 := Aside0.mk (Kd.C_below HR3.out hb_)
  clear hb_
  go_wp2_with fail
  refine (rillref00_Spare.calls k A1 c1 l1 p _ HR1.out HC1.out hsp.out).mono ?_
  rintro e w2 ⟨v_w2, rfl, ho_, hb_⟩
  obtain ⟨Ap, cp, rfl, hl_, hr_⟩ := Kd.R_reads ho_
  replace HB := Aside0.mk (below_step HB.out hb_)
  replace HR1 := Aside0.mk (Kd.C_below HR1.out hb_)
  replace HR2 := Aside0.mk (Kd.C_below HR2.out hb_)
  replace HR3 := Aside0.mk (Kd.C_below HR3.out hb_)
  have HRp := Aside0.mk hr_
  have HCp := Aside0.mk hl_
  clear ho_ hb_ hl_ hr_
  go_wp2_with fail
  refine (rillref00_CopyRows.calls k A3 c3 l3 q _ HR3.out HC3.out hcr.out).mono ?_
  rintro e w3 ⟨v_w3, rfl, ho_, hb_⟩
  obtain ⟨Aq, cq, rfl, hl_, hr_⟩ := Kd.S_reads ho_
  replace HB := Aside0.mk (below_step HB.out hb_)
  replace HR1 := Aside0.mk (Kd.C_below HR1.out hb_)
  replace HR2 := Aside0.mk (Kd.C_below HR2.out hb_)
  replace HR3 := Aside0.mk (Kd.C_below HR3.out hb_)
  replace HRp := Aside0.mk (Kd.C_below HRp.out hb_)
  have HRq := Aside0.mk hr_
  have HCq := Aside0.mk hl_
  clear ho_ hb_ hl_ hr_
  go_wp2_with fail
  refine (rillref00_CopyBytes.calls A2 c2 l2 r _ HR2.out HC2.out hcb.out).mono ?_
  rintro e w4 ⟨v_w4, rfl, ho_, hb_⟩
  obtain ⟨Ar, cr, rfl, hl_, hr_⟩ := Kd.R_reads ho_
  replace HB := Aside0.mk (below_step HB.out hb_)
  replace HR1 := Aside0.mk (Kd.C_below HR1.out hb_)
  replace HR2 := Aside0.mk (Kd.C_below HR2.out hb_)
  replace HR3 := Aside0.mk (Kd.C_below HR3.out hb_)
  replace HRp := Aside0.mk (Kd.C_below HRp.out hb_)
  replace HRq := Aside0.mk (Kd.C_below HRq.out hb_)
  have HRr := Aside0.mk hr_
  have HCr := Aside0.mk hl_
  clear ho_ hb_ hl_ hr_
  have p0 : (0 : Int) ≤ 0 := Int.le_refl 0
  have q0 : (0 : Int) < (l3.length : Int) := hpos
  obtain ⟨ad, Ab, cb, eb, hxb, hlb, hib⟩ := at_L1 HR3.out 0 p0 q0
  cases eb
  rw [show ad.add (Int.toNat 0) = ad from by cases ad; rfl] at hxb
  have hxb2 : (w4.alloc (Obj.cells #[] 5)).cell? ad = some (.slice Ab (rd_L1 l3 0).length cb) := ((below_alloc (Below.refl w4.heap.size w4) (Obj.cells #[] 5)).cell (World.block_lt_of_cell? w4 _ hxb)).trans hxb
  have HRb := Aside0.mk hib
  have HCb := Aside0.mk hlb
  clear hlb hib
  replace p0 := eq_true p0
  replace q0 := eq_true q0
  obtain ⟨i5, hi5, _, hsz5, _⟩ := info_parts info5
  have hcut := Own.cut_take (P := Try.prog) 30 5 .i64 Try.underlying30 hi5 hsz5 .u8 Ap cp p l1.length hpl.out HCp.out
  have HRt := Kd.C_take HRp.out hpl.out
  have HCt : (p.take l1.length).length ≤ cp := by rw [List.length_take]; have := HCp.out; omega
  rw [← hpt.out] at HRt HCt hcut
  replace HRt := Aside0.mk HRt
  replace HCt := Aside0.mk HCt
  clear hi5 hsz5
  go_wp2_with fail
  refine (gf_Add.calls k Ap cp pt Ab cb (rd_L1 l3 0) s _ (Kd.C_below HRt.out (below_alloc (Below.refl w4.heap.size w4) (Obj.cells #[] 5))) HCt.out (Kd.C_below HRb.out (below_alloc (Below.refl w4.heap.size w4) (Obj.cells #[] 5))) HCb.out had.out).mono ?_
  rintro e w5 ⟨v_w5, rfl, ho_, hb_⟩
  obtain ⟨As, cs, rfl, hl_, hr_⟩ := Kd.R_reads ho_
  replace hb_ := below_step (below_alloc (Below.refl w4.heap.size w4) (Obj.cells #[] 5)) hb_
  replace HB := Aside0.mk (below_step HB.out hb_)
  replace HR1 := Aside0.mk (Kd.C_below HR1.out hb_)
  replace HR2 := Aside0.mk (Kd.C_below HR2.out hb_)
  replace HR3 := Aside0.mk (Kd.C_below HR3.out hb_)
  replace HRp := Aside0.mk (Kd.C_below HRp.out hb_)
  replace HRq := Aside0.mk (Kd.C_below HRq.out hb_)
  replace HRr := Aside0.mk (Kd.C_below HRr.out hb_)
  replace HRb := Aside0.mk (Kd.C_below HRb.out hb_)
  replace HRt := Aside0.mk (Kd.C_below HRt.out hb_)
  have HRs := Aside0.mk hr_
  have HCs := Aside0.mk hl_
  clear ho_ hb_ hl_ hr_
  go_wp2_with fail
  refine (rillref01_Add.calls k A1 c1 l1 Ab cb (rd_L1 l3 0) s _ HR1.out HC1.out HRb.out HCb.out hrd.out).mono ?_
  rintro e w6 ⟨v_w6, rfl, ho_, hb_⟩
  obtain ⟨As2, cs2, rfl, hl_, hr_⟩ := Kd.R_reads ho_
  replace HB := Aside0.mk (below_step HB.out hb_)
  replace HR1 := Aside0.mk (Kd.C_below HR1.out hb_)
  replace HR2 := Aside0.mk (Kd.C_below HR2.out hb_)
  replace HR3 := Aside0.mk (Kd.C_below HR3.out hb_)
  replace HRp := Aside0.mk (Kd.C_below HRp.out hb_)
  replace HRq := Aside0.mk (Kd.C_below HRq.out hb_)
  replace HRr := Aside0.mk (Kd.C_below HRr.out hb_)
  replace HRb := Aside0.mk (Kd.C_below HRb.out hb_)
  replace HRt := Aside0.mk (Kd.C_below HRt.out hb_)
  replace HRs := Aside0.mk (Kd.C_below HRs.out hb_)
  have HRs2 := Aside0.mk hr_
  have HCs2 := Aside0.mk hl_
  clear ho_ hb_ hl_ hr_
  go_wp2_with fail
  refine (rillref00_SameBytes.calls k As cs s As2 cs2 s true _ HRs.out HCs.out HRs2.out HCs2.out hs1.out).mono ?_
  rintro e w7 ⟨rfl, ⟨nd_, hw_⟩⟩
  have hb_ := pw_below_drewN (Below.refl w6.heap.size w6) nd_
  rw [← hw_] at hb_
  clear hw_
  replace HB := Aside0.mk (below_step HB.out hb_)
  replace HR1 := Aside0.mk (Kd.C_below HR1.out hb_)
  replace HR2 := Aside0.mk (Kd.C_below HR2.out hb_)
  replace HR3 := Aside0.mk (Kd.C_below HR3.out hb_)
  replace HRp := Aside0.mk (Kd.C_below HRp.out hb_)
  replace HRq := Aside0.mk (Kd.C_below HRq.out hb_)
  replace HRr := Aside0.mk (Kd.C_below HRr.out hb_)
  replace HRb := Aside0.mk (Kd.C_below HRb.out hb_)
  replace HRt := Aside0.mk (Kd.C_below HRt.out hb_)
  replace HRs := Aside0.mk (Kd.C_below HRs.out hb_)
  replace HRs2 := Aside0.mk (Kd.C_below HRs2.out hb_)
  clear hb_ nd_
  go_wp2_with fail
  refine (gf_Scale.calls k a0 Ap cp pt t _ HRt.out HCt.out hsc.out).mono ?_
  rintro e w8 ⟨v_w8, rfl, ho_, hb_⟩
  obtain ⟨At1, ct1, rfl, hl_, hr_⟩ := Kd.R_reads ho_
  replace HB := Aside0.mk (below_step HB.out hb_)
  replace HR1 := Aside0.mk (Kd.C_below HR1.out hb_)
  replace HR2 := Aside0.mk (Kd.C_below HR2.out hb_)
  replace HR3 := Aside0.mk (Kd.C_below HR3.out hb_)
  replace HRp := Aside0.mk (Kd.C_below HRp.out hb_)
  replace HRq := Aside0.mk (Kd.C_below HRq.out hb_)
  replace HRr := Aside0.mk (Kd.C_below HRr.out hb_)
  replace HRb := Aside0.mk (Kd.C_below HRb.out hb_)
  replace HRt := Aside0.mk (Kd.C_below HRt.out hb_)
  replace HRs := Aside0.mk (Kd.C_below HRs.out hb_)
  replace HRs2 := Aside0.mk (Kd.C_below HRs2.out hb_)
  have HRt1 := Aside0.mk hr_
  have HCt1 := Aside0.mk hl_
  clear ho_ hb_ hl_ hr_
  go_wp2_with fail
  refine (rillref01_Scale.calls k a0 A1 c1 l1 t _ HR1.out HC1.out hrs.out).mono ?_
  rintro e w9 ⟨v_w9, rfl, ho_, hb_⟩
  obtain ⟨At2, ct2, rfl, hl_, hr_⟩ := Kd.R_reads ho_
  replace HB := Aside0.mk (below_step HB.out hb_)
  replace HR1 := Aside0.mk (Kd.C_below HR1.out hb_)
  replace HR2 := Aside0.mk (Kd.C_below HR2.out hb_)
  replace HR3 := Aside0.mk (Kd.C_below HR3.out hb_)
  replace HRp := Aside0.mk (Kd.C_below HRp.out hb_)
  replace HRq := Aside0.mk (Kd.C_below HRq.out hb_)
  replace HRr := Aside0.mk (Kd.C_below HRr.out hb_)
  replace HRb := Aside0.mk (Kd.C_below HRb.out hb_)
  replace HRt := Aside0.mk (Kd.C_below HRt.out hb_)
  replace HRs := Aside0.mk (Kd.C_below HRs.out hb_)
  replace HRs2 := Aside0.mk (Kd.C_below HRs2.out hb_)
  replace HRt1 := Aside0.mk (Kd.C_below HRt1.out hb_)
  have HRt2 := Aside0.mk hr_
  have HCt2 := Aside0.mk hl_
  clear ho_ hb_ hl_ hr_
  go_wp2_with fail
  refine (rillref00_SameBytes.calls k At1 ct1 t At2 ct2 t true _ HRt1.out HCt1.out HRt2.out HCt2.out hs2.out).mono ?_
  rintro e w10 ⟨rfl, ⟨nd_, hw_⟩⟩
  have hb_ := pw_below_drewN (Below.refl w9.heap.size w9) nd_
  rw [← hw_] at hb_
  clear hw_
  replace HB := Aside0.mk (below_step HB.out hb_)
  replace HR1 := Aside0.mk (Kd.C_below HR1.out hb_)
  replace HR2 := Aside0.mk (Kd.C_below HR2.out hb_)
  replace HR3 := Aside0.mk (Kd.C_below HR3.out hb_)
  replace HRp := Aside0.mk (Kd.C_below HRp.out hb_)
  replace HRq := Aside0.mk (Kd.C_below HRq.out hb_)
  replace HRr := Aside0.mk (Kd.C_below HRr.out hb_)
  replace HRb := Aside0.mk (Kd.C_below HRb.out hb_)
  replace HRt := Aside0.mk (Kd.C_below HRt.out hb_)
  replace HRs := Aside0.mk (Kd.C_below HRs.out hb_)
  replace HRs2 := Aside0.mk (Kd.C_below HRs2.out hb_)
  replace HRt1 := Aside0.mk (Kd.C_below HRt1.out hb_)
  replace HRt2 := Aside0.mk (Kd.C_below HRt2.out hb_)
  clear hb_ nd_
  go_wp2_with fail
  refine (gf_Mix.calls k Ar cr r Aq cq q u _ HRr.out HCr.out HRq.out HCq.out hmx.out).mono ?_
  rintro e w11 ⟨v_w11, rfl, ho_, hb_⟩
  obtain ⟨Au1, cu1, rfl, hl_, hr_⟩ := Kd.R_reads ho_
  replace HB := Aside0.mk (below_step HB.out hb_)
  replace HR1 := Aside0.mk (Kd.C_below HR1.out hb_)
  replace HR2 := Aside0.mk (Kd.C_below HR2.out hb_)
  replace HR3 := Aside0.mk (Kd.C_below HR3.out hb_)
  replace HRp := Aside0.mk (Kd.C_below HRp.out hb_)
  replace HRq := Aside0.mk (Kd.C_below HRq.out hb_)
  replace HRr := Aside0.mk (Kd.C_below HRr.out hb_)
  replace HRb := Aside0.mk (Kd.C_below HRb.out hb_)
  replace HRt := Aside0.mk (Kd.C_below HRt.out hb_)
  replace HRs := Aside0.mk (Kd.C_below HRs.out hb_)
  replace HRs2 := Aside0.mk (Kd.C_below HRs2.out hb_)
  replace HRt1 := Aside0.mk (Kd.C_below HRt1.out hb_)
  replace HRt2 := Aside0.mk (Kd.C_below HRt2.out hb_)
  have HRu1 := Aside0.mk hr_
  have HCu1 := Aside0.mk hl_
  clear ho_ hb_ hl_ hr_
  go_wp2_with fail
  refine (rillref01_Mix.calls k A2 c2 l2 (some ad) c3 l3 u _ HR2.out HC2.out HR3.out HC3.out hrm.out).mono ?_
  rintro e w12 ⟨v_w12, rfl, ho_, hb_⟩
  obtain ⟨Au2, cu2, rfl, hl_, hr_⟩ := Kd.R_reads ho_
  replace HB := Aside0.mk (below_step HB.out hb_)
  replace HR1 := Aside0.mk (Kd.C_below HR1.out hb_)
  replace HR2 := Aside0.mk (Kd.C_below HR2.out hb_)
  replace HR3 := Aside0.mk (Kd.C_below HR3.out hb_)
  replace HRp := Aside0.mk (Kd.C_below HRp.out hb_)
  replace HRq := Aside0.mk (Kd.C_below HRq.out hb_)
  replace HRr := Aside0.mk (Kd.C_below HRr.out hb_)
  replace HRb := Aside0.mk (Kd.C_below HRb.out hb_)
  replace HRt := Aside0.mk (Kd.C_below HRt.out hb_)
  replace HRs := Aside0.mk (Kd.C_below HRs.out hb_)
  replace HRs2 := Aside0.mk (Kd.C_below HRs2.out hb_)
  replace HRt1 := Aside0.mk (Kd.C_below HRt1.out hb_)
  replace HRt2 := Aside0.mk (Kd.C_below HRt2.out hb_)
  replace HRu1 := Aside0.mk (Kd.C_below HRu1.out hb_)
  have HRu2 := Aside0.mk hr_
  have HCu2 := Aside0.mk hl_
  clear ho_ hb_ hl_ hr_
  go_wp2_with fail
  refine (rillref00_SameBytes.calls k Au1 cu1 u Au2 cu2 u true _ HRu1.out HCu1.out HRu2.out HCu2.out hs3.out).mono ?_
  rintro e w13 ⟨rfl, ⟨nd_, hw_⟩⟩
  have hb_ := pw_below_drewN (Below.refl w12.heap.size w12) nd_
  rw [← hw_] at hb_
  clear hw_
  replace HB := Aside0.mk (below_step HB.out hb_)
  replace HR1 := Aside0.mk (Kd.C_below HR1.out hb_)
  replace HR2 := Aside0.mk (Kd.C_below HR2.out hb_)
  replace HR3 := Aside0.mk (Kd.C_below HR3.out hb_)
  replace HRp := Aside0.mk (Kd.C_below HRp.out hb_)
  replace HRq := Aside0.mk (Kd.C_below HRq.out hb_)
  replace HRr := Aside0.mk (Kd.C_below HRr.out hb_)
  replace HRb := Aside0.mk (Kd.C_below HRb.out hb_)
  replace HRt := Aside0.mk (Kd.C_below HRt.out hb_)
  replace HRs := Aside0.mk (Kd.C_below HRs.out hb_)
  replace HRs2 := Aside0.mk (Kd.C_below HRs2.out hb_)
  replace HRt1 := Aside0.mk (Kd.C_below HRt1.out hb_)
  replace HRt2 := Aside0.mk (Kd.C_below HRt2.out hb_)
  replace HRu1 := Aside0.mk (Kd.C_below HRu1.out hb_)
  replace HRu2 := Aside0.mk (Kd.C_below HRu2.out hb_)
  clear hb_ nd_
  go_wp2_with fail
  refine (rillref00_Spare.calls k A1 c1 l1 p _ HR1.out HC1.out hsp.out).mono ?_
  rintro e w14 ⟨v_w14, rfl, ho_, hb_⟩
  obtain ⟨Ap2, cp2, rfl, hl_, hr_⟩ := Kd.R_reads ho_
  replace HB := Aside0.mk (below_step HB.out hb_)
  replace HR1 := Aside0.mk (Kd.C_below HR1.out hb_)
  replace HR2 := Aside0.mk (Kd.C_below HR2.out hb_)
  replace HR3 := Aside0.mk (Kd.C_below HR3.out hb_)
  replace HRp := Aside0.mk (Kd.C_below HRp.out hb_)
  replace HRq := Aside0.mk (Kd.C_below HRq.out hb_)
  replace HRr := Aside0.mk (Kd.C_below HRr.out hb_)
  replace HRb := Aside0.mk (Kd.C_below HRb.out hb_)
  replace HRt := Aside0.mk (Kd.C_below HRt.out hb_)
  replace HRs := Aside0.mk (Kd.C_below HRs.out hb_)
  replace HRs2 := Aside0.mk (Kd.C_below HRs2.out hb_)
  replace HRt1 := Aside0.mk (Kd.C_below HRt1.out hb_)
  replace HRt2 := Aside0.mk (Kd.C_below HRt2.out hb_)
  replace HRu1 := Aside0.mk (Kd.C_below HRu1.out hb_)
  replace HRu2 := Aside0.mk (Kd.C_below HRu2.out hb_)
  have HRp2 := Aside0.mk hr_
  have HCp2 := Aside0.mk hl_
  clear ho_ hb_ hl_ hr_
  go_wp2_with fail
  refine (rillref00_SameBytes.calls k Ap cp p Ap2 cp2 p true _ HRp.out HCp.out HRp2.out HCp2.out hs4.out).mono ?_
  rintro e w15 ⟨rfl, ⟨nd_, hw_⟩⟩
  have hb_ := pw_below_drewN (Below.refl w14.heap.size w14) nd_
  rw [← hw_] at hb_
  clear hw_
  replace HB := Aside0.mk (below_step HB.out hb_)
  replace HR1 := Aside0.mk (Kd.C_below HR1.out hb_)
  replace HR2 := Aside0.mk (Kd.C_below HR2.out hb_)
  replace HR3 := Aside0.mk (Kd.C_below HR3.out hb_)
  replace HRp := Aside0.mk (Kd.C_below HRp.out hb_)
  replace HRq := Aside0.mk (Kd.C_below HRq.out hb_)
  replace HRr := Aside0.mk (Kd.C_below HRr.out hb_)
  replace HRb := Aside0.mk (Kd.C_below HRb.out hb_)
  replace HRt := Aside0.mk (Kd.C_below HRt.out hb_)
  replace HRs := Aside0.mk (Kd.C_below HRs.out hb_)
  replace HRs2 := Aside0.mk (Kd.C_below HRs2.out hb_)
  replace HRt1 := Aside0.mk (Kd.C_below HRt1.out hb_)
  replace HRt2 := Aside0.mk (Kd.C_below HRt2.out hb_)
  replace HRu1 := Aside0.mk (Kd.C_below HRu1.out hb_)
  replace HRu2 := Aside0.mk (Kd.C_below HRu2.out hb_)
  replace HRp2 := Aside0.mk (Kd.C_below HRp2.out hb_)
  clear hb_ nd_
  go_wp2_with fail
  refine (rillref00_SameRows.calls k Aq cq q (some ad) c3 l3 true _ HRq.out HCq.out HR3.out HC3.out hs5.out).mono ?_
  rintro e w16 ⟨rfl, ⟨nd_, hw_⟩⟩
  have hb_ := pw_below_drewN (Below.refl w15.heap.size w15) nd_
  rw [← hw_] at hb_
  clear hw_
  replace HB := Aside0.mk (below_step HB.out hb_)
  replace HR1 := Aside0.mk (Kd.C_below HR1.out hb_)
  replace HR2 := Aside0.mk (Kd.C_below HR2.out hb_)
  replace HR3 := Aside0.mk (Kd.C_below HR3.out hb_)
  replace HRp := Aside0.mk (Kd.C_below HRp.out hb_)
  replace HRq := Aside0.mk (Kd.C_below HRq.out hb_)
  replace HRr := Aside0.mk (Kd.C_below HRr.out hb_)
  replace HRb := Aside0.mk (Kd.C_below HRb.out hb_)
  replace HRt := Aside0.mk (Kd.C_below HRt.out hb_)
  replace HRs := Aside0.mk (Kd.C_below HRs.out hb_)
  replace HRs2 := Aside0.mk (Kd.C_below HRs2.out hb_)
  replace HRt1 := Aside0.mk (Kd.C_below HRt1.out hb_)
  replace HRt2 := Aside0.mk (Kd.C_below HRt2.out hb_)
  replace HRu1 := Aside0.mk (Kd.C_below HRu1.out hb_)
  replace HRu2 := Aside0.mk (Kd.C_below HRu2.out hb_)
  replace HRp2 := Aside0.mk (Kd.C_below HRp2.out hb_)
  clear hb_ nd_
  go_wp2_with fail
  refine (rillref00_SameBytes.calls k Ar cr r A2 c2 l2 true _ HRr.out HCr.out HR2.out HC2.out hs6.out).mono ?_
  rintro e w17 ⟨rfl, ⟨nd_, hw_⟩⟩
  have hb_ := pw_below_drewN (Below.refl w16.heap.size w16) nd_
  rw [← hw_] at hb_
  clear hw_
  replace HB := Aside0.mk (below_step HB.out hb_)
  replace HR1 := Aside0.mk (Kd.C_below HR1.out hb_)
  replace HR2 := Aside0.mk (Kd.C_below HR2.out hb_)
  replace HR3 := Aside0.mk (Kd.C_below HR3.out hb_)
  replace HRp := Aside0.mk (Kd.C_below HRp.out hb_)
  replace HRq := Aside0.mk (Kd.C_below HRq.out hb_)
  replace HRr := Aside0.mk (Kd.C_below HRr.out hb_)
  replace HRb := Aside0.mk (Kd.C_below HRb.out hb_)
  replace HRt := Aside0.mk (Kd.C_below HRt.out hb_)
  replace HRs := Aside0.mk (Kd.C_below HRs.out hb_)
  replace HRs2 := Aside0.mk (Kd.C_below HRs2.out hb_)
  replace HRt1 := Aside0.mk (Kd.C_below HRt1.out hb_)
  replace HRt2 := Aside0.mk (Kd.C_below HRt2.out hb_)
  replace HRu1 := Aside0.mk (Kd.C_below HRu1.out hb_)
  replace HRu2 := Aside0.mk (Kd.C_below HRu2.out hb_)
  replace HRp2 := Aside0.mk (Kd.C_below HRp2.out hb_)
  clear hb_ nd_
  go_wp2
  go_ret
  exact ⟨rfl, HB.out⟩
set_option maxHeartbeats 8000000 in
set_option maxRecDepth 100000 in
theorem rilllaw01_GfLists.walk2 (k : Nat) (a0 : Int) (A1 : Option Addr) (c1 : Nat) (l1 : List Int) (A2 : Option Addr) (c2 : Nat) (l2 : List Int) (A3 : Option Addr) (c3 : Nat) (l3 : List (List Int)) (w : World) (hal : rilllaw01_alive.f k = some true) (h100 : (l3.length : Int) > 100) :
    Calls Try.prog 5 #[.int .u8 a0, .slice A1 l1.length c1, .slice A2 l2.length c2, .slice A3 l3.length c3] w fun e w' => e = .returned (.bool true) ∧ Below w.heap.size w w' := by
  go_enter Try.func5, Try.ntmps5
  go_wp2_with fail
  refine (rilllaw01_alive.calls k true _ hal).mono ?_
  rintro e w1 ⟨rfl, hb_⟩
  have HB := Aside0.mk hb_
  clear hb_
  go_wp2
  go_ret
  exact ⟨rfl, HB.out⟩
/-- THE ONE PURE STATEMENT of rilllaw01_GfLists. -/
def rilllaw01_GfLists.Pure : Prop := ∀ (a0 : Int) (l1 : List Int) (l2 : List Int) (l3 : List (List Int)), (Lit.int .u8 a0).wf = true → l1.length ≤ maxLen → l1.length * 1 ≤ 140737488351232 → (∀ x ∈ l1, (Lit.int .u8 x).wf = true) → l2.length ≤ maxLen → l2.length * 1 ≤ 140737488351232 → (∀ x ∈ l2, (Lit.int .u8 x).wf = true) → l3.length ≤ maxLen → l3.length * 24 ≤ 140737488351232 → (∀ x ∈ l3, (fun xs : List Int => xs.length ≤ maxLen ∧ xs.length * 1 ≤ 140737488351232 ∧ ∀ x ∈ xs, (fun x : Int => (Lit.int .u8 x).wf = true) x) x) → ∃ k, rilllaw01_alive.f k = some true ∧ ((l3.length : Int) > 100 ∨ ¬ (l3.length : Int) > 100 ∧ ∃ (p r s t u : List Int) (q : List (List Int)), rillref00_Spare.f k l1 = some p ∧ l1.length ≤ p.length ∧ rillref00_CopyRows.f k l3 = some q ∧ rillref00_CopyBytes.f l2 = some r ∧ gf_Add.f k (p.take l1.length) (if (l3.length : Int) > 0 then rd_L1 l3 0 else []) = some s ∧ rillref01_Add.f k l1 (if (l3.length : Int) > 0 then rd_L1 l3 0 else []) = some s ∧ rillref00_SameBytes.f k s s = some true ∧ gf_Scale.f k a0 (p.take l1.length) = some t ∧ rillref01_Scale.f k a0 l1 = some t ∧ rillref00_SameBytes.f k t t = some true ∧ gf_Mix.f k r q = some u ∧ rillref01_Mix.f k l2 l3 = some u ∧ rillref00_SameBytes.f k u u = some true ∧ rillref00_SameBytes.f k p p = some true ∧ rillref00_SameRows.f k q l3 = some true ∧ rillref00_SameBytes.f k r l2 = some true)
theorem rilllaw01_GfLists.walk (P : rilllaw01_GfLists.Pure) (a0 : Int) (a1 : Option Addr) (len1 cap1 : Nat) (z1 : List Int) (a2 : Option Addr) (len2 cap2 : Nat) (z2 : List Int) (A3 : Option Addr) (c3 : Nat) (l3 : List (List Int)) (w : World) (w0 : (Lit.int .u8 a0).wf = true) (w1 : (a1 = none ∧ len1 = 0 ∧ cap1 = 0 ∧ z1 = []) ∨ ∃ x, a1 = some x ∧ len1 ≤ cap1 ∧ cap1 ≤ maxLen ∧ z1.length = cap1 ∧ (∀ i, i < z1.length → w.cell? (x.add i) = some (.int .u8 (z1.getD i 0))) ∧ ∀ n ∈ z1, (Lit.int .u8 n).wf = true) (y1 : len1 * 1 ≤ 140737488351232) (w2 : (a2 = none ∧ len2 = 0 ∧ cap2 = 0 ∧ z2 = []) ∨ ∃ x, a2 = some x ∧ len2 ≤ cap2 ∧ cap2 ≤ maxLen ∧ z2.length = cap2 ∧ (∀ i, i < z2.length → w.cell? (x.add i) = some (.int .u8 (z2.getD i 0))) ∧ ∀ n ∈ z2, (Lit.int .u8 n).wf = true) (y2 : len2 * 1 ≤ 140737488351232) (hr3 : Kd.C (Kd.slice 5 (Kd.int .u8)) w A3 l3.length l3) (hc3 : l3.length ≤ c3) (w3 : l3.length ≤ maxLen ∧ l3.length * 24 ≤ 140737488351232 ∧ ∀ x ∈ l3, (fun xs : List Int => xs.length ≤ maxLen ∧ xs.length * 1 ≤ 140737488351232 ∧ ∀ x ∈ xs, (fun x : Int => (Lit.int .u8 x).wf = true) x) x) :
    Calls Try.prog 5 #[.int .u8 a0, .slice a1 len1 cap1, .slice a2 len2 cap2, .slice A3 l3.length c3] w fun e w' => e = .returned (.bool true) ∧ Below w.heap.size w w' := by
  obtain ⟨l1, rfl, hr1_, hm1, hw1, hc1⟩ := ReadsInt.ofRowC w1
  have hr1 := Kd.C_of_reads (d := (0 : Int)) (h1 := fun _ => rfl) hr1_
  obtain ⟨l2, rfl, hr2_, hm2, hw2, hc2⟩ := ReadsInt.ofRowC w2
  have hr2 := Kd.C_of_reads (d := (0 : Int)) (h1 := fun _ => rfl) hr2_
  have hP := P a0 l1 l2 l3 w0 hm1 y1 hw1 hm2 y2 hw2 w3.1 w3.2.1 w3.2.2
  obtain ⟨k, hal, h100 | ⟨h100, p, r, s, t, u, q, hsp, hpl, hcr, hcb, had, hrd, hs1, hsc, hrs, hs2, hmx, hrm, hs3, hs4, hs5, hs6⟩⟩ := hP
  · exact rilllaw01_GfLists.walk2 k a0 _ _ l1 _ _ l2 _ _ l3 w hal h100
  by_cases hpos : (l3.length : Int) > 0
  · rw [if_pos hpos] at had hrd
    exact rilllaw01_GfLists.walk1 k a0 _ _ l1 _ _ l2 _ _ l3 w hr1 hc1 hr2 hc2 hr3 hc3 p _ r s t u q hal h100 hpos hsp hpl rfl hcr hcb had hrd hs1 hsc hrs hs2 hmx hrm hs3 hs4 hs5 hs6
  · rw [if_neg hpos] at had hrd
    exact rilllaw01_GfLists.walk0 k a0 _ _ l1 _ _ l2 _ _ l3 w hr1 hc1 hr2 hc2 hr3 hc3 p _ r s t u q hal h100 hpos hsp hpl rfl hcr hcb had hrd hs1 hsc hrs hs2 hmx hrm hs3 hs4 hs5 hs6

end Go.Proofs.Ytdjdbddnaaenmaa.MGfLists
