-- printed by a program of this session (ownprint.py), out of the translation; Lean checks it
import Derived.Test.YtddabfokgecnoaaMFrameCutx0
import Derived.Test.YtddabfokgecnoaaMFrameCutx2
import Derived.Test.YtddabfokgecnoaaMFrameCutx3
namespace Go.Proofs.Ytddabfokgecnoaa.MFrameCut
open Go.RowKit Go.Proofs.YtddabfokgecnoaaW.PrintWords Go.Proofs.YtddabfokgecnoaaW.PrintLast Go.Proofs.YtddabfokgecnoaaW.PrintMore
attribute [local go_sem] max2_int min2_int max_two min_two max_three min_three max_four min_four   -- for this text's walks alone
set_option linter.unusedVariables false
set_option linter.unusedSimpArgs false

/-! ### rilllaw07_FrameCut: function 5 -/
/-- how many of the first n ends are no farther than a place -/
def rilllaw07_FrameCut.cntS (en : List Int) (a : Int) : Nat → Nat
  | 0 => 0
  | n + 1 => rilllaw07_FrameCut.cntS en a n + if en.getD n 0 ≤ a then 1 else 0
theorem rilllaw07_FrameCut.cnt_step (en : List Int) (a : Int) (i : Int) (h0 : 0 ≤ i) (h1 : i < (en.length : Int)) (h2 : (en.length : Int) ≤ 9223372036854775807) :
    ((rilllaw07_FrameCut.cntS en a (wrap64 (i + 1)).toNat : Nat) : Int) = (if rd en i ≤ a then wrap64 (((rilllaw07_FrameCut.cntS en a i.toNat : Nat) : Int) + 1) else ((rilllaw07_FrameCut.cntS en a i.toNat : Nat) : Int)) ∧ wrap64 (i + 1) = i + 1 := by
  have hb : rilllaw07_FrameCut.cntS en a i.toNat ≤ i.toNat := by
    have go : ∀ n, rilllaw07_FrameCut.cntS en a n ≤ n := by
      intro n
      induction n with
      | zero => exact Nat.le_refl 0
      | succ n ih =>
        simp only [rilllaw07_FrameCut.cntS]
        split <;> omega
    exact go _
  have hw : wrap64 (i + 1) = i + 1 := by unfold wrap64; omega
  refine ⟨?_, hw⟩
  rw [hw, show (i + 1).toNat = i.toNat + 1 from by omega]
  simp only [rilllaw07_FrameCut.cntS]
  have e : rd en i = en.getD i.toNat 0 := rfl
  rw [e]
  by_cases c : en.getD i.toNat 0 ≤ a
  · rw [if_pos c, if_pos c]
    unfold wrap64
    omega
  · rw [if_neg c, if_neg c]
    rfl
set_option maxHeartbeats 8000000 in
set_option maxRecDepth 100000 in
theorem rilllaw07_FrameCut.walk0 (k : Nat) (A0 : Option Addr) (c0 : Nat) (l0 : List (List Int)) (a1 : Int) (w : World) (hr0 : Kd.C (Kd.slice 5 (Kd.int .u8)) w A0 l0.length l0) (hc0 : l0.length ≤ c0)
    (al en : List Int) (hpk : rilllaw07_pack.f k l0 = some (al, en, false)) :
    Calls Try.prog 5 #[.slice A0 l0.length c0, .int .i64 a1] w fun e w' => e = .returned (.bool true) ∧ Below w.heap.size w w' := by
  have HR0 := Aside0.mk hr0
  have HC0 := Aside0.mk hc0
  replace hpk := Aside0.mk hpk
  clear hr0 hc0
  go_enter Try.func5, Try.ntmps5
  go_wp2_with fail
  refine (rilllaw07_alive.calls true _ rfl).mono ?_
  rintro e w1 ⟨rfl, hb_⟩
  have HB := Aside0.mk hb_
  replace HR0 := Aside0.mk (Kd.C_below HR0.out hb_)
  clear hb_
  go_wp2_with fail
  refine (rilllaw07_pack.calls k A0 c0 l0 al en false _ HR0.out HC0.out hpk.out).mono ?_
  rintro e w2 ⟨va, ve, rfl, ha_, he_, hb_⟩
  obtain ⟨Aa, ca, rfl, hla, hra⟩ := Kd.R_reads ha_
  obtain ⟨Ae, ce, rfl, hle, hre⟩ := Kd.R_reads he_
  replace HB := Aside0.mk (below_step HB.out hb_)
  replace HR0 := Aside0.mk (Kd.C_below HR0.out hb_)
  have HRa := Aside0.mk hra
  have HCa := Aside0.mk hla
  have HRe := Aside0.mk hre
  have HCe := Aside0.mk hle
  clear ha_ he_ hb_ hla hra hle hre
  go_wp2
  go_ret
  exact ⟨rfl, HB.out⟩
set_option maxHeartbeats 8000000 in
set_option maxRecDepth 100000 in
theorem rilllaw07_FrameCut.walk1 (k : Nat) (A0 : Option Addr) (c0 : Nat) (l0 : List (List Int)) (a1 : Int) (w : World) (hr0 : Kd.C (Kd.slice 5 (Kd.int .u8)) w A0 l0.length l0) (hc0 : l0.length ≤ c0)
    (al en : List Int) (hpk : rilllaw07_pack.f k l0 = some (al, en, true)) (hat : a1 < 0 ∨ a1 > (al.length : Int)) :
    Calls Try.prog 5 #[.slice A0 l0.length c0, .int .i64 a1] w fun e w' => e = .returned (.bool true) ∧ Below w.heap.size w w' := by
  have HR0 := Aside0.mk hr0
  have HC0 := Aside0.mk hc0
  replace hpk := Aside0.mk hpk
  clear hr0 hc0
  go_enter Try.func5, Try.ntmps5
  go_wp2_with fail
  refine (rilllaw07_alive.calls true _ rfl).mono ?_
  rintro e w1 ⟨rfl, hb_⟩
  have HB := Aside0.mk hb_
  replace HR0 := Aside0.mk (Kd.C_below HR0.out hb_)
  clear hb_
  go_wp2_with fail
  refine (rilllaw07_pack.calls k A0 c0 l0 al en true _ HR0.out HC0.out hpk.out).mono ?_
  rintro e w2 ⟨va, ve, rfl, ha_, he_, hb_⟩
  obtain ⟨Aa, ca, rfl, hla, hra⟩ := Kd.R_reads ha_
  obtain ⟨Ae, ce, rfl, hle, hre⟩ := Kd.R_reads he_
  replace HB := Aside0.mk (below_step HB.out hb_)
  replace HR0 := Aside0.mk (Kd.C_below HR0.out hb_)
  have HRa := Aside0.mk hra
  have HCa := Aside0.mk hla
  have HRe := Aside0.mk hre
  have HCe := Aside0.mk hle
  clear ha_ he_ hb_ hla hra hle hre
  rcases hat with hat | hat
  · go_wp2
    go_ret
    exact ⟨rfl, HB.out⟩
  · go_wp2
    go_ret
    exact ⟨rfl, HB.out⟩
set_option maxHeartbeats 8000000 in
set_option maxRecDepth 100000 in
theorem rilllaw07_FrameCut.walk2 (k : Nat) (A0 : Option Addr) (c0 : Nat) (l0 : List (List Int)) (m : Nat) (w : World) (hr0 : Kd.C (Kd.slice 5 (Kd.int .u8)) w A0 l0.length l0) (hc0 : l0.length ≤ c0)
    (al en at_ al2 q : List Int) (p pre : List (List Int)) (wh n : Nat) (hpk : rilllaw07_pack.f k l0 = some (al, en, true)) (hat : m ≤ al.length) (hate : at_ = al.take m) (hsc : frame_Scan.f k at_ = some (p, (n : Int)))
    (hwh : wh = rilllaw07_FrameCut.cntS en (m : Int) en.length) (hwl : wh ≤ l0.length) (hpre : pre = l0.take wh) (hsr : rillref00_SameRows.f k p pre = some true) (hn : n ≤ m) (hal2 : al2 = at_.drop n) (hnx : frame_Next.f k al2 = some (q, 0, 0)) (hw0 : 0 < wh) (hwe : wh ≤ en.length) (hwb : wh ≤ 1000) (hend : rd en (wrap64 ((wh : Int) - 1)) = (n : Int)) :
    Calls Try.prog 5 #[.slice A0 l0.length c0, .int .i64 (m : Int)] w fun e w' => e = .returned (.bool true) ∧ Below w.heap.size w w' := by
  have HR0 := Aside0.mk hr0
  have HC0 := Aside0.mk hc0
  replace hpk := Aside0.mk hpk
  replace hate := Aside0.mk hate
  replace hsc := Aside0.mk hsc
  replace hwh := Aside0.mk hwh
  replace hwl := Aside0.mk hwl
  replace hpre := Aside0.mk hpre
  replace hsr := Aside0.mk hsr
  replace hn := Aside0.mk hn
  replace hal2 := Aside0.mk hal2
  replace hnx := Aside0.mk hnx
  replace hw0 := Aside0.mk hw0
  replace hwe := Aside0.mk hwe
  replace hwb := Aside0.mk hwb
  replace hend := Aside0.mk hend
  clear hr0 hc0
  go_enter Try.func5, Try.ntmps5
  go_wp2_with fail
  refine (rilllaw07_alive.calls true _ rfl).mono ?_
  rintro e w1 ⟨rfl, hb_⟩
  have HB := Aside0.mk hb_
  replace HR0 := Aside0.mk (Kd.C_below HR0.out hb_)
  clear hb_
  go_wp2_with fail
  refine (rilllaw07_pack.calls k A0 c0 l0 al en true _ HR0.out HC0.out hpk.out).mono ?_
  rintro e w2 ⟨va, ve, rfl, ha_, he_, hb_⟩
  obtain ⟨Aa, ca, rfl, hla, hra⟩ := Kd.R_reads ha_
  obtain ⟨Ae, ce, rfl, hle, hre⟩ := Kd.R_reads he_
  replace HB := Aside0.mk (below_step HB.out hb_)
  replace HR0 := Aside0.mk (Kd.C_below HR0.out hb_)
  have HRa := Aside0.mk hra
  have HCa := Aside0.mk hla
  have HRe := Aside0.mk hre
  have HCe := Aside0.mk hle
  clear ha_ he_ hb_ hla hra hle hre
  obtain ⟨i_, hi_, _, hsz_, _⟩ := info_parts info5
  have hcut := Own.cut_to_ (P := Try.prog) 22 5 .i64 Try.underlying22 hi_ Aa ca al m hat HCa.out
  clear hi_ hsz_
  have HRt := Kd.C_take HRa.out hat
  have HCt : (al.take m).length ≤ ca := by rw [List.length_take]; have := HCa.out; omega
  rw [← hate.out] at HRt HCt hcut
  replace HRt := Aside0.mk HRt
  replace HCt := Aside0.mk HCt
  have hm1 : ((m : Nat) : Int) ≤ (al.length : Int) := by omega
  go_wp2_with fail
  refine (frame_Scan.calls k Aa ca at_ p (n : Int) _ HRt.out HCt.out hsc.out).mono ?_
  rintro e w3 ⟨vp, rfl, ho_, hb_⟩
  obtain ⟨Ap, cp, rfl, hlp, hrp⟩ := Kd.S_reads ho_
  replace HB := Aside0.mk (below_step HB.out hb_)
  replace HR0 := Aside0.mk (Kd.C_below HR0.out hb_)
  replace HRa := Aside0.mk (Kd.C_below HRa.out hb_)
  replace HRe := Aside0.mk (Kd.C_below HRe.out hb_)
  replace HRt := Aside0.mk (Kd.C_below HRt.out hb_)
  have HRp := Aside0.mk hrp
  have HCp := Aside0.mk hlp
  clear ho_ hb_ hlp hrp hcut
  go_wp2_with fail
  go_loopg [10, 11] (en.length + 1) (fun kq v10 v11 w' => ∃ i : Int, v10 = .int .i64 ((rilllaw07_FrameCut.cntS en (m : Int) i.toNat : Nat) : Int) ∧ v11 = .int .i64 i ∧ Aside0 (0 ≤ i ∧ i ≤ (en.length : Int)) ∧ Aside0 ((kq : Int) + i = (en.length : Int) + 1) ∧ Aside0 (Below w3.heap.size w3 w') ∧ Aside0 (Below w.heap.size w w'))
  case atStart => exact ⟨0, rfl, rfl, ⟨⟨Int.le_refl 0, by omega⟩⟩, ⟨by omega⟩, ⟨Below.refl _ _⟩, HB⟩
  case round =>
    clear HB
    obtain ⟨i, rfl, rfl, HI0, HIM, HN, HB⟩ := hrel
    replace HR0 := Aside0.mk (Kd.C_below HR0.out HN.out)
    replace HRa := Aside0.mk (Kd.C_below HRa.out HN.out)
    replace HRe := Aside0.mk (Kd.C_below HRe.out HN.out)
    replace HRt := Aside0.mk (Kd.C_below HRt.out HN.out)
    replace HRp := Aside0.mk (Kd.C_below HRp.out HN.out)
    by_cases ci : i < (en.length : Int)
    · have cib : decide (i < (en.length : Int)) = true := decide_eq_true ci
      have pi : 0 ≤ i := HI0.out.1
      have qi := ci
      obtain ⟨adi, ei, hxi⟩ := Kd.at_int HRe.out i pi qi
      cases ei
      have hst := Aside0.mk (rilllaw07_FrameCut.cnt_step en (m : Int) i pi qi (by have := HRe.out.2.1; omega))
      replace pi := eq_true pi
      replace qi := eq_true qi
      have HC_ := Aside0.mk ci
      clear ci
      by_cases cj : rd en i ≤ (m : Int)
      · have cjb : decide (rd en i ≤ (m : Int)) = true := decide_eq_true cj
        have hs_ := hst.out
        rw [if_pos cj] at hs_
        replace hst := Aside0.mk hs_
        clear hs_ cj
        go_wp2_with fail
        go_roundg (gk - 1)
        case measure => have := HIM.out; have := HI0.out; have := HC_.out; omega
        case rel => exact ⟨wrap64 (i + 1), (by rw [hst.out.1]), rfl, ⟨by rw [hst.out.2]; have := HI0.out; have := HC_.out; omega⟩, ⟨by rw [hst.out.2]; have := HIM.out; have := HI0.out; have := HC_.out; omega⟩, ⟨by repeat (first | exact HN.out | apply pw_below_drewN)⟩, ⟨by repeat (first | exact HB.out | apply pw_below_drewN)⟩⟩
      · have cjb : decide (rd en i ≤ (m : Int)) = false := decide_eq_false cj
        have hs_ := hst.out
        rw [if_neg cj] at hs_
        replace hst := Aside0.mk hs_
        clear hs_ cj
        go_wp2_with fail
        go_roundg (gk - 1)
        case measure => have := HIM.out; have := HI0.out; have := HC_.out; omega
        case rel => exact ⟨wrap64 (i + 1), (by rw [hst.out.1]), rfl, ⟨by rw [hst.out.2]; have := HI0.out; have := HC_.out; omega⟩, ⟨by rw [hst.out.2]; have := HIM.out; have := HI0.out; have := HC_.out; omega⟩, ⟨by repeat (first | exact HN.out | apply pw_below_drewN)⟩, ⟨by repeat (first | exact HB.out | apply pw_below_drewN)⟩⟩
    · have cib : decide (i < (en.length : Int)) = false := decide_eq_false ci
      have ei_ : rilllaw07_FrameCut.cntS en (m : Int) i.toNat = wh := by rw [hwh.out, show i.toNat = en.length from by have := HI0.out; omega]
      rw [ei_]
      clear ei_ ci HN HIM HI0
      obtain ⟨i_, hi_, _, hsz_, _⟩ := info_parts info22
      have hcut := Own.cut_to_ (P := Try.prog) 34 22 .i64 Try.underlying34 hi_ A0 c0 l0 wh hwl.out HC0.out
      clear hi_ hsz_
      have HRq := Kd.C_take HR0.out hwl.out
      have HCq : (l0.take wh).length ≤ c0 := by rw [List.length_take]; have := HC0.out; omega
      rw [← hpre.out] at HRq HCq hcut
      replace HRq := Aside0.mk HRq
      replace HCq := Aside0.mk HCq
      have hw1 : ((wh : Nat) : Int) ≤ (l0.length : Int) := by have := hwl.out; omega
      go_wp2_with fail
      refine (rillref00_SameRows.calls k Ap cp p A0 c0 pre true _ HRp.out HCp.out HRq.out HCq.out hsr.out).mono ?_
      rintro e w5 ⟨rfl, ⟨nd_, hw_⟩⟩
      have hb_ := pw_below_drewN (Below.refl wr.heap.size wr) nd_
      rw [← hw_] at hb_
      clear hw_ hcut hw1
      replace HB := Aside0.mk (below_step HB.out hb_)
      replace HR0 := Aside0.mk (Kd.C_below HR0.out hb_)
      replace HRa := Aside0.mk (Kd.C_below HRa.out hb_)
      replace HRe := Aside0.mk (Kd.C_below HRe.out hb_)
      replace HRt := Aside0.mk (Kd.C_below HRt.out hb_)
      replace HRp := Aside0.mk (Kd.C_below HRp.out hb_)
      clear hb_ nd_
      have pe : 0 ≤ wrap64 ((wh : Int) - 1) := by have := hwe.out; have := hw0.out; have := hwb.out; unfold wrap64; omega
      have qe : wrap64 ((wh : Int) - 1) < (en.length : Int) := by have := hwe.out; have := hw0.out; have := hwb.out; unfold wrap64; omega
      obtain ⟨ade, ee, hxe⟩ := Kd.at_int HRe.out _ pe qe
      cases ee
      replace pe := eq_true pe
      replace qe := eq_true qe
      rw [hend.out] at hxe
      have hz1 : (0 < wh) = True := eq_true hw0.out
      have hz2 : decide (0 < wh) = true := decide_eq_true hw0.out
      have hz3 : decide ((0 : Int) < (wh : Int)) = true := decide_eq_true (by have := hw0.out; omega)
      have hz4 : (((wh : Nat) : Int) == 0) = false := beq_eq_false_iff_ne.2 (by have := hw0.out; omega)
      have hz5 : (wh == 0) = false := beq_eq_false_iff_ne.2 (by have := hw0.out; omega)
      obtain ⟨i_, hi_, _, hsz_, _⟩ := info_parts info5
      obtain ⟨A9, hcut, hA9, hC9⟩ := Own.cut_mid_ (P := Try.prog) (Kd.int .u8) 22 5 .i64 .i64 Try.underlying22 hi_ hsz_ Aa ca al n m hn.out hat HCa.out
      clear hi_ hsz_
      have HR9 := Aside0.mk (hA9 _ HRa.out)
      clear hA9
      have he9 := hal2.out
      rw [hate.out] at he9
      rw [← he9] at HR9 hC9 hcut
      clear he9
      replace hC9 := Aside0.mk hC9
      go_wp2_with fail
      refine (frame_Next.calls k A9 (ca - n) al2 q 0 0 _ HR9.out hC9.out hnx.out).mono ?_
      rintro e w6 ⟨v9_, rfl, ho_, hb_⟩
      replace HB := Aside0.mk (below_step HB.out hb_)
      clear ho_ hb_
      go_wp2
      go_ret
      exact ⟨rfl, HB.out⟩
set_option maxHeartbeats 8000000 in
set_option maxRecDepth 100000 in
theorem rilllaw07_FrameCut.walk3 (k : Nat) (A0 : Option Addr) (c0 : Nat) (l0 : List (List Int)) (m : Nat) (w : World) (hr0 : Kd.C (Kd.slice 5 (Kd.int .u8)) w A0 l0.length l0) (hc0 : l0.length ≤ c0)
    (al en at_ al2 q : List Int) (p pre : List (List Int)) (wh n : Nat) (hpk : rilllaw07_pack.f k l0 = some (al, en, true)) (hat : m ≤ al.length) (hate : at_ = al.take m) (hsc : frame_Scan.f k at_ = some (p, (n : Int)))
    (hwh : wh = rilllaw07_FrameCut.cntS en (m : Int) en.length) (hwl : wh ≤ l0.length) (hpre : pre = l0.take wh) (hsr : rillref00_SameRows.f k p pre = some true) (hn : n ≤ m) (hal2 : al2 = at_.drop n) (hnx : frame_Next.f k al2 = some (q, 0, 0)) (hw0 : wh = 0) (hn0 : n = 0) :
    Calls Try.prog 5 #[.slice A0 l0.length c0, .int .i64 (m : Int)] w fun e w' => e = .returned (.bool true) ∧ Below w.heap.size w w' := by
  have HR0 := Aside0.mk hr0
  have HC0 := Aside0.mk hc0
  replace hpk := Aside0.mk hpk
  replace hate := Aside0.mk hate
  replace hsc := Aside0.mk hsc
  replace hwh := Aside0.mk hwh
  replace hwl := Aside0.mk hwl
  replace hpre := Aside0.mk hpre
  replace hsr := Aside0.mk hsr
  replace hn := Aside0.mk hn
  replace hal2 := Aside0.mk hal2
  replace hnx := Aside0.mk hnx
  replace hw0 := Aside0.mk hw0
  replace hn0 := Aside0.mk hn0
  clear hr0 hc0
  go_enter Try.func5, Try.ntmps5
  go_wp2_with fail
  refine (rilllaw07_alive.calls true _ rfl).mono ?_
  rintro e w1 ⟨rfl, hb_⟩
  have HB := Aside0.mk hb_
  replace HR0 := Aside0.mk (Kd.C_below HR0.out hb_)
  clear hb_
  go_wp2_with fail
  refine (rilllaw07_pack.calls k A0 c0 l0 al en true _ HR0.out HC0.out hpk.out).mono ?_
  rintro e w2 ⟨va, ve, rfl, ha_, he_, hb_⟩
  obtain ⟨Aa, ca, rfl, hla, hra⟩ := Kd.R_reads ha_
  obtain ⟨Ae, ce, rfl, hle, hre⟩ := Kd.R_reads he_
  replace HB := Aside0.mk (below_step HB.out hb_)
  replace HR0 := Aside0.mk (Kd.C_below HR0.out hb_)
  have HRa := Aside0.mk hra
  have HCa := Aside0.mk hla
  have HRe := Aside0.mk hre
  have HCe := Aside0.mk hle
  clear ha_ he_ hb_ hla hra hle hre
  obtain ⟨i_, hi_, _, hsz_, _⟩ := info_parts info5
  have hcut := Own.cut_to_ (P := Try.prog) 22 5 .i64 Try.underlying22 hi_ Aa ca al m hat HCa.out
  clear hi_ hsz_
  have HRt := Kd.C_take HRa.out hat
  have HCt : (al.take m).length ≤ ca := by rw [List.length_take]; have := HCa.out; omega
  rw [← hate.out] at HRt HCt hcut
  replace HRt := Aside0.mk HRt
  replace HCt := Aside0.mk HCt
  have hm1 : ((m : Nat) : Int) ≤ (al.length : Int) := by omega
  go_wp2_with fail
  refine (frame_Scan.calls k Aa ca at_ p (n : Int) _ HRt.out HCt.out hsc.out).mono ?_
  rintro e w3 ⟨vp, rfl, ho_, hb_⟩
  obtain ⟨Ap, cp, rfl, hlp, hrp⟩ := Kd.S_reads ho_
  replace HB := Aside0.mk (below_step HB.out hb_)
  replace HR0 := Aside0.mk (Kd.C_below HR0.out hb_)
  replace HRa := Aside0.mk (Kd.C_below HRa.out hb_)
  replace HRe := Aside0.mk (Kd.C_below HRe.out hb_)
  replace HRt := Aside0.mk (Kd.C_below HRt.out hb_)
  have HRp := Aside0.mk hrp
  have HCp := Aside0.mk hlp
  clear ho_ hb_ hlp hrp hcut
  go_wp2_with fail
  go_loopg [10, 11] (en.length + 1) (fun kq v10 v11 w' => ∃ i : Int, v10 = .int .i64 ((rilllaw07_FrameCut.cntS en (m : Int) i.toNat : Nat) : Int) ∧ v11 = .int .i64 i ∧ Aside0 (0 ≤ i ∧ i ≤ (en.length : Int)) ∧ Aside0 ((kq : Int) + i = (en.length : Int) + 1) ∧ Aside0 (Below w3.heap.size w3 w') ∧ Aside0 (Below w.heap.size w w'))
  case atStart => exact ⟨0, rfl, rfl, ⟨⟨Int.le_refl 0, by omega⟩⟩, ⟨by omega⟩, ⟨Below.refl _ _⟩, HB⟩
  case round =>
    clear HB
    obtain ⟨i, rfl, rfl, HI0, HIM, HN, HB⟩ := hrel
    replace HR0 := Aside0.mk (Kd.C_below HR0.out HN.out)
    replace HRa := Aside0.mk (Kd.C_below HRa.out HN.out)
    replace HRe := Aside0.mk (Kd.C_below HRe.out HN.out)
    replace HRt := Aside0.mk (Kd.C_below HRt.out HN.out)
    replace HRp := Aside0.mk (Kd.C_below HRp.out HN.out)
    by_cases ci : i < (en.length : Int)
    · have cib : decide (i < (en.length : Int)) = true := decide_eq_true ci
      have pi : 0 ≤ i := HI0.out.1
      have qi := ci
      obtain ⟨adi, ei, hxi⟩ := Kd.at_int HRe.out i pi qi
      cases ei
      have hst := Aside0.mk (rilllaw07_FrameCut.cnt_step en (m : Int) i pi qi (by have := HRe.out.2.1; omega))
      replace pi := eq_true pi
      replace qi := eq_true qi
      have HC_ := Aside0.mk ci
      clear ci
      by_cases cj : rd en i ≤ (m : Int)
      · have cjb : decide (rd en i ≤ (m : Int)) = true := decide_eq_true cj
        have hs_ := hst.out
        rw [if_pos cj] at hs_
        replace hst := Aside0.mk hs_
        clear hs_ cj
        go_wp2_with fail
        go_roundg (gk - 1)
        case measure => have := HIM.out; have := HI0.out; have := HC_.out; omega
        case rel => exact ⟨wrap64 (i + 1), (by rw [hst.out.1]), rfl, ⟨by rw [hst.out.2]; have := HI0.out; have := HC_.out; omega⟩, ⟨by rw [hst.out.2]; have := HIM.out; have := HI0.out; have := HC_.out; omega⟩, ⟨by repeat (first | exact HN.out | apply pw_below_drewN)⟩, ⟨by repeat (first | exact HB.out | apply pw_below_drewN)⟩⟩
      · have cjb : decide (rd en i ≤ (m : Int)) = false := decide_eq_false cj
        have hs_ := hst.out
        rw [if_neg cj] at hs_
        replace hst := Aside0.mk hs_
        clear hs_ cj
        go_wp2_with fail
        go_roundg (gk - 1)
        case measure => have := HIM.out; have := HI0.out; have := HC_.out; omega
        case rel => exact ⟨wrap64 (i + 1), (by rw [hst.out.1]), rfl, ⟨by rw [hst.out.2]; have := HI0.out; have := HC_.out; omega⟩, ⟨by rw [hst.out.2]; have := HIM.out; have := HI0.out; have := HC_.out; omega⟩, ⟨by repeat (first | exact HN.out | apply pw_below_drewN)⟩, ⟨by repeat (first | exact HB.out | apply pw_below_drewN)⟩⟩
    · have cib : decide (i < (en.length : Int)) = false := decide_eq_false ci
      have ei_ : rilllaw07_FrameCut.cntS en (m : Int) i.toNat = wh := by rw [hwh.out, show i.toNat = en.length from by have := HI0.out; omega]
      rw [ei_]
      clear ei_ ci HN HIM HI0
      obtain ⟨i_, hi_, _, hsz_, _⟩ := info_parts info22
      have hcut := Own.cut_to_ (P := Try.prog) 34 22 .i64 Try.underlying34 hi_ A0 c0 l0 wh hwl.out HC0.out
      clear hi_ hsz_
      have HRq := Kd.C_take HR0.out hwl.out
      have HCq : (l0.take wh).length ≤ c0 := by rw [List.length_take]; have := HC0.out; omega
      rw [← hpre.out] at HRq HCq hcut
      replace HRq := Aside0.mk HRq
      replace HCq := Aside0.mk HCq
      have hw1 : ((wh : Nat) : Int) ≤ (l0.length : Int) := by have := hwl.out; omega
      go_wp2_with fail
      refine (rillref00_SameRows.calls k Ap cp p A0 c0 pre true _ HRp.out HCp.out HRq.out HCq.out hsr.out).mono ?_
      rintro e w5 ⟨rfl, ⟨nd_, hw_⟩⟩
      have hb_ := pw_below_drewN (Below.refl wr.heap.size wr) nd_
      rw [← hw_] at hb_
      clear hw_ hcut hw1
      replace HB := Aside0.mk (below_step HB.out hb_)
      replace HR0 := Aside0.mk (Kd.C_below HR0.out hb_)
      replace HRa := Aside0.mk (Kd.C_below HRa.out hb_)
      replace HRe := Aside0.mk (Kd.C_below HRe.out hb_)
      replace HRt := Aside0.mk (Kd.C_below HRt.out hb_)
      replace HRp := Aside0.mk (Kd.C_below HRp.out hb_)
      clear hb_ nd_
      have hz1 : (0 < wh) = False := eq_false (by rw [hw0.out]; decide)
      have hz2 : decide (0 < wh) = false := decide_eq_false (by rw [hw0.out]; decide)
      have hz3 : decide ((0 : Int) < (wh : Int)) = false := decide_eq_false (by rw [hw0.out]; decide)
      have hz4 : (((wh : Nat) : Int) == 0) = true := by rw [hw0.out]; rfl
      have hz5 : (wh == 0) = true := by rw [hw0.out]; rfl
      have hz6 : (((n : Nat) : Int) == 0) = true := by rw [hn0.out]; rfl
      have hz7 : (n == 0) = true := by rw [hn0.out]; rfl
      have hz8 : (((n : Nat) : Int) != 0) = false := by rw [hn0.out]; rfl
      have hz9 : (n != 0) = false := by rw [hn0.out]; rfl
      obtain ⟨i_, hi_, _, hsz_, _⟩ := info_parts info5
      obtain ⟨A9, hcut, hA9, hC9⟩ := Own.cut_mid_ (P := Try.prog) (Kd.int .u8) 22 5 .i64 .i64 Try.underlying22 hi_ hsz_ Aa ca al n m hn.out hat HCa.out
      clear hi_ hsz_
      have HR9 := Aside0.mk (hA9 _ HRa.out)
      clear hA9
      have he9 := hal2.out
      rw [hate.out] at he9
      rw [← he9] at HR9 hC9 hcut
      clear he9
      replace hC9 := Aside0.mk hC9
      go_wp2_with fail
      refine (frame_Next.calls k A9 (ca - n) al2 q 0 0 _ HR9.out hC9.out hnx.out).mono ?_
      rintro e w6 ⟨v9_, rfl, ho_, hb_⟩
      replace HB := Aside0.mk (below_step HB.out hb_)
      clear ho_ hb_
      go_wp2
      go_ret
      exact ⟨rfl, HB.out⟩
/-- THE ONE PURE STATEMENT of rilllaw07_FrameCut. -/
def rilllaw07_FrameCut.Pure : Prop := ∀ (l0 : List (List Int)) (a1 : Int), l0.length ≤ maxLen → l0.length * 24 ≤ 140737488351232 → (∀ x ∈ l0, (fun xs : List Int => xs.length ≤ maxLen ∧ xs.length * 1 ≤ 140737488351232 ∧ ∀ x ∈ xs, (fun x : Int => (Lit.int .u8 x).wf = true) x) x) → (Lit.int .i64 a1).wf = true → ∃ (k : Nat) (al en : List Int), rilllaw07_pack.f k l0 = some (al, en, false) ∨ (rilllaw07_pack.f k l0 = some (al, en, true) ∧ (a1 < 0 ∨ a1 > (al.length : Int))) ∨ ∃ (m wh n : Nat) (q : List Int) (p : List (List Int)), a1 = (m : Int) ∧ rilllaw07_pack.f k l0 = some (al, en, true) ∧ m ≤ al.length ∧ frame_Scan.f k (al.take m) = some (p, (n : Int)) ∧ wh = rilllaw07_FrameCut.cntS en (m : Int) en.length ∧ wh ≤ l0.length ∧ rillref00_SameRows.f k p (l0.take wh) = some true ∧ n ≤ m ∧ frame_Next.f k ((al.take m).drop n) = some (q, 0, 0) ∧ ((0 < wh ∧ wh ≤ en.length ∧ wh ≤ 1000 ∧ rd en (wrap64 ((wh : Int) - 1)) = (n : Int)) ∨ (wh = 0 ∧ n = 0))
theorem rilllaw07_FrameCut.walk (P : rilllaw07_FrameCut.Pure) (A0 : Option Addr) (c0 : Nat) (l0 : List (List Int)) (a1 : Int) (w : World) (hr0 : Kd.C (Kd.slice 5 (Kd.int .u8)) w A0 l0.length l0) (hc0 : l0.length ≤ c0) (w0 : l0.length ≤ maxLen ∧ l0.length * 24 ≤ 140737488351232 ∧ ∀ x ∈ l0, (fun xs : List Int => xs.length ≤ maxLen ∧ xs.length * 1 ≤ 140737488351232 ∧ ∀ x ∈ xs, (fun x : Int => (Lit.int .u8 x).wf = true) x) x) (w1 : (Lit.int .i64 a1).wf = true) :
    Calls Try.prog 5 #[.slice A0 l0.length c0, .int .i64 a1] w fun e w' => e = .returned (.bool true) ∧ Below w.heap.size w w' := by
  have hP := P l0 a1 w0.1 w0.2.1 w0.2.2 w1
  obtain ⟨k, al, en, hpk | ⟨hpk, hat⟩ | ⟨m, wh, n, q, p, rfl, hpk, hat, hsc, hwh, hwl, hsr, hn, hnx, ⟨hw0, hwe, hwb, hend⟩ | ⟨hw0, hn0⟩⟩⟩ := hP
  · exact rilllaw07_FrameCut.walk0 k _ _ l0 a1 w hr0 hc0 al en hpk
  · exact rilllaw07_FrameCut.walk1 k _ _ l0 a1 w hr0 hc0 al en hpk hat
  · exact rilllaw07_FrameCut.walk2 k _ _ l0 m w hr0 hc0 al en _ _ q p _ wh n hpk hat rfl hsc hwh hwl rfl hsr hn rfl hnx hw0 hwe hwb hend
  · exact rilllaw07_FrameCut.walk3 k _ _ l0 m w hr0 hc0 al en _ _ q p _ wh n hpk hat rfl hsc hwh hwl rfl hsr hn rfl hnx hw0 hn0

end Go.Proofs.Ytddabfokgecnoaa.MFrameCut
