/- The walk of NetCounts. -/
import Derived.Test.YtjcpchkbhgijkaaNetAlive
import Derived.Test.YtjcpchkbhgijkaaNetPlain
import Derived.Deep.CutBlock
import Derived.Deep.DeepCutAuto
namespace Go.Proofs.Ytjcpchkbhgijkaa.Net
open Go.RowKit Go.Proofs.YtjcpchkbhgijkaaW.PrintWords Go.Proofs.YtjcpchkbhgijkaaW.PrintLast Go.Proofs.YtjcpchkbhgijkaaW.PrintMore Go.Proofs.Ytjcpchkbhgijkaa.MNet Go.Proofs.Ytjcpchkbhgijkaa.Sep
set_option linter.unusedVariables false
set_option linter.unusedSimpArgs false
abbrev opk : Kd (Int × Int × List Int) := Kd.pair (Kd.int .i64) (Kd.pair (Kd.int .i64) (Kd.slice 5 (Kd.int .u8)))
abbrev OpL := Int × Int × List Int
theorem op_at {w : World} {A : Option Addr} {os : List OpL} (h : opk.C w A os.length os) (k : Nat) (hk : k < os.length) :
    ∃ x, os[k]? = some x ∧ ∃ ad Ab cb, A = some ad ∧ w.cell? (ad.add (k * 3)) = some (.int .i64 x.1) ∧ w.cell? ⟨(ad.add (k * 3)).block, (ad.add (k * 3)).off + 1, none⟩ = some (.int .i64 x.2.1) ∧ w.cell? ⟨(ad.add (k * 3)).block, (ad.add (k * 3)).off + 2, none⟩ = some (.slice Ab x.2.2.length cb) ∧ x.2.2.length ≤ cb ∧ (Kd.int .u8).C w Ab x.2.2.length x.2.2 := by
  obtain ⟨ad, cs, rfl, _, hK, hcell⟩ := Kd.C_get h (0, 0, []) (k : Int) (by omega) (by omega)
  have hx : os[k]? = some (os.getD k (0, 0, [])) := by rw [List.getD_eq_getElem?_getD, List.getElem?_eq_getElem hk]; rfl
  refine ⟨_, hx, ad, ?_⟩
  obtain ⟨c0, c1, rfl, rfl, c2, c3, rfl, rfl, A, c, rfl, hl, hc⟩ := hK
  refine ⟨A, c, rfl, hcell 0 _ rfl, ?_, ?_, hl, hc⟩
  · have := hcell 1 _ rfl
    rw [add_field _ _ _ (by decide)] at this
    exact this
  · have := hcell 2 _ rfl
    rw [add_field _ _ _ (by decide)] at this
    exact this
theorem cut_ok (A : Option Addr) (c : Nat) (os : List OpL) (w : World) (hc : os.length ≤ c) :
    Calls Try.prog 10 #[.slice A os.length c] w fun e w' => e = .returned (.slice A (os.take 60).length c) ∧ w = w' := by
  by_cases h : 60 < os.length
  · have i1 : decide (60 < (os.length : Int)) = true := decide_eq_true (by omega)
    obtain ⟨i0, hi0, hsz⟩ := Option.map_eq_some_iff.1 (show (Try.prog.info? 33).map (·.size) = some 3 from by kernel_rfl)
    have h4 : ∀ W : World, (Instr.slice 22 (.slice A os.length c) none (some (.int .i64 60)) none).run Try.prog W = .ok (.slice A 60 c) W := cut_upto (P := Try.prog) 22 33 Try.underlying22 hi0 A os.length c 60 (by omega)
    rw [List.length_take, Nat.min_eq_left (by omega)]
    clear h hc
    go_enter Try.func10, Try.ntmps10
    go_wp2
    go_ret
    exact ⟨rfl, rfl⟩
  · have i1 : decide (60 < (os.length : Int)) = false := decide_eq_false (by omega)
    rw [List.length_take, Nat.min_eq_right (by omega)]
    clear h hc
    go_enter Try.func10, Try.ntmps10
    go_wp2
    go_ret
    exact ⟨rfl, rfl⟩
/-- As the counts go: what is gone and what is on its way. -/
def Cnt (i g : Nat) (ds : List Dg) : Prop := g + ds.length ≤ i ∧ ∀ x ∈ ds, x.1.2.length < 140737488355328
theorem in_out (n : Int) (m : Nat) : (∃ k : Nat, n = (k : Int) ∧ k < m) ∨ (n < 0 ∨ (m : Int) ≤ n) := by
  by_cases h : 0 ≤ n ∧ n < (m : Int)
  · exact .inl ⟨n.toNat, by omega, by omega⟩
  · exact .inr (by omega)
theorem Cnt.erase {i g k : Nat} {ds : List Dg} (h : Cnt i g ds) (hk : k < ds.length) : Cnt (i + 1) (g + 1) (ds.eraseIdx k) ∧ g + 1 + (ds.eraseIdx k).length = g + ds.length := by
  have hl : (ds.eraseIdx k).length = ds.length - 1 := by rw [List.length_eraseIdx, if_pos hk]
  have := h.1
  exact ⟨⟨by omega, fun x hx => h.2 x (List.mem_of_mem_eraseIdx hx)⟩, by omega⟩
theorem Cnt.snoc {i g : Nat} {ds : List Dg} (h : Cnt i g ds) (x : Dg) (hx : x.1.2.length < 140737488355328) : Cnt (i + 1) g (ds ++ [x]) := by
  refine ⟨by rw [List.length_append, List.length_singleton]; have := h.1; omega, fun y hy => ?_⟩
  rcases List.mem_append.1 hy with hy | hy
  · exact h.2 y hy
  · rw [List.mem_singleton.1 hy]; exact hx
theorem Cnt.keep {i g : Nat} {ds : List Dg} (h : Cnt i g ds) : Cnt (i + 1) g ds := ⟨by have := h.1; omega, h.2⟩
/-- The net as the counts have it. -/
def CSt (base : Nat) (w0 w : World) (p i g : Nat) (ds : List Dg) : Prop := Cnt i g ds ∧ NetSt base w0 w p ds ((g + ds.length : Nat) : Int) []
theorem wrap_cnt {g l : Nat} (h : g + l ≤ 400) : wrap64 (((g + l : Nat) : Int) + 1) = ((g + (l + 1) : Nat) : Int) := by unfold wrap64; omega
theorem NetSt.clear {base : Nat} {w0 w : World} {p : Nat} {ds : List Dg} {c : Int} : ∀ {L : List Atom}, NetSt base w0 w p ds c L → NetSt base w0 w p ds c []
  | [], h => h
  | _ :: _, h => NetSt.clear h.drop
theorem Take_cnt {base : Nat} {w0 : World} {L : List Atom} (p i g : Nat) (ds : List Dg) (n : Int) (w : World) (hN : NetSt base w0 w p ds ((g + ds.length : Nat) : Int) L) (hC : Cnt i g ds) (hi : i ≤ 400) :
    Calls Try.prog 15 #[.pointer (some ⟨p, 0, none⟩), .int .i64 n] w fun e w' => ∃ t vb ok, e = .returned (.tuple #[.int .i64 t, vb, .bool ok]) ∧ ∃ ds', CSt base w0 w' p (i + 1) (if ok then g + 1 else g) ds' := by
  rcases in_out n ds.length with ⟨k, rfl, hk⟩ | h
  · refine (Take_ok p ds _ k _ w hN (List.getElem?_eq_getElem hk) (by have := hC.1; omega)).mono ?_
    rintro e w' ⟨vb, rfl, h⟩
    refine ⟨_, vb, true, rfl, ds.eraseIdx k, (hC.erase hk).1, ?_⟩
    have h := h.clear
    rw [← (hC.erase hk).2] at h
    exact h
  · refine (Take_out p ds _ n w hN h).mono ?_
    rintro e w' ⟨rfl, h⟩
    exact ⟨_, _, false, rfl, ds, hC.keep, h.clear⟩
theorem Lose_cnt {base : Nat} {w0 : World} {L : List Atom} (p i g : Nat) (ds : List Dg) (n : Int) (w : World) (hN : NetSt base w0 w p ds ((g + ds.length : Nat) : Int) L) (hC : Cnt i g ds) (hi : i ≤ 400) :
    Calls Try.prog 18 #[.pointer (some ⟨p, 0, none⟩), .int .i64 n] w fun e w' => ∃ ok, e = .returned (.bool ok) ∧ ∃ ds', CSt base w0 w' p (i + 1) (if ok then g + 1 else g) ds' := by
  rcases in_out n ds.length with ⟨k, rfl, hk⟩ | h
  · refine (Lose_ok p ds _ k _ w hN (List.getElem?_eq_getElem hk) (by have := hC.1; omega)).mono ?_
    rintro e w' ⟨rfl, h⟩
    refine ⟨true, rfl, ds.eraseIdx k, (hC.erase hk).1, ?_⟩
    have h := h.clear
    rw [← (hC.erase hk).2] at h
    exact h
  · refine (Lose_out p ds _ n w hN h).mono ?_
    rintro e w' ⟨rfl, h⟩
    exact ⟨false, rfl, ds, hC.keep, h.clear⟩
theorem Double_cnt {base : Nat} {w0 : World} {L : List Atom} (p i g : Nat) (ds : List Dg) (n : Int) (w : World) (hN : NetSt base w0 w p ds ((g + ds.length : Nat) : Int) L) (hC : Cnt i g ds) (hi : i < 400) :
    Calls Try.prog 20 #[.pointer (some ⟨p, 0, none⟩), .int .i64 n] w fun e w' => ∃ ok, e = .returned (.bool ok) ∧ ∃ ds', CSt base w0 w' p (i + 1) g ds' := by
  have := hC.1
  rcases in_out n ds.length with ⟨k, rfl, hk⟩ | h
  · refine (Double_ok p ds _ k _ w hN (List.getElem?_eq_getElem hk) (by omega) (hC.2 _ (List.getElem_mem hk))).mono ?_
    rintro e w' ⟨rfl, v', h⟩
    refine ⟨true, rfl, _, hC.snoc (ds[k].1, [.int .i64 ds[k].1.1, v']) (hC.2 ds[k] (List.getElem_mem hk)), ?_⟩
    have h := h.clear
    rw [wrap_cnt (by omega)] at h
    rw [List.length_append, List.length_singleton]
    exact h
  · refine (Double_out p ds _ n w hN h).mono ?_
    rintro e w' ⟨rfl, h⟩
    exact ⟨false, rfl, ds, hC.keep, h.clear⟩
set_option maxHeartbeats 16000000 in
set_option maxRecDepth 100000 in
theorem NetCounts_walk (A : Option Addr) (c : Nat) (os : List OpL) (w : World) (hr : opk.C w A os.length os) (hc : os.length ≤ c) (hy : ∀ x ∈ os, x.2.2.length ≤ 140737488351232) :
    Calls Try.prog 4 #[.slice A os.length c] w fun e w' => e = .returned (.bool true) ∧ Below w.heap.size w w' := by
  have HR := Aside0.mk (C_take' hr 60)
  have HY := Aside0.mk (show ∀ x ∈ os.take 60, x.2.2.length ≤ 140737488351232 from fun x hx => hy x (List.mem_of_mem_take hx))
  have HC := Aside0.mk hc
  have HL := Aside0.mk (show (os.take 60).length ≤ 60 from by rw [List.length_take]; exact Nat.min_le_left _ _)
  clear hr hc hy
  go_enter Try.func4, Try.ntmps4
  go_wp2_with fail
  refine (alive_ok w (St.start w)).mono ?_
  rintro e w1 ⟨rfl, h1⟩
  have H := Aside0.mk h1
  clear h1
  go_wp2_with fail
  refine (New_ok w1 H.out).mono ?_
  rintro e w2 ⟨p, rfl, h1⟩
  replace H := Aside0.mk h1
  clear h1
  go_wp2_with fail
  refine (cut_ok A c os w2 HC.out).mono ?_
  rintro e w3 ⟨rfl, rfl⟩
  obtain ⟨os', hos⟩ : ∃ os', os' = os.take 60 := ⟨_, rfl⟩
  rw [← hos] at HR HY HL ⊢
  clear hos HC
  go_wp2_with fail
  go_loopg [4, 5] (os'.length + 1) (fun kq v4 v5 w' => ∃ (i g : Nat) (ds : List Dg), v5 = .int .i64 i ∧ v4 = .int .i64 g ∧ Aside0 (i ≤ os'.length) ∧ Aside0 (kq + i = os'.length + 1) ∧ Aside0 (Cnt i g ds) ∧ Aside0 (NetSt w.heap.size w w' p ds ((g + ds.length : Nat) : Int) []))
  case atStart => exact ⟨0, 0, [], rfl, rfl, ⟨Nat.zero_le _⟩, ⟨by omega⟩, ⟨⟨Nat.le_refl _, fun x hx => by cases hx⟩⟩, H⟩
  case round =>
    clear H
    obtain ⟨i, g, ds, rfl, rfl, HK, HM, HD, H⟩ := hrel
    by_cases hlt : i < os'.length
    rotate_left
    · have i2 : decide ((i : Int) < (os'.length : Int)) = false := decide_eq_false (by omega)
      go_wp2
      go_ret
      exact ⟨rfl, H.out.below⟩
    · have i2 : decide ((i : Int) < (os'.length : Int)) = true := decide_eq_true (by omega)
      have i3 : (0 : Int) ≤ (i : Int) := by omega
      have i4 : (i : Int) < (os'.length : Int) := by omega
      obtain ⟨⟨what, n, b⟩, hx, ad, Ab, cb, rfl, h0, h1, h2, hlb, hcb⟩ := op_at (Kd.C_below HR.out H.out.below) i hlt
      have HB := Aside0.mk hcb
      have HLB := Aside0.mk hlb
      have HBY := Aside0.mk (HY.out _ (List.mem_of_getElem? hx))
      clear hcb hlb hx
      have H1 := Aside0.mk (H.out.box #[.int .i64 what, .int .i64 n, .slice Ab b.length cb] 33)
      have hg60 : (g : Int) ≤ 60 := by have := HL.out; have := HD.out.1; omega
      have hg0 : (0 : Int) ≤ (g : Int) := by omega
      have hi60 := Aside0.mk (show i < 60 from by have := HL.out; omega)
      obtain ⟨Lb, hbx⟩ := H1.out.take
      have hc0 := (hbx.cell 0).trans (show _ = some (Value.int .i64 what) from rfl)
      have hc1 := (hbx.cell 1).trans (show _ = some (Value.int .i64 n) from rfl)
      have hc2 := (hbx.cell 2).trans (show _ = some (Value.slice Ab b.length cb) from rfl)
      clear hbx
      go_upto_block 2 with (fail)
      go_cut [4] (fun v4 w' => ∃ (gT : Nat) (dT : List Dg), v4 = .int .i64 gT ∧ Aside0 (CSt w.heap.size w w' p (i + 1) gT dT))
      case first =>
        by_cases e1 : what = 1
        · clear hc1 hc2
          have j1 : (what == 1) = true := beq_iff_eq.2 e1
          clear e1
          go_wp2_with fail
          go_region_held3 (fun w' => w'.cell? ⟨wr.heap.size, 1, none⟩ = some (.int .i64 n) ∧ w'.cell? ⟨wr.heap.size, 2, none⟩ = some (.slice Ab b.length cb)) (go_keep)
            (first
              | (go_at_call 12; refine (rillref00_CopyBytes.calls Ab cb b b _ (Kd.C_below HB.out (below_drew (below_alloc (Below.refl _ _) _))) HLB.out (Copy_ok b (by have := HBY.out; omega))).mono ?_; rintro e w4 ⟨v4, rfl, ho, hb4⟩; obtain ⟨A4, c4, rfl, hl4, hr4⟩ := Kd.R_reads ho; have H4 := Aside0.mk ((H1.out.far (below_drew (Below.refl _ _))).newR hb4 ho); have HR4 := Aside0.mk hr4; have HL4 := Aside0.mk hl4; obtain ⟨L', hbx⟩ := H1.out.take; have hcA := (((hbx.drew).far hb4).cell 1).trans (show _ = some (Value.int .i64 n) from rfl); have hcB := (((hbx.drew).far hb4).cell 2).trans (show _ = some (Value.slice Ab b.length cb) from rfl); clear ho hb4 hl4 hr4 hbx)
              | (go_at_call 13; refine (Send_ok p ds _ n A4 c4 b _ H4.out HR4.out HL4.out (by have := HBY.out; omega) (by have := HD.out.1; have := hi60.out; omega)).mono ?_; rintro e w5 ⟨rfl, v5, h5⟩; have H5 := Aside0.mk h5; obtain ⟨L5, hb5⟩ := h5.drop.take; have hcA5 := (hb5.cell 1).trans (show _ = some (Value.int .i64 n) from rfl); have hcB5 := (hb5.cell 2).trans (show _ = some (Value.slice Ab b.length cb) from rfl); clear h5 hb5))
          go_wp2_with fail
          go_meet
          refine ⟨g, _, rfl, ⟨HD.out.snoc ((n, b), [.int .i64 n, v5]) (by have := HBY.out; show b.length < _; omega), ?_⟩⟩
          have h := H5.out.clear
          rw [wrap_cnt (by have := HD.out.1; have := hi60.out; omega)] at h
          rw [List.length_append, List.length_singleton]
          exact h
        · by_cases e2 : what = 2
          · clear hc2
            have j1 : (what == 1) = false := beq_eq_false_iff_ne.2 e1
            have j2 : (what == 2) = true := beq_iff_eq.2 e2
            clear e1 e2
            go_wp2_with fail
            refine (Take_cnt p i g ds n _ H1.out HD.out (by have := hi60.out; omega)).mono ?_
            rintro e w4 ⟨tt, vb, ok, rfl, dT, hT⟩
            replace hT := Aside0.mk hT
            cases ok
            · go_wp2_with fail
              go_meet
              exact ⟨g, dT, rfl, hT⟩
            · go_wp2_with fail
              go_meet
              exact ⟨g + 1, dT, by simp, hT⟩
          · by_cases e3 : what = 3
            · clear hc2
              have j1 : (what == 1) = false := beq_eq_false_iff_ne.2 e1
              have j2 : (what == 2) = false := beq_eq_false_iff_ne.2 e2
              have j3 : (what == 3) = true := beq_iff_eq.2 e3
              clear e1 e2 e3
              go_wp2_with fail
              refine (Lose_cnt p i g ds n _ H1.out HD.out (by have := hi60.out; omega)).mono ?_
              rintro e w4 ⟨ok, rfl, dT, hT⟩
              replace hT := Aside0.mk hT
              cases ok
              · go_wp2_with fail
                go_meet
                exact ⟨g, dT, rfl, hT⟩
              · go_wp2_with fail
                go_meet
                exact ⟨g + 1, dT, by simp, hT⟩
            · by_cases e4 : what = 4
              · clear hc2
                have j1 : (what == 1) = false := beq_eq_false_iff_ne.2 e1
                have j2 : (what == 2) = false := beq_eq_false_iff_ne.2 e2
                have j3 : (what == 3) = false := beq_eq_false_iff_ne.2 e3
                have j4 : (what == 4) = true := beq_iff_eq.2 e4
                clear e1 e2 e3 e4
                go_wp2_with fail
                refine (Double_cnt p i g ds n _ H1.out HD.out (by have := hi60.out; omega)).mono ?_
                rintro e w4 ⟨ok, rfl, dT, hT⟩
                replace hT := Aside0.mk hT
                go_wp2_with fail
                go_meet
                exact ⟨g, dT, rfl, hT⟩
              · clear hc1 hc2
                have j1 : (what == 1) = false := beq_eq_false_iff_ne.2 e1
                have j2 : (what == 2) = false := beq_eq_false_iff_ne.2 e2
                have j3 : (what == 3) = false := beq_eq_false_iff_ne.2 e3
                have j4 : (what == 4) = false := beq_eq_false_iff_ne.2 e4
                clear e1 e2 e3 e4
                go_wp2_with fail
                go_meet
                exact ⟨g, ds, rfl, ⟨HD.out.keep, H1.out.clear⟩⟩
      case rest =>
        clear hc0 hc1 hc2 H1 H hg60 hg0
        obtain ⟨gT, dT, rfl, HT⟩ := hcut
        obtain ⟨Af, cf, hcell, hlf, hrf⟩ := HT.out.2.cell
        have HRF := Aside0.mk hrf
        have HLF := Aside0.mk hlf
        clear hlf hrf
        have hl9 : (dT.length : Int) ≤ 60 := by have := hi60.out; have := HT.out.1.1; omega
        have hg9 : (gT : Int) ≤ 60 := by have := hi60.out; have := HT.out.1.1; omega
        have hg8 : (0 : Int) ≤ (gT : Int) := by omega
        have hw9 : IntKind.i64.wrap ((gT : Int) + (dT.length : Int)) = (gT : Int) + (dT.length : Int) := IntWalk.i64_in _ (by omega)
        have ht3 : (((gT : Int) + (dT.length : Int)) != (gT : Int) + (dT.length : Int)) = false := by simp
        have ht4 : ((gT + dT.length : Nat) : Int) = (gT : Int) + (dT.length : Int) := by omega
        have ht2 : decide (400 < (dT.length : Int)) = false := decide_eq_false (by omega)
        go_wp2_with fail
        go_region_held3 (fun w' => w'.cell? ⟨p, 0, none⟩ = some (.slice Af dT.length cf)) (go_keep)
          (first
            | (go_at_call 23; refine (Sent_at p _ _ (cellD HT.out.2.cell1)).mono ?_; rintro e wS ⟨rfl, rfl⟩)
            | (go_at_call 22; refine (Flight_ok Af cf dT wF HRG.out HLF.out (by omega)).mono ?_; rintro e wG ⟨vG, rfl, hG⟩; have HG := Aside0.mk (HF.out.with_ hG); obtain ⟨LG, hGG⟩ := HG.out.take; obtain ⟨AG, cG, rfl, hlG, hrG⟩ := hGG.reads; rw [List.length_map] at HG hG; clear hlG hrG hGG; have hcellG := pw_cell_below hG.1 hcellF)
            | (go_at_call 22; refine (Flight_ok Af cf dT _ (Kd.C_below HRF.out (below_drew (Below.refl _ _))) HLF.out (by omega)).mono ?_; rintro e wF ⟨vF, rfl, hF⟩; have HF := Aside0.mk ((HT.out.2.far (below_drew (Below.refl _ _))).with_ hF); obtain ⟨LF, hFF⟩ := HF.out.take; obtain ⟨AF, cF, rfl, hlF, hrF⟩ := hFF.reads; rw [List.length_map] at HF hF; clear hlF hrF hFF; have HRG := Aside0.mk (Kd.C_below (Kd.C_below HRF.out (below_drew (Below.refl _ _))) hF.1); have hcellF := pw_cell_below hF.1 (show (World.drew _).cell? _ = some _ from hcell)))
        have hi6 : (i : Int) ≤ 60 := by have := hi60.out; omega
        clear hw9 ht3 ht4 ht2 hcell hcellF hcellG
        go_wp2_with fail
        go_roundg (gk - 1)
        case measure => have := HM.out; omega
        case rel => exact ⟨i + 1, gT, dT, by simp, rfl, ⟨hlt⟩, ⟨by have := HM.out; omega⟩, ⟨HT.out.1⟩, ⟨HG.out.clear⟩⟩
end Go.Proofs.Ytjcpchkbhgijkaa.Net
