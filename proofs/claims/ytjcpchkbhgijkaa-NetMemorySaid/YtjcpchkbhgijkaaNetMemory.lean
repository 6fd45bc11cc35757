/- The walk of NetMemory. -/
import Derived.Test.YtjcpchkbhgijkaaNetAlive
import Derived.Test.YtjcpchkbhgijkaaNetPlain
namespace Go.Proofs.Ytjcpchkbhgijkaa.Net
open Go.RowKit Go.Proofs.YtjcpchkbhgijkaaW.PrintWords Go.Proofs.YtjcpchkbhgijkaaW.PrintLast Go.Proofs.YtjcpchkbhgijkaaW.PrintMore Go.Proofs.Ytjcpchkbhgijkaa.MNet Go.Proofs.Ytjcpchkbhgijkaa.Sep
set_option linter.unusedVariables false
set_option linter.unusedSimpArgs false
set_option maxHeartbeats 16000000 in
set_option maxRecDepth 100000 in
theorem NetMemory_walk (A : Option Addr) (c : Nat) (l : List Int) (turn : Int) (w : World) (hr : Kd.C (Kd.int .u8) w A l.length l) (hc : l.length ≤ c) (hy : l.length * 1 ≤ 140737488351232) :
    Calls Try.prog 7 #[.slice A l.length c, .int .u8 turn] w fun e w' => e = .returned (.bool true) ∧ Below w.heap.size w w' := by
  have HR := Aside0.mk hr
  have HC := Aside0.mk hc
  have HY := Aside0.mk (show l.length ≤ 140737488351232 from by omega)
  clear hr hc hy
  go_enter Try.func7, Try.ntmps7
  go_wp2_with fail
  refine (alive_ok w (St.start w)).mono ?_
  rintro e w1 ⟨rfl, h1⟩
  have H := Aside0.mk h1
  clear h1
  go_wp2_with fail
  refine (New_ok w1 H.out).mono ?_
  rintro e w2 ⟨p, rfl, h1⟩
  replace H := Aside0.mk h1
  clear h1
  go_wp2_with fail
  obtain ⟨vp, h1⟩ := H.out
  refine (New_ok w2 h1).mono ?_
  rintro e w3 ⟨q, rfl, h2⟩
  replace H := Aside0.mk h2
  clear h1 h2
  go_wp2_with fail
  refine (rillref00_CopyBytes.calls A c l l _ (Kd.C_below HR.out H.out.below) HC.out (Copy_ok l (by have := HY.out; omega))).mono ?_
  rintro e w4 ⟨v4, rfl, ho, hb4⟩
  obtain ⟨Ao, co, rfl, hlo, hro⟩ := Kd.R_reads ho
  replace H := Aside0.mk (H.out.newR hb4 ho)
  have HRO := Aside0.mk hro
  have HLO := Aside0.mk hlo
  clear ho hb4 hlo hro
  obtain ⟨vq, h1⟩ := H.out
  go_wp2_with fail
  have h2 := Aside0.mk h1.f4.f4
  clear h1 H
  refine (Send_ok p [] 0 1 Ao co l w4 ⟨_, h2.out⟩ HRO.out HLO.out (by have := HY.out; omega) (by decide)).mono ?_
  rintro e w5 ⟨rfl, v5, vf, h1⟩
  have H := Aside0.mk h1.f4
  clear h1 h2 HRO
  go_wp2_with fail
  have hl2 : l.length ≤ 9223372036854775806 := by have := HY.out; omega
  go_loopg [8] (l.length + 1) (fun kq v8 w' => ∃ (i : Nat) (xs : List Int), v8 = .int .i64 i ∧ xs.length = l.length ∧ Aside0 (i ≤ l.length) ∧ Aside0 (kq + i = l.length + 1) ∧ Aside0 (St w.heap.size w w' (aM (sep 5 (Kd.int .u8)) xs [.slice Ao l.length co] :: aB p #[vf, .int .i64 (wrap64 (0 + 1))] 50 :: aM (sep 57 dk) ([] ++ [((1, l), [.int .i64 1, v5])]) [vf] :: aB q #[vq, .int .i64 0] 50 :: aM (sep 57 dk) [] [vq] :: [])))
  case atStart => exact ⟨0, l, rfl, rfl, ⟨Nat.zero_le _⟩, ⟨by omega⟩, H⟩
  case round =>
    clear H
    obtain ⟨i, xs, rfl, hxl, HK, HM, H⟩ := hrel
    by_cases hlt : i < l.length
    · have i2 : decide ((i : Int) < (l.length : Int)) = true := decide_eq_true (by omega)
      have i3 : (0 : Int) ≤ (i : Int) := by omega
      have i4 : (i : Int) < (l.length : Int) := by omega
      obtain ⟨g, rfl, _, _⟩ := H.out.ints_block (by omega)
      obtain ⟨hcell, hfz⟩ := H.out.int_cell i (by omega)
      have HXL := Aside0.mk hxl
      clear hxl
      go_wp2_with fail
      go_roundg (gk - 1)
      case measure => have := HM.out; omega
      case rel => exact ⟨i + 1, xs.set i _, by simp, by rw [List.length_set]; exact HXL.out, ⟨hlt⟩, ⟨by have := HM.out; omega⟩, ⟨H.out.int_set i _⟩⟩
    · have i2 : decide ((i : Int) < (l.length : Int)) = false := decide_eq_false (by omega)
      have H2 := Aside0.mk (show NetSt w.heap.size w wr p _ _ _ from ⟨_, H.out.drop⟩)
      clear H hxl HK HM
      go_wp2_with fail
      refine (Double_ok p _ _ 0 ((1, l), [.int .i64 1, v5]) wr H2.out rfl (by simp) (by have := HY.out; show l.length < _; omega)).mono ?_
      rintro e w6 ⟨rfl, v6, h1⟩
      have H := Aside0.mk h1
      clear h1 H2
      go_wp2_with fail
      refine (Take_ok p _ _ 0 ((1, l), [.int .i64 1, v5]) w6 H.out rfl (by simp)).mono ?_
      rintro e w7 ⟨vx, rfl, vf7, h1⟩
      replace H := Aside0.mk h1
      clear h1
      obtain ⟨Ax, cx, rfl, hlx, hrx⟩ := (H.out.f2).reads
      go_wp2_with fail
      refine (rillref00_SameBytes.calls (l.length + 1) Ax cx l A c l true _ hrx hlx (Kd.C_below HR.out H.out.1) HC.out (by rw [Same_ok l l (by omega) _ (by omega), decide_eq_true rfl])).mono ?_
      rintro e w8 ⟨rfl, ⟨nd8, rfl⟩⟩
      replace H := Aside0.mk (H.out.drewN nd8)
      clear hlx hrx
      go_wp2_with fail
      have H2 := Aside0.mk H.out.f2
      clear H
      go_loopg [12] (l.length + 1) (fun kq v12 w' => ∃ (i : Nat) (xs : List Int), v12 = .int .i64 i ∧ xs.length = l.length ∧ Aside0 (i ≤ l.length) ∧ Aside0 (kq + i = l.length + 1) ∧ Aside0 (St w.heap.size w w' (aM (sep 5 (Kd.int .u8)) xs [.slice Ax l.length cx] :: aB p #[vf7, .int .i64 (wrap64 (wrap64 (0 + 1) + 1))] 50 :: aM (sep 57 dk) [((1, l), [.int .i64 1, v6])] [vf7] :: aB q #[vq, .int .i64 0] 50 :: aM (sep 57 dk) [] [vq] :: [])))
      case atStart => exact ⟨0, l, rfl, rfl, ⟨Nat.zero_le _⟩, ⟨by omega⟩, H2⟩
      case round =>
        clear H2
        obtain ⟨i, xs, rfl, hxl, HK, HM, H⟩ := hrel
        by_cases hlt : i < l.length
        · have i2 : decide ((i : Int) < (l.length : Int)) = true := decide_eq_true (by omega)
          have i3 : (0 : Int) ≤ (i : Int) := by omega
          have i4 : (i : Int) < (l.length : Int) := by omega
          obtain ⟨g, rfl, _, _⟩ := H.out.ints_block (by omega)
          obtain ⟨hcell, hfz⟩ := H.out.int_cell i (by omega)
          have HXL := Aside0.mk hxl
          clear hxl
          go_wp2_with fail
          go_roundg (gk - 1)
          case measure => have := HM.out; omega
          case rel => exact ⟨i + 1, xs.set i _, by simp, by rw [List.length_set]; exact HXL.out, ⟨hlt⟩, ⟨by have := HM.out; omega⟩, ⟨H.out.int_set i _⟩⟩
        · have i2 : decide ((i : Int) < (l.length : Int)) = false := decide_eq_false (by omega)
          have H2 := Aside0.mk (show NetSt w.heap.size w _ p _ _ _ from ⟨_, H.out.drop⟩)
          clear H hxl HK HM
          obtain ⟨Af, cf, hcell, hlf, hrf⟩ := H2.out.cell
          have HRF := Aside0.mk hrf
          have HLF := Aside0.mk hlf
          clear hlf hrf
          go_wp2_with fail
          refine (Flight_ok Af cf _ _ HRF.out HLF.out (show 1 ≤ 400 by decide)).mono ?_
          rintro e w9 ⟨vF, rfl, hF⟩
          have H := Aside0.mk (H2.out.with_ hF)
          obtain ⟨v9, h1⟩ := H.out
          replace h1 := h1.f2
          clear H
          obtain ⟨g9, c9, rfl, hl9⟩ := h1.ints_head (show 0 < 1 by decide)
          clear hl9
          replace h1 := Aside0.mk h1
          obtain ⟨hcell9, hfz9⟩ := h1.out.int_cell 0 (show 0 < 1 by decide)
          clear hF
          go_wp2_with fail
          have HS := Aside0.mk (h1.out.int_set 0 77)
          refine (Take_ok p _ _ 0 ((1, l), [.int .i64 1, v6]) _ ⟨_, HS.out.f2.f2⟩ rfl (show 1 ≤ 400 by decide)).mono ?_
          rintro e w10 ⟨vy, rfl, vf10, h1⟩
          have H := Aside0.mk h1
          clear h1 HS
          obtain ⟨Ay, cy, rfl, hly, hry⟩ := (H.out.f2).reads
          go_wp2_with fail
          refine (rillref00_SameBytes.calls (l.length + 1) Ay cy l A c l true _ hry hly (Kd.C_below HR.out H.out.1) HC.out (by rw [Same_ok l l (by omega) _ (by omega), decide_eq_true rfl])).mono ?_
          rintro e w11 ⟨rfl, ⟨nd11, rfl⟩⟩
          replace H := Aside0.mk (H.out.drewN nd11)
          clear hly hry
          have HQ := Aside0.mk (show NetSt w.heap.size w (w10.drewN nd11) q [] 0 _ from ⟨vq, H.out.f5.f5⟩)
          clear H
          obtain ⟨Aq, cq, hcell, hlq, hrq⟩ := HQ.out.cell
          replace hrq := Aside0.mk hrq
          replace hlq := Aside0.mk hlq
          go_wp2_with fail
          refine (Flight_ok Aq cq [] _ hrq.out hlq.out (Nat.zero_le _)).mono ?_
          rintro e w12 ⟨vz, rfl, hz⟩
          have H := Aside0.mk (HQ.out.with_ hz)
          clear hz HQ
          obtain ⟨v13, h1⟩ := H.out
          obtain ⟨Az, cz, rfl, _, _⟩ := (h1.f2).reads
          clear h1
          go_wp2_with fail
          refine (Sent_ok q [] 0 w12 H.out).mono ?_
          rintro e w13 ⟨rfl, h1⟩
          replace H := Aside0.mk h1
          clear h1
          go_wp2
          go_ret
          exact ⟨rfl, H.out.below⟩
end Go.Proofs.Ytjcpchkbhgijkaa.Net
