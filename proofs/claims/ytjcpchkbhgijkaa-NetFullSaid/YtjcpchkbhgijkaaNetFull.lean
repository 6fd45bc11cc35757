/- The walk of NetFull. -/
import Derived.Test.YtjcpchkbhgijkaaNetAlive
namespace Go.Proofs.Ytjcpchkbhgijkaa.Net
open Go.RowKit Go.Proofs.YtjcpchkbhgijkaaW.PrintWords Go.Proofs.YtjcpchkbhgijkaaW.PrintLast Go.Proofs.YtjcpchkbhgijkaaW.PrintMore Go.Proofs.Ytjcpchkbhgijkaa.MNet Go.Proofs.Ytjcpchkbhgijkaa.Sep
set_option linter.unusedVariables false
set_option linter.unusedSimpArgs false
/-- Four hundred of the same bytes are on their way. -/
def Many (l : List Int) (k : Nat) (ds : List Dg) : Prop := ds.length = k ∧ ∀ i, i < k → ∃ v, ds[i]? = some (((i : Int), l), [.int .i64 i, v])
theorem Many.snoc {l : List Int} {k : Nat} {ds : List Dg} (h : Many l k ds) (v : Value) : Many l (k + 1) (ds ++ [(((k : Int), l), [.int .i64 k, v])]) := by
  refine ⟨by rw [List.length_append, h.1]; rfl, fun i hi => ?_⟩
  by_cases he : i = k
  · subst he
    exact ⟨v, by rw [List.getElem?_append_right (by rw [h.1]; exact Nat.le_refl _), h.1, Nat.sub_self]; rfl⟩
  · obtain ⟨v', hv⟩ := h.2 i (by omega)
    exact ⟨v', by rw [List.getElem?_append_left (by rw [h.1]; omega)]; exact hv⟩
set_option maxHeartbeats 8000000 in
set_option maxRecDepth 100000 in
theorem NetFull_long (a0 : Int) (A : Option Addr) (cb : Nat) (l : List Int) (w : World) (hl : 100 < l.length) :
    Calls Try.prog 6 #[.int .i64 a0, .slice A l.length cb] w fun e w' => e = .returned (.bool true) ∧ Below w.heap.size w w' := by
  have i1 : decide (100 < (l.length : Int)) = true := decide_eq_true (by omega)
  clear hl
  go_enter Try.func6, Try.ntmps6
  go_wp2_with fail
  refine (alive_ok w (St.start w)).mono ?_
  rintro e w1 ⟨rfl, h1⟩
  replace h1 := Aside0.mk h1
  go_wp2
  go_ret
  exact ⟨rfl, h1.out.1⟩
set_option maxHeartbeats 8000000 in
set_option maxRecDepth 100000 in
theorem NetFull_short (a0 : Int) (A : Option Addr) (cb : Nat) (l : List Int) (w : World) (hr : Kd.C (Kd.int .u8) w A l.length l) (hc : l.length ≤ cb) (hl : l.length ≤ 100) (at_ : Nat) (hat : Go.bits .and .i64 a0 255 = (at_ : Int)) (hat2 : at_ ≤ 255) :
    Calls Try.prog 6 #[.int .i64 a0, .slice A l.length cb] w fun e w' => e = .returned (.bool true) ∧ Below w.heap.size w w' := by
  have i1 : decide (100 < (l.length : Int)) = false := decide_eq_false (by omega)
  have HL := Aside0.mk hl
  have HR := Aside0.mk hr
  have HC := Aside0.mk hc
  have HA := Aside0.mk hat2
  have HB := Aside0.mk hat
  clear hl hr hc hat2 hat
  go_enter Try.func6, Try.ntmps6
  go_wp2_with fail
  refine (alive_ok w (St.start w)).mono ?_
  rintro e w1 ⟨rfl, h1⟩
  have H := Aside0.mk h1
  clear h1
  go_wp2_with fail
  refine (New_ok w1 H.out).mono ?_
  rintro e w2 ⟨p, rfl, h1⟩
  replace H := Aside0.mk h1
  clear h1
  go_wp2_with fail
  go_loopg [6] 401 (fun kq v6 w' => ∃ (k : Nat) (ds : List Dg), v6 = .int .i64 k ∧ Aside0 (k ≤ 400) ∧ Aside0 (kq + k = 401) ∧ Aside0 (Many l k ds) ∧ Aside0 (NetSt w.heap.size w w' p ds k []))
  case atStart => exact ⟨0, [], rfl, ⟨by omega⟩, ⟨by omega⟩, ⟨rfl, fun i hi => by omega⟩, H⟩
  case round =>
    clear H
    obtain ⟨k, ds, rfl, HK, HM, HD, H⟩ := hrel
    by_cases hlt : k < 400
    · have i2 : decide ((k : Int) < 400) = true := decide_eq_true (by omega)
      go_wp2_with fail
      refine (Send_ok p ds k k A cb l wr H.out (by obtain ⟨v, h⟩ := H.out; exact Kd.C_below HR.out h.1) HC.out (by have := HL.out; omega) (by rw [HD.out.1]; exact hlt)).mono ?_
      rintro e w3 ⟨rfl, v3, h3⟩
      have H3 := Aside0.mk h3
      clear h3
      go_wp2_with fail
      go_roundg (gk - 1)
      case measure => have := HM.out; omega
      case rel =>
        have e1 : wrap64 ((k : Int) + 1) = ((k + 1 : Nat) : Int) := by unfold wrap64; omega
        rw [e1] at H3
        exact ⟨k + 1, _, by first | (rw [e1]; done) | simp, ⟨hlt⟩, ⟨by have := HM.out; omega⟩, ⟨HD.out.snoc v3⟩, H3⟩
    · have i2 : decide ((k : Int) < 400) = false := decide_eq_false (by omega)
      obtain rfl : k = 400 := by have := HK.out; omega
      have hat := HB.out
      clear HK HM hlt
      go_wp2_with fail
      refine (Send_full p ds 400 1 _ wr H.out (by rw [HD.out.1]; exact Nat.le_refl _)).mono ?_
      rintro e w3 ⟨rfl, h3⟩
      replace H := Aside0.mk h3
      clear h3
      go_wp2_with fail
      obtain ⟨vx, hx⟩ := HD.out.2 at_ (by have := HA.out; omega)
      have HX := Aside0.mk hx
      clear hx
      refine (Double_full p ds 400 at_ _ w3 H.out HX.out HD.out.1).mono ?_
      rintro e w4 ⟨rfl, h3⟩
      replace H := Aside0.mk h3
      clear h3
      go_wp2_with fail
      refine (Sent_ok p ds 400 w4 H.out).mono ?_
      rintro e w5 ⟨rfl, h3⟩
      replace H := Aside0.mk h3
      clear h3
      go_wp2_with fail
      refine (Take_ok p ds 400 at_ _ w5 H.out HX.out (by rw [HD.out.1]; exact Nat.le_refl _)).mono ?_
      rintro e w6 ⟨vb, rfl, h3⟩
      replace H := Aside0.mk h3
      clear h3
      have hle := Aside0.mk (show (ds.eraseIdx at_).length = 399 from by rw [List.length_eraseIdx, if_pos (by rw [HD.out.1]; have := HA.out; omega), HD.out.1])
      go_wp2_with fail
      obtain ⟨vy, hy⟩ := HD.out.2 (at_ + 1) (by have := HA.out; omega)
      have HY := Aside0.mk (show (ds.eraseIdx at_)[at_]? = some ((((at_ + 1 : Nat) : Int), l), [.int .i64 ((at_ + 1 : Nat) : Int), vy]) from by rw [List.getElem?_eraseIdx, if_neg (by omega)]; exact hy)
      clear hy
      refine (Double_ok p (ds.eraseIdx at_) 400 at_ _ w6 H.out HY.out (by rw [hle.out]; decide) (by have := HL.out; show l.length < _; omega)).mono ?_
      rintro e w7 ⟨rfl, v7, h3⟩
      replace H := Aside0.mk h3
      clear h3
      have hle2 := Aside0.mk (show (ds.eraseIdx at_ ++ [((((at_ + 1 : Nat) : Int), l), [.int .i64 ((at_ + 1 : Nat) : Int), v7])]).length = 400 from by rw [List.length_append, hle.out]; rfl)
      go_wp2_with fail
      refine (Send_full p _ _ 0 _ w7 H.out (by rw [hle2.out]; exact Nat.le_refl _)).mono ?_
      rintro e w8 ⟨rfl, h3⟩
      rw [show wrap64 (400 + 1) = 401 from by unfold wrap64; rfl] at h3
      replace H := Aside0.mk h3
      clear h3
      go_wp2_with fail
      refine (Sent_ok p _ 401 w8 H.out).mono ?_
      rintro e w9 ⟨rfl, v9, h3⟩
      replace H := Aside0.mk h3
      have hcell := (h3.cell 0).trans (show _ = some v9 from rfl)
      obtain ⟨Af, cf, rfl, hlf, hrf⟩ := (h3.f1).reads
      rw [hle2.out] at hlf hcell
      replace hrf := Aside0.mk hrf
      replace hlf := Aside0.mk hlf
      clear h3
      go_wp2_with fail
      rw [← hle2.out]
      refine (Flight_ok Af cf _ w9 hrf.out (by rw [hle2.out]; exact hlf.out) (by rw [hle2.out]; exact Nat.le_refl _)).mono ?_
      rintro e w10 ⟨vf, rfl, h3⟩
      replace H := Aside0.mk (H.out.with_ h3)
      clear h3
      obtain ⟨A6, c6, rfl, hl6, hr6⟩ := H.out.reads
      rw [List.length_map, hle2.out]
      clear hl6 hr6
      go_wp2
      go_ret
      exact ⟨rfl, H.out.1⟩
theorem and_255 (a0 : Int) : ∃ k : Nat, Go.bits .and .i64 a0 255 = (k : Int) ∧ k ≤ 255 := by
  have h : (BitVec.ofInt 64 a0 &&& BitVec.ofInt 64 255).toNat ≤ 255 := by
    rw [BitVec.toNat_and]
    exact Nat.and_le_right
  refine ⟨(BitVec.ofInt 64 a0 &&& BitVec.ofInt 64 255).toNat, ?_, h⟩
  show IntKind.i64.wrap ((BitVec.ofInt 64 a0 &&& BitVec.ofInt 64 255).toNat : Int) = _
  generalize (BitVec.ofInt 64 a0 &&& BitVec.ofInt 64 255).toNat = m at h
  exact IntWalk.i64_in _ (by omega)
theorem NetFull_walk (a0 : Int) (A : Option Addr) (cb : Nat) (l : List Int) (w : World) (hr : Kd.C (Kd.int .u8) w A l.length l) (hc : l.length ≤ cb) (_y : l.length * 1 ≤ 140737488351232) :
    Calls Try.prog 6 #[.int .i64 a0, .slice A l.length cb] w fun e w' => e = .returned (.bool true) ∧ Below w.heap.size w w' := by
  by_cases hl : 100 < l.length
  · exact NetFull_long a0 A cb l w hl
  · obtain ⟨k, hk, hk2⟩ := and_255 a0
    exact NetFull_short a0 A cb l w hr hc (by omega) k hk hk2
end Go.Proofs.Ytjcpchkbhgijkaa.Net
