/- Contracts of the net's functions, over states told as atoms: at, Flight, New, Sent. -/
import Derived.Test.YtjcpchkbhgijkaaNetLib
namespace Go.Proofs.Ytjcpchkbhgijkaa.Net
open Go.RowKit Go.Proofs.YtjcpchkbhgijkaaW.PrintWords Go.Proofs.YtjcpchkbhgijkaaW.PrintLast Go.Proofs.YtjcpchkbhgijkaaW.PrintMore Go.Proofs.Ytjcpchkbhgijkaa.MNet Go.Proofs.Ytjcpchkbhgijkaa.Sep
set_option linter.unusedVariables false
set_option linter.unusedSimpArgs false
set_option maxHeartbeats 8000000 in
set_option maxRecDepth 100000 in
theorem Send_full {base : Nat} {w0 : World} {L : List Atom} (p : Nat) (ds : List Dg) (c tt : Int) (vb : Value) (w : World) (hN : NetSt base w0 w p ds c L) (hds : 400 ≤ ds.length) :
    Calls Try.prog 13 #[.pointer (some ⟨p, 0, none⟩), .int .i64 tt, vb] w fun e w' => e = .returned (.bool false) ∧ NetSt base w0 w' p ds c L := by
  obtain ⟨v, H⟩ := hN
  have hcell := (H.cell 0).trans (show _ = some v from rfl)
  obtain ⟨Af, cf, rfl, hlf, _⟩ := (H.front 1 _ rfl).reads
  have hd1 : decide (400 ≤ ((ds.length : Nat) : Int)) = true := decide_eq_true (by omega)
  replace H := Aside0.mk H
  clear hlf hds
  go_enter Try.func13, Try.ntmps13
  go_wp2
  go_ret
  exact ⟨rfl, _, H.out⟩
set_option maxHeartbeats 8000000 in
set_option maxRecDepth 100000 in
theorem at_in (g j n cf : Nat) (tt : Int) (vb : Value) (w : World) (hj : j < n) (hn : n ≤ 9223372036854775807) (A : Option Addr) (lb cb : Nat) (hvb : vb = .slice A lb cb) (h0 : w.cell? ⟨g, j * 2, none⟩ = some (.int .i64 tt)) (h1 : w.cell? ⟨g, j * 2 + 1, none⟩ = some vb) :
    Calls Try.prog 26 #[.slice (some ⟨g, 0, none⟩) n cf, .int .i64 j] w fun e w' => e = .returned (.tuple #[.agg #[.int .i64 tt, vb], .bool true]) ∧ Below w.heap.size w w' := by
  subst hvb
  have i1 : decide ((j : Int) < 0) = false := decide_eq_false (by omega)
  have i2 : decide ((n : Int) ≤ (j : Int)) = false := decide_eq_false (by omega)
  have i3 : (0 : Int) ≤ (j : Int) := by omega
  have i4 : (j : Int) < (n : Int) := by omega
  have i5 : decide (n ≤ j) = false := decide_eq_false (by omega)
  have a0 := cellA h0
  have a1 := cellA h1
  clear hj hn
  go_enter Try.func26, Try.ntmps26
  go_wp2
  exact bodyPost_ret (results_ct rfl _ _ w.heap.size 57 #[.int .i64 tt, .slice A lb cb] (0, 0) _ rfl (heap_alloc_new w _) Try.underlying57 rfl (by kernel_rfl)) rfl ⟨rfl, below_alloc (Below.refl _ _) _⟩
set_option maxHeartbeats 8000000 in
set_option maxRecDepth 100000 in
theorem at_low (i : Int) (A : Option Addr) (n cf : Nat) (w : World) (hi : i < 0) :
    Calls Try.prog 26 #[.slice A n cf, .int .i64 i] w fun e w' => e = .returned (.tuple #[.agg #[.int .i64 0, .slice none 0 0], .bool false]) ∧ Below w.heap.size w w' := by
  have i1 : decide (i < 0) = true := decide_eq_true hi
  clear hi
  go_enter Try.func26, Try.ntmps26
  go_wp2
  exact bodyPost_ret (results_ct rfl _ _ w.heap.size 57 #[.int .i64 0, .slice none 0 0] (0, 0) _ rfl (heap_alloc_new w _) Try.underlying57 rfl (by kernel_rfl)) rfl ⟨rfl, below_alloc (Below.refl _ _) _⟩
set_option maxHeartbeats 8000000 in
set_option maxRecDepth 100000 in
theorem at_high (i : Int) (A : Option Addr) (n cf : Nat) (w : World) (h0 : 0 ≤ i) (hi : (n : Int) ≤ i) :
    Calls Try.prog 26 #[.slice A n cf, .int .i64 i] w fun e w' => e = .returned (.tuple #[.agg #[.int .i64 0, .slice none 0 0], .bool false]) ∧ Below w.heap.size w w' := by
  have i1 : decide (i < 0) = false := decide_eq_false (by omega)
  have i2 : decide ((n : Int) ≤ i) = true := decide_eq_true hi
  clear hi h0
  go_enter Try.func26, Try.ntmps26
  go_wp2
  exact bodyPost_ret (results_ct rfl _ _ w.heap.size 57 #[.int .i64 0, .slice none 0 0] (0, 0) _ rfl (heap_alloc_new w _) Try.underlying57 rfl (by kernel_rfl)) rfl ⟨rfl, below_alloc (Below.refl _ _) _⟩
theorem at_out (i : Int) (A : Option Addr) (n cf : Nat) (w : World) (hi : i < 0 ∨ (n : Int) ≤ i) :
    Calls Try.prog 26 #[.slice A n cf, .int .i64 i] w fun e w' => e = .returned (.tuple #[.agg #[.int .i64 0, .slice none 0 0], .bool false]) ∧ Below w.heap.size w w' := by
  by_cases h : i < 0
  · exact at_low i A n cf w h
  · exact at_high i A n cf w (by omega) (by omega)
set_option maxHeartbeats 8000000 in
set_option maxRecDepth 100000 in
theorem New_ok {base : Nat} {w0 : World} {L : List Atom} (w : World) (H : St base w0 w L) :
    Calls Try.prog 9 #[] w fun e w' => ∃ p : Nat, e = .returned (.pointer (some ⟨p, 0, none⟩)) ∧ NetSt base w0 w' p [] 0 L := by
  replace H := Aside0.mk H
  go_enter Try.func9, Try.ntmps9
  go_wp2
  go_ret
  exact ⟨_, rfl, _, (St.nil_row dk 57 (H.out.box _ _)).f1⟩
set_option maxHeartbeats 8000000 in
set_option maxRecDepth 100000 in
theorem Sent_ok {base : Nat} {w0 : World} {L : List Atom} (p : Nat) (ds : List Dg) (c : Int) (w : World) (hN : NetSt base w0 w p ds c L) :
    Calls Try.prog 23 #[.pointer (some ⟨p, 0, none⟩)] w fun e w' => e = .returned (.int .i64 c) ∧ NetSt base w0 w' p ds c L := by
  obtain ⟨v, H⟩ := hN
  have hcell := (H.cell 1).trans (show _ = some (Value.int .i64 c) from rfl)
  replace H := Aside0.mk H
  go_enter Try.func23, Try.ntmps23
  go_wp2
  go_ret
  exact ⟨rfl, _, H.out⟩
/-- What a datagram's cells are. -/
theorem dk_open {w : World} {x : Dg} {cs : List Value} (h : dk.K w x cs) : ∃ A c, cs = [.int .i64 x.1.1, .slice A x.1.2.length c] ∧ x.2 = cs ∧ x.1.2.length ≤ c ∧ (Kd.int .u8).C w A x.1.2.length x.1.2 := by
  obtain ⟨h0, c0, c1, h1, rfl, A, c, rfl, hl, hc⟩ := h
  exact ⟨A, c, h1, h0.symm, hl, hc⟩
/-- Datagram k of a row that is read. -/
theorem el_at {w : World} {A : Option Addr} {ds : List Dg} (h : dk.C w A ds.length ds) (k : Nat) (hk : k < ds.length) :
    ∃ x, ds[k]? = some x ∧ ∃ ad Ab cb, A = some ad ∧ w.cell? (ad.add (k * 2)) = some (.int .i64 x.1.1) ∧ w.cell? ⟨(ad.add (k * 2)).block, (ad.add (k * 2)).off + 1, none⟩ = some (.slice Ab x.1.2.length cb) ∧ x.2 = [.int .i64 x.1.1, .slice Ab x.1.2.length cb] ∧ x.1.2.length ≤ cb ∧ (Kd.int .u8).C w Ab x.1.2.length x.1.2 := by
  obtain ⟨ad, cs, rfl, _, hK, hcell⟩ := Kd.C_get h ((0, []), []) (k : Int) (by omega) (by omega)
  have hx : ds[k]? = some (ds.getD k ((0, []), [])) := by rw [List.getD_eq_getElem?_getD, List.getElem?_eq_getElem hk]; rfl
  refine ⟨_, hx, ad, ?_⟩
  obtain ⟨Ab, cb, rfl, h2, hl, hc⟩ := dk_open hK
  refine ⟨Ab, cb, rfl, ?_, ?_, h2, hl, hc⟩
  · exact hcell 0 _ rfl
  · have := hcell 1 _ rfl
    rw [add_field _ _ _ (by decide)] at this
    exact this
set_option maxHeartbeats 8000000 in
set_option maxRecDepth 100000 in
theorem Flight_ok (A : Option Addr) (cf : Nat) (ds : List Dg) (w : World) (hr : dk.C w A ds.length ds) (hc : ds.length ≤ cf) (hl : ds.length ≤ 400) :
    Calls Try.prog 22 #[.slice A ds.length cf] w fun e w' => ∃ v, e = .returned v ∧ St w.heap.size w w' [aM (sep 3 (Kd.int .i64)) (ds.map (·.1.1)) [v]] := by
  have HR := Aside0.mk hr
  have HL := Aside0.mk hl
  clear hr hc hl
  go_enter Try.func22, Try.ntmps22
  go_wp2_with fail
  go_loopg [3, 8] (ds.length + 1) (fun kq v3 v8 w' => ∃ k : Nat, v8 = .int .i64 k ∧ Aside0 (k ≤ ds.length) ∧ Aside0 (kq + k = ds.length + 1) ∧ Aside0 (St w.heap.size w w' [aM (sep 3 (Kd.int .i64)) ((ds.map (·.1.1)).take k) [v3]]))
  case atStart => exact ⟨0, rfl, ⟨Nat.zero_le _⟩, ⟨by omega⟩, ⟨St.nil_row _ _ (St.start w)⟩⟩
  case round =>
    obtain ⟨k, rfl, HK, HM, HS⟩ := hrel
    by_cases hlt : k < ds.length
    · obtain ⟨A3, c3, rfl, _, _⟩ := HS.out.reads
      have i1 : decide ((k : Int) < (ds.length : Int)) = true := decide_eq_true (by omega)
      obtain ⟨x0, y0, i5⟩ := el_at (Kd.C_below HR.out HS.out.1) k hlt
      obtain ⟨ad, Ab, cb, rfl, h0, h1, _, _, _⟩ := i5
      have a0 := cellA h0
      have a1 := cellA h1
      have i3 : (0 : Int) ≤ (k : Int) := by omega
      have i4 : (k : Int) < (ds.length : Int) := by omega
      go_wp2_with (at_builtin; refine St.append (((HS.out.alloc (.cells #[.int .i64 x0.1.1, .slice Ab x0.1.2.length cb] 57)).scal (Value.int .i64) (fun _ => rfl) x0.1.1).f1) rfl (.tmp 12) (.tmp 15) 26 (.int .i64 0) 8 rfl Try.underlying26 info3 rfl (by decide) (by decide) rfl (show Value.slice (some ⟨wr.heap.size + 1, 0, none⟩) 1 1 = _ from by rw [Own.size_alloc]) (by have := HL.out; rw [List.length_take]; omega) ?_; intro v2 w2 H2; replace H2 := Aside0.mk H2)
      go_roundg (gk - 1)
      case measure => have := HM.out; omega
      case rel =>
        have := HL.out
        exact ⟨k + 1, by rw [show wrap64 ((k : Int) + 1) = ((k + 1 : Nat) : Int) from by unfold wrap64; omega], ⟨hlt⟩, ⟨by have := HM.out; omega⟩, ⟨by
          rw [List.take_succ_eq_append_getElem (by rw [List.length_map]; exact hlt), List.getElem_map, show ds[k] = x0 from Option.some.inj ((List.getElem?_eq_getElem hlt).symm.trans y0)]
          exact H2.out⟩⟩
    · have i1 : decide ((k : Int) < (ds.length : Int)) = false := decide_eq_false (by omega)
      rw [show (ds.map (·.1.1)).take k = ds.map (·.1.1) from List.take_of_length_le (by rw [List.length_map]; omega)] at HS
      obtain ⟨A3, c3, rfl, _, _⟩ := HS.out.reads
      go_wp2
      go_ret
      exact ⟨_, rfl, HS.out⟩
end Go.Proofs.Ytjcpchkbhgijkaa.Net
