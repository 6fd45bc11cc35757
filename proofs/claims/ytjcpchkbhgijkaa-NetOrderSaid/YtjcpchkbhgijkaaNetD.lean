/- Contracts of the net's functions, over states told as atoms: Lose, Take, Double. -/
import Derived.Test.YtjcpchkbhgijkaaNetC
namespace Go.Proofs.Ytjcpchkbhgijkaa.Net
open Go.RowKit Go.Proofs.YtjcpchkbhgijkaaW.PrintWords Go.Proofs.YtjcpchkbhgijkaaW.PrintLast Go.Proofs.YtjcpchkbhgijkaaW.PrintMore Go.Proofs.Ytjcpchkbhgijkaa.MNet Go.Proofs.Ytjcpchkbhgijkaa.Sep
set_option linter.unusedVariables false
set_option linter.unusedSimpArgs false
theorem NetSt.far {base : Nat} {w0 w w1 : World} {L : List Atom} {p : Nat} {ds : List Dg} {c : Int} (h : NetSt base w0 w p ds c L) (hb : Below w.heap.size w w1) : NetSt base w0 w1 p ds c L := by
  obtain ⟨v, h⟩ := h
  exact ⟨v, h.far hb⟩
theorem NetSt.alloc {base : Nat} {w0 w : World} {L : List Atom} {p : Nat} {ds : List Dg} {c : Int} (h : NetSt base w0 w p ds c L) (o : Obj) : NetSt base w0 (w.alloc o) p ds c L := h.far (below_alloc (Below.refl _ _) o)
theorem NetSt.drewN {base : Nat} {w0 w : World} {L : List Atom} {p : Nat} {ds : List Dg} {c : Int} (h : NetSt base w0 w p ds c L) (n : Nat) : NetSt base w0 (w.drewN n) p ds c L := h.far (pw_below_drewN (Below.refl _ _) n)
theorem NetSt.box {base : Nat} {w0 w : World} {L : List Atom} {p : Nat} {ds : List Dg} {c : Int} (h : NetSt base w0 w p ds c L) (cs : Array Value) (t : TypeId) : NetSt base w0 (w.alloc (.cells cs t)) p ds c (aB w.heap.size cs t :: L) := by
  obtain ⟨v, h⟩ := h
  exact ⟨v, (h.box cs t).f2.f2⟩
theorem NetSt.drop {base : Nat} {w0 w : World} {L : List Atom} {p : Nat} {ds : List Dg} {c : Int} {a : Atom} (h : NetSt base w0 w p ds c (a :: L)) : NetSt base w0 w p ds c L := by
  obtain ⟨v, h⟩ := h
  exact ⟨v, h.f2.drop⟩
theorem NetSt.take {base : Nat} {w0 w : World} {L : List Atom} {p : Nat} {ds : List Dg} {c : Int} {a : Atom} (h : NetSt base w0 w p ds c (a :: L)) : ∃ L', St base w0 w (a :: L') := by
  obtain ⟨v, h⟩ := h
  exact ⟨_, h.f2⟩
theorem NetSt.below {base : Nat} {w0 w : World} {L : List Atom} {p : Nat} {ds : List Dg} {c : Int} (h : NetSt base w0 w p ds c L) : Below base w0 w := by
  obtain ⟨v, h⟩ := h
  exact h.1
theorem NetSt.with_ {base : Nat} {w0 w w1 : World} {L : List Atom} {p : Nat} {ds : List Dg} {c : Int} {α : Type} {d : Kd α} {x : α} {cs : List Value} (h : NetSt base w0 w p ds c L) (hn : St w.heap.size w w1 [aM d x cs]) : NetSt base w0 w1 p ds c (aM d x cs :: L) := by
  obtain ⟨v, h⟩ := h
  exact ⟨v, (h.with_ hn).f2.f2⟩
theorem NetSt.newR {base : Nat} {w0 w w1 : World} {L : List Atom} {p : Nat} {ds : List Dg} {c : Int} {e : Nat} {k : IntKind} {ok : Nat → Prop} {v : Value} {xs : List Int} (h : NetSt base w0 w p ds c L) (hb : Below w.heap.size w w1) (hn : (Kd.int k).R e w1 w.heap.size ok v xs) : NetSt base w0 w1 p ds c (aM (sep e (Kd.int k)) xs [v] :: L) := by
  obtain ⟨u, h⟩ := h
  exact ⟨u, (h.newR hb hn).f2.f2⟩
theorem NetSt.cell {base : Nat} {w0 w : World} {L : List Atom} {p : Nat} {ds : List Dg} {c : Int} (h : NetSt base w0 w p ds c L) : ∃ Af cf, w.cell? ⟨p, 0, none⟩ = some (.slice Af ds.length cf) ∧ ds.length ≤ cf ∧ dk.C w Af ds.length ds := by
  obtain ⟨v, h⟩ := h
  obtain ⟨Af, cf, rfl, hl, hr⟩ := (h.f1).reads
  exact ⟨Af, cf, h.cell 0, hl, hr⟩
theorem NetSt.cell1 {base : Nat} {w0 w : World} {L : List Atom} {p : Nat} {ds : List Dg} {c : Int} (h : NetSt base w0 w p ds c L) : w.cell? ⟨p, 1, none⟩ = some (.int .i64 c) := by
  obtain ⟨v, h⟩ := h
  exact h.cell 1
set_option maxHeartbeats 8000000 in
set_option maxRecDepth 100000 in
theorem Sent_at (p : Nat) (c : Int) (w : World) (hcell : w.cell? ⟨p, 1, none⟩ = some (.int .i64 c)) : Calls Try.prog 23 #[.pointer (some ⟨p, 0, none⟩)] w fun e w' => e = .returned (.int .i64 c) ∧ w = w' := by
  go_enter Try.func23, Try.ntmps23
  go_wp2
  go_ret
  exact ⟨rfl, rfl⟩
/-- The flight lies at the head of a block, where something is on its way; datagram k of it. -/
theorem flight_at {base : Nat} {w0 w : World} {L : List Atom} {ds : List Dg} {v : Value} (H : St base w0 w (aM (sep 57 dk) ds [v] :: L)) {k : Nat} {x : Dg} (hx : ds[k]? = some x) :
    ∃ g cap Ab cb, v = .slice (some ⟨g, 0, none⟩) ds.length cap ∧ ds.length ≤ cap ∧ x.2 = [.int .i64 x.1.1, .slice Ab x.1.2.length cb] ∧ x.1.2.length ≤ cb ∧ (Kd.int .u8).C w Ab x.1.2.length x.1.2 ∧ w.cell? ⟨g, k * 2, none⟩ = some (.int .i64 x.1.1) ∧ w.cell? ⟨g, k * 2 + 1, none⟩ = some (.slice Ab x.1.2.length cb) := by
  have hk : k < ds.length := (List.getElem?_eq_some_iff.1 hx).1
  obtain ⟨inner, H1⟩ := H.open_row
  obtain ⟨ok, _, ho⟩ := H1.head
  obtain ⟨A, c, rfl, hc, hr⟩ := H.reads
  obtain ⟨g, cap, hv, _, _⟩ := ho.form (by omega)
  cases hv
  obtain ⟨x', hx', ad, Ab, cb, he, h0, h1, h2, hl, hcb⟩ := el_at hr k hk
  obtain rfl : x = x' := Option.some.inj (hx.symm.trans hx')
  cases he
  rw [add_plain] at h0 h1
  exact ⟨g, c, Ab, cb, rfl, hc, h2, hl, hcb, h0, h1⟩
set_option maxHeartbeats 8000000 in
set_option maxRecDepth 100000 in
theorem Lose_ok {base : Nat} {w0 : World} {L : List Atom} (p : Nat) (ds : List Dg) (c : Int) (k : Nat) (x : Dg) (w : World) (hN : NetSt base w0 w p ds c L) (hx : ds[k]? = some x) (hn : ds.length ≤ 400) :
    Calls Try.prog 18 #[.pointer (some ⟨p, 0, none⟩), .int .i64 k] w fun e w' => e = .returned (.bool true) ∧ NetSt base w0 w' p (ds.eraseIdx k) c (aM dk0 x.1 x.2 :: L) := by
  have hk : k < ds.length := (List.getElem?_eq_some_iff.1 hx).1
  obtain ⟨v, H⟩ := hN
  obtain ⟨g, cap, Ab, cb, rfl, hcap, hx2, hlb, hcb, h0, h1⟩ := flight_at H.f1 hx
  have hcell := (H.cell 0).trans (show _ = some (Value.slice (some ⟨g, 0, none⟩) ds.length cap) from rfl)
  replace H := Aside0.mk H
  have HK := Aside0.mk hk
  have HX := Aside0.mk hx
  have HN := Aside0.mk hn
  have H0 := Aside0.mk h0
  have H1 := Aside0.mk h1
  clear hk hx hn hcap hx2 hlb hcb h0 h1
  go_enter Try.func18, Try.ntmps18
  go_wp2_with fail
  refine (at_in g k ds.length cap x.1.1 _ w HK.out (by have := HN.out; omega) Ab x.1.2.length cb rfl H0.out H1.out).mono ?_
  rintro e w1 ⟨rfl, hb⟩
  have H2 := Aside0.mk (H.out.far hb)
  clear hb H
  have hcell1 := (H2.out.cell 0).trans (show _ = some (Value.slice (some ⟨g, 0, none⟩) ds.length cap) from rfl)
  have hal1 := cellA hcell1
  have hkk : ((k : Int) + 1) ≤ 9223372036854775807 := by have := HK.out; have := HN.out; omega
  go_wp2_with fail
  refine (Delete_ok g cap k ds x _ ((H2.out.alloc (.cells #[.int .i64 x.1.1, .slice Ab x.1.2.length cb] 57)).f1) HX.out HN.out).mono ?_
  rintro e w2 ⟨rfl, hS⟩
  have H3 := Aside0.mk hS.f2
  clear hS H2
  have hcell2 := (H3.out.cell 0).trans (show _ = some (Value.slice (some ⟨g, 0, none⟩) ds.length cap) from rfl)
  have hfz2 := H3.out.frozen 0
  go_wp2
  go_ret
  exact ⟨rfl, _, H3.out.set 0 _⟩
theorem dg_open {base : Nat} {w0 w : World} {L : List Atom} {x : Int × List Int} {vb : Value} (H : St base w0 w (aM dk0 x [.int .i64 x.1, vb] :: L)) : St base w0 w (aM (sep 5 (Kd.int .u8)) x.2 [vb] :: L) := by
  obtain ⟨c0, c1, he, hl, H1⟩ := H.split_both
  have : c0 = [.int .i64 x.1] := H1.K
  subst this
  obtain rfl : c1 = [vb] := by simpa using he.symm
  exact H1.drop
set_option maxHeartbeats 8000000 in
set_option maxRecDepth 100000 in
theorem Lose_out {base : Nat} {w0 : World} {L : List Atom} (p : Nat) (ds : List Dg) (c i : Int) (w : World) (hN : NetSt base w0 w p ds c L) (hi : i < 0 ∨ (ds.length : Int) ≤ i) :
    Calls Try.prog 18 #[.pointer (some ⟨p, 0, none⟩), .int .i64 i] w fun e w' => e = .returned (.bool false) ∧ NetSt base w0 w' p ds c L := by
  obtain ⟨v, H⟩ := hN
  have hcell := (H.cell 0).trans (show _ = some v from rfl)
  obtain ⟨Af, cf, rfl, hlf, _⟩ := (H.f1).reads
  replace H := Aside0.mk H
  replace hi := Aside0.mk hi
  clear hlf
  go_enter Try.func18, Try.ntmps18
  go_wp2_with fail
  refine (at_out i Af ds.length cf w hi.out).mono ?_
  rintro e w1 ⟨rfl, hb⟩
  have H2 := Aside0.mk (H.out.far hb)
  clear hb H
  go_wp2
  go_ret
  exact ⟨rfl, _, H2.out.alloc _⟩
set_option maxHeartbeats 8000000 in
set_option maxRecDepth 100000 in
theorem Take_ok {base : Nat} {w0 : World} {L : List Atom} (p : Nat) (ds : List Dg) (c : Int) (k : Nat) (x : Dg) (w : World) (hN : NetSt base w0 w p ds c L) (hx : ds[k]? = some x) (hn : ds.length ≤ 400) :
    Calls Try.prog 15 #[.pointer (some ⟨p, 0, none⟩), .int .i64 k] w fun e w' => ∃ vb, e = .returned (.tuple #[.int .i64 x.1.1, vb, .bool true]) ∧ NetSt base w0 w' p (ds.eraseIdx k) c (aM (sep 5 (Kd.int .u8)) x.1.2 [vb] :: L) := by
  have hk : k < ds.length := (List.getElem?_eq_some_iff.1 hx).1
  obtain ⟨v, H⟩ := hN
  obtain ⟨g, cap, Ab, cb, rfl, hcap, hx2, hlb, hcb, h0, h1⟩ := flight_at H.f1 hx
  have hcell := (H.cell 0).trans (show _ = some (Value.slice (some ⟨g, 0, none⟩) ds.length cap) from rfl)
  replace H := Aside0.mk H
  have HK := Aside0.mk hk
  have HX := Aside0.mk hx
  have HN := Aside0.mk hn
  have H0 := Aside0.mk h0
  have H1 := Aside0.mk h1
  replace hx2 := Aside0.mk hx2
  clear hk hx hn hcap hlb hcb h0 h1
  go_enter Try.func15, Try.ntmps15
  go_wp2_with fail
  refine (at_in g k ds.length cap x.1.1 _ w HK.out (by have := HN.out; omega) Ab x.1.2.length cb rfl H0.out H1.out).mono ?_
  rintro e w1 ⟨rfl, hb⟩
  have H2 := Aside0.mk ((H.out.far hb).box #[.int .i64 x.1.1, .slice Ab x.1.2.length cb] 57)
  clear hb H
  go_wp2_with fail
  refine (Lose_ok p ds c k x _ ⟨_, H2.out.f2.f2⟩ HX.out HN.out).mono ?_
  rintro e w2 ⟨rfl, v2, hS⟩
  have H3 := Aside0.mk hS
  have hc0 := (hS.f3.cell 0).trans (show _ = some (Value.int .i64 x.1.1) from rfl)
  have hc1 := (hS.f3.cell 1).trans (show _ = some (Value.slice Ab x.1.2.length cb) from rfl)
  clear hS H2
  go_wp2_with fail
  go_quiet (fail)
  go_wp2
  go_ret3
  refine ⟨.slice Ab x.1.2.length cb, rfl, v2, ?_⟩
  have H4 := H3.out.f3.drop.f2
  rw [hx2.out] at H4
  exact ((dg_open H4).f2.f2).drewN _
set_option maxHeartbeats 8000000 in
set_option maxRecDepth 100000 in
theorem Take_out {base : Nat} {w0 : World} {L : List Atom} (p : Nat) (ds : List Dg) (c i : Int) (w : World) (hN : NetSt base w0 w p ds c L) (hi : i < 0 ∨ (ds.length : Int) ≤ i) :
    Calls Try.prog 15 #[.pointer (some ⟨p, 0, none⟩), .int .i64 i] w fun e w' => e = .returned (.tuple #[.int .i64 0, .slice none 0 0, .bool false]) ∧ NetSt base w0 w' p ds c L := by
  obtain ⟨v, H⟩ := hN
  have hcell := (H.cell 0).trans (show _ = some v from rfl)
  obtain ⟨Af, cf, rfl, hlf, _⟩ := (H.f1).reads
  replace H := Aside0.mk H
  replace hi := Aside0.mk hi
  clear hlf
  go_enter Try.func15, Try.ntmps15
  go_wp2_with fail
  refine (at_out i Af ds.length cf w hi.out).mono ?_
  rintro e w1 ⟨rfl, hb⟩
  have H2 := Aside0.mk ((H.out.far hb).box #[.int .i64 0, .slice none 0 0] 57)
  clear hb H
  go_wp2_with fail
  refine (Lose_out p ds c i _ ⟨_, H2.out.f2.f2⟩ hi.out).mono ?_
  rintro e w2 ⟨rfl, v2, hS⟩
  have H3 := Aside0.mk hS
  have hc0 := (hS.f2.cell 0).trans (show _ = some (Value.int .i64 0) from rfl)
  have hc1 := (hS.f2.cell 1).trans (show _ = some (Value.slice none 0 0) from rfl)
  clear hS H2
  go_wp2_with fail
  go_quiet (fail)
  go_wp2
  go_ret3
  exact ⟨rfl, _, (H3.out.f2.drop).drewN _⟩
set_option maxHeartbeats 8000000 in
set_option maxRecDepth 100000 in
theorem Double_ok {base : Nat} {w0 : World} {L : List Atom} (p : Nat) (ds : List Dg) (c : Int) (k : Nat) (x : Dg) (w : World) (hN : NetSt base w0 w p ds c L) (hx : ds[k]? = some x) (hn : ds.length < 400) (hl : x.1.2.length < 140737488355328) :
    Calls Try.prog 20 #[.pointer (some ⟨p, 0, none⟩), .int .i64 k] w fun e w' => e = .returned (.bool true) ∧ ∃ v', NetSt base w0 w' p (ds ++ [(x.1, [.int .i64 x.1.1, v'])]) (wrap64 (c + 1)) L := by
  have hk : k < ds.length := (List.getElem?_eq_some_iff.1 hx).1
  obtain ⟨v, H⟩ := hN
  obtain ⟨g, cap, Ab, cb, rfl, hcap, hx2, hlb, hcb, h0, h1⟩ := flight_at H.f1 hx
  have hcell := (H.cell 0).trans (show _ = some (Value.slice (some ⟨g, 0, none⟩) ds.length cap) from rfl)
  replace H := Aside0.mk H
  have HK := Aside0.mk hk
  have HX := Aside0.mk hx
  have HN := Aside0.mk hn
  have HL := Aside0.mk hl
  have H0 := Aside0.mk h0
  have H1 := Aside0.mk h1
  have HCB := Aside0.mk hcb
  have HLB := Aside0.mk hlb
  clear hk hx hn hl hcap hx2 hlb hcb h0 h1
  go_enter Try.func20, Try.ntmps20
  go_wp2_with fail
  refine (at_in g k ds.length cap x.1.1 _ w HK.out (by have := HN.out; omega) Ab x.1.2.length cb rfl H0.out H1.out).mono ?_
  rintro e w1 ⟨rfl, hb⟩
  have HCB1 := Aside0.mk (Kd.C_below (Kd.C_below HCB.out hb) (below_alloc (Below.refl _ _) (.cells #[.int .i64 x.1.1, .slice Ab x.1.2.length cb] 57)))
  have H2 := Aside0.mk ((H.out.far hb).alloc (.cells #[.int .i64 x.1.1, .slice Ab x.1.2.length cb] 57))
  clear hb H
  go_wp2_with fail
  refine (Send_ok p ds c x.1.1 Ab cb x.1.2 _ ⟨_, H2.out⟩ HCB1.out HLB.out HL.out HN.out).mono ?_
  rintro e w2 ⟨rfl, v2, hS⟩
  have H3 := Aside0.mk hS
  clear hS H2
  go_wp2
  go_ret
  exact ⟨rfl, v2, H3.out⟩
set_option maxHeartbeats 8000000 in
set_option maxRecDepth 100000 in
theorem Double_full {base : Nat} {w0 : World} {L : List Atom} (p : Nat) (ds : List Dg) (c : Int) (k : Nat) (x : Dg) (w : World) (hN : NetSt base w0 w p ds c L) (hx : ds[k]? = some x) (hn : ds.length = 400) :
    Calls Try.prog 20 #[.pointer (some ⟨p, 0, none⟩), .int .i64 k] w fun e w' => e = .returned (.bool false) ∧ NetSt base w0 w' p ds c L := by
  have hk : k < ds.length := (List.getElem?_eq_some_iff.1 hx).1
  obtain ⟨v, H⟩ := hN
  obtain ⟨g, cap, Ab, cb, rfl, hcap, hx2, hlb, hcb, h0, h1⟩ := flight_at H.f1 hx
  have hcell := (H.cell 0).trans (show _ = some (Value.slice (some ⟨g, 0, none⟩) ds.length cap) from rfl)
  replace H := Aside0.mk H
  have HK := Aside0.mk hk
  have HX := Aside0.mk hx
  have HN := Aside0.mk hn
  have H0 := Aside0.mk h0
  have H1 := Aside0.mk h1
  clear hk hx hn hcap hx2 hlb hcb h0 h1
  go_enter Try.func20, Try.ntmps20
  go_wp2_with fail
  refine (at_in g k ds.length cap x.1.1 _ w HK.out (by have := HN.out; omega) Ab x.1.2.length cb rfl H0.out H1.out).mono ?_
  rintro e w1 ⟨rfl, hb⟩
  have H2 := Aside0.mk ((H.out.far hb).alloc (.cells #[.int .i64 x.1.1, .slice Ab x.1.2.length cb] 57))
  clear hb H
  go_wp2_with fail
  refine (Send_full p ds c x.1.1 _ _ ⟨_, H2.out⟩ (by have := HN.out; omega)).mono ?_
  rintro e w2 ⟨rfl, hS⟩
  replace hS := Aside0.mk hS
  clear H2
  go_wp2
  go_ret
  exact ⟨rfl, hS.out⟩
set_option maxHeartbeats 8000000 in
set_option maxRecDepth 100000 in
theorem Double_out {base : Nat} {w0 : World} {L : List Atom} (p : Nat) (ds : List Dg) (c i : Int) (w : World) (hN : NetSt base w0 w p ds c L) (hi : i < 0 ∨ (ds.length : Int) ≤ i) :
    Calls Try.prog 20 #[.pointer (some ⟨p, 0, none⟩), .int .i64 i] w fun e w' => e = .returned (.bool false) ∧ NetSt base w0 w' p ds c L := by
  obtain ⟨v, H⟩ := hN
  have hcell := (H.cell 0).trans (show _ = some v from rfl)
  obtain ⟨Af, cf, rfl, hlf, _⟩ := (H.f1).reads
  replace H := Aside0.mk H
  replace hi := Aside0.mk hi
  clear hlf
  go_enter Try.func20, Try.ntmps20
  go_wp2_with fail
  refine (at_out i Af ds.length cf w hi.out).mono ?_
  rintro e w1 ⟨rfl, hb⟩
  have H2 := Aside0.mk (H.out.far hb)
  clear hb H
  go_wp2
  go_ret
  exact ⟨rfl, _, H2.out.alloc _⟩
end Go.Proofs.Ytjcpchkbhgijkaa.Net
