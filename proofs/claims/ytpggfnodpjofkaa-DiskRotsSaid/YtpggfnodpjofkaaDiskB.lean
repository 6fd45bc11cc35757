/- Contracts of the disk's functions, over states told as atoms: New, SyncLog, Append, Lay, slot, Read, Slots. -/
import Derived.Test.YtpggfnodpjofkaaDiskA
namespace Go.Proofs.Ytpggfnodpjofkaa.Disk
open Go.RowKit Go.Proofs.YtpggfnodpjofkaaW.PrintWords Go.Proofs.YtpggfnodpjofkaaW.PrintLast Go.Proofs.YtpggfnodpjofkaaW.PrintMore Go.Proofs.Ytpggfnodpjofkaa.MDisk Go.Proofs.Ytpggfnodpjofkaa.Sep
set_option linter.unusedVariables false
set_option linter.unusedSimpArgs false
theorem info77 : (Try.prog.info? 77).map (fun i => (i.zero, i.size, i.bytes)) = some (some (.agg #[.slice none 0 0, .slice none 0 0, .bool false]), 3, 56) := by kernel_rfl
theorem els_rep {α : Type} {d : Kd α} {w : World} {base : Nat} {z0 : α} {zc : List Value} (hz : d.M w base (fun _ => False) z0 zc) : ∀ (n : Nat) (F : Nat → Prop), Els d w base F (List.replicate n z0) (List.replicate n zc).flatten
  | 0, _ => rfl
  | n + 1, F => ⟨zc, _, fun _ => False, rfl, fun _ h => h.elim, hz, els_rep hz n _⟩
theorem made_row {base : Nat} {w0 W w1 : World} {L : List Atom} {α : Type} {d : Kd α} {e n : Nat} {z0 : α} {zc : List Value} {v : Value} (h : St base w0 W L) (hz : d.M w1 W.heap.size (fun _ => False) z0 zc)
    (ho : w1.ownsRow W.heap.size e d.sz v n (List.replicate n zc).flatten) (hb : Below W.heap.size W w1) : St base w0 w1 (aM (sep e d) (List.replicate n z0) [v] :: L) :=
  h.newM (d := sep e d) (ok := fun _ => True) hb ⟨v, rfl, _, by rw [List.length_replicate]; exact ho, fun _ _ => trivial, els_rep hz n _⟩
theorem zero_cel (w : World) (base : Nat) : ck.M w base (fun _ => False) ([], [], false) [.slice none 0 0, .slice none 0 0, .bool false] :=
  have hn : bk.M w base (fun _ => False) [] [.slice none 0 0] := ⟨.slice none 0 0, rfl, [], own_nil _ _ _ _, fun k hk => by simp [Value.ownBlock] at hk, rfl⟩
  ⟨[.slice none 0 0], [.slice none 0 0, .bool false], fun _ => False, fun _ => False, rfl, fun _ h => h, fun _ h => h.elim, hn, [.slice none 0 0], [.bool false], fun _ => False, fun _ => False, rfl, fun _ h => h, fun _ h => h.elim, hn, rfl⟩
theorem build72a (p : Int) (A : Option Addr) (n c : Nat) (w : World) : (Instr.build 72 #[(0, .agg #[.int .i64 p]), (2, .slice A n c)]).run Try.prog w = .ok (.agg #[.int .i64 p, .slice none 0 0, .slice none 0 0, .slice none 0 0, .bool false, .slice A n c]) w := by kernel_rfl
/-- A disk with nothing on it. -/
def fresh (n : Nat) (p : Int) : Dk := ⟨p, [], [], [], false, List.replicate n ([], [], false)⟩
set_option maxHeartbeats 8000000 in
set_option maxRecDepth 100000 in
theorem New_ok {base : Nat} {w0 : World} {L : List Atom} (n : Nat) (p : Int) (w : World) (H : St base w0 w L) (h1 : 1 ≤ n) (h2 : n ≤ 512) :
    Calls Try.prog 11 #[.int .i64 n, .int .i64 p] w fun e w' => ∃ d, e = .returned (.tuple #[.pointer (some ⟨d, 0, none⟩), .int .i64 0]) ∧ DSt base w0 w' d (fresh n p) L := by
  have i1 : decide ((n : Int) < 1) = false := decide_eq_false (by omega)
  have i2 : decide (512 < (n : Int)) = false := decide_eq_false (by omega)
  have H' := Aside0.mk H
  have HN := Aside0.mk h2
  clear H h1 h2
  go_enter Try.func11, Try.ntmps11
  go_wp2_with ((with_reducible refine gate_dst (N := 15) rfl ?_); go_loud (refine Kd.R_make (Kd.raw 3) (w0 := w) w.heap.size 77 rfl (N := 15) rfl 68 (.tmp 14) (.tmp 14) rfl (n : Int) rfl rfl Try.underlying68 (.agg #[.slice none 0 0, .slice none 0 0, .bool false]) 56 info77 rfl (by decide) (by decide) [.slice none 0 0, .slice none 0 0, .bool false] (ok := fun _ => True) (okp := fun _ => False) ⟨rfl, rfl, by decide⟩ (fun _ hk => hk.elim) trivial (by omega) (by have := HN.out; omega) (Below.refl _ _) (Nat.le_refl _) ?_; intro v1 w1 hr hb hg hat; have H1 := Aside0.mk (made_row H'.out (zero_cel w1 w.heap.size) (show w1.ownsRow w.heap.size 77 ck.sz v1 n _ from by have := own_raw hr; rw [Int.toNat_natCast, List.length_replicate] at this; exact this) hb); obtain ⟨A1, c1, rfl, _, _⟩ := H1.out.reads; rw [List.length_replicate] at H1; rw [List.length_replicate]; clear hr hb hg hat))
  go_ret2
  refine ⟨_, rfl, .slice none 0 0, .slice none 0 0, .slice none 0 0, .slice A1 n c1, ?_⟩
  have h3 := (((H1.out.box #[.int .i64 p, .slice none 0 0, .slice none 0 0, .slice none 0 0, .bool false, .slice A1 n c1] 72).nil_row (Kd.int .u8) 5).nil_row (Kd.int .u8) 5).nil_row (Kd.int .u8) 5
  exact h3.f3
set_option maxHeartbeats 8000000 in
set_option maxRecDepth 100000 in
theorem SyncLog_ok {base : Nat} {w0 : World} {L : List Atom} (d : Nat) (D : Dk) (w : World) (h : DSt base w0 w d D L) (hp : D.pw ≠ 0) (hl : D.fits) :
    Calls Try.prog 14 #[.pointer (some ⟨d, 0, none⟩)] w fun e w' => e = .returned (.int .i64 0) ∧ DSt base w0 w' d { pw := drawn D.pw, safe := D.log, base := [], more := [], laid := false, cs := D.cs } L := by
  have H := Aside0.mk h
  have HL := Aside0.mk hl
  have HP := Aside0.mk hp
  clear h hl hp
  go_enter Try.func14, Try.ntmps14
  go_wp2_with fail
  refine (draw_ok d D w H.out HP.out).mono ?_
  rintro e w1 ⟨rfl, h1⟩
  replace H := Aside0.mk h1
  clear h1
  go_wp2_with fail
  refine (sync_ok d _ w1 H.out HL.out).mono ?_
  rintro e w2 ⟨rfl, h1⟩
  replace H := Aside0.mk h1
  clear h1
  go_wp2
  go_ret
  exact ⟨rfl, H.out⟩
set_option maxHeartbeats 8000000 in
set_option maxRecDepth 100000 in
theorem SyncLog_down {base : Nat} {w0 : World} {L : List Atom} (d : Nat) (D : Dk) (w : World) (h : DSt base w0 w d D L) (hp : D.pw = 0) :
    Calls Try.prog 14 #[.pointer (some ⟨d, 0, none⟩)] w fun e w' => e = .returned (.int .i64 81) ∧ w = w' := by
  have H := Aside0.mk h
  have HP := Aside0.mk hp
  clear h hp
  go_enter Try.func14, Try.ntmps14
  go_wp2_with fail
  refine (draw_down d D w H.out HP.out).mono ?_
  rintro e w1 ⟨rfl, rfl⟩
  go_wp2
  go_ret
  exact ⟨rfl, rfl⟩
set_option maxHeartbeats 8000000 in
set_option maxRecDepth 100000 in
theorem Append_down {base : Nat} {w0 : World} {L : List Atom} (d : Nat) (D : Dk) (v : Value) (w : World) (h : DSt base w0 w d D L) (hp : D.pw = 0) :
    Calls Try.prog 13 #[.pointer (some ⟨d, 0, none⟩), v] w fun e w' => e = .returned (.int .i64 81) ∧ w = w' := by
  have H := Aside0.mk h
  have HP := Aside0.mk hp
  clear h hp
  go_enter Try.func13, Try.ntmps13
  go_wp2_with fail
  refine (draw_down d D w H.out HP.out).mono ?_
  rintro e w1 ⟨rfl, rfl⟩
  go_wp2
  go_ret
  exact ⟨rfl, rfl⟩
/-- The disk's row of what was appended ahead of all else. -/
theorem DSt.more_ {base : Nat} {w0 w : World} {L : List Atom} {d : Nat} {D : Dk} (h : DSt base w0 w d D L) : ∃ vs vb Am cm vc, D.more.length ≤ cm ∧ St base w0 w (aM bk D.more [.slice Am D.more.length cm] :: aB d #[.int .i64 D.pw, vs, vb, .slice Am D.more.length cm, .bool D.laid, vc] 72 :: aM bk D.safe [vs] :: aM bk D.base [vb] :: aM (sep 77 ck) D.cs [vc] :: L) := by
  obtain ⟨vs, vb, vm, vc, h⟩ := h
  obtain ⟨Am, cm, rfl, hm, _⟩ := (h.f3).reads
  exact ⟨vs, vb, Am, cm, vc, hm, h.f3⟩
theorem fits_pw {D : Dk} (h : D.fits) (p : Int) : Dk.fits { D with pw := p } := h
set_option maxHeartbeats 8000000 in
set_option maxRecDepth 100000 in
theorem Append_ok {base : Nat} {w0 : World} {L : List Atom} (d : Nat) (D : Dk) (A : Option Addr) (c : Nat) (b : List Int) (w : World) (h : DSt base w0 w d D L) (hp : D.pw ≠ 0) (hr : ∀ w1, Below base w0 w1 → DSt base w0 w1 d { D with pw := drawn D.pw } L → Kd.C (Kd.int .u8) w1 A b.length b) (hl : D.more.length + b.length < 140737488355328) :
    Calls Try.prog 13 #[.pointer (some ⟨d, 0, none⟩), .slice A b.length c] w fun e w' => e = .returned (.int .i64 0) ∧ DSt base w0 w' d { D with pw := drawn D.pw, more := D.more ++ b } L := by
  have H := Aside0.mk h
  have HP := Aside0.mk hp
  have HR := Aside0.mk hr
  have HL := Aside0.mk hl
  clear h hp hr hl
  go_enter Try.func13, Try.ntmps13
  go_wp2_with fail
  refine (draw_ok d D w H.out HP.out).mono ?_
  rintro e w1 ⟨rfl, h1⟩
  have HRC := Aside0.mk (HR.out w1 h1.below h1)
  obtain ⟨vs, vb, Am, cm, vc, hm, h2⟩ := h1.more_
  have hc3 := (h2.f1.cell 3).trans (show _ = some (Value.slice Am D.more.length cm) from rfl)
  replace H := Aside0.mk h2
  clear h1 h2 hm
  go_wp2_with (at_builtin; refine St.append_row H.out rfl (.tmp 18) (.tmp 19) 29 1 rfl Try.underlying29 info5 (by decide) A c rfl rfl HRC.out (by have := HL.out; show (D.more.length + b.length) * 1 ≤ _; omega) ?_; intro v8 w8 H8; have hfz := H8.f1.frozen 3; have hcc := (H8.f1.cell 3).trans (show _ = some (Value.slice Am D.more.length cm) from rfl); obtain ⟨A8, c8, rfl, _, _⟩ := H8.reads; rw [List.length_append] at H8; replace H8 := Aside0.mk H8)
  go_ret
  exact ⟨rfl, vs, vb, .slice A8 (D.more.length + b.length) c8, vc, (H8.out.f1.set 3 _).f3.f3.f2⟩
set_option maxHeartbeats 8000000 in
set_option maxRecDepth 100000 in
theorem Lay_ok {base : Nat} {w0 : World} {L : List Atom} (d : Nat) (D : Dk) (A : Option Addr) (c : Nat) (b : List Int) (w : World) (h : DSt base w0 w d D L) (hp : D.pw ≠ 0) (hc : b.length ≤ c) (hr : ∀ w1, Below base w0 w1 → DSt base w0 w1 d { D with pw := drawn D.pw } L → Kd.C (Kd.int .u8) w1 A b.length b) (hl : b.length < 140737488355328) :
    Calls Try.prog 20 #[.pointer (some ⟨d, 0, none⟩), .slice A b.length c] w fun e w' => e = .returned (.int .i64 0) ∧ DSt base w0 w' d { D with pw := drawn D.pw, laid := true, base := b, more := [] } L := by
  have H := Aside0.mk h
  have HP := Aside0.mk hp
  have HR := Aside0.mk hr
  have HL := Aside0.mk hl
  have HC := Aside0.mk hc
  clear h hp hr hl hc
  go_enter Try.func20, Try.ntmps20
  go_wp2_with fail
  refine (draw_ok d D w H.out HP.out).mono ?_
  rintro e w1 ⟨rfl, h1⟩
  replace H := Aside0.mk h1
  clear h1
  go_wp2_with fail
  refine (slices_Clone_byte_byte.calls A c b b w1 (HR.out w1 H.out.below H.out) HC.out (Clone_ok b HL.out)).mono ?_
  rintro e w2 ⟨v2, rfl, ho, hb⟩
  obtain ⟨A2, c2, rfl, _, _⟩ := Kd.R_reads ho
  obtain ⟨vs, vb, vm, vc, h2⟩ := H.out.newR hb ho
  have hf2 := h2.frozen 2
  have hf3 := h2.frozen 3
  have hf4 := h2.frozen 4
  have hc2 := (h2.cell 2).trans (show _ = some vb from rfl)
  have hc3 := (h2.cell 3).trans (show _ = some vm from rfl)
  have hc4 := (h2.cell 4).trans (show _ = some (Value.bool D.laid) from rfl)
  replace H := Aside0.mk h2
  clear h2 ho hb HR
  go_wp2
  go_ret
  refine ⟨rfl, vs, .slice A2 b.length c2, .slice none 0 0, vc, ?_⟩
  have h3 := ((H.out.set 4 (.bool true)).set 2 (.slice A2 b.length c2)).set 3 (.slice none 0 0)
  exact ((h3.f2.drop.f2.drop).nil_row (Kd.int .u8) 5).f4.f3.f3
set_option maxHeartbeats 8000000 in
set_option maxRecDepth 100000 in
theorem Lay_down {base : Nat} {w0 : World} {L : List Atom} (d : Nat) (D : Dk) (v : Value) (w : World) (h : DSt base w0 w d D L) (hp : D.pw = 0) :
    Calls Try.prog 20 #[.pointer (some ⟨d, 0, none⟩), v] w fun e w' => e = .returned (.int .i64 81) ∧ w = w' := by
  have H := Aside0.mk h
  have HP := Aside0.mk hp
  clear h hp
  go_enter Try.func20, Try.ntmps20
  go_wp2_with fail
  refine (draw_down d D w H.out HP.out).mono ?_
  rintro e w1 ⟨rfl, rfl⟩
  go_wp2
  go_ret
  exact ⟨rfl, rfl⟩
/-- What a slot's cells are. -/
theorem ck_open {w : World} {x : Cel} {cs : List Value} (h : ck.K w x cs) : ∃ A c B e, cs = [.slice A x.1.length c, .slice B x.2.1.length e, .bool x.2.2] ∧ x.1.length ≤ c ∧ (Kd.int .u8).C w A x.1.length x.1 ∧ x.2.1.length ≤ e ∧ (Kd.int .u8).C w B x.2.1.length x.2.1 := by
  obtain ⟨c0, c1, rfl, ⟨A, c, rfl, h1, h2⟩, c2, c3, rfl, ⟨B, e, rfl, h3, h4⟩, rfl⟩ := h
  exact ⟨A, c, B, e, rfl, h1, h2, h3, h4⟩
/-- Slot k. -/
theorem DSt.slot {base : Nat} {w0 w : World} {L : List Atom} {d : Nat} {D : Dk} (h : DSt base w0 w d D L) {k : Nat} (hk : k < D.cs.length) :
    ∃ g cc x, D.cs[k]? = some x ∧ D.cs.length ≤ cc ∧ w.cell? ⟨d, 5, none⟩ = some (.slice (some ⟨g, 0, none⟩) D.cs.length cc) ∧
      ∃ A c B e, w.cell? ⟨g, k * 3, none⟩ = some (.slice A x.1.length c) ∧ w.cell? ⟨g, k * 3 + 1, none⟩ = some (.slice B x.2.1.length e) ∧ w.cell? ⟨g, k * 3 + 2, none⟩ = some (.bool x.2.2) ∧
        x.1.length ≤ c ∧ (Kd.int .u8).C w A x.1.length x.1 ∧ x.2.1.length ≤ e ∧ (Kd.int .u8).C w B x.2.1.length x.2.1 := by
  obtain ⟨vs, vb, vm, vc, h⟩ := h
  obtain ⟨inner, H1⟩ := (h.f4).open_row
  obtain ⟨ok, _, ho⟩ := H1.head
  obtain ⟨Ac, cc, rfl, hcc, hr⟩ := (h.f4).reads
  obtain ⟨g, cap, hv, _, _⟩ := ho.form (by omega)
  cases hv
  obtain ⟨ad, cs, he, _, hK, hcell⟩ := Kd.C_get hr ([], [], false) (k : Int) (by omega) (by omega)
  cases he
  rw [Int.toNat_natCast] at hK hcell
  obtain ⟨A, c, B, e, rfl, h1, h2, h3, h4⟩ := ck_open hK
  have hsz : ck.sz = 3 := rfl
  have c0 := hcell 0 _ rfl
  have c1 := hcell 1 _ rfl
  have c2 := hcell 2 _ rfl
  rw [hsz, add_plain] at c0 c1 c2
  exact ⟨g, cc, D.cs.getD k ([], [], false), by rw [List.getD_eq_getElem?_getD, List.getElem?_eq_getElem hk]; rfl, hcc, h.cell 5, A, c, B, e, c0, c1, c2, h1, h2, h3, h4⟩
set_option maxHeartbeats 8000000 in
set_option maxRecDepth 100000 in
theorem slot_in (d g n cc k : Nat) (w : World) (hk : k < n) (hn : n ≤ 9223372036854775807) (hc : w.cell? ⟨d, 5, none⟩ = some (.slice (some ⟨g, 0, none⟩) n cc)) :
    Calls Try.prog 33 #[.pointer (some ⟨d, 0, none⟩), .int .i64 k] w fun e w' => e = .returned (.tuple #[.pointer (some ⟨g, k * 3, none⟩), .int .i64 0]) ∧ w = w' := by
  have i1 : decide ((k : Int) < 0) = false := decide_eq_false (by omega)
  have i2 : decide ((n : Int) ≤ (k : Int)) = false := decide_eq_false (by omega)
  have i5 : decide (n ≤ k) = false := decide_eq_false (by omega)
  have i3 : (0 : Int) ≤ (k : Int) := by omega
  have i4 : (k : Int) < (n : Int) := by omega
  clear hk hn
  go_enter Try.func33, Try.ntmps33
  go_wp2
  go_ret2
  exact ⟨rfl, rfl⟩
set_option maxHeartbeats 8000000 in
set_option maxRecDepth 100000 in
theorem slot_low (d : Nat) (i : Int) (w : World) (hi : i < 0) :
    Calls Try.prog 33 #[.pointer (some ⟨d, 0, none⟩), .int .i64 i] w fun e w' => e = .returned (.tuple #[.pointer none, .int .i64 80]) ∧ w = w' := by
  have i1 : decide (i < 0) = true := decide_eq_true hi
  clear hi
  go_enter Try.func33, Try.ntmps33
  go_wp2
  go_ret2
  exact ⟨rfl, rfl⟩
set_option maxHeartbeats 8000000 in
set_option maxRecDepth 100000 in
theorem slot_high (d n cc : Nat) (A : Option Addr) (i : Int) (w : World) (h0 : 0 ≤ i) (hi : (n : Int) ≤ i) (hc : w.cell? ⟨d, 5, none⟩ = some (.slice A n cc)) :
    Calls Try.prog 33 #[.pointer (some ⟨d, 0, none⟩), .int .i64 i] w fun e w' => e = .returned (.tuple #[.pointer none, .int .i64 80]) ∧ w = w' := by
  have i1 : decide (i < 0) = false := decide_eq_false (by omega)
  have i2 : decide ((n : Int) ≤ i) = true := decide_eq_true hi
  clear h0 hi
  go_enter Try.func33, Try.ntmps33
  go_wp2
  go_ret2
  exact ⟨rfl, rfl⟩
theorem slot_out {base : Nat} {w0 : World} {L : List Atom} (d : Nat) (D : Dk) (i : Int) (w : World) (h : DSt base w0 w d D L) (hi : i < 0 ∨ (D.cs.length : Int) ≤ i) :
    Calls Try.prog 33 #[.pointer (some ⟨d, 0, none⟩), .int .i64 i] w fun e w' => e = .returned (.tuple #[.pointer none, .int .i64 80]) ∧ w = w' := by
  by_cases hn : i < 0
  · exact slot_low d i w hn
  · obtain ⟨_, _, _, _, _, _, Ac, cc, h1, _⟩ := h.cells
    exact slot_high d _ cc Ac i w (by omega) (by omega) (h1.cell 5)
set_option maxHeartbeats 8000000 in
set_option maxRecDepth 100000 in
theorem Slots_ok {base : Nat} {w0 : World} {L : List Atom} (d : Nat) (D : Dk) (w : World) (h : DSt base w0 w d D L) :
    Calls Try.prog 30 #[.pointer (some ⟨d, 0, none⟩)] w fun e w' => e = .returned (.int .i64 D.cs.length) ∧ w = w' := by
  obtain ⟨_, _, _, _, _, _, Ac, cc, h1, _⟩ := h.cells
  have hc := (h1.cell 5).trans (show _ = some (Value.slice Ac D.cs.length cc) from rfl)
  clear h h1
  go_enter Try.func30, Try.ntmps30
  go_wp2
  go_ret
  exact ⟨rfl, rfl⟩
set_option maxHeartbeats 8000000 in
set_option maxRecDepth 100000 in
theorem Read_out {base : Nat} {w0 : World} {L : List Atom} (d : Nat) (D : Dk) (i : Int) (w : World) (h : DSt base w0 w d D L) (hi : i < 0 ∨ (D.cs.length : Int) ≤ i) :
    Calls Try.prog 19 #[.pointer (some ⟨d, 0, none⟩), .int .i64 i] w fun e w' => e = .returned (.tuple #[.slice none 0 0, .int .i64 80]) ∧ w = w' := by
  have H := Aside0.mk h
  have HI := Aside0.mk hi
  clear h hi
  go_enter Try.func19, Try.ntmps19
  go_wp2_with fail
  refine (slot_out d D i w H.out HI.out).mono ?_
  rintro e w1 ⟨rfl, rfl⟩
  go_wp2
  go_ret2
  exact ⟨rfl, rfl⟩
set_option maxHeartbeats 8000000 in
set_option maxRecDepth 100000 in
theorem Read_ok {base : Nat} {w0 : World} {L : List Atom} (d : Nat) (D : Dk) (k : Nat) (x : Cel) (w : World) (h : DSt base w0 w d D L) (hx : D.cs[k]? = some x) (hn : D.cs.length ≤ 512) (hl : x.2.1.length < 140737488355328) :
    Calls Try.prog 19 #[.pointer (some ⟨d, 0, none⟩), .int .i64 k] w fun e w' => ∃ v, e = .returned (.tuple #[v, .int .i64 0]) ∧ DSt base w0 w' d D (aM bk x.2.1 [v] :: L) := by
  have hk : k < D.cs.length := (List.getElem?_eq_some_iff.1 hx).1
  obtain ⟨g, cc, x', hx', hcc, h5, A, c, B, e, c0, c1, c2, h1, h2, h3, h4⟩ := h.slot hk
  obtain rfl : x = x' := Option.some.inj (hx.symm.trans hx')
  have H := Aside0.mk h
  have HK := Aside0.mk hk
  have HN := Aside0.mk hn
  have HL := Aside0.mk hl
  have H5 := Aside0.mk h5
  have H3 := Aside0.mk h3
  have H4 := Aside0.mk h4
  clear h hk hn hl h5 h1 h2 h3 h4 hcc hx hx' c0 c2
  go_enter Try.func19, Try.ntmps19
  go_wp2_with fail
  refine (slot_in d g D.cs.length cc k w HK.out (by have := HN.out; omega) H5.out).mono ?_
  rintro e w1 ⟨rfl, rfl⟩
  go_wp2_with fail
  refine (slices_Clone_byte_byte.calls B e x.2.1 x.2.1 w H4.out H3.out (Clone_ok _ HL.out)).mono ?_
  rintro e w2 ⟨v2, rfl, ho, hb⟩
  have H6 := Aside0.mk (H.out.newR hb ho)
  clear ho hb
  go_wp2
  go_ret2
  exact ⟨v2, rfl, H6.out⟩
end Go.Proofs.Ytpggfnodpjofkaa.Disk
