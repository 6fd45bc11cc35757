/- Contracts of the disk's functions, over states told as atoms: Write, SyncSlots, flip, Rot. -/
import Derived.Test.YtpggfnodpjofkaaDiskB
import Derived.Test.YtpggfnodpjofkaaSep3
namespace Go.Proofs.Ytpggfnodpjofkaa.Disk
open Go.RowKit Go.Proofs.YtpggfnodpjofkaaW.PrintWords Go.Proofs.YtpggfnodpjofkaaW.PrintLast Go.Proofs.YtpggfnodpjofkaaW.PrintMore Go.Proofs.Ytpggfnodpjofkaa.MDisk Go.Proofs.Ytpggfnodpjofkaa.Sep
set_option linter.unusedVariables false
set_option linter.unusedSimpArgs false
/-- The slots' row laid open, slot k out of it. -/
theorem DSt.open_ {base : Nat} {w0 w : World} {L : List Atom} {d : Nat} {D : Dk} (h : DSt base w0 w d D L) {k : Nat} {x : Cel} (hx : D.cs[k]? = some x) :
    ∃ g cc P Q A c B e vs vb vm, P.length = k * 3 ∧ D.cs.length ≤ cc ∧ w.cell? ⟨d, 5, none⟩ = some (.slice (some ⟨g, 0, none⟩) D.cs.length cc) ∧ x.1.length ≤ c ∧ x.2.1.length ≤ e ∧ (P ++ [.slice A x.1.length c, .slice B x.2.1.length e, .bool x.2.2] ++ Q).length = D.cs.length * 3 ∧
      St base w0 w (aW 77 3 (.slice (some ⟨g, 0, none⟩) D.cs.length cc) D.cs.length (P ++ [.slice A x.1.length c, .slice B x.2.1.length e, .bool x.2.2] ++ Q) :: aM bk x.1 [.slice A x.1.length c] :: aM bk x.2.1 [.slice B x.2.1.length e] :: aE ck (D.cs.eraseIdx k) (P ++ Q) ::
        aB d #[.int .i64 D.pw, vs, vb, vm, .bool D.laid, .slice (some ⟨g, 0, none⟩) D.cs.length cc] 72 :: aM bk D.safe [vs] :: aM bk D.base [vb] :: aM bk D.more [vm] :: L) := by
  have hk : k < D.cs.length := (List.getElem?_eq_some_iff.1 hx).1
  obtain ⟨vs, vb, vm, vc, h⟩ := h
  obtain ⟨inner, H1⟩ := (h.f4).open_row
  obtain ⟨ok, _, ho⟩ := H1.head
  obtain ⟨Ac, cc, rfl, hcc, hr⟩ := (h.f4).reads
  obtain ⟨g, cap, hv, _, _⟩ := ho.form (by omega)
  cases hv
  have hil : inner.length = D.cs.length * 3 := ho.1
  have H2 := (H1.f1).take_el k x hx
  obtain ⟨A, c, B, e, hcs, h1, h2, h3, h4⟩ := ck_open H2.K
  have hsz : ck.sz = 3 := rfl
  rw [hsz] at hcs H2 H1 ho
  have hk3 : (k + 1) * 3 ≤ inner.length := by rw [hil]; omega
  have hd : inner.drop (k * 3) = [.slice A x.1.length c, .slice B x.2.1.length e, .bool x.2.2] ++ inner.drop ((k + 1) * 3) := by
    have := (List.take_append_drop 3 (inner.drop (k * 3))).symm
    rw [List.drop_drop, show k * 3 + 3 = (k + 1) * 3 from by omega] at this
    rw [hcs] at this
    exact this
  have hin : inner = inner.take (k * 3) ++ [.slice A x.1.length c, .slice B x.2.1.length e, .bool x.2.2] ++ inner.drop ((k + 1) * 3) := by
    rw [List.append_assoc, ← hd, List.take_append_drop]
  rw [hcs] at H2
  obtain ⟨c0, c1, he, hl0, H3⟩ := H2.split_both
  have hl0' : c0.length = 1 := hl0
  obtain ⟨z0, rfl⟩ := List.length_eq_one_iff.1 hl0'
  injection he with he1 he2
  subst he1
  subst he2
  obtain ⟨c2, c3, he, hl2, H4⟩ := (H3.f1).split_both
  have hl2' : c2.length = 1 := hl2
  obtain ⟨z2, rfl⟩ := List.length_eq_one_iff.1 hl2'
  injection he with he1 he2
  subst he1
  subst he2
  have H5 := H4.f1.drop
  refine ⟨g, cc, inner.take (k * 3), inner.drop ((k + 1) * 3), A, c, B, e, vs, vb, vm, by rw [List.length_take]; omega, hcc, h.cell 5, h1, h3, by rw [← hin]; exact hil, ?_⟩
  rw [← hin]
  exact H5.f1.f3
/-- The slots' row put together again, slot k being another. -/
theorem DSt.shut_ {base : Nat} {w0 w : World} {L : List Atom} {d : Nat} {D : Dk} {k : Nat} {x' : Cel} (hk : k < D.cs.length) {g cc : Nat} {P Q : List Value} {v1 v2 vs vb vm : Value} (hP : P.length = k * 3) (hl : (P ++ [v1, v2, .bool x'.2.2] ++ Q).length = D.cs.length * 3)
    (h : St base w0 w (aW 77 3 (.slice (some ⟨g, 0, none⟩) D.cs.length cc) D.cs.length (P ++ [v1, v2, .bool x'.2.2] ++ Q) :: aM bk x'.1 [v1] :: aM bk x'.2.1 [v2] :: aE ck (D.cs.eraseIdx k) (P ++ Q) ::
        aB d #[.int .i64 D.pw, vs, vb, vm, .bool D.laid, .slice (some ⟨g, 0, none⟩) D.cs.length cc] 72 :: aM bk D.safe [vs] :: aM bk D.base [vb] :: aM bk D.more [vm] :: L)) : DSt base w0 w d { D with cs := D.cs.set k x' } L := by
  have h1 := (h.f2.scal Value.bool (fun _ => rfl) x'.2.2).f1.join_both (a := bk) (b := Kd.bool)
  have h2 := (h1.f2).join_both (a := bk) (b := both bk Kd.bool)
  have hQ : Q.length = D.cs.length * 3 - (k + 1) * 3 := by
    rw [List.length_append, List.length_append, hP] at hl
    simp at hl
    omega
  have h3 : St base w0 w (aM ck x' [v1, v2, .bool x'.2.2] :: aE ck (D.cs.eraseIdx k) ((P ++ [v1, v2, .bool x'.2.2] ++ Q).take (k * ck.sz) ++ (P ++ [v1, v2, .bool x'.2.2] ++ Q).drop ((k + 1) * ck.sz)) :: aW 77 3 (.slice (some ⟨g, 0, none⟩) D.cs.length cc) D.cs.length (P ++ [v1, v2, .bool x'.2.2] ++ Q) ::
        aB d #[.int .i64 D.pw, vs, vb, vm, .bool D.laid, .slice (some ⟨g, 0, none⟩) D.cs.length cc] 72 :: aM bk D.safe [vs] :: aM bk D.base [vb] :: aM bk D.more [vm] :: L) := by
    have e1 : (P ++ [v1, v2, .bool x'.2.2] ++ Q).take (k * ck.sz) = P := by
      rw [List.append_assoc, List.take_append_of_le_length (by rw [hP]; exact Nat.le_refl _), List.take_of_length_le (by rw [hP]; exact Nat.le_refl _)]
    have e2 : (P ++ [v1, v2, .bool x'.2.2] ++ Q).drop ((k + 1) * ck.sz) = Q := by
      rw [List.drop_append_of_le_length (by rw [List.length_append, hP]; show (k + 1) * 3 ≤ k * 3 + 3; omega), List.drop_of_length_le (by rw [List.length_append, hP]; show k * 3 + 3 ≤ (k + 1) * 3; omega), List.nil_append]
    rw [e1, e2]
    exact h2.f2.f1
  have h4 := h3.el_back hk hl
  have e1 : (P ++ [v1, v2, .bool x'.2.2] ++ Q).take (k * ck.sz) ++ [v1, v2, .bool x'.2.2] ++ (P ++ [v1, v2, .bool x'.2.2] ++ Q).drop ((k + 1) * ck.sz) = P ++ [v1, v2, .bool x'.2.2] ++ Q := by
    rw [List.append_assoc P, List.take_append_of_le_length (by rw [hP]; exact Nat.le_refl _), List.take_of_length_le (by rw [hP]; exact Nat.le_refl _), ← List.append_assoc P, List.drop_append_of_le_length (by rw [List.length_append, hP]; show (k + 1) * 3 ≤ k * 3 + 3; omega), List.drop_of_length_le (by rw [List.length_append, hP]; show k * 3 + 3 ≤ (k + 1) * 3; omega), List.nil_append]
  rw [e1] at h4
  have h5 := h4.f1
  rw [show D.cs.length = (D.cs.set k x').length from by rw [List.length_set]] at h5
  have h6 := St.shut_row (d := ck) h5
  refine ⟨vs, vb, vm, .slice (some ⟨g, 0, none⟩) D.cs.length cc, ?_⟩
  rw [List.length_set] at h6
  exact h6.f1.f4.f4.f4.f3
set_option maxHeartbeats 8000000 in
set_option maxRecDepth 100000 in
theorem Write_out {base : Nat} {w0 : World} {L : List Atom} (d : Nat) (D : Dk) (i : Int) (v : Value) (w : World) (h : DSt base w0 w d D L) (hi : i < 0 ∨ (D.cs.length : Int) ≤ i) :
    Calls Try.prog 15 #[.pointer (some ⟨d, 0, none⟩), .int .i64 i, v] w fun e w' => e = .returned (.int .i64 80) ∧ w = w' := by
  have H := Aside0.mk h
  have HI := Aside0.mk hi
  clear h hi
  go_enter Try.func15, Try.ntmps15
  go_wp2_with fail
  refine (slot_out d D i w H.out HI.out).mono ?_
  rintro e w1 ⟨rfl, rfl⟩
  go_wp2
  go_ret
  exact ⟨rfl, rfl⟩
set_option maxHeartbeats 8000000 in
set_option maxRecDepth 100000 in
theorem Write_long {base : Nat} {w0 : World} {L : List Atom} (d : Nat) (D : Dk) (k : Nat) (A : Option Addr) (n c : Nat) (w : World) (h : DSt base w0 w d D L) (hk : k < D.cs.length) (hn : D.cs.length ≤ 512) (hl : 64 < n) :
    Calls Try.prog 15 #[.pointer (some ⟨d, 0, none⟩), .int .i64 k, .slice A n c] w fun e w' => e = .returned (.int .i64 41) ∧ w = w' := by
  obtain ⟨g, cc, x, hx, hcc, h5, _⟩ := h.slot hk
  have i1 : decide (64 < (n : Int)) = true := decide_eq_true (by omega)
  have H5 := Aside0.mk h5
  have HK := Aside0.mk hk
  have HN := Aside0.mk hn
  clear h hk hn hl h5 hx hcc
  go_enter Try.func15, Try.ntmps15
  go_wp2_with fail
  refine (slot_in d g D.cs.length cc k w HK.out (by have := HN.out; omega) H5.out).mono ?_
  rintro e w1 ⟨rfl, rfl⟩
  go_wp2
  go_ret
  exact ⟨rfl, rfl⟩
set_option maxHeartbeats 8000000 in
set_option maxRecDepth 100000 in
theorem Write_down {base : Nat} {w0 : World} {L : List Atom} (d : Nat) (D : Dk) (k : Nat) (A : Option Addr) (n c : Nat) (w : World) (h : DSt base w0 w d D L) (hk : k < D.cs.length) (hn : D.cs.length ≤ 512) (hl : n ≤ 64) (hp : D.pw = 0) :
    Calls Try.prog 15 #[.pointer (some ⟨d, 0, none⟩), .int .i64 k, .slice A n c] w fun e w' => e = .returned (.int .i64 81) ∧ w = w' := by
  obtain ⟨g, cc, x, hx, hcc, h5, _⟩ := h.slot hk
  have i1 : decide (64 < (n : Int)) = false := decide_eq_false (by omega)
  have H := Aside0.mk h
  have H5 := Aside0.mk h5
  have HK := Aside0.mk hk
  have HN := Aside0.mk hn
  have HP := Aside0.mk hp
  clear h hk hn hl h5 hx hcc hp
  go_enter Try.func15, Try.ntmps15
  go_wp2_with fail
  refine (slot_in d g D.cs.length cc k w HK.out (by have := HN.out; omega) H5.out).mono ?_
  rintro e w1 ⟨rfl, rfl⟩
  go_wp2_with fail
  refine (draw_down d D w H.out HP.out).mono ?_
  rintro e w1 ⟨rfl, rfl⟩
  go_wp2
  go_ret
  exact ⟨rfl, rfl⟩
set_option maxHeartbeats 8000000 in
set_option maxRecDepth 100000 in
theorem Write_ok {base : Nat} {w0 : World} {L : List Atom} (d : Nat) (D : Dk) (k : Nat) (x : Cel) (A : Option Addr) (c : Nat) (b : List Int) (w : World) (h : DSt base w0 w d D L) (hx : D.cs[k]? = some x) (hn : D.cs.length ≤ 512) (hl : b.length ≤ 64) (hp : D.pw ≠ 0) (hc : b.length ≤ c)
    (hr : ∀ w1, Below base w0 w1 → DSt base w0 w1 d { D with pw := drawn D.pw } L → Kd.C (Kd.int .u8) w1 A b.length b) :
    Calls Try.prog 15 #[.pointer (some ⟨d, 0, none⟩), .int .i64 k, .slice A b.length c] w fun e w' => e = .returned (.int .i64 0) ∧ DSt base w0 w' d { D with pw := drawn D.pw, cs := D.cs.set k (x.1, b, true) } L := by
  have hk : k < D.cs.length := (List.getElem?_eq_some_iff.1 hx).1
  obtain ⟨g, cc, x', hx', hcc, h5, _⟩ := h.slot hk
  have i1 : decide (64 < (b.length : Int)) = false := decide_eq_false (by omega)
  have H := Aside0.mk h
  have H5 := Aside0.mk h5
  have HK := Aside0.mk hk
  have HN := Aside0.mk hn
  have HP := Aside0.mk hp
  have HL := Aside0.mk hl
  have HC := Aside0.mk hc
  have HR := Aside0.mk hr
  have HX := Aside0.mk hx
  clear h hk hn hl h5 hx hx' hcc hp hc hr
  go_enter Try.func15, Try.ntmps15
  go_wp2_with fail
  refine (slot_in d g D.cs.length cc k w HK.out (by have := HN.out; omega) H5.out).mono ?_
  rintro e w1 ⟨rfl, rfl⟩
  go_wp2_with fail
  refine (draw_ok' d D w H.out HP.out).mono ?_
  rintro e w1 ⟨rfl, h1, hk5⟩
  have H1 := Aside0.mk h1
  have H51 := Aside0.mk (hk5.trans H5.out)
  clear h1 hk5
  go_wp2_with fail
  refine (slices_Clone_byte_byte.calls A c b b w1 (HR.out w1 H1.out.below H1.out) HC.out (Clone_ok b (by have := HL.out; omega))).mono ?_
  rintro e w2 ⟨v2, rfl, ho, hb⟩
  obtain ⟨A2, c2, rfl, _, _⟩ := Kd.R_reads ho
  have h2 := H1.out.newR hb ho
  have h52 := pw_cell_below hb H51.out
  clear ho hb
  obtain ⟨g', cc', P, Q, A3, c3, B3, e3, vs, vb, vm, hP, _, h5', _, _, hPQ, h3⟩ := h2.open_ (k := k) HX.out
  rw [h52] at h5'
  injection h5' with h5'
  injection h5' with ha hb hc
  injection ha with ha
  injection ha with ha
  subst ha
  subst hc
  clear hb h52
  have hPe : P.length = k * 3 := hP
  obtain ⟨hc1, hf1⟩ := h3.row_cell (k * 3 + 1) (.slice B3 x.2.1.length e3) (by rw [List.append_assoc, ← hPe, List.getElem?_append_right (by omega)]; simp)
  obtain ⟨hc2, hf2⟩ := h3.row_cell (k * 3 + 2) (.bool x.2.2) (by rw [List.append_assoc, ← hPe, List.getElem?_append_right (by omega)]; simp)
  have H3 := Aside0.mk h3
  replace hP := Aside0.mk hP
  replace hPQ := Aside0.mk hPQ
  clear h3 hPe h2
  go_wp2
  go_ret
  refine ⟨rfl, ?_⟩
  have h4 := (H3.out.row_set (k * 3 + 1) (.slice A2 b.length c2)).row_set (k * 3 + 2) (.bool true)
  rw [← hP.out, set_mid P Q _ [.slice A3 x.1.length c3, .slice A2 b.length c2, .bool x.2.2] 1 _ rfl (by simp), set_mid P Q _ [.slice A3 x.1.length c3, .slice A2 b.length c2, .bool true] 2 _ rfl (by simp), hP.out] at h4
  have h5 := ((h4.f2.drop).front 7 _ rfl : St base w0 _ (aM bk b [.slice A2 b.length c2] :: _))
  exact DSt.shut_ (D := { D with pw := drawn D.pw }) (x' := (x.1, b, true)) HK.out hP.out (by have := hPQ.out; simpa using this) h5.f2.f2
set_option maxHeartbeats 8000000 in
set_option maxRecDepth 100000 in
theorem flip_out (A : Option Addr) (n c : Nat) (bit : Int) (w : World) (h0 : 0 ≤ bit) (h9 : bit ≤ 9223372036854775807) (h : (n : Int) ≤ bit / 8) :
    Calls Try.prog 39 #[.slice A n c, .int .i64 bit] w fun e w' => e = .returned (.tuple #[]) ∧ w = w' := by
  have i1 : decide (bit / 8 < (n : Int)) = false := decide_eq_false (by omega)
  clear h
  go_enter Try.func39, Try.ntmps39
  go_wp2
  go_end0
  exact ⟨rfl, rfl⟩
/-- Bit by bit: what a turned bit makes of bytes. -/
def turned (l : List Int) (bit : Int) : List Int := if bit / 8 < (l.length : Int) then l.set (bit / 8).toNat (Go.bits .xor .u8 (l.getD (bit / 8).toNat 0) ((2 : Int) ^ (bit % 8).toNat % 256)) else l
set_option maxHeartbeats 8000000 in
set_option maxRecDepth 100000 in
theorem flip_in {base : Nat} {w0 : World} {L : List Atom} (g n c : Nat) (l : List Int) (bit : Int) (w : World) (H : St base w0 w (aM bk l [.slice (some ⟨g, 0, none⟩) n c] :: L)) (h0 : 0 ≤ bit) (h9 : bit ≤ 9223372036854775807) (h : bit / 8 < (n : Int)) (hn : n ≤ 9223372036854775807) :
    Calls Try.prog 39 #[.slice (some ⟨g, 0, none⟩) n c, .int .i64 bit] w fun e w' => e = .returned (.tuple #[]) ∧ St base w0 w' (aM bk (turned l bit) [.slice (some ⟨g, 0, none⟩) n c] :: L) := by
  obtain ⟨j, hj⟩ : ∃ j : Nat, bit / 8 = (j : Int) := ⟨(bit / 8).toNat, by omega⟩
  have hjn : j < n := by omega
  obtain ⟨hc, hf⟩ := H.int_cell j hjn
  have i1 : decide (bit / 8 < (n : Int)) = true := decide_eq_true (by omega)
  have i2 : (0 : Int) ≤ (j : Int) := by omega
  have i3 : (j : Int) < (n : Int) := by omega
  replace H := Aside0.mk H
  have HJ := Aside0.mk hj
  clear h hn hjn
  have j1 : Int.tdiv bit 8 = (j : Int) := by rw [Int.tdiv_eq_ediv_of_nonneg h0]; exact hj
  obtain ⟨m, hm⟩ : ∃ m : Nat, bit % 8 = (m : Int) := ⟨(bit % 8).toNat, by omega⟩
  have j2 : Int.tmod bit 8 = (m : Int) := by rw [Int.tmod_eq_emod_of_nonneg h0]; exact hm
  have j3 : (0 : Int) ≤ (m : Int) := by omega
  have j4 : (m : Int) < 8 := by omega
  have HM := Aside0.mk hm
  clear hm
  go_enter Try.func39, Try.ntmps39
  go_wp2_with fail
  go_region
  go_end0
  refine ⟨rfl, ?_⟩
  have hl : n = l.length := ints_n H.out
  have e : turned l bit = l.set j (Go.bits .xor .u8 (l.getD j 0) ((2 : Int) ^ m % 256)) := by
    unfold turned
    rw [if_pos (by have := HJ.out; omega), HJ.out, HM.out]
    rfl
  rw [e]
  have := (H.out.int_set j (Go.bits .xor .u8 (l.getD j 0) ((2 : Int) ^ m % 256))).drew
  simpa [List.getD_eq_getElem?_getD] using this
/-- flip, over a row of one's own, wherever the bit lies. -/
theorem flip_ok {base : Nat} {w0 : World} {L : List Atom} (A : Option Addr) (n c : Nat) (l : List Int) (bit : Int) (w : World) (H : St base w0 w (aM bk l [.slice A n c] :: L)) (h0 : 0 ≤ bit) (h9 : bit ≤ 9223372036854775807) (hn : n ≤ 9223372036854775807) (hl : n = l.length) :
    Calls Try.prog 39 #[.slice A n c, .int .i64 bit] w fun e w' => e = .returned (.tuple #[]) ∧ St base w0 w' (aM bk (turned l bit) [.slice A n c] :: L) := by
  by_cases h : bit / 8 < (n : Int)
  · obtain ⟨g, rfl, _, _⟩ := H.ints_block (show 0 < l.length by omega)
    exact flip_in g n c l bit w H h0 h9 h hn
  · refine (flip_out A n c bit w h0 h9 (by omega)).mono ?_
    rintro e w' ⟨rfl, rfl⟩
    refine ⟨rfl, ?_⟩
    unfold turned
    rw [if_neg (by omega)]
    exact H
set_option maxHeartbeats 8000000 in
set_option maxRecDepth 100000 in
theorem Rot_out {base : Nat} {w0 : World} {L : List Atom} (d : Nat) (D : Dk) (i bit : Int) (w : World) (h : DSt base w0 w d D L) (hi : i < 0 ∨ (D.cs.length : Int) ≤ i) :
    Calls Try.prog 24 #[.pointer (some ⟨d, 0, none⟩), .int .i64 i, .int .i64 bit] w fun e w' => e = .returned (.int .i64 80) ∧ w = w' := by
  have H := Aside0.mk h
  have HI := Aside0.mk hi
  clear h hi
  go_enter Try.func24, Try.ntmps24
  go_wp2_with fail
  refine (slot_out d D i w H.out HI.out).mono ?_
  rintro e w1 ⟨rfl, rfl⟩
  go_wp2
  go_ret
  exact ⟨rfl, rfl⟩
set_option maxHeartbeats 8000000 in
set_option maxRecDepth 100000 in
theorem Rot_neg {base : Nat} {w0 : World} {L : List Atom} (d : Nat) (D : Dk) (k : Nat) (bit : Int) (w : World) (h : DSt base w0 w d D L) (hk : k < D.cs.length) (hn : D.cs.length ≤ 512) (hb : bit < 0) :
    Calls Try.prog 24 #[.pointer (some ⟨d, 0, none⟩), .int .i64 k, .int .i64 bit] w fun e w' => e = .returned (.int .i64 41) ∧ w = w' := by
  obtain ⟨g, cc, x, hx, hcc, h5, _⟩ := h.slot hk
  have i1 : decide (bit < 0) = true := decide_eq_true hb
  have H5 := Aside0.mk h5
  have HK := Aside0.mk hk
  have HN := Aside0.mk hn
  clear h hk hn h5 hx hcc hb
  go_enter Try.func24, Try.ntmps24
  go_wp2_with fail
  refine (slot_in d g D.cs.length cc k w HK.out (by have := HN.out; omega) H5.out).mono ?_
  rintro e w1 ⟨rfl, rfl⟩
  go_wp2
  go_ret
  exact ⟨rfl, rfl⟩
set_option maxHeartbeats 8000000 in
set_option maxRecDepth 100000 in
theorem Rot_far {base : Nat} {w0 : World} {L : List Atom} (d : Nat) (D : Dk) (k : Nat) (x : Cel) (bit : Int) (w : World) (h : DSt base w0 w d D L) (hx : D.cs[k]? = some x) (hn : D.cs.length ≤ 512) (h0 : 0 ≤ bit) (h9 : bit ≤ 9223372036854775807) (hb : (x.2.1.length : Int) ≤ bit / 8) :
    Calls Try.prog 24 #[.pointer (some ⟨d, 0, none⟩), .int .i64 k, .int .i64 bit] w fun e w' => e = .returned (.int .i64 41) ∧ w = w' := by
  have hk : k < D.cs.length := (List.getElem?_eq_some_iff.1 hx).1
  obtain ⟨g, cc, x', hx', hcc, h5, A, c, B, e, c0, c1, c2, h1, h2, h3, h4⟩ := h.slot hk
  obtain rfl : x = x' := Option.some.inj (hx.symm.trans hx')
  have i1 : decide (bit < 0) = false := decide_eq_false (by omega)
  have i2 : decide ((x.2.1.length : Int) ≤ bit / 8) = true := decide_eq_true hb
  have H5 := Aside0.mk h5
  have HK := Aside0.mk hk
  have HN := Aside0.mk hn
  clear h hk hn h5 hx hcc hb hx' h1 h2 h3 h4 c0 c2
  go_enter Try.func24, Try.ntmps24
  go_wp2_with fail
  refine (slot_in d g D.cs.length cc k w HK.out (by have := HN.out; omega) H5.out).mono ?_
  rintro e w1 ⟨rfl, rfl⟩
  go_wp2
  go_ret
  exact ⟨rfl, rfl⟩
set_option maxHeartbeats 8000000 in
set_option maxRecDepth 100000 in
theorem Rot_ok {base : Nat} {w0 : World} {L : List Atom} (d : Nat) (D : Dk) (k : Nat) (x : Cel) (bit : Int) (w : World) (h : DSt base w0 w d D L) (hx : D.cs[k]? = some x) (hn : D.cs.length ≤ 512) (h0 : 0 ≤ bit) (h9 : bit ≤ 9223372036854775807) (hb : bit / 8 < (x.2.1.length : Int)) (hl : x.1.length ≤ 9223372036854775807 ∧ x.2.1.length ≤ 9223372036854775807) :
    Calls Try.prog 24 #[.pointer (some ⟨d, 0, none⟩), .int .i64 k, .int .i64 bit] w fun e w' => e = .returned (.int .i64 0) ∧ DSt base w0 w' d { D with cs := D.cs.set k (turned x.1 bit, turned x.2.1 bit, x.2.2) } L := by
  have hk : k < D.cs.length := (List.getElem?_eq_some_iff.1 hx).1
  obtain ⟨g, cc, P, Q, A, c, B, e, vs, vb, vm, hP, _, h5, hl1, hl2, hPQ, h3⟩ := h.open_ hx
  obtain ⟨hc1, _⟩ := h3.row_cell (k * 3 + 1) (.slice B x.2.1.length e) (by rw [List.append_assoc, ← hP, List.getElem?_append_right (by omega)]; simp)
  have i1 : decide (bit < 0) = false := decide_eq_false (by omega)
  have i2 : decide ((x.2.1.length : Int) ≤ bit / 8) = false := decide_eq_false (by omega)
  have H3 := Aside0.mk h3
  have H5 := Aside0.mk h5
  have HK := Aside0.mk hk
  have HN := Aside0.mk hn
  have HP := Aside0.mk hP
  have HPQ := Aside0.mk hPQ
  have HL := Aside0.mk hl
  have HB0 := Aside0.mk h0
  have HB9 := Aside0.mk h9
  clear h hk hn h5 hx hb h3 hP hPQ hl1 hl2 hl
  go_enter Try.func24, Try.ntmps24
  go_wp2_with fail
  refine (slot_in d g D.cs.length cc k w HK.out (by have := HN.out; omega) H5.out).mono ?_
  rintro e1 w1 ⟨rfl, rfl⟩
  go_wp2_with fail
  refine (flip_ok B x.2.1.length e x.2.1 bit w H3.out.f2 HB0.out HB9.out HL.out.2 rfl).mono ?_
  rintro e1 w1 ⟨rfl, h4⟩
  have h5 := h4.f1
  obtain ⟨hc0, _⟩ := h5.row_cell (k * 3) (.slice A x.1.length c) (by rw [List.append_assoc, ← HP.out, List.getElem?_append_right (by omega)]; simp)
  have H6 := Aside0.mk h4.f2
  clear h4 h5 hc1
  go_wp2_with fail
  refine (flip_ok A x.1.length c x.1 bit w1 H6.out HB0.out HB9.out HL.out.1 rfl).mono ?_
  rintro e1 w2 ⟨rfl, h7⟩
  have H7 := Aside0.mk h7
  clear h7 H6 hc0
  go_wp2
  go_ret
  refine ⟨rfl, DSt.shut_ (x' := (turned x.1 bit, turned x.2.1 bit, x.2.2)) HK.out HP.out (by have := HPQ.out; simpa using this) H7.out.f2⟩
set_option maxHeartbeats 8000000 in
set_option maxRecDepth 100000 in
theorem SyncSlots_down {base : Nat} {w0 : World} {L : List Atom} (d : Nat) (D : Dk) (w : World) (h : DSt base w0 w d D L) (hp : D.pw = 0) :
    Calls Try.prog 21 #[.pointer (some ⟨d, 0, none⟩)] w fun e w' => e = .returned (.int .i64 81) ∧ w = w' := by
  have H := Aside0.mk h
  have HP := Aside0.mk hp
  clear h hp
  go_enter Try.func21, Try.ntmps21
  go_wp2_with fail
  refine (draw_down d D w H.out HP.out).mono ?_
  rintro e w1 ⟨rfl, rfl⟩
  go_wp2
  go_ret
  exact ⟨rfl, rfl⟩
/-- A slot's three cells stored. -/
theorem set3 {base : Nat} {w0 W : World} {L : List Atom} {g n c k : Nat} {P Q : List Value} {a b e : Value} (hP : P.length = k * 3) (h : St base w0 W (aW 77 3 (.slice (some ⟨g, 0, none⟩) n c) n (P ++ [a, b, e] ++ Q) :: L)) (a' b' e' : Value) :
    St base w0 (((W.setCell ⟨g, k * 3, none⟩ a').setCell ⟨g, k * 3 + 1, none⟩ b').setCell ⟨g, k * 3 + 2, none⟩ e') (aW 77 3 (.slice (some ⟨g, 0, none⟩) n c) n (P ++ [a', b', e'] ++ Q) :: L) := by
  have h1 := ((h.row_set (k * 3) a').row_set (k * 3 + 1) b').row_set (k * 3 + 2) e'
  rw [← hP, show P.length = P.length + 0 from rfl, set_mid P Q [a, b, e] [a', b, e] 0 a' rfl (by simp), show P.length + 0 = P.length from rfl, set_mid P Q [a', b, e] [a', b', e] 1 b' rfl (by simp), set_mid P Q [a', b', e] [a', b', e'] 2 e' rfl (by simp)] at h1
  rw [← hP]
  exact h1
/-- All slots made safe. -/
def synced (cs : List Cel) : List Cel := cs.map fun x => (x.2.1, x.2.1, false)
set_option maxHeartbeats 8000000 in
set_option maxRecDepth 100000 in
theorem SyncSlots_ok {base : Nat} {w0 : World} {L : List Atom} (d : Nat) (D : Dk) (w : World) (h : DSt base w0 w d D L) (hp : D.pw ≠ 0) (hn : D.cs.length ≤ 512) (hl : ∀ x ∈ D.cs, x.2.1.length < 140737488355328) :
    Calls Try.prog 21 #[.pointer (some ⟨d, 0, none⟩)] w fun e w' => e = .returned (.int .i64 0) ∧ DSt base w0 w' d { D with pw := drawn D.pw, cs := synced D.cs } L := by
  have H := Aside0.mk h
  have HP := Aside0.mk hp
  have HN := Aside0.mk hn
  have HL := Aside0.mk hl
  clear h hp hn hl
  go_enter Try.func21, Try.ntmps21
  go_wp2_with fail
  refine (draw_ok d D w H.out HP.out).mono ?_
  rintro e w1 ⟨rfl, h1⟩
  obtain ⟨_, _, _, _, _, _, Ac, cc, h2, _, _, _, hlc, _⟩ := h1.cells
  have hc5 := (h2.cell 5).trans (show _ = some (Value.slice Ac D.cs.length cc) from rfl)
  have H1 := Aside0.mk (show DSt base w0 w1 d { D with pw := drawn D.pw, cs := synced (D.cs.take 0) ++ D.cs.drop 0 } L ∧ w1.cell? ⟨d, 5, none⟩ = some (.slice Ac D.cs.length cc) from ⟨h1, hc5⟩)
  clear h1 h2
  go_wp2_with fail
  go_loopg [18] (D.cs.length + 1) (fun kq v18 w' => ∃ k : Nat, v18 = .int .i64 k ∧ Aside0 (k ≤ D.cs.length) ∧ Aside0 (kq + k = D.cs.length + 1) ∧ Aside0 (DSt base w0 w' d { D with pw := drawn D.pw, cs := synced (D.cs.take k) ++ D.cs.drop k } L ∧ w'.cell? ⟨d, 5, none⟩ = some (.slice Ac D.cs.length cc)))
  case atStart => exact ⟨0, rfl, ⟨Nat.zero_le _⟩, ⟨by omega⟩, H1⟩
  case round =>
    clear H1 hc5
    obtain ⟨k, rfl, HK, HM, HS⟩ := hrel
    by_cases hlt : k < D.cs.length
    · obtain ⟨x, hx⟩ : ∃ x, D.cs[k]? = some x := ⟨D.cs[k], List.getElem?_eq_getElem hlt⟩
      have hx2 : (synced (D.cs.take k) ++ D.cs.drop k)[k]? = some x := by
        rw [List.getElem?_append_right (by rw [synced, List.length_map, List.length_take]; omega), synced, List.length_map, List.length_take, Nat.min_eq_left (by omega), Nat.sub_self, List.getElem?_drop]
        exact hx
      have HX := Aside0.mk hx
      have HXL := Aside0.mk (HL.out x (List.mem_of_getElem? hx))
      obtain ⟨g, cc', P, Q, A, c, B, e, vs, vb, vm, hP, _, h5, hl1, hl2, hPQ, h3⟩ := HS.out.1.open_ hx2
      have hlen : (synced (D.cs.take k) ++ D.cs.drop k).length = D.cs.length := by rw [List.length_append, synced, List.length_map, List.length_take, List.length_drop]; omega
      rw [HS.out.2] at h5
      injection h5 with h5
      injection h5 with ha hq hc
      clear hq
      subst ha
      subst hc
      simp only [hlen] at h3 hPQ
      have herase : (synced (D.cs.take k) ++ D.cs.drop k).eraseIdx k = (synced (D.cs.take k) ++ D.cs.drop k).eraseIdx k := rfl
      have i1 : decide ((k : Int) < (D.cs.length : Int)) = true := decide_eq_true (by omega)
      have i3 : (0 : Int) ≤ (k : Int) := by omega
      have i4 : (k : Int) < (D.cs.length : Int) := by omega
      have hk512 : (k : Int) ≤ 512 := by have := HN.out; omega
      obtain ⟨c0, _⟩ := h3.row_cell (k * 3) (.slice A x.1.length c) (by rw [List.append_assoc, ← hP, List.getElem?_append_right (by omega)]; simp)
      obtain ⟨c1, _⟩ := h3.row_cell (k * 3 + 1) (.slice B x.2.1.length e) (by rw [List.append_assoc, ← hP, List.getElem?_append_right (by omega)]; simp)
      obtain ⟨c2, _⟩ := h3.row_cell (k * 3 + 2) (.bool x.2.2) (by rw [List.append_assoc, ← hP, List.getElem?_append_right (by omega)]; simp)
      obtain ⟨_, _, he, hlB, hrB⟩ := (h3.f2).reads
      cases he
      have H3 := Aside0.mk (h3.box #[.slice A x.1.length c, .slice B x.2.1.length e, .bool x.2.2] 77)
      have HB1 := Aside0.mk hlB
      have HB2 := Aside0.mk hrB
      have HD5 := Aside0.mk (cellA HS.out.2 (.cells #[.slice A x.1.length c, .slice B x.2.1.length e, .bool x.2.2] 77))
      have HP' := Aside0.mk hP
      have HPQ := Aside0.mk hPQ
      have HLEN := Aside0.mk hlen
      have HX2 := Aside0.mk hx2
      clear h3 hP hPQ hlB hrB hlen herase HS hx2 hx
      go_wp2_with fail
      clear c0 c1 c2
      have hd5 := HD5.out
      go_region_held3 (fun w' => w'.cell? ⟨d, 5, none⟩ = some (.slice (some ⟨g, 0, none⟩) D.cs.length cc) ∧ w'.cell? ⟨wr.heap.size, 1, none⟩ = some (.slice B x.2.1.length e)) ((first | exact ⟨z5, z6⟩ | go_keep))
        ((go_at_call 34; refine (slices_Clone_byte_byte.calls B e x.2.1 x.2.1 _ (Kd.C_below HB2.out (below_drew (below_alloc (Below.refl _ _) _))) HB1.out (Clone_ok _ HXL.out)).mono ?_; rintro e4 w4 ⟨v4, rfl, ho, hb4⟩; obtain ⟨A4, c4, rfl, _, _⟩ := Kd.R_reads ho; have H4 := Aside0.mk (H3.out.drew.newR hb4 ho); clear ho hb4; have kd5 := (H4.out.front 6 _ rfl : St base w0 w4 (aB d _ 72 :: _)).cell 5 |>.trans (show _ = some (Value.slice (some ⟨g, 0, none⟩) D.cs.length cc) from rfl); have kb1 := (H4.out.f1.cell 1).trans (show _ = some (Value.slice B x.2.1.length e) from rfl); obtain ⟨q0, z0⟩ := H4.out.f2.row_cell (k * 3) (.slice A x.1.length c) (by rw [List.append_assoc, ← HP'.out, List.getElem?_append_right (by omega)]; simp); obtain ⟨q1, z1⟩ := H4.out.f2.row_cell (k * 3 + 1) (.slice B x.2.1.length e) (by rw [List.append_assoc, ← HP'.out, List.getElem?_append_right (by omega)]; simp); obtain ⟨q2, z2⟩ := H4.out.f2.row_cell (k * 3 + 2) (.bool x.2.2) (by rw [List.append_assoc, ← HP'.out, List.getElem?_append_right (by omega)]; simp); have H5 := Aside0.mk (set3 HP'.out H4.out.f2 (Value.slice A4 x.2.1.length c4) (Value.slice B x.2.1.length e) (Value.bool false)); have z5 := (H5.out.front 6 _ rfl : St base w0 _ (aB d _ 72 :: _)).cell 5 |>.trans (show _ = some (Value.slice (some ⟨g, 0, none⟩) D.cs.length cc) from rfl); have z6 := (H5.out.f2.cell 1).trans (show _ = some (Value.slice B x.2.1.length e) from rfl)))
      clear z5 z6 kd5 kb1 q0 q1 q2 z0 z1 z2
      have hd : D.cs.drop k = x :: D.cs.drop (k + 1) := by
        have := HX.out
        rw [List.drop_eq_getElem_cons hlt, List.getElem_eq_iff hlt |>.2 this]
      have htk : D.cs.take (k + 1) = D.cs.take k ++ [x] := by
        rw [List.take_succ_eq_append_getElem hlt, List.getElem_eq_iff hlt |>.2 HX.out]
      have hset : (synced (D.cs.take k) ++ D.cs.drop k).set k (x.2.1, x.2.1, false) = synced (D.cs.take (k + 1)) ++ D.cs.drop (k + 1) := by
        have hkl : (synced (D.cs.take k)).length = k := by rw [synced, List.length_map, List.length_take]; omega
        rw [List.set_append_right _ _ (by omega), hkl, Nat.sub_self, hd, htk, synced, synced, List.map_append, List.append_assoc]
        rfl
      have H6 := DSt.shut_ (D := { D with pw := drawn D.pw, cs := synced (D.cs.take k) ++ D.cs.drop k }) (x' := (x.2.1, x.2.1, false)) (by show k < (synced (D.cs.take k) ++ D.cs.drop k).length; rw [HLEN.out]; exact hlt) HP'.out (by show _ = (synced (D.cs.take k) ++ D.cs.drop k).length * 3; rw [HLEN.out]; simpa using HPQ.out) (by show St _ _ _ (aW 77 3 (.slice (some ⟨g, 0, none⟩) (synced (D.cs.take k) ++ D.cs.drop k).length cc) (synced (D.cs.take k) ++ D.cs.drop k).length _ :: _ :: _ :: _ :: aB d #[_, _, _, _, _, .slice (some ⟨g, 0, none⟩) (synced (D.cs.take k) ++ D.cs.drop k).length cc] 72 :: _); rw [HLEN.out]; exact H5.out.f2.drop.f2.drop)
      have h5c := (H5.out.front 6 _ rfl : St base w0 _ (aB d _ 72 :: _)).cell 5 |>.trans (show _ = some (Value.slice (some ⟨g, 0, none⟩) D.cs.length cc) from rfl)
      have H7 := Aside0.mk (And.intro (hset ▸ H6) h5c)
      clear H6 h5c H5 H4 hset htk hd
      go_wp2_with fail
      go_roundg (gk - 1)
      case measure => have := HM.out; omega
      case rel => exact ⟨k + 1, rfl, ⟨hlt⟩, ⟨by have := HM.out; omega⟩, ⟨H7.out⟩⟩
    · have i1 : decide ((k : Int) < (D.cs.length : Int)) = false := decide_eq_false (by omega)
      have h := HS.out.1
      rw [show synced (D.cs.take k) ++ D.cs.drop k = synced D.cs from by rw [List.take_of_length_le (by omega), List.drop_of_length_le (by omega), List.append_nil]] at h
      clear HS
      go_wp2
      go_ret
      exact ⟨rfl, h⟩
end Go.Proofs.Ytpggfnodpjofkaa.Disk
