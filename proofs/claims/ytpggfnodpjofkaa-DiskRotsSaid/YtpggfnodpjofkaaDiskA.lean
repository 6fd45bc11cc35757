/- Contracts of the disk's functions, over states told as atoms: draw, read, sync, Log, New. -/
import Derived.Test.YtpggfnodpjofkaaDiskPlain
namespace Go.Proofs.Ytpggfnodpjofkaa.Disk
open Go.RowKit Go.Proofs.YtpggfnodpjofkaaW.PrintWords Go.Proofs.YtpggfnodpjofkaaW.PrintLast Go.Proofs.YtpggfnodpjofkaaW.PrintMore Go.Proofs.Ytpggfnodpjofkaa.MDisk Go.Proofs.Ytpggfnodpjofkaa.Sep
set_option linter.unusedVariables false
set_option linter.unusedSimpArgs false
abbrev bk : Kd (List Int) := sep 5 (Kd.int .u8)
/-- A slot: what is safe, what is read, whether it was written since. -/
abbrev Cel := List Int × List Int × Bool
abbrev ck : Kd Cel := both bk (both bk Kd.bool)
structure Dk where
  pw : Int
  safe : List Int
  base : List Int
  more : List Int
  laid : Bool
  cs : List Cel
/-- The disk at d. -/
def DSt (base : Nat) (w0 w : World) (d : Nat) (D : Dk) (L : List Atom) : Prop := ∃ vs vb vm vc, St base w0 w (aB d #[.int .i64 D.pw, vs, vb, vm, .bool D.laid, vc] 72 :: aM bk D.safe [vs] :: aM bk D.base [vb] :: aM bk D.more [vm] :: aM (sep 77 ck) D.cs [vc] :: L)
section
variable {base : Nat} {w0 w w1 : World} {L : List Atom} {d : Nat} {D : Dk}
theorem DSt.below (h : DSt base w0 w d D L) : Below base w0 w := by
  obtain ⟨_, _, _, _, h⟩ := h
  exact h.1
theorem DSt.far (h : DSt base w0 w d D L) (hb : Below w.heap.size w w1) : DSt base w0 w1 d D L := by
  obtain ⟨vs, vb, vm, vc, h⟩ := h
  exact ⟨vs, vb, vm, vc, h.far hb⟩
theorem DSt.alloc (h : DSt base w0 w d D L) (o : Obj) : DSt base w0 (w.alloc o) d D L := h.far (below_alloc (Below.refl _ _) o)
theorem DSt.drewN (h : DSt base w0 w d D L) (n : Nat) : DSt base w0 (w.drewN n) d D L := h.far (pw_below_drewN (Below.refl _ _) n)
theorem DSt.drew (h : DSt base w0 w d D L) : DSt base w0 w.drew d D L := h.far (below_drew (Below.refl _ _))
theorem DSt.perm {L' : List Atom} (h : DSt base w0 w d D L) (hp : L.Perm L') : DSt base w0 w d D L' := by
  obtain ⟨vs, vb, vm, vc, h⟩ := h
  exact ⟨vs, vb, vm, vc, h.perm (((((hp.cons _).cons _).cons _).cons _).cons _)⟩
/-- What stands behind the disk's own atoms, told by itself. -/
theorem DSt.in_ (h : DSt base w0 w d D L) : ∃ vs vb vm vc, St base w0 w (L ++ [aB d #[.int .i64 D.pw, vs, vb, vm, .bool D.laid, vc] 72, aM bk D.safe [vs], aM bk D.base [vb], aM bk D.more [vm], aM (sep 77 ck) D.cs [vc]]) := by
  obtain ⟨vs, vb, vm, vc, h⟩ := h
  exact ⟨vs, vb, vm, vc, h.perm (List.perm_append_comm (l₁ := [_, _, _, _, _]) (l₂ := L))⟩
theorem DSt.of_in {vs vb vm vc : Value} (h : St base w0 w (L ++ [aB d #[.int .i64 D.pw, vs, vb, vm, .bool D.laid, vc] 72, aM bk D.safe [vs], aM bk D.base [vb], aM bk D.more [vm], aM (sep 77 ck) D.cs [vc]])) : DSt base w0 w d D L :=
  ⟨vs, vb, vm, vc, h.perm (List.perm_append_comm (l₁ := L) (l₂ := [_, _, _, _, _]))⟩
theorem DSt.drop {a : Atom} (h : DSt base w0 w d D (a :: L)) : DSt base w0 w d D L := by
  obtain ⟨vs, vb, vm, vc, h⟩ := h.in_
  exact DSt.of_in (show St base w0 w (a :: (L ++ _)) from h).drop
theorem DSt.head {a : Atom} (h : DSt base w0 w d D (a :: L)) : ∃ L', St base w0 w (a :: L') := by
  obtain ⟨vs, vb, vm, vc, h⟩ := h.in_
  exact ⟨_, h⟩
theorem DSt.clear : ∀ {L : List Atom}, DSt base w0 w d D L → DSt base w0 w d D []
  | [], h => h
  | _ :: _, h => DSt.clear h.drop
theorem DSt.newM {α : Type} {k : Kd α} {ok : Nat → Prop} {x : α} {cs : List Value} (h : DSt base w0 w d D L) (hb : Below w.heap.size w w1) (hn : k.M w1 w.heap.size ok x cs) : DSt base w0 w1 d D (aM k x cs :: L) := by
  obtain ⟨vs, vb, vm, vc, h⟩ := h.in_
  exact DSt.of_in (h.newM hb hn)
theorem DSt.newR {e : Nat} {k : IntKind} {ok : Nat → Prop} {v : Value} {xs : List Int} (h : DSt base w0 w d D L) (hb : Below w.heap.size w w1) (hn : (Kd.int k).R e w1 w.heap.size ok v xs) : DSt base w0 w1 d D (aM (sep e (Kd.int k)) xs [v] :: L) := by
  obtain ⟨vs, vb, vm, vc, h⟩ := h.in_
  exact DSt.of_in (h.newR hb hn)
theorem DSt.box (h : DSt base w0 w d D L) (cs : Array Value) (t : TypeId) : DSt base w0 (w.alloc (.cells cs t)) d D (aB w.heap.size cs t :: L) := by
  obtain ⟨vs, vb, vm, vc, h⟩ := h.in_
  exact DSt.of_in (h.box cs t)
end
/-- The disk's cells, and its rows as they are read. -/
theorem DSt.cells {base : Nat} {w0 w : World} {L : List Atom} {d : Nat} {D : Dk} (h : DSt base w0 w d D L) : ∃ As cs Ab cb Am cm Ac cc, St base w0 w (aB d #[.int .i64 D.pw, .slice As D.safe.length cs, .slice Ab D.base.length cb, .slice Am D.more.length cm, .bool D.laid, .slice Ac D.cs.length cc] 72 :: aM bk D.safe [.slice As D.safe.length cs] :: aM bk D.base [.slice Ab D.base.length cb] :: aM bk D.more [.slice Am D.more.length cm] :: aM (sep 77 ck) D.cs [.slice Ac D.cs.length cc] :: L) ∧
    (D.safe.length ≤ cs ∧ (Kd.int .u8).C w As D.safe.length D.safe) ∧ (D.base.length ≤ cb ∧ (Kd.int .u8).C w Ab D.base.length D.base) ∧ (D.more.length ≤ cm ∧ (Kd.int .u8).C w Am D.more.length D.more) ∧ (D.cs.length ≤ cc ∧ ck.C w Ac D.cs.length D.cs) := by
  obtain ⟨vs, vb, vm, vc, h⟩ := h
  obtain ⟨As, cs, rfl, h1, h2⟩ := (h.f1).reads
  obtain ⟨Ab, cb, rfl, h3, h4⟩ := (h.f2).reads
  obtain ⟨Am, cm, rfl, h5, h6⟩ := (h.f3).reads
  obtain ⟨Ac, cc, rfl, h7, h8⟩ := (h.f4).reads
  exact ⟨As, cs, Ab, cb, Am, cm, Ac, cc, h, ⟨h1, h2⟩, ⟨h3, h4⟩, ⟨h5, h6⟩, ⟨h7, h8⟩⟩
/-- Power for one call less. -/
def drawn (p : Int) : Int := if p > 0 then wrap64 (p - 1) else p
set_option maxHeartbeats 8000000 in
set_option maxRecDepth 100000 in
theorem draw_down {base : Nat} {w0 : World} {L : List Atom} (d : Nat) (D : Dk) (w : World) (h : DSt base w0 w d D L) (hp : D.pw = 0) :
    Calls Try.prog 31 #[.pointer (some ⟨d, 0, none⟩)] w fun e w' => e = .returned (.int .i64 81) ∧ w = w' := by
  obtain ⟨vs, vb, vm, vc, h⟩ := h
  have hc := (h.cell 0).trans (show _ = some (Value.int .i64 D.pw) from rfl)
  rw [hp] at hc
  clear h hp
  go_enter Try.func31, Try.ntmps31
  go_wp2
  go_ret
  exact ⟨rfl, rfl⟩
set_option maxHeartbeats 8000000 in
set_option maxRecDepth 100000 in
theorem draw_ok' {base : Nat} {w0 : World} {L : List Atom} (d : Nat) (D : Dk) (w : World) (h : DSt base w0 w d D L) (hp : D.pw ≠ 0) :
    Calls Try.prog 31 #[.pointer (some ⟨d, 0, none⟩)] w fun e w' => e = .returned (.int .i64 0) ∧ DSt base w0 w' d { D with pw := drawn D.pw } L ∧ w'.cell? ⟨d, 5, none⟩ = w.cell? ⟨d, 5, none⟩ := by
  obtain ⟨vs, vb, vm, vc, h⟩ := h
  have hc := (h.cell 0).trans (show _ = some (Value.int .i64 D.pw) from rfl)
  have hf := h.frozen 0
  have h0 : (D.pw == 0) = false := beq_eq_false_iff_ne.2 hp
  have H := Aside0.mk h
  clear h hp
  by_cases hg : D.pw > 0
  · have i1 : decide (0 < D.pw) = true := decide_eq_true hg
    have HG := Aside0.mk (show drawn D.pw = wrap64 (D.pw - 1) from if_pos hg)
    clear hg
    go_enter Try.func31, Try.ntmps31
    go_wp2
    go_ret
    exact ⟨rfl, ⟨vs, vb, vm, vc, by have := H.out.set 0 (.int .i64 (wrap64 (D.pw - 1))); rw [← HG.out] at this ⊢; exact this⟩, ((H.out.set 0 (.int .i64 (wrap64 (D.pw - 1)))).cell 5).trans (H.out.cell 5).symm⟩
  · have i1 : decide (0 < D.pw) = false := decide_eq_false hg
    have HG := Aside0.mk (show drawn D.pw = D.pw from if_neg hg)
    clear hg
    go_enter Try.func31, Try.ntmps31
    go_wp2
    go_ret
    exact ⟨rfl, ⟨vs, vb, vm, vc, by rw [HG.out]; exact H.out⟩, rfl⟩
theorem draw_ok {base : Nat} {w0 : World} {L : List Atom} (d : Nat) (D : Dk) (w : World) (h : DSt base w0 w d D L) (hp : D.pw ≠ 0) :
    Calls Try.prog 31 #[.pointer (some ⟨d, 0, none⟩)] w fun e w' => e = .returned (.int .i64 0) ∧ DSt base w0 w' d { D with pw := drawn D.pw } L :=
  (draw_ok' d D w h hp).mono fun _ _ h => ⟨h.1, h.2.1⟩
set_option maxHeartbeats 8000000 in
set_option maxRecDepth 100000 in
theorem read_laid {base : Nat} {w0 : World} {L : List Atom} (d : Nat) (D : Dk) (w : World) (h : DSt base w0 w d D L) (hp : D.laid = true) (hl : D.base.length + D.more.length < 140737488355328) :
    Calls Try.prog 35 #[.pointer (some ⟨d, 1, none⟩)] w fun e w' => ∃ v, e = .returned v ∧ DSt base w0 w' d D (aM bk (D.base ++ D.more) [v] :: L) := by
  obtain ⟨As, cs, Ab, cb, Am, cm, Ac, cc, h1, ⟨_, _⟩, ⟨hb1, hb2⟩, ⟨hm1, hm2⟩, _⟩ := h.cells
  have hc4 := (h1.cell 4).trans (show _ = some (Value.bool D.laid) from rfl)
  rw [hp] at hc4
  have hc2 := (h1.cell 2).trans (show _ = some (Value.slice Ab D.base.length cb) from rfl)
  have hc3 := (h1.cell 3).trans (show _ = some (Value.slice Am D.more.length cm) from rfl)
  have H := Aside0.mk h
  have HB1 := Aside0.mk hb1
  have HB2 := Aside0.mk hb2
  have HM1 := Aside0.mk hm1
  have HM2 := Aside0.mk hm2
  have HK := Aside0.mk (Concat2 D.base D.more hl)
  clear h h1 hb1 hb2 hm1 hm2 hl hp
  go_enter Try.func35, Try.ntmps35
  go_wp2_with fail
  go_region_held3 (fun w' => w'.cell? ⟨d, 2, none⟩ = some (.slice Ab D.base.length cb) ∧ w'.cell? ⟨d, 3, none⟩ = some (.slice Am D.more.length cm)) (go_keep)
    ((go_at_call 48; refine (slices_Concat_byte_byte.calls HK.out.choose _ 2 [D.base, D.more] _ _ (Kd.C_below (Own.lit2 (Kd.int .u8) 5 w 29 HB1.out HM1.out (Kd.C_below HB2.out (below_alloc (Below.refl _ _) _)) (Kd.C_below HM2.out (below_alloc (Below.refl _ _) _))) (below_drew (Below.refl _ _))) (Nat.le_refl 2) HK.out.choose_spec).mono ?_; rintro e w4 ⟨v4, rfl, ho, hb4⟩; obtain ⟨A4, c4, rfl, _, _⟩ := Kd.R_reads ho; have H4 := Aside0.mk (((H.out.alloc (.cells #[.slice Ab D.base.length cb, .slice Am D.more.length cm] 29)).drew).newR hb4 ho); have kc2 := pw_cell_below hb4 (cellD (cellA hc2 _)); have kc3 := pw_cell_below hb4 (cellD (cellA hc3 _)); clear ho hb4))
  go_wp2
  go_ret
  exact ⟨.slice A4 (D.base ++ D.more).length c4, by rw [List.length_append]; rfl, H4.out⟩
set_option maxHeartbeats 8000000 in
set_option maxRecDepth 100000 in
theorem read_safe {base : Nat} {w0 : World} {L : List Atom} (d : Nat) (D : Dk) (w : World) (h : DSt base w0 w d D L) (hp : D.laid = false) (hl : D.safe.length + D.more.length < 140737488355328) :
    Calls Try.prog 35 #[.pointer (some ⟨d, 1, none⟩)] w fun e w' => ∃ v, e = .returned v ∧ DSt base w0 w' d D (aM bk (D.safe ++ D.more) [v] :: L) := by
  obtain ⟨Ab, cb, _, _, Am, cm, Ac, cc, h1, ⟨hb1, hb2⟩, ⟨_, _⟩, ⟨hm1, hm2⟩, _⟩ := h.cells
  have hc4 := (h1.cell 4).trans (show _ = some (Value.bool D.laid) from rfl)
  rw [hp] at hc4
  have hc2 := (h1.cell 1).trans (show _ = some (Value.slice Ab D.safe.length cb) from rfl)
  have hc3 := (h1.cell 3).trans (show _ = some (Value.slice Am D.more.length cm) from rfl)
  have H := Aside0.mk h
  have HB1 := Aside0.mk hb1
  have HB2 := Aside0.mk hb2
  have HM1 := Aside0.mk hm1
  have HM2 := Aside0.mk hm2
  have HK := Aside0.mk (Concat2 D.safe D.more hl)
  clear h h1 hb1 hb2 hm1 hm2 hl hp
  go_enter Try.func35, Try.ntmps35
  go_wp2_with fail
  go_region_held3 (fun w' => w'.cell? ⟨d, 1, none⟩ = some (.slice Ab D.safe.length cb) ∧ w'.cell? ⟨d, 3, none⟩ = some (.slice Am D.more.length cm)) (go_keep)
    ((go_at_call 48; refine (slices_Concat_byte_byte.calls HK.out.choose _ 2 [D.safe, D.more] _ _ (Kd.C_below (Own.lit2 (Kd.int .u8) 5 w 29 HB1.out HM1.out (Kd.C_below HB2.out (below_alloc (Below.refl _ _) _)) (Kd.C_below HM2.out (below_alloc (Below.refl _ _) _))) (below_drew (Below.refl _ _))) (Nat.le_refl 2) HK.out.choose_spec).mono ?_; rintro e w4 ⟨v4, rfl, ho, hb4⟩; obtain ⟨A4, c4, rfl, _, _⟩ := Kd.R_reads ho; have H4 := Aside0.mk (((H.out.alloc (.cells #[.slice Ab D.safe.length cb, .slice Am D.more.length cm] 29)).drew).newR hb4 ho); have kc2 := pw_cell_below hb4 (cellD (cellA hc2 _)); have kc3 := pw_cell_below hb4 (cellD (cellA hc3 _)); clear ho hb4))
  go_wp2
  go_ret
  exact ⟨.slice A4 (D.safe ++ D.more).length c4, by rw [List.length_append]; rfl, H4.out⟩
/-- What the log reads as. -/
def Dk.log (D : Dk) : List Int := (if D.laid then D.base else D.safe) ++ D.more
/-- Nothing is too long for a machine. -/
def Dk.fits (D : Dk) : Prop := D.safe.length + D.more.length < 140737488355328 ∧ D.base.length + D.more.length < 140737488355328
theorem read_ok {base : Nat} {w0 : World} {L : List Atom} (d : Nat) (D : Dk) (w : World) (h : DSt base w0 w d D L) (hl : D.fits) :
    Calls Try.prog 35 #[.pointer (some ⟨d, 1, none⟩)] w fun e w' => ∃ v, e = .returned v ∧ DSt base w0 w' d D (aM bk D.log [v] :: L) := by
  unfold Dk.log
  cases hp : D.laid
  · exact read_safe d D w h hp hl.1
  · exact read_laid d D w h hp hl.2
set_option maxHeartbeats 8000000 in
set_option maxRecDepth 100000 in
theorem Log_ok {base : Nat} {w0 : World} {L : List Atom} (d : Nat) (D : Dk) (w : World) (h : DSt base w0 w d D L) (hl : D.fits) :
    Calls Try.prog 18 #[.pointer (some ⟨d, 0, none⟩)] w fun e w' => ∃ v, e = .returned v ∧ DSt base w0 w' d D (aM bk D.log [v] :: L) := by
  have H := Aside0.mk h
  have HL := Aside0.mk hl
  clear h hl
  go_enter Try.func18, Try.ntmps18
  go_wp2_with fail
  refine (read_ok d D w H.out HL.out).mono ?_
  rintro e w1 ⟨v, rfl, h1⟩
  have H1 := Aside0.mk h1
  clear h1 H
  go_wp2
  go_ret
  exact ⟨v, rfl, H1.out⟩
set_option maxHeartbeats 8000000 in
set_option maxRecDepth 100000 in
theorem sync_ok {base : Nat} {w0 : World} {L : List Atom} (d : Nat) (D : Dk) (w : World) (h : DSt base w0 w d D L) (hl : D.fits) :
    Calls Try.prog 32 #[.pointer (some ⟨d, 1, none⟩)] w fun e w' => e = .returned (.tuple #[]) ∧ DSt base w0 w' d { D with safe := D.log, base := [], more := [], laid := false } L := by
  have H := Aside0.mk h
  have HL := Aside0.mk hl
  clear h hl
  go_enter Try.func32, Try.ntmps32
  go_wp2_with fail
  refine (read_ok d D w H.out HL.out).mono ?_
  rintro e w1 ⟨v, rfl, vs, vb, vm, vc, h1⟩
  have hf1 := h1.frozen 1
  have hf2 := h1.frozen 2
  have hf3 := h1.frozen 3
  have hf4 := h1.frozen 4
  have hc1 := (h1.cell 1).trans (show _ = some vs from rfl)
  have hc2 := (h1.cell 2).trans (show _ = some vb from rfl)
  have hc3 := (h1.cell 3).trans (show _ = some vm from rfl)
  have hc4 := (h1.cell 4).trans (show _ = some (Value.bool D.laid) from rfl)
  obtain ⟨A1, c1, rfl, _, _⟩ := (h1.f5).reads
  have H1 := Aside0.mk h1
  clear h1 H
  go_wp2_with fail
  go_end0
  refine ⟨rfl, .slice A1 D.log.length c1, .slice none 0 0, .slice none 0 0, vc, ?_⟩
  have h2 := (((H1.out.set 1 (.slice A1 D.log.length c1)).set 2 (.slice none 0 0)).set 3 (.slice none 0 0)).set 4 (.bool false)
  have h3 := ((h2.f1.drop.f1.drop.f1.drop).nil_row (Kd.int .u8) 5).nil_row (Kd.int .u8) 5
  exact h3.f4.f3
end Go.Proofs.Ytpggfnodpjofkaa.Disk
