/- The law's alive, over states told as atoms. -/
import Derived.Test.YtpggfnodpjofkaaDiskG
namespace Go.Proofs.Ytpggfnodpjofkaa.Disk
open Go.RowKit Go.Proofs.YtpggfnodpjofkaaW.PrintWords Go.Proofs.YtpggfnodpjofkaaW.PrintLast Go.Proofs.YtpggfnodpjofkaaW.PrintMore Go.Proofs.Ytpggfnodpjofkaa.MDisk Go.Proofs.Ytpggfnodpjofkaa.Sep
set_option linter.unusedVariables false
set_option linter.unusedSimpArgs false
theorem DSt.lit {base : Nat} {w0 w : World} {L : List Atom} {d : Nat} {D : Dk} (h : DSt base w0 w d D L) (e : Nat) (k : IntKind) (xs : List Int) (hm : xs.length ≤ 9223372036854775807) : DSt base w0 (w.alloc (.cells (nums k xs).toArray e)) d D (aM (sep e (Kd.int k)) xs [.slice (some ⟨w.heap.size, 0, none⟩) xs.length xs.length] :: L) := by
  obtain ⟨vs, vb, vm, vc, h⟩ := h.in_
  exact DSt.of_in (h.lit xs hm)
theorem DSt.row_reads {base : Nat} {w0 w : World} {L : List Atom} {d : Nat} {D : Dk} {e : Nat} {k : IntKind} {xs : List Int} {A : Option Addr} {n c : Nat} (h : DSt base w0 w d D (aM (sep e (Kd.int k)) xs [.slice A n c] :: L)) : Kd.C (Kd.int k) w A xs.length xs ∧ xs.length ≤ c := by
  obtain ⟨_, hh⟩ := h.head
  obtain ⟨_, _, he, hl, hc⟩ := hh.reads
  cases he
  exact ⟨hc, hl⟩
theorem DSt.row_form {base : Nat} {w0 w : World} {L : List Atom} {d : Nat} {D : Dk} {e : Nat} {k : IntKind} {xs : List Int} {v : Value} (h : DSt base w0 w d D (aM (sep e (Kd.int k)) xs [v] :: L)) : ∃ A c, v = .slice A xs.length c ∧ Kd.C (Kd.int k) w A xs.length xs ∧ xs.length ≤ c := by
  obtain ⟨_, hh⟩ := h.head
  obtain ⟨A, c, he, hl, hc⟩ := hh.reads
  exact ⟨A, c, he, hc, hl⟩
/-- A block that is never written: what lies in it. -/
def aK (g : Nat) (o : Obj) : Atom where
  P := fun w base ok => ok g ∧ base ≤ g ∧ w.heap[g]? = some o
  mono := fun hok h => ⟨hok _ h.1, h.2⟩
  bound := fun h => ⟨⟨h.1, h.2.1, (Array.getElem?_eq_some_iff.1 h.2.2).1⟩, h.2⟩
  move := fun hm h => ⟨h.1, h.2.1, (hm _ h.1).trans h.2.2⟩
theorem DSt.const {base : Nat} {w0 w : World} {L : List Atom} {d : Nat} {D : Dk} (h : DSt base w0 w d D L) (o : Obj) : DSt base w0 (w.alloc o) d D (aK w.heap.size o :: L) := by
  obtain ⟨vs, vb, vm, vc, h⟩ := h.in_
  exact DSt.of_in (h.new (below_alloc (Below.refl _ _) _) ⟨fun _ => True, trivial, Nat.le_refl _, heap_alloc_new w _⟩ (fun _ hp => ⟨hp.1, h.2.1, hp.2.2⟩))
theorem DSt.const_reads {base : Nat} {w0 w : World} {L : List Atom} {d : Nat} {D : Dk} {g E : Nat} {k : IntKind} {xs : List Int} {m : Nat × Nat} (hl : xs.length ≤ 9223372036854775807) (h : DSt base w0 w d D (aK g (.cells (nums k xs).toArray E m) :: L)) : Kd.C (Kd.int k) w (some ⟨g, 0, none⟩) xs.length xs := by
  obtain ⟨_, hh⟩ := h.head
  obtain ⟨ok, _, ha⟩ := hh.head
  have hb : w.heap[g]? = some (.cells (nums k xs).toArray E m) := ha.2
  refine Kd.C_of_reads (h1 := fun _ => rfl) (d := (0 : Int)) ⟨rfl, hl, fun _ => ⟨_, rfl, fun j hj => ?_⟩⟩
  rw [add_plain]
  unfold World.cell?
  simp only [hb]
  simp [nums, List.getElem?_eq_getElem hj, List.getD_eq_getElem?_getD]
/-- A disk's atoms let go. -/
theorem DSt.let5 {base : Nat} {w0 w : World} {L : List Atom} {d l : Nat} {D E : Dk} {us ub um uc : Value} (h : DSt base w0 w l E (datoms d D us ub um uc ++ L)) : DSt base w0 w l E L := h.drop.drop.drop.drop.drop
theorem DSt.rest {base : Nat} {w0 w : World} {L : List Atom} {d : Nat} {D : Dk} (h : DSt base w0 w d D L) : St base w0 w L := by
  obtain ⟨vs, vb, vm, vc, h⟩ := h
  exact h.drop.drop.drop.drop.drop
set_option maxHeartbeats 8000000 in
set_option maxRecDepth 100000 in
theorem alive_ok {base : Nat} {w0 : World} {L : List Atom} (w : World) (H : St base w0 w L) :
    Calls Try.prog 10 #[] w fun e w' => e = .returned (.bool true) ∧ St base w0 w' L := by
  have kc := fun (W : World) (C : Array Value) (n c : Nat) => Lib.run_convert_bytes_const (P := Try.prog) W 29 5 C n c Try.underlying29 Try.underlying5
  replace H := Aside0.mk H
  go_enter Try.func10, Try.ntmps10
  go_wp2_with fail
  refine (New_ok 2 (-1) w H.out (by decide) (by decide)).mono ?_
  rintro e w1 ⟨d, rfl, h1⟩
  replace H := Aside0.mk (h1.lit 5 .u8 [97, 98, 99] (by decide))
  clear h1
  go_wp2_with fail
  refine (Append_ok d (fresh 2 (-1)) _ 3 [97, 98, 99] _ H.out (by decide) (fun _ _ h => h.row_reads.1) (by decide)).mono ?_
  rintro e w2 ⟨rfl, h1⟩
  replace H := Aside0.mk (show DSt base w0 w2 d ⟨-1, [], [], [97, 98, 99], false, [([], [], false), ([], [], false)]⟩ L from h1.drop)
  clear h1
  go_wp2_with fail
  refine (SyncLog_ok d _ _ H.out (by decide) ⟨by decide, by decide⟩).mono ?_
  rintro e w3 ⟨rfl, h1⟩
  replace H := Aside0.mk ((show DSt base w0 w3 d ⟨-1, [97, 98, 99], [], [], false, [([], [], false), ([], [], false)]⟩ L from h1).lit 5 .u8 [100, 101] (by decide))
  clear h1
  go_wp2_with fail
  refine (Append_ok d _ _ 2 [100, 101] _ H.out (by decide) (fun _ _ h => h.row_reads.1) (by decide)).mono ?_
  rintro e w4 ⟨rfl, h1⟩
  replace H := Aside0.mk ((show DSt base w0 w4 d ⟨-1, [97, 98, 99], [], [100, 101], false, [([], [], false), ([], [], false)]⟩ L from h1.drop).const (.cells (nums .u8 [119, 120, 121, 122]).toArray 5 (4, 5)))
  clear h1
  go_wp2_with fail
  refine (Write_ok d _ 1 ([], [], false) _ 4 [119, 120, 121, 122] _ H.out rfl (by decide) (by decide) (by decide) (by decide) (fun _ _ h => h.const_reads (by decide))).mono ?_
  rintro e w5 ⟨rfl, h1⟩
  replace H := Aside0.mk ((show DSt base w0 w5 d ⟨-1, [97, 98, 99], [], [100, 101], false, [([], [], false), ([], [119, 120, 121, 122], true)]⟩ L from h1.drop).lit 3 .i64 [1] (by decide))
  clear h1
  go_wp2_with fail
  refine (Left_ok d _ 1 false [1] _ (-1) _ H.out ⟨by decide, by decide⟩ (by decide) (by decide) (by decide) (by decide) (by decide)).mono ?_
  rintro e w6 ⟨l, us, ub, um, uc, rfl, h1⟩
  obtain ⟨_, _, _, _, h2⟩ := h1.swap
  replace H := Aside0.mk (show DSt base w0 w6 l ⟨-1, [97, 98, 99, 100], [], [], false, [([], [], false), ([119, 120, 121, 122], [119, 120, 121, 122], false)]⟩ L from h2.let5.drop)
  clear h1 h2
  go_wp2_with fail
  refine (Read_ok l _ 1 ([119, 120, 121, 122], [119, 120, 121, 122], false) _ H.out rfl (by decide) (by decide)).mono ?_
  rintro e w7 ⟨vb, rfl, h1⟩
  obtain ⟨Ab, cb, rfl, hb1, hb2⟩ := h1.row_form
  replace H := Aside0.mk h1
  have HB := Aside0.mk hb1
  clear h1 hb1 hb2
  go_wp2_with fail
  refine (Log_ok l _ _ H.out ⟨by decide, by decide⟩).mono ?_
  rintro e w8 ⟨vl, rfl, h1⟩
  replace h1 : DSt base w0 w8 l ⟨-1, [97, 98, 99, 100], [], [], false, [([], [], false), ([119, 120, 121, 122], [119, 120, 121, 122], false)]⟩ (aM bk [97, 98, 99, 100] [vl] :: aM bk [119, 120, 121, 122] [.slice Ab 4 cb] :: L) := h1
  obtain ⟨Al, cl, rfl, hl1, hl2⟩ := h1.row_form
  obtain ⟨_, _, _, _, hin⟩ := h1.in_
  obtain ⟨_, _, he, _, hb2⟩ := ((hin : St base w0 w8 (_ :: aM bk [119, 120, 121, 122] [.slice Ab 4 cb] :: (L ++ _))).f1).reads
  cases he
  have hstr1 : (convert 29 9 (.slice Al 4 cl)).run Try.prog w8 = .ok (.string ⟨#[97, 98, 99, 100]⟩) w8 := (Kd.C_string (P := Try.prog) (src := 29) (dst := 9) (e := 5) (c := cl) Try.underlying29 Try.underlying5 Try.underlying9 hl1).trans (by rfl)
  have hstr2 : (convert 29 9 (.slice Ab 4 cb)).run Try.prog w8 = .ok (.string ⟨#[119, 120, 121, 122]⟩) w8 := (Kd.C_string (P := Try.prog) (src := 29) (dst := 9) (e := 5) (c := cb) Try.underlying29 Try.underlying5 Try.underlying9 hb2).trans (by rfl)
  replace H := Aside0.mk h1
  clear h1 hin hb2 hl1 hl2
  go_wp2_with fail
  refine (Slots_ok l _ _ H.out).mono ?_
  rintro e w9 ⟨rfl, rfl⟩
  go_wp2
  go_ret
  exact ⟨rfl, H.out.drop.drop.rest⟩
end Go.Proofs.Ytpggfnodpjofkaa.Disk
