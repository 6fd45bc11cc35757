/- Contracts of the disk's functions: Left. -/
import Derived.Test.YtpggfnodpjofkaaDiskF
import Derived.Deep.RegionLaw
namespace Go.Proofs.Ytpggfnodpjofkaa.Disk
open Go.RowKit Go.Proofs.YtpggfnodpjofkaaW.PrintWords Go.Proofs.YtpggfnodpjofkaaW.PrintLast Go.Proofs.YtpggfnodpjofkaaW.PrintMore Go.Proofs.Ytpggfnodpjofkaa.MDisk Go.Proofs.Ytpggfnodpjofkaa.Sep
set_option linter.unusedVariables false
set_option linter.unusedSimpArgs false
abbrev ik : Kd (List Int) := sep 3 (Kd.int .i64)
/-- A disk's own atoms. -/
def datoms (d : Nat) (D : Dk) (vs vb vm vc : Value) : List Atom := [aB d #[.int .i64 D.pw, vs, vb, vm, .bool D.laid, vc] 72, aM bk D.safe [vs], aM bk D.base [vb], aM bk D.more [vm], aM (sep 77 ck) D.cs [vc]]
/-- Two disks, the other one told first. -/
theorem DSt.swap {base : Nat} {w0 w : World} {L : List Atom} {d l : Nat} {D E : Dk} {vs vb vm vc : Value} (h : DSt base w0 w d D (datoms l E vs vb vm vc ++ L)) : ∃ us ub um uc, DSt base w0 w l E (datoms d D us ub um uc ++ L) := by
  obtain ⟨us, ub, um, uc, h⟩ := h
  refine ⟨us, ub, um, uc, vs, vb, vm, vc, ?_⟩
  exact h.perm (by
    show (datoms d D us ub um uc ++ (datoms l E vs vb vm vc ++ L)).Perm (datoms l E vs vb vm vc ++ (datoms d D us ub um uc ++ L))
    rw [← List.append_assoc, ← List.append_assoc]
    exact (List.perm_append_comm).append_right _)
/-- The fate of the n-th slot that is not safe. -/
def fat (S : List Int) (n : Nat) : Int := if S.length = 0 then 0 else S.getD (n % S.length) 0
def dirt (cs : List Cel) (k : Nat) : Nat := ((cs.take k).filter (·.2.2)).length
def lcell (S : List Int) (cs : List Cel) (k : Nat) (x : Cel) : Cel := let o := if x.2.2 then cleft x (fat S (dirt cs k)) else x.1; (o, o, false)
def lrow (S : List Int) (cs : List Cel) : List Cel := cs.mapIdx (fun k x => lcell S cs k x)
/-- What a loss of power leaves. -/
def Dk.left (D : Dk) (keep : Int) (b : Bool) (S : List Int) (p : Int) : Dk := ⟨p, D.jleft keep b, [], [], false, lrow S D.cs⟩
theorem build72b (p : Int) (v : Value) (A : Option Addr) (n c : Nat) (w : World) : (Instr.build 72 #[(0, .agg #[.int .i64 p]), (1, .agg #[v, .slice none 0 0, .slice none 0 0, .bool false]), (2, .slice A n c)]).run Try.prog w = .ok (.agg #[.int .i64 p, v, .slice none 0 0, .slice none 0 0, .bool false, .slice A n c]) w := by kernel_rfl
theorem make77 (n : Nat) (hn : n ≤ 512) : ∃ row : Array Value, (∀ W, (Instr.makeSlice 68 (.int .i64 (n : Int)) (.int .i64 (n : Int))).run Try.prog W = .ok (.slice (some ⟨W.heap.size, 0, none⟩) n n) (W.alloc (.cells row 77))) ∧
    ∀ {base : Nat} {w0 W : World} {L : List Atom}, St base w0 W L → St base w0 (W.alloc (.cells row 77)) (aM (sep 77 ck) (List.replicate n ([], [], false)) [.slice (some ⟨W.heap.size, 0, none⟩) n n] :: L) := by
  obtain ⟨i0, hi, hzz⟩ := Option.map_eq_some_iff.1 info77
  simp only [Prod.mk.injEq] at hzz
  obtain ⟨hz0, hz1, hz2⟩ := hzz
  refine ⟨madeCells (Value.agg #[.slice none 0 0, .slice none 0 0, .bool false]).cells (n * 3), fun W => ?_, ?_⟩
  · have hr := run_make (P := Try.prog) W 68 77 i0 _ Try.underlying68 hi hz0 .i64 .i64 (n : Int) (n : Int) (by omega) (by omega) (by rw [hz2]; omega) (by omega)
    simp only [Int.toNat_natCast] at hr
    rw [hz1] at hr
    exact hr
  · intro base w0 W L h
    have hb : Below W.heap.size W (W.alloc (.cells (madeCells (Value.agg #[.slice none 0 0, .slice none 0 0, .bool false]).cells (n * 3)) 77)) := below_alloc (Below.refl _ _) _
    refine made_row h (zero_cel _ _) ?_ hb
    have hrep : ∀ (F : Nat → Prop), Reps ((Kd.raw 3).M (W.alloc (.cells (madeCells (Value.agg #[.slice none 0 0, .slice none 0 0, .bool false]).cells (n * 3)) 77)) W.heap.size F) 3 (List.replicate n [.slice none 0 0, .slice none 0 0, .bool false]) (madeCells (Value.agg #[.slice none 0 0, .slice none 0 0, .bool false]).cells (n * 3)).toList := fun F => Kd.reps_made (z := .agg #[.slice none 0 0, .slice none 0 0, .bool false]) rfl (by decide) ⟨rfl, rfl, by decide⟩ n
    have h2 := World.ownsRow_lit (base := W.heap.size) (e := 77) (size := 3) W (madeCells (Value.agg #[.slice none 0 0, .slice none 0 0, .bool false]).cells (n * 3)) n (Nat.le_refl _) (by show n ≤ maxLen; simp only [maxLen]; omega) (by have := (hrep (fun _ => True)).1; simpa using this)
    have hR : (Kd.raw 3).R 77 (W.alloc (.cells (madeCells (Value.agg #[.slice none 0 0, .slice none 0 0, .bool false]).cells (n * 3)) 77)) W.heap.size (fun _ => True) (.slice (some ⟨W.heap.size, 0, none⟩) n n) (List.replicate n [.slice none 0 0, .slice none 0 0, .bool false]) := by
      refine ⟨fun k hk => trivial, _, ?_, hrep _⟩
      rw [List.length_replicate]
      exact h2
    have := own_raw hR
    rw [List.length_replicate] at this
    exact this
/-- A disk just made, told by its atoms. -/
theorem DSt.newdisk {base : Nat} {w0 w : World} {L : List Atom} {d l : Nat} {D : Dk} {J : List Int} {p : Int} {v rowv : Value} {cs : List Cel} (h : DSt base w0 w d D (aB l #[.int .i64 p, v, .slice none 0 0, .slice none 0 0, .bool false, rowv] 72 :: aM bk J [v] :: aM (sep 77 ck) cs [rowv] :: L)) : ∃ us ub um uc, DSt base w0 w l ⟨p, J, [], [], false, cs⟩ (datoms d D us ub um uc ++ L) := by
  obtain ⟨_, _, _, _, h⟩ := h.in_
  have h1 : St base w0 w (_ :: _ :: _ :: _ :: _ :: (L ++ _)) := (((h : St base w0 w (_ :: _ :: _ :: (L ++ _))).nil_row (Kd.int .u8) 5).nil_row (Kd.int .u8) 5).f4.f2.f2.f4.f4
  have h2 : DSt base w0 w d D (datoms l ⟨p, J, [], [], false, cs⟩ v (.slice none 0 0) (.slice none 0 0) rowv ++ L) := DSt.of_in h1
  exact h2.swap
theorem DSt.lose {base : Nat} {w0 w : World} {L : List Atom} {d l : Nat} {D E : Dk} {us ub um uc : Value} {a : Atom} (h : DSt base w0 w l E (datoms d D us ub um uc ++ a :: L)) : DSt base w0 w l E (datoms d D us ub um uc ++ L) := by
  obtain ⟨_, _, _, _, hin⟩ := h.in_
  exact DSt.of_in ((hin : St base w0 w (_ :: _ :: _ :: _ :: _ :: a :: (L ++ _))).front 5 _ rfl).drop
theorem dirt_le (cs : List Cel) (k : Nat) : dirt cs k ≤ k := by
  unfold dirt
  have h1 := List.length_filter_le (fun x : Cel => x.2.2) (cs.take k)
  have h2 := List.length_take_le k cs
  omega
theorem cleft_len (x : Cel) (f : Int) : (cleft x f).length ≤ x.1.length + x.2.1.length := by
  unfold cleft
  split
  · omega
  · split
    · rw [List.length_append, List.length_take, List.length_drop]; omega
    · omega
theorem drop_rep {α : Type} (xs : List α) (z y : α) (k n : Nat) (hk : k < n) (hx : xs[k]? = some y) : (xs.take k ++ List.replicate (n - k) z).set k y = xs.take (k + 1) ++ List.replicate (n - (k + 1)) z := by
  have hkl : k < xs.length := (List.getElem?_eq_some_iff.1 hx).1
  have hl : (xs.take k).length = k := by rw [List.length_take]; omega
  rw [List.set_append_right _ _ (by omega), hl, Nat.sub_self, show n - k = (n - (k + 1)) + 1 from by omega, List.replicate_succ, List.set_cons_zero, List.take_succ_eq_append_getElem hkl, (List.getElem_eq_iff hkl).2 hx, List.append_assoc]
  rfl
theorem lrow_at {S : List Int} {cs : List Cel} {k : Nat} {x : Cel} (hx : cs[k]? = some x) : (lrow S cs)[k]? = some (lcell S cs k x) := by
  rw [lrow, List.getElem?_mapIdx, hx]; rfl
theorem dirt_succ {cs : List Cel} {k : Nat} {x : Cel} (hx : cs[k]? = some x) : dirt cs (k + 1) = if x.2.2 then dirt cs k + 1 else dirt cs k := by
  have hk : k < cs.length := (List.getElem?_eq_some_iff.1 hx).1
  unfold dirt
  rw [List.take_succ_eq_append_getElem hk, (List.getElem_eq_iff hk).2 hx, List.filter_append, List.length_append, List.filter_cons, List.filter_nil]
  split <;> simp_all
set_option maxHeartbeats 8000000 in
set_option maxRecDepth 100000 in
theorem Left_ok {base : Nat} {w0 : World} {L : List Atom} (d : Nat) (D : Dk) (keep : Int) (b : Bool) (S : List Int) (vs : Value) (p : Int) (w : World) (h : DSt base w0 w d D (aM ik S [vs] :: L)) (hl : D.fits) (h1 : 1 ≤ D.cs.length) (hn : D.cs.length ≤ 512) (hS : S.length < 17592186044416) (hSB : ∀ f ∈ S, -9223372036854775808 ≤ f ∧ f ≤ 9223372036854775807) (hc : ∀ x ∈ D.cs, x.1.length + x.2.1.length < 140737488355328) :
    Calls Try.prog 22 #[.pointer (some ⟨d, 0, none⟩), .agg #[.int .i64 keep, .bool b, vs], .int .i64 p] w fun e w' => ∃ l us ub um uc, e = .returned (.pointer (some ⟨l, 0, none⟩)) ∧ DSt base w0 w' d D (datoms l (D.left keep b S p) us ub um uc ++ aM ik S [vs] :: L) := by
  obtain ⟨_, _, _, _, _, _, Ac, cc, h2, _, _, _, hlc, _⟩ := h.cells
  have hc5 := (h2.cell 5).trans (show _ = some (Value.slice Ac D.cs.length cc) from rfl)
  have hb5 := cellA hc5 (.cells #[.int .i64 keep, .bool b, vs] 32)
  have H := Aside0.mk (h.box #[.int .i64 keep, .bool b, vs] 32)
  have HL := Aside0.mk hl
  have H1 := Aside0.mk h1
  have HN := Aside0.mk hn
  have HS := Aside0.mk hS
  have HSB := Aside0.mk hSB
  have HC := Aside0.mk hc
  obtain ⟨L', hh⟩ := H.out.head
  have bx0 := hh.cell 0
  have bx1 := hh.cell 1
  have bx2 := hh.cell 2
  replace bx0 : _ = some (Value.int .i64 keep) := bx0
  replace bx1 : _ = some (Value.bool b) := bx1
  replace bx2 : _ = some vs := bx2
  obtain ⟨row, hmake, hrow⟩ := make77 D.cs.length hn
  have hM : DSt base w0 ((w.alloc (.cells #[.int .i64 keep, .bool b, vs] 32)).alloc (.cells row 77)) d D (aM (sep 77 ck) (List.replicate D.cs.length ([], [], false)) [.slice (some ⟨w.heap.size + 1, 0, none⟩) D.cs.length D.cs.length] :: aB w.heap.size #[.int .i64 keep, .bool b, vs] 32 :: aM ik S [vs] :: L) := by
    obtain ⟨_, _, _, _, hin⟩ := H.out.in_
    have := hrow hin
    rw [show (w.alloc (.cells #[.int .i64 keep, .bool b, vs] 32)).heap.size = w.heap.size + 1 from Array.size_push ..] at this
    exact DSt.of_in this
  replace hM := Aside0.mk hM
  replace hrow := Aside0.mk @hrow
  clear h h2 hl h1 hn hS hc hh hSB
  go_enter Try.func22, Try.ntmps22
  go_wp2_with fail
  go_region_held3 (fun w' => w'.cell? ⟨d, 5, none⟩ = some (.slice Ac D.cs.length cc) ∧ w'.cell? ⟨w.heap.size, 0, none⟩ = some (.int .i64 keep) ∧ w'.cell? ⟨w.heap.size, 1, none⟩ = some (.bool b) ∧ w'.cell? ⟨w.heap.size, 2, none⟩ = some vs) (go_keep)
    ((first
      | (go_at_call 36; refine (jleft_ok d D keep b vs _ H.out.drew HL.out).mono ?_; rintro e w4 ⟨v, rfl, h4, hb4⟩; obtain ⟨_, hh4⟩ := h4.head; obtain ⟨Av, cv, rfl, _, _⟩ := hh4.reads; have H4 := Aside0.mk h4; have kc5 := pw_cell_below hb4 (cellD hb5); have kb0 := pw_cell_below hb4 (cellD bx0); have kb1 := pw_cell_below hb4 (cellD bx1); have kb2 := pw_cell_below hb4 (cellD bx2); clear h4 hb4 hh4)
      | (go_at_call 36; refine (jleft_ok d D keep b vs _ hM.out.drew HL.out).mono ?_; rintro e w4 ⟨v, rfl, h4, hb4⟩; obtain ⟨_, hh4⟩ := h4.head; obtain ⟨Av, cv, rfl, _, _⟩ := hh4.reads; have H4 := Aside0.mk h4; have kc5 := pw_cell_below hb4 (cellD (cellA hb5 _)); have kb0 := pw_cell_below hb4 (cellD (cellA bx0 _)); have kb1 := pw_cell_below hb4 (cellD (cellA bx1 _)); have kb2 := pw_cell_below hb4 (cellD (cellA bx2 _)); clear h4 hb4 hh4)))
  · obtain ⟨W, hW⟩ : ∃ W, W = (w4.alloc (.cells row 77)).alloc (.cells #[.int .i64 p, .slice Av (D.jleft keep b).length cv, .slice none 0 0, .slice none 0 0, .bool false, .slice (some ⟨w4.heap.size, 0, none⟩) D.cs.length D.cs.length] 72) := ⟨_, rfl⟩
    have h5 : ∃ us ub um uc, DSt base w0 W (w4.heap.size + 1) ⟨p, D.jleft keep b, [], [], false, List.replicate D.cs.length ([], [], false)⟩ (datoms d D us ub um uc ++ (aB w.heap.size #[.int .i64 keep, .bool b, vs] 32 :: aM ik S [vs] :: L)) := by
      obtain ⟨_, _, _, _, hin⟩ := H4.out.in_
      have h6 := (((DSt.of_in (hrow.out hin)).perm (List.Perm.swap _ _ _)).box #[.int .i64 p, .slice Av (D.jleft keep b).length cv, .slice none 0 0, .slice none 0 0, .bool false, .slice (some ⟨w4.heap.size, 0, none⟩) D.cs.length D.cs.length] 72).newdisk
      rw [show (w4.alloc (.cells row 77)).heap.size = w4.heap.size + 1 from Array.size_push ..] at h6
      rw [hW]
      exact h6
    have k5 : W.cell? ⟨d, 5, none⟩ = some (.slice Ac D.cs.length cc) := by rw [hW]; exact cellA (cellA kc5 _) _
    rw [← hW]
    clear hW
    generalize w4.heap.size + 1 = l at h5 ⊢
    obtain ⟨us, ub, um, uc, h5⟩ := h5
    have he : uc = .slice Ac D.cs.length cc := by
      obtain ⟨_, _, _, _, hin⟩ := h5.in_
      have := (hin : St base w0 W (aB d _ 72 :: _)).cell 5
      rw [k5] at this
      exact (Option.some.inj this).symm
    subst he
    replace h5 := Aside0.mk h5
    clear H4 kc5 kb0 kb1 kb2 hM H hb5 hc5 bx0 bx1 bx2 hmake hrow
    go_wp2_with fail
    go_loopg [8, 34] (D.cs.length + 1) (fun kq v8 v34 w' => ∃ k : Nat, v34 = .int .i64 k ∧ v8 = .int .i64 (dirt D.cs k) ∧ Aside0 (k ≤ D.cs.length) ∧ Aside0 (kq + k = D.cs.length + 1) ∧ Aside0 (DSt base w0 w' l ⟨p, D.jleft keep b, [], [], false, (lrow S D.cs).take k ++ List.replicate (D.cs.length - k) ([], [], false)⟩ (datoms d D us ub um (.slice Ac D.cs.length cc) ++ (aB w.heap.size #[.int .i64 keep, .bool b, vs] 32 :: aM ik S [vs] :: L))))
    case atStart => exact ⟨0, rfl, rfl, ⟨Nat.zero_le _⟩, ⟨by omega⟩, h5⟩
    case round =>
      clear h5 k5
      obtain ⟨k, rfl, rfl, HK, HM, HD⟩ := hrel
      by_cases hlt : k < D.cs.length
      · obtain ⟨_, _, _, _, hsw⟩ := HD.out.swap
        obtain ⟨gd, cd, x, hx, _, hd5, A, c, B, e, y0, y1, y2, hxa, hxA, hxb, hxB⟩ := hsw.slot hlt
        obtain ⟨_, _, _, _, hin⟩ := HD.out.in_
        have hu := (hin : St base w0 wr (aB d _ 72 :: _)).cell 5
        rw [hd5] at hu
        replace hu := Option.some.inj hu
        injection hu with hu _ hu2
        subst hu
        subst hu2
        obtain ⟨As', cs', hvs, hS1, hS2⟩ := (hin.front 6 _ rfl : St base w0 wr (aM ik S [vs] :: _)).reads
        have hf2 := (hin.front 5 _ rfl : St base w0 wr (aB w.heap.size _ 32 :: _)).cell 2
        subst hvs
        replace hf2 : wr.cell? ⟨w.heap.size, 2, none⟩ = some (Value.slice As' S.length cs') := hf2
        have hx0 : ((lrow S D.cs).take k ++ List.replicate (D.cs.length - k) (([], [], false) : Cel))[k]? = some ([], [], false) := by
          have hl : ((lrow S D.cs).take k).length = k := by rw [List.length_take, lrow, List.length_mapIdx]; omega
          rw [List.getElem?_append_right (by omega), hl, Nat.sub_self, List.getElem?_replicate, if_pos (by omega)]
        have hlen : ((lrow S D.cs).take k ++ List.replicate (D.cs.length - k) (([], [], false) : Cel)).length = D.cs.length := by rw [List.length_append, List.length_take, lrow, List.length_mapIdx, List.length_replicate]; omega
        have i1 : decide ((k : Int) < (D.cs.length : Int)) = true := decide_eq_true (by omega)
        have i3 : (0 : Int) ≤ (k : Int) := by omega
        have i4 : (k : Int) < (D.cs.length : Int) := by omega
        have hk512 : (k : Int) ≤ 512 := by have := HN.out; omega
        have HX := Aside0.mk hx
        have HXL := Aside0.mk (HC.out x (List.mem_of_getElem? hx))
        have HBX := Aside0.mk (HD.out.box #[.slice A x.1.length c, .slice B x.2.1.length e, .bool x.2.2] 77)
        have hXA := Aside0.mk hxA
        have hXB := Aside0.mk hxB
        have hXa := Aside0.mk hxa
        have hXb := Aside0.mk hxb
        have HS1 := Aside0.mk hS1
        have HS2 := Aside0.mk hS2
        have HX0 := Aside0.mk hx0
        have HLEN := Aside0.mk hlen
        clear hx hxA hxB hxa hxb hS1 hS2 hx0 hlen hin hsw hd5
        cases hb : x.2.2
        · rw [hb] at y2 HBX
          go_wp2_with fail
          have H3 := HBX
          have HA := Aside0.mk (Kd.C_below hXA.out (below_alloc (Below.refl _ _) (Obj.cells #[Value.slice A x.1.length c, Value.slice B x.2.1.length e, Value.bool false] 77)))
          have HC' := hXa
          have HO := Aside0.mk (show x.1.length < 140737488355328 by have := HXL.out; omega)
          clear y0 y1 y2 hf2 HBX i1 i3
          obtain ⟨g, cl, P, Q, A1, c1', B1, e1, ws, wb, wm, hP, _, h5l, _, _, hPQ, h3⟩ := H3.out.open_ HX0.out
          have hlen := HLEN.out
          simp only [hlen] at h5l hPQ h3
          have HPx := Aside0.mk hP
          have HPQ := Aside0.mk hPQ
          have H3' := Aside0.mk h3
          clear h3 hP hPQ hlen
          go_region_held3 (fun w' => w'.cell? ⟨l, 5, none⟩ = some (.slice (some ⟨g, 0, none⟩) D.cs.length cl)) ((first | exact z5 | go_keep))
            ((first
              | (go_at_call 34; refine (slices_Clone_byte_byte.calls A c x.1 x.1 _ (Kd.C_below HA.out (below_drew (Below.refl _ _))) HC'.out (Clone_ok _ HO.out)).mono ?_; rintro e4 w4 ⟨v4, rfl, ho, hb4⟩; obtain ⟨A4, c4, rfl, _, _⟩ := Kd.R_reads ho; have hA4 := Aside0.mk (Kd.C_below (Kd.C_below HA.out (below_drew (Below.refl _ _))) hb4); have H4 := Aside0.mk (H3'.out.drew.newR hb4 ho); have kd5 := pw_cell_below hb4 (cellD h5l); clear ho hb4)
              | (go_at_call 34; refine (slices_Clone_byte_byte.calls A c x.1 x.1 _ hA4.out HC'.out (Clone_ok _ HO.out)).mono ?_; rintro e5 w5 ⟨v5, rfl, ho, hb5⟩; obtain ⟨A5, c5, rfl, _, _⟩ := Kd.R_reads ho; have H5 := Aside0.mk ((H4.out.newR hb5 ho).f2); have kd5' := pw_cell_below hb5 kd5; clear ho hb5; obtain ⟨q0, z0⟩ := H5.out.row_cell (k * 3) (.slice A1 0 c1') (by rw [List.append_assoc, ← HPx.out, List.getElem?_append_right (by omega)]; simp); obtain ⟨q1, z1⟩ := H5.out.row_cell (k * 3 + 1) (.slice B1 0 e1) (by rw [List.append_assoc, ← HPx.out, List.getElem?_append_right (by omega)]; simp); obtain ⟨q2, z2⟩ := H5.out.row_cell (k * 3 + 2) (.bool false) (by rw [List.append_assoc, ← HPx.out, List.getElem?_append_right (by omega)]; simp); have H6 := Aside0.mk (set3 HPx.out H5.out (.slice A4 (x.1).length c4) (.slice A5 (x.1).length c5) (.bool false)); have z5 := ((H6.out.front 6 _ rfl : St base w0 _ (aB l _ 72 :: _)).cell 5).trans (show _ = some (Value.slice (some ⟨g, 0, none⟩) D.cs.length cl) from rfl))))
          have H7 := DSt.shut_ (D := ⟨p, D.jleft keep b, [], [], false, (lrow S D.cs).take k ++ List.replicate (D.cs.length - k) ([], [], false)⟩) (x' := (x.1, x.1, false)) (by show k < ((lrow S D.cs).take k ++ List.replicate (D.cs.length - k) (([], [], false) : Cel)).length; rw [HLEN.out]; exact hlt) HPx.out (by show _ = ((lrow S D.cs).take k ++ List.replicate (D.cs.length - k) (([], [], false) : Cel)).length * 3; rw [HLEN.out]; simpa using HPQ.out) (by show St _ _ _ (aW 77 3 (.slice (some ⟨g, 0, none⟩) ((lrow S D.cs).take k ++ List.replicate (D.cs.length - k) (([], [], false) : Cel)).length cl) ((lrow S D.cs).take k ++ List.replicate (D.cs.length - k) (([], [], false) : Cel)).length _ :: _ :: _ :: _ :: aB l #[_, _, _, _, _, .slice (some ⟨g, 0, none⟩) ((lrow S D.cs).take k ++ List.replicate (D.cs.length - k) (([], [], false) : Cel)).length cl] 72 :: _); rw [HLEN.out]; exact H6.out.f3.drop.f3.drop.f2.f1)
          have hset := drop_rep (lrow S D.cs) (([], [], false) : Cel) (x.1, x.1, false) k D.cs.length hlt (by rw [lrow_at HX.out]; simp only [lcell, hb]; rfl)
          have hdirt := dirt_succ HX.out
          rw [hb] at hdirt
          replace H7 := Aside0.mk (hset ▸ (show DSt base w0 _ l ⟨p, D.jleft keep b, [], [], false, ((lrow S D.cs).take k ++ List.replicate (D.cs.length - k) (([], [], false) : Cel)).set k (x.1, x.1, false)⟩ _ from H7).drop)
          clear H6 H5 H4 hset z5 q0 q1 q2 z0 z1 z2 kd5 kd5' h5l
          go_wp2_with fail
          go_roundg (gk - 1)
          case measure => have := HM.out; omega
          case rel => exact ⟨k + 1, rfl, by rw [hdirt]; rfl, ⟨hlt⟩, ⟨by have := HM.out; omega⟩, H7⟩
        · obtain ⟨o, ho⟩ : ∃ o, o = cleft x (fat S (dirt D.cs k)) := ⟨_, rfl⟩
          by_cases hS0 : S.length = 0
          · have i5 : decide (0 < (S.length : Int)) = false := decide_eq_false (by omega)
            have i51 : decide (0 < S.length) = false := decide_eq_false (by omega)
            have i52 : ¬ (0 < (S.length : Int)) := by omega
            have hfat : fat S (dirt D.cs k) = 0 := by unfold fat; rw [if_pos hS0]
            rw [hfat] at ho
            rw [hb] at HBX
            obtain ⟨_, _, _, _, hinb⟩ := HBX.out.in_
            have hcl := cleft_ok x 0 A B c e _ hinb (by decide) hXa.out (Kd.C_below hXA.out (below_alloc (Below.refl _ _) _)) hXb.out (Kd.C_below hXB.out (below_alloc (Below.refl _ _) _)) HXL.out
            rw [← ho, hb] at hcl
            replace hcl := Aside0.mk hcl
            rw [hb] at y2
            have HOX := Aside0.mk ho
            have HFT := Aside0.mk hfat
            have hfb := cellA hf2 (Obj.cells #[Value.slice A x.1.length c, Value.slice B x.2.1.length e, Value.bool true] 77)
            clear hinb HBX ho hfat hS0
            go_wp2_with fail
            refine hcl.out.mono ?_
            rintro e6 w6 ⟨v6, rfl, h6⟩
            have H3 := Aside0.mk (DSt.of_in (d := l) (D := ⟨p, D.jleft keep b, [], [], false, (lrow S D.cs).take k ++ List.replicate (D.cs.length - k) ([], [], false)⟩) (L := aM bk o [v6] :: aB wr.heap.size #[Value.slice A x.1.length c, Value.slice B x.2.1.length e, Value.bool true] 77 :: (datoms d D us ub um (.slice (some ⟨gd, 0, none⟩) D.cs.length cd) ++ aB w.heap.size #[.int .i64 keep, .bool b, .slice As' S.length cs'] 32 :: aM ik S [.slice As' S.length cs'] :: L)) h6)
            obtain ⟨_, hh6⟩ := H3.out.head
            obtain ⟨Ao, co, rfl, ho1, ho2⟩ := hh6.reads
            have HA := Aside0.mk ho2
            have HC' := Aside0.mk ho1
            have HO := Aside0.mk (show o.length < 140737488355328 by have := HXL.out; have := cleft_len x 0; rw [← HOX.out] at this; omega)
            clear y0 y1 y2 hf2 hfb i1 i3 i5 i51 i52 hcl h6 hh6 ho1 ho2
            go_wp2_with fail
            obtain ⟨g, cl, P, Q, A1, c1', B1, e1, ws, wb, wm, hP, _, h5l, _, _, hPQ, h3⟩ := H3.out.open_ HX0.out
            have hlen := HLEN.out
            simp only [hlen] at h5l hPQ h3
            have HPx := Aside0.mk hP
            have HPQ := Aside0.mk hPQ
            have H3' := Aside0.mk h3
            clear h3 hP hPQ hlen
            go_region_held3 (fun w' => w'.cell? ⟨l, 5, none⟩ = some (.slice (some ⟨g, 0, none⟩) D.cs.length cl)) ((first | exact z5 | go_keep))
              ((first
                | (go_at_call 34; refine (slices_Clone_byte_byte.calls Ao co o o _ (Kd.C_below HA.out (below_drew (Below.refl _ _))) HC'.out (Clone_ok _ HO.out)).mono ?_; rintro e4 w4 ⟨v4, rfl, ho, hb4⟩; obtain ⟨A4, c4, rfl, _, _⟩ := Kd.R_reads ho; have hA4 := Aside0.mk (Kd.C_below (Kd.C_below HA.out (below_drew (Below.refl _ _))) hb4); have H4 := Aside0.mk (H3'.out.drew.newR hb4 ho); have kd5 := pw_cell_below hb4 (cellD h5l); clear ho hb4)
                | (go_at_call 34; refine (slices_Clone_byte_byte.calls Ao co o o _ hA4.out HC'.out (Clone_ok _ HO.out)).mono ?_; rintro e5 w5 ⟨v5, rfl, ho, hb5⟩; obtain ⟨A5, c5, rfl, _, _⟩ := Kd.R_reads ho; have H5 := Aside0.mk ((H4.out.newR hb5 ho).f2); have kd5' := pw_cell_below hb5 kd5; clear ho hb5; obtain ⟨q0, z0⟩ := H5.out.row_cell (k * 3) (.slice A1 0 c1') (by rw [List.append_assoc, ← HPx.out, List.getElem?_append_right (by omega)]; simp); obtain ⟨q1, z1⟩ := H5.out.row_cell (k * 3 + 1) (.slice B1 0 e1) (by rw [List.append_assoc, ← HPx.out, List.getElem?_append_right (by omega)]; simp); obtain ⟨q2, z2⟩ := H5.out.row_cell (k * 3 + 2) (.bool false) (by rw [List.append_assoc, ← HPx.out, List.getElem?_append_right (by omega)]; simp); have H6 := Aside0.mk (set3 HPx.out H5.out (.slice A4 (o).length c4) (.slice A5 (o).length c5) (.bool false)); have z5 := ((H6.out.front 6 _ rfl : St base w0 _ (aB l _ 72 :: _)).cell 5).trans (show _ = some (Value.slice (some ⟨g, 0, none⟩) D.cs.length cl) from rfl))))
            have H7 := DSt.shut_ (D := ⟨p, D.jleft keep b, [], [], false, (lrow S D.cs).take k ++ List.replicate (D.cs.length - k) ([], [], false)⟩) (x' := (o, o, false)) (by show k < ((lrow S D.cs).take k ++ List.replicate (D.cs.length - k) (([], [], false) : Cel)).length; rw [HLEN.out]; exact hlt) HPx.out (by show _ = ((lrow S D.cs).take k ++ List.replicate (D.cs.length - k) (([], [], false) : Cel)).length * 3; rw [HLEN.out]; simpa using HPQ.out) (by show St _ _ _ (aW 77 3 (.slice (some ⟨g, 0, none⟩) ((lrow S D.cs).take k ++ List.replicate (D.cs.length - k) (([], [], false) : Cel)).length cl) ((lrow S D.cs).take k ++ List.replicate (D.cs.length - k) (([], [], false) : Cel)).length _ :: _ :: _ :: _ :: aB l #[_, _, _, _, _, .slice (some ⟨g, 0, none⟩) ((lrow S D.cs).take k ++ List.replicate (D.cs.length - k) (([], [], false) : Cel)).length cl] 72 :: _); rw [HLEN.out]; exact H6.out.f3.drop.f3.drop.f2.f1)
            have hset := drop_rep (lrow S D.cs) (([], [], false) : Cel) (o, o, false) k D.cs.length hlt (by rw [lrow_at HX.out]; simp only [lcell, hb, if_true, HFT.out, ← HOX.out])
            have hdirt := dirt_succ HX.out
            rw [hb, if_pos rfl] at hdirt
            replace H7 := Aside0.mk (hset ▸ (show DSt base w0 _ l ⟨p, D.jleft keep b, [], [], false, ((lrow S D.cs).take k ++ List.replicate (D.cs.length - k) (([], [], false) : Cel)).set k (o, o, false)⟩ _ from H7).drop.drop)
            clear H6 H5 H4 hset z5 q0 q1 q2 z0 z1 z2 kd5 kd5' h5l
            go_wp2_with fail
            go_roundg (gk - 1)
            case measure => have := HM.out; omega
            case rel => exact ⟨k + 1, rfl, by rw [hdirt, wrap_up (by have := dirt_le D.cs k; omega)], ⟨hlt⟩, ⟨by have := HM.out; omega⟩, H7⟩
          · have i5 : decide (0 < (S.length : Int)) = true := decide_eq_true (by omega)
            have hm : dirt D.cs k % S.length < S.length := Nat.mod_lt _ (by omega)
            obtain ⟨j, hj⟩ : ∃ j, j = dirt D.cs k % S.length := ⟨_, rfl⟩
            rw [← hj] at hm
            have hfat : fat S (dirt D.cs k) = S.getD j 0 := by unfold fat; rw [if_neg hS0, hj]
            have hj2 : (dirt D.cs k : Int).tmod (S.length : Int) = (j : Int) := by rw [hj]; rfl
            obtain ⟨ad, hae, hyj⟩ := Kd.at_int HS2.out (j : Int) (by omega) (by omega)
            subst hae
            rw [Int.toNat_natCast] at hyj
            rw [show rd S (j : Int) = S.getD j 0 from by unfold rd; rw [Int.toNat_natCast]] at hyj
            have hbd := HSB.out (S.getD j 0) (by rw [List.getD_eq_getElem?_getD, List.getElem?_eq_getElem hm]; exact List.getElem_mem hm)
            rw [hfat] at ho
            generalize S.getD j 0 = f at *
            rw [hb] at HBX
            obtain ⟨_, _, _, _, hinb⟩ := HBX.out.in_
            rw [hb] at y2
            have HOX := Aside0.mk ho
            have HFT := Aside0.mk hfat
            have i6 : (0 : Int) ≤ (j : Int) := by omega
            have i7 : (j : Int) < (S.length : Int) := by omega
            have i8 : ((S.length : Int) == 0) = false := beq_eq_false_iff_ne.2 (by omega)
            have hyb := cellA hyj (Obj.cells #[Value.slice A x.1.length c, Value.slice B x.2.1.length e, Value.bool true] 77)
            have hfb := cellA hf2 (Obj.cells #[Value.slice A x.1.length c, Value.slice B x.2.1.length e, Value.bool true] 77)
            have HBD := Aside0.mk hbd
            have HIN := Aside0.mk hinb
            clear hinb HBX ho hfat hbd hm hj
            go_wp2_with fail
            go_quiet (fail)
            have hcl := cleft_ok x f A B c e _ (HIN.out.drewN nq) HBD.out hXa.out (Kd.C_below hXA.out (pw_below_drewN (below_alloc (Below.refl _ _) _) _)) hXb.out (Kd.C_below hXB.out (pw_below_drewN (below_alloc (Below.refl _ _) _) _)) HXL.out
            rw [← HOX.out, hb] at hcl
            replace hcl := Aside0.mk hcl
            clear hyb hfb hyj hf2 hj2 i6 i7 i8
            go_wp2_with fail
            refine hcl.out.mono ?_
            rintro e6 w6 ⟨v6, rfl, h6⟩
            have H3 := Aside0.mk (DSt.of_in (d := l) (D := ⟨p, D.jleft keep b, [], [], false, (lrow S D.cs).take k ++ List.replicate (D.cs.length - k) ([], [], false)⟩) (L := aM bk o [v6] :: aB wr.heap.size #[Value.slice A x.1.length c, Value.slice B x.2.1.length e, Value.bool true] 77 :: (datoms d D us ub um (.slice (some ⟨gd, 0, none⟩) D.cs.length cd) ++ aB w.heap.size #[.int .i64 keep, .bool b, .slice (some ad) S.length cs'] 32 :: aM ik S [.slice (some ad) S.length cs'] :: L)) h6)
            obtain ⟨_, hh6⟩ := H3.out.head
            obtain ⟨Ao, co, rfl, ho1, ho2⟩ := hh6.reads
            have HA := Aside0.mk ho2
            have HC' := Aside0.mk ho1
            have HO := Aside0.mk (show o.length < 140737488355328 by have := HXL.out; have := cleft_len x f; rw [← HOX.out] at this; omega)
            clear y0 y1 y2 i1 i3 i5 hcl h6 hh6 ho1 ho2
            go_wp2_with fail
            obtain ⟨g, cl, P, Q, A1, c1', B1, e1, ws, wb, wm, hP, _, h5l, _, _, hPQ, h3⟩ := H3.out.open_ HX0.out
            have hlen := HLEN.out
            simp only [hlen] at h5l hPQ h3
            have HPx := Aside0.mk hP
            have HPQ := Aside0.mk hPQ
            have H3' := Aside0.mk h3
            clear h3 hP hPQ hlen
            go_region_held3 (fun w' => w'.cell? ⟨l, 5, none⟩ = some (.slice (some ⟨g, 0, none⟩) D.cs.length cl)) ((first | exact z5 | go_keep))
              ((first
                | (go_at_call 34; refine (slices_Clone_byte_byte.calls Ao co o o _ (Kd.C_below HA.out (below_drew (Below.refl _ _))) HC'.out (Clone_ok _ HO.out)).mono ?_; rintro e4 w4 ⟨v4, rfl, ho, hb4⟩; obtain ⟨A4, c4, rfl, _, _⟩ := Kd.R_reads ho; have hA4 := Aside0.mk (Kd.C_below (Kd.C_below HA.out (below_drew (Below.refl _ _))) hb4); have H4 := Aside0.mk (H3'.out.drew.newR hb4 ho); have kd5 := pw_cell_below hb4 (cellD h5l); clear ho hb4)
                | (go_at_call 34; refine (slices_Clone_byte_byte.calls Ao co o o _ hA4.out HC'.out (Clone_ok _ HO.out)).mono ?_; rintro e5 w5 ⟨v5, rfl, ho, hb5⟩; obtain ⟨A5, c5, rfl, _, _⟩ := Kd.R_reads ho; have H5 := Aside0.mk ((H4.out.newR hb5 ho).f2); have kd5' := pw_cell_below hb5 kd5; clear ho hb5; obtain ⟨q0, z0⟩ := H5.out.row_cell (k * 3) (.slice A1 0 c1') (by rw [List.append_assoc, ← HPx.out, List.getElem?_append_right (by omega)]; simp); obtain ⟨q1, z1⟩ := H5.out.row_cell (k * 3 + 1) (.slice B1 0 e1) (by rw [List.append_assoc, ← HPx.out, List.getElem?_append_right (by omega)]; simp); obtain ⟨q2, z2⟩ := H5.out.row_cell (k * 3 + 2) (.bool false) (by rw [List.append_assoc, ← HPx.out, List.getElem?_append_right (by omega)]; simp); have H6 := Aside0.mk (set3 HPx.out H5.out (.slice A4 (o).length c4) (.slice A5 (o).length c5) (.bool false)); have z5 := ((H6.out.front 6 _ rfl : St base w0 _ (aB l _ 72 :: _)).cell 5).trans (show _ = some (Value.slice (some ⟨g, 0, none⟩) D.cs.length cl) from rfl))))
            have H7 := DSt.shut_ (D := ⟨p, D.jleft keep b, [], [], false, (lrow S D.cs).take k ++ List.replicate (D.cs.length - k) ([], [], false)⟩) (x' := (o, o, false)) (by show k < ((lrow S D.cs).take k ++ List.replicate (D.cs.length - k) (([], [], false) : Cel)).length; rw [HLEN.out]; exact hlt) HPx.out (by show _ = ((lrow S D.cs).take k ++ List.replicate (D.cs.length - k) (([], [], false) : Cel)).length * 3; rw [HLEN.out]; simpa using HPQ.out) (by show St _ _ _ (aW 77 3 (.slice (some ⟨g, 0, none⟩) ((lrow S D.cs).take k ++ List.replicate (D.cs.length - k) (([], [], false) : Cel)).length cl) ((lrow S D.cs).take k ++ List.replicate (D.cs.length - k) (([], [], false) : Cel)).length _ :: _ :: _ :: _ :: aB l #[_, _, _, _, _, .slice (some ⟨g, 0, none⟩) ((lrow S D.cs).take k ++ List.replicate (D.cs.length - k) (([], [], false) : Cel)).length cl] 72 :: _); rw [HLEN.out]; exact H6.out.f3.drop.f3.drop.f2.f1)
            have hset := drop_rep (lrow S D.cs) (([], [], false) : Cel) (o, o, false) k D.cs.length hlt (by rw [lrow_at HX.out]; simp only [lcell, hb, if_true, HFT.out, ← HOX.out])
            have hdirt := dirt_succ HX.out
            rw [hb, if_pos rfl] at hdirt
            replace H7 := Aside0.mk (hset ▸ (show DSt base w0 _ l ⟨p, D.jleft keep b, [], [], false, ((lrow S D.cs).take k ++ List.replicate (D.cs.length - k) (([], [], false) : Cel)).set k (o, o, false)⟩ _ from H7).drop.drop)
            clear H6 H5 H4 hset z5 q0 q1 q2 z0 z1 z2 kd5 kd5' h5l
            go_wp2_with fail
            go_roundg (gk - 1)
            case measure => have := HM.out; omega
            case rel => exact ⟨k + 1, rfl, by rw [hdirt, wrap_up (by have := dirt_le D.cs k; omega)], ⟨hlt⟩, ⟨by have := HM.out; omega⟩, H7⟩
      · have i1 : decide ((k : Int) < (D.cs.length : Int)) = false := decide_eq_false (by omega)
        have hkn : k = D.cs.length := by have := HK.out; omega
        subst hkn
        have h := HD.out.lose.swap
        rw [Nat.sub_self, List.replicate_zero, List.append_nil, List.take_of_length_le (by rw [lrow, List.length_mapIdx]; exact Nat.le_refl _)] at h
        clear HD
        go_wp2
        go_ret
        obtain ⟨u1, u2, u3, u4, h⟩ := h
        exact ⟨l, u1, u2, u3, u4, rfl, h⟩
  · obtain ⟨W, hW⟩ : ∃ W, W = w4.alloc (.cells #[.int .i64 p, .slice Av (D.jleft keep b).length cv, .slice none 0 0, .slice none 0 0, .bool false, .slice (some ⟨w.heap.size + 1, 0, none⟩) D.cs.length D.cs.length] 72) := ⟨_, rfl⟩
    have h5 := (H4.out.box #[.int .i64 p, .slice Av (D.jleft keep b).length cv, .slice none 0 0, .slice none 0 0, .bool false, .slice (some ⟨w.heap.size + 1, 0, none⟩) D.cs.length D.cs.length] 72).newdisk
    have k5 : W.cell? ⟨d, 5, none⟩ = some (.slice Ac D.cs.length cc) := by rw [hW]; exact cellA kc5 _
    rw [← hW] at h5 ⊢
    clear hW
    generalize w4.heap.size = l at h5 ⊢
    obtain ⟨us, ub, um, uc, h5⟩ := h5
    have he : uc = .slice Ac D.cs.length cc := by
      obtain ⟨_, _, _, _, hin⟩ := h5.in_
      have := (hin : St base w0 W (aB d _ 72 :: _)).cell 5
      rw [k5] at this
      exact (Option.some.inj this).symm
    subst he
    replace h5 := Aside0.mk h5
    clear H4 kc5 kb0 kb1 kb2 hM H hb5 hc5 bx0 bx1 bx2 hmake hrow
    go_wp2_with fail
    go_loopg [8, 34] (D.cs.length + 1) (fun kq v8 v34 w' => ∃ k : Nat, v34 = .int .i64 k ∧ v8 = .int .i64 (dirt D.cs k) ∧ Aside0 (k ≤ D.cs.length) ∧ Aside0 (kq + k = D.cs.length + 1) ∧ Aside0 (DSt base w0 w' l ⟨p, D.jleft keep b, [], [], false, (lrow S D.cs).take k ++ List.replicate (D.cs.length - k) ([], [], false)⟩ (datoms d D us ub um (.slice Ac D.cs.length cc) ++ (aB w.heap.size #[.int .i64 keep, .bool b, vs] 32 :: aM ik S [vs] :: L))))
    case atStart => exact ⟨0, rfl, rfl, ⟨Nat.zero_le _⟩, ⟨by omega⟩, h5⟩
    case round =>
      clear h5 k5
      obtain ⟨k, rfl, rfl, HK, HM, HD⟩ := hrel
      by_cases hlt : k < D.cs.length
      · obtain ⟨_, _, _, _, hsw⟩ := HD.out.swap
        obtain ⟨gd, cd, x, hx, _, hd5, A, c, B, e, y0, y1, y2, hxa, hxA, hxb, hxB⟩ := hsw.slot hlt
        obtain ⟨_, _, _, _, hin⟩ := HD.out.in_
        have hu := (hin : St base w0 wr (aB d _ 72 :: _)).cell 5
        rw [hd5] at hu
        replace hu := Option.some.inj hu
        injection hu with hu _ hu2
        subst hu
        subst hu2
        obtain ⟨As', cs', hvs, hS1, hS2⟩ := (hin.front 6 _ rfl : St base w0 wr (aM ik S [vs] :: _)).reads
        have hf2 := (hin.front 5 _ rfl : St base w0 wr (aB w.heap.size _ 32 :: _)).cell 2
        subst hvs
        replace hf2 : wr.cell? ⟨w.heap.size, 2, none⟩ = some (Value.slice As' S.length cs') := hf2
        have hx0 : ((lrow S D.cs).take k ++ List.replicate (D.cs.length - k) (([], [], false) : Cel))[k]? = some ([], [], false) := by
          have hl : ((lrow S D.cs).take k).length = k := by rw [List.length_take, lrow, List.length_mapIdx]; omega
          rw [List.getElem?_append_right (by omega), hl, Nat.sub_self, List.getElem?_replicate, if_pos (by omega)]
        have hlen : ((lrow S D.cs).take k ++ List.replicate (D.cs.length - k) (([], [], false) : Cel)).length = D.cs.length := by rw [List.length_append, List.length_take, lrow, List.length_mapIdx, List.length_replicate]; omega
        have i1 : decide ((k : Int) < (D.cs.length : Int)) = true := decide_eq_true (by omega)
        have i3 : (0 : Int) ≤ (k : Int) := by omega
        have i4 : (k : Int) < (D.cs.length : Int) := by omega
        have hk512 : (k : Int) ≤ 512 := by have := HN.out; omega
        have HX := Aside0.mk hx
        have HXL := Aside0.mk (HC.out x (List.mem_of_getElem? hx))
        have HBX := Aside0.mk (HD.out.box #[.slice A x.1.length c, .slice B x.2.1.length e, .bool x.2.2] 77)
        have hXA := Aside0.mk hxA
        have hXB := Aside0.mk hxB
        have hXa := Aside0.mk hxa
        have hXb := Aside0.mk hxb
        have HS1 := Aside0.mk hS1
        have HS2 := Aside0.mk hS2
        have HX0 := Aside0.mk hx0
        have HLEN := Aside0.mk hlen
        clear hx hxA hxB hxa hxb hS1 hS2 hx0 hlen hin hsw hd5
        cases hb : x.2.2
        · rw [hb] at y2 HBX
          go_wp2_with fail
          have H3 := HBX
          have HA := Aside0.mk (Kd.C_below hXA.out (below_alloc (Below.refl _ _) (Obj.cells #[Value.slice A x.1.length c, Value.slice B x.2.1.length e, Value.bool false] 77)))
          have HC' := hXa
          have HO := Aside0.mk (show x.1.length < 140737488355328 by have := HXL.out; omega)
          clear y0 y1 y2 hf2 HBX i1 i3
          obtain ⟨g, cl, P, Q, A1, c1', B1, e1, ws, wb, wm, hP, _, h5l, _, _, hPQ, h3⟩ := H3.out.open_ HX0.out
          have hlen := HLEN.out
          simp only [hlen] at h5l hPQ h3
          have HPx := Aside0.mk hP
          have HPQ := Aside0.mk hPQ
          have H3' := Aside0.mk h3
          clear h3 hP hPQ hlen
          go_region_held3 (fun w' => w'.cell? ⟨l, 5, none⟩ = some (.slice (some ⟨g, 0, none⟩) D.cs.length cl)) ((first | exact z5 | go_keep))
            ((first
              | (go_at_call 34; refine (slices_Clone_byte_byte.calls A c x.1 x.1 _ (Kd.C_below HA.out (below_drew (Below.refl _ _))) HC'.out (Clone_ok _ HO.out)).mono ?_; rintro e4 w4 ⟨v4, rfl, ho, hb4⟩; obtain ⟨A4, c4, rfl, _, _⟩ := Kd.R_reads ho; have hA4 := Aside0.mk (Kd.C_below (Kd.C_below HA.out (below_drew (Below.refl _ _))) hb4); have H4 := Aside0.mk (H3'.out.drew.newR hb4 ho); have kd5 := pw_cell_below hb4 (cellD h5l); clear ho hb4)
              | (go_at_call 34; refine (slices_Clone_byte_byte.calls A c x.1 x.1 _ hA4.out HC'.out (Clone_ok _ HO.out)).mono ?_; rintro e5 w5 ⟨v5, rfl, ho, hb5⟩; obtain ⟨A5, c5, rfl, _, _⟩ := Kd.R_reads ho; have H5 := Aside0.mk ((H4.out.newR hb5 ho).f2); have kd5' := pw_cell_below hb5 kd5; clear ho hb5; obtain ⟨q0, z0⟩ := H5.out.row_cell (k * 3) (.slice A1 0 c1') (by rw [List.append_assoc, ← HPx.out, List.getElem?_append_right (by omega)]; simp); obtain ⟨q1, z1⟩ := H5.out.row_cell (k * 3 + 1) (.slice B1 0 e1) (by rw [List.append_assoc, ← HPx.out, List.getElem?_append_right (by omega)]; simp); obtain ⟨q2, z2⟩ := H5.out.row_cell (k * 3 + 2) (.bool false) (by rw [List.append_assoc, ← HPx.out, List.getElem?_append_right (by omega)]; simp); have H6 := Aside0.mk (set3 HPx.out H5.out (.slice A4 (x.1).length c4) (.slice A5 (x.1).length c5) (.bool false)); have z5 := ((H6.out.front 6 _ rfl : St base w0 _ (aB l _ 72 :: _)).cell 5).trans (show _ = some (Value.slice (some ⟨g, 0, none⟩) D.cs.length cl) from rfl))))
          have H7 := DSt.shut_ (D := ⟨p, D.jleft keep b, [], [], false, (lrow S D.cs).take k ++ List.replicate (D.cs.length - k) ([], [], false)⟩) (x' := (x.1, x.1, false)) (by show k < ((lrow S D.cs).take k ++ List.replicate (D.cs.length - k) (([], [], false) : Cel)).length; rw [HLEN.out]; exact hlt) HPx.out (by show _ = ((lrow S D.cs).take k ++ List.replicate (D.cs.length - k) (([], [], false) : Cel)).length * 3; rw [HLEN.out]; simpa using HPQ.out) (by show St _ _ _ (aW 77 3 (.slice (some ⟨g, 0, none⟩) ((lrow S D.cs).take k ++ List.replicate (D.cs.length - k) (([], [], false) : Cel)).length cl) ((lrow S D.cs).take k ++ List.replicate (D.cs.length - k) (([], [], false) : Cel)).length _ :: _ :: _ :: _ :: aB l #[_, _, _, _, _, .slice (some ⟨g, 0, none⟩) ((lrow S D.cs).take k ++ List.replicate (D.cs.length - k) (([], [], false) : Cel)).length cl] 72 :: _); rw [HLEN.out]; exact H6.out.f3.drop.f3.drop.f2.f1)
          have hset := drop_rep (lrow S D.cs) (([], [], false) : Cel) (x.1, x.1, false) k D.cs.length hlt (by rw [lrow_at HX.out]; simp only [lcell, hb]; rfl)
          have hdirt := dirt_succ HX.out
          rw [hb] at hdirt
          replace H7 := Aside0.mk (hset ▸ (show DSt base w0 _ l ⟨p, D.jleft keep b, [], [], false, ((lrow S D.cs).take k ++ List.replicate (D.cs.length - k) (([], [], false) : Cel)).set k (x.1, x.1, false)⟩ _ from H7).drop)
          clear H6 H5 H4 hset z5 q0 q1 q2 z0 z1 z2 kd5 kd5' h5l
          go_wp2_with fail
          go_roundg (gk - 1)
          case measure => have := HM.out; omega
          case rel => exact ⟨k + 1, rfl, by rw [hdirt]; rfl, ⟨hlt⟩, ⟨by have := HM.out; omega⟩, H7⟩
        · obtain ⟨o, ho⟩ : ∃ o, o = cleft x (fat S (dirt D.cs k)) := ⟨_, rfl⟩
          by_cases hS0 : S.length = 0
          · have i5 : decide (0 < (S.length : Int)) = false := decide_eq_false (by omega)
            have i51 : decide (0 < S.length) = false := decide_eq_false (by omega)
            have i52 : ¬ (0 < (S.length : Int)) := by omega
            have hfat : fat S (dirt D.cs k) = 0 := by unfold fat; rw [if_pos hS0]
            rw [hfat] at ho
            rw [hb] at HBX
            obtain ⟨_, _, _, _, hinb⟩ := HBX.out.in_
            have hcl := cleft_ok x 0 A B c e _ hinb (by decide) hXa.out (Kd.C_below hXA.out (below_alloc (Below.refl _ _) _)) hXb.out (Kd.C_below hXB.out (below_alloc (Below.refl _ _) _)) HXL.out
            rw [← ho, hb] at hcl
            replace hcl := Aside0.mk hcl
            rw [hb] at y2
            have HOX := Aside0.mk ho
            have HFT := Aside0.mk hfat
            have hfb := cellA hf2 (Obj.cells #[Value.slice A x.1.length c, Value.slice B x.2.1.length e, Value.bool true] 77)
            clear hinb HBX ho hfat hS0
            go_wp2_with fail
            refine hcl.out.mono ?_
            rintro e6 w6 ⟨v6, rfl, h6⟩
            have H3 := Aside0.mk (DSt.of_in (d := l) (D := ⟨p, D.jleft keep b, [], [], false, (lrow S D.cs).take k ++ List.replicate (D.cs.length - k) ([], [], false)⟩) (L := aM bk o [v6] :: aB wr.heap.size #[Value.slice A x.1.length c, Value.slice B x.2.1.length e, Value.bool true] 77 :: (datoms d D us ub um (.slice (some ⟨gd, 0, none⟩) D.cs.length cd) ++ aB w.heap.size #[.int .i64 keep, .bool b, .slice As' S.length cs'] 32 :: aM ik S [.slice As' S.length cs'] :: L)) h6)
            obtain ⟨_, hh6⟩ := H3.out.head
            obtain ⟨Ao, co, rfl, ho1, ho2⟩ := hh6.reads
            have HA := Aside0.mk ho2
            have HC' := Aside0.mk ho1
            have HO := Aside0.mk (show o.length < 140737488355328 by have := HXL.out; have := cleft_len x 0; rw [← HOX.out] at this; omega)
            clear y0 y1 y2 hf2 hfb i1 i3 i5 i51 i52 hcl h6 hh6 ho1 ho2
            go_wp2_with fail
            obtain ⟨g, cl, P, Q, A1, c1', B1, e1, ws, wb, wm, hP, _, h5l, _, _, hPQ, h3⟩ := H3.out.open_ HX0.out
            have hlen := HLEN.out
            simp only [hlen] at h5l hPQ h3
            have HPx := Aside0.mk hP
            have HPQ := Aside0.mk hPQ
            have H3' := Aside0.mk h3
            clear h3 hP hPQ hlen
            go_region_held3 (fun w' => w'.cell? ⟨l, 5, none⟩ = some (.slice (some ⟨g, 0, none⟩) D.cs.length cl)) ((first | exact z5 | go_keep))
              ((first
                | (go_at_call 34; refine (slices_Clone_byte_byte.calls Ao co o o _ (Kd.C_below HA.out (below_drew (Below.refl _ _))) HC'.out (Clone_ok _ HO.out)).mono ?_; rintro e4 w4 ⟨v4, rfl, ho, hb4⟩; obtain ⟨A4, c4, rfl, _, _⟩ := Kd.R_reads ho; have hA4 := Aside0.mk (Kd.C_below (Kd.C_below HA.out (below_drew (Below.refl _ _))) hb4); have H4 := Aside0.mk (H3'.out.drew.newR hb4 ho); have kd5 := pw_cell_below hb4 (cellD h5l); clear ho hb4)
                | (go_at_call 34; refine (slices_Clone_byte_byte.calls Ao co o o _ hA4.out HC'.out (Clone_ok _ HO.out)).mono ?_; rintro e5 w5 ⟨v5, rfl, ho, hb5⟩; obtain ⟨A5, c5, rfl, _, _⟩ := Kd.R_reads ho; have H5 := Aside0.mk ((H4.out.newR hb5 ho).f2); have kd5' := pw_cell_below hb5 kd5; clear ho hb5; obtain ⟨q0, z0⟩ := H5.out.row_cell (k * 3) (.slice A1 0 c1') (by rw [List.append_assoc, ← HPx.out, List.getElem?_append_right (by omega)]; simp); obtain ⟨q1, z1⟩ := H5.out.row_cell (k * 3 + 1) (.slice B1 0 e1) (by rw [List.append_assoc, ← HPx.out, List.getElem?_append_right (by omega)]; simp); obtain ⟨q2, z2⟩ := H5.out.row_cell (k * 3 + 2) (.bool false) (by rw [List.append_assoc, ← HPx.out, List.getElem?_append_right (by omega)]; simp); have H6 := Aside0.mk (set3 HPx.out H5.out (.slice A4 (o).length c4) (.slice A5 (o).length c5) (.bool false)); have z5 := ((H6.out.front 6 _ rfl : St base w0 _ (aB l _ 72 :: _)).cell 5).trans (show _ = some (Value.slice (some ⟨g, 0, none⟩) D.cs.length cl) from rfl))))
            have H7 := DSt.shut_ (D := ⟨p, D.jleft keep b, [], [], false, (lrow S D.cs).take k ++ List.replicate (D.cs.length - k) ([], [], false)⟩) (x' := (o, o, false)) (by show k < ((lrow S D.cs).take k ++ List.replicate (D.cs.length - k) (([], [], false) : Cel)).length; rw [HLEN.out]; exact hlt) HPx.out (by show _ = ((lrow S D.cs).take k ++ List.replicate (D.cs.length - k) (([], [], false) : Cel)).length * 3; rw [HLEN.out]; simpa using HPQ.out) (by show St _ _ _ (aW 77 3 (.slice (some ⟨g, 0, none⟩) ((lrow S D.cs).take k ++ List.replicate (D.cs.length - k) (([], [], false) : Cel)).length cl) ((lrow S D.cs).take k ++ List.replicate (D.cs.length - k) (([], [], false) : Cel)).length _ :: _ :: _ :: _ :: aB l #[_, _, _, _, _, .slice (some ⟨g, 0, none⟩) ((lrow S D.cs).take k ++ List.replicate (D.cs.length - k) (([], [], false) : Cel)).length cl] 72 :: _); rw [HLEN.out]; exact H6.out.f3.drop.f3.drop.f2.f1)
            have hset := drop_rep (lrow S D.cs) (([], [], false) : Cel) (o, o, false) k D.cs.length hlt (by rw [lrow_at HX.out]; simp only [lcell, hb, if_true, HFT.out, ← HOX.out])
            have hdirt := dirt_succ HX.out
            rw [hb, if_pos rfl] at hdirt
            replace H7 := Aside0.mk (hset ▸ (show DSt base w0 _ l ⟨p, D.jleft keep b, [], [], false, ((lrow S D.cs).take k ++ List.replicate (D.cs.length - k) (([], [], false) : Cel)).set k (o, o, false)⟩ _ from H7).drop.drop)
            clear H6 H5 H4 hset z5 q0 q1 q2 z0 z1 z2 kd5 kd5' h5l
            go_wp2_with fail
            go_roundg (gk - 1)
            case measure => have := HM.out; omega
            case rel => exact ⟨k + 1, rfl, by rw [hdirt, wrap_up (by have := dirt_le D.cs k; omega)], ⟨hlt⟩, ⟨by have := HM.out; omega⟩, H7⟩
          · have i5 : decide (0 < (S.length : Int)) = true := decide_eq_true (by omega)
            have hm : dirt D.cs k % S.length < S.length := Nat.mod_lt _ (by omega)
            obtain ⟨j, hj⟩ : ∃ j, j = dirt D.cs k % S.length := ⟨_, rfl⟩
            rw [← hj] at hm
            have hfat : fat S (dirt D.cs k) = S.getD j 0 := by unfold fat; rw [if_neg hS0, hj]
            have hj2 : (dirt D.cs k : Int).tmod (S.length : Int) = (j : Int) := by rw [hj]; rfl
            obtain ⟨ad, hae, hyj⟩ := Kd.at_int HS2.out (j : Int) (by omega) (by omega)
            subst hae
            rw [Int.toNat_natCast] at hyj
            rw [show rd S (j : Int) = S.getD j 0 from by unfold rd; rw [Int.toNat_natCast]] at hyj
            have hbd := HSB.out (S.getD j 0) (by rw [List.getD_eq_getElem?_getD, List.getElem?_eq_getElem hm]; exact List.getElem_mem hm)
            rw [hfat] at ho
            generalize S.getD j 0 = f at *
            rw [hb] at HBX
            obtain ⟨_, _, _, _, hinb⟩ := HBX.out.in_
            rw [hb] at y2
            have HOX := Aside0.mk ho
            have HFT := Aside0.mk hfat
            have i6 : (0 : Int) ≤ (j : Int) := by omega
            have i7 : (j : Int) < (S.length : Int) := by omega
            have i8 : ((S.length : Int) == 0) = false := beq_eq_false_iff_ne.2 (by omega)
            have hyb := cellA hyj (Obj.cells #[Value.slice A x.1.length c, Value.slice B x.2.1.length e, Value.bool true] 77)
            have hfb := cellA hf2 (Obj.cells #[Value.slice A x.1.length c, Value.slice B x.2.1.length e, Value.bool true] 77)
            have HBD := Aside0.mk hbd
            have HIN := Aside0.mk hinb
            clear hinb HBX ho hfat hbd hm hj
            go_wp2_with fail
            go_quiet (fail)
            have hcl := cleft_ok x f A B c e _ (HIN.out.drewN nq) HBD.out hXa.out (Kd.C_below hXA.out (pw_below_drewN (below_alloc (Below.refl _ _) _) _)) hXb.out (Kd.C_below hXB.out (pw_below_drewN (below_alloc (Below.refl _ _) _) _)) HXL.out
            rw [← HOX.out, hb] at hcl
            replace hcl := Aside0.mk hcl
            clear hyb hfb hyj hf2 hj2 i6 i7 i8
            go_wp2_with fail
            refine hcl.out.mono ?_
            rintro e6 w6 ⟨v6, rfl, h6⟩
            have H3 := Aside0.mk (DSt.of_in (d := l) (D := ⟨p, D.jleft keep b, [], [], false, (lrow S D.cs).take k ++ List.replicate (D.cs.length - k) ([], [], false)⟩) (L := aM bk o [v6] :: aB wr.heap.size #[Value.slice A x.1.length c, Value.slice B x.2.1.length e, Value.bool true] 77 :: (datoms d D us ub um (.slice (some ⟨gd, 0, none⟩) D.cs.length cd) ++ aB w.heap.size #[.int .i64 keep, .bool b, .slice (some ad) S.length cs'] 32 :: aM ik S [.slice (some ad) S.length cs'] :: L)) h6)
            obtain ⟨_, hh6⟩ := H3.out.head
            obtain ⟨Ao, co, rfl, ho1, ho2⟩ := hh6.reads
            have HA := Aside0.mk ho2
            have HC' := Aside0.mk ho1
            have HO := Aside0.mk (show o.length < 140737488355328 by have := HXL.out; have := cleft_len x f; rw [← HOX.out] at this; omega)
            clear y0 y1 y2 i1 i3 i5 hcl h6 hh6 ho1 ho2
            go_wp2_with fail
            obtain ⟨g, cl, P, Q, A1, c1', B1, e1, ws, wb, wm, hP, _, h5l, _, _, hPQ, h3⟩ := H3.out.open_ HX0.out
            have hlen := HLEN.out
            simp only [hlen] at h5l hPQ h3
            have HPx := Aside0.mk hP
            have HPQ := Aside0.mk hPQ
            have H3' := Aside0.mk h3
            clear h3 hP hPQ hlen
            go_region_held3 (fun w' => w'.cell? ⟨l, 5, none⟩ = some (.slice (some ⟨g, 0, none⟩) D.cs.length cl)) ((first | exact z5 | go_keep))
              ((first
                | (go_at_call 34; refine (slices_Clone_byte_byte.calls Ao co o o _ (Kd.C_below HA.out (below_drew (Below.refl _ _))) HC'.out (Clone_ok _ HO.out)).mono ?_; rintro e4 w4 ⟨v4, rfl, ho, hb4⟩; obtain ⟨A4, c4, rfl, _, _⟩ := Kd.R_reads ho; have hA4 := Aside0.mk (Kd.C_below (Kd.C_below HA.out (below_drew (Below.refl _ _))) hb4); have H4 := Aside0.mk (H3'.out.drew.newR hb4 ho); have kd5 := pw_cell_below hb4 (cellD h5l); clear ho hb4)
                | (go_at_call 34; refine (slices_Clone_byte_byte.calls Ao co o o _ hA4.out HC'.out (Clone_ok _ HO.out)).mono ?_; rintro e5 w5 ⟨v5, rfl, ho, hb5⟩; obtain ⟨A5, c5, rfl, _, _⟩ := Kd.R_reads ho; have H5 := Aside0.mk ((H4.out.newR hb5 ho).f2); have kd5' := pw_cell_below hb5 kd5; clear ho hb5; obtain ⟨q0, z0⟩ := H5.out.row_cell (k * 3) (.slice A1 0 c1') (by rw [List.append_assoc, ← HPx.out, List.getElem?_append_right (by omega)]; simp); obtain ⟨q1, z1⟩ := H5.out.row_cell (k * 3 + 1) (.slice B1 0 e1) (by rw [List.append_assoc, ← HPx.out, List.getElem?_append_right (by omega)]; simp); obtain ⟨q2, z2⟩ := H5.out.row_cell (k * 3 + 2) (.bool false) (by rw [List.append_assoc, ← HPx.out, List.getElem?_append_right (by omega)]; simp); have H6 := Aside0.mk (set3 HPx.out H5.out (.slice A4 (o).length c4) (.slice A5 (o).length c5) (.bool false)); have z5 := ((H6.out.front 6 _ rfl : St base w0 _ (aB l _ 72 :: _)).cell 5).trans (show _ = some (Value.slice (some ⟨g, 0, none⟩) D.cs.length cl) from rfl))))
            have H7 := DSt.shut_ (D := ⟨p, D.jleft keep b, [], [], false, (lrow S D.cs).take k ++ List.replicate (D.cs.length - k) ([], [], false)⟩) (x' := (o, o, false)) (by show k < ((lrow S D.cs).take k ++ List.replicate (D.cs.length - k) (([], [], false) : Cel)).length; rw [HLEN.out]; exact hlt) HPx.out (by show _ = ((lrow S D.cs).take k ++ List.replicate (D.cs.length - k) (([], [], false) : Cel)).length * 3; rw [HLEN.out]; simpa using HPQ.out) (by show St _ _ _ (aW 77 3 (.slice (some ⟨g, 0, none⟩) ((lrow S D.cs).take k ++ List.replicate (D.cs.length - k) (([], [], false) : Cel)).length cl) ((lrow S D.cs).take k ++ List.replicate (D.cs.length - k) (([], [], false) : Cel)).length _ :: _ :: _ :: _ :: aB l #[_, _, _, _, _, .slice (some ⟨g, 0, none⟩) ((lrow S D.cs).take k ++ List.replicate (D.cs.length - k) (([], [], false) : Cel)).length cl] 72 :: _); rw [HLEN.out]; exact H6.out.f3.drop.f3.drop.f2.f1)
            have hset := drop_rep (lrow S D.cs) (([], [], false) : Cel) (o, o, false) k D.cs.length hlt (by rw [lrow_at HX.out]; simp only [lcell, hb, if_true, HFT.out, ← HOX.out])
            have hdirt := dirt_succ HX.out
            rw [hb, if_pos rfl] at hdirt
            replace H7 := Aside0.mk (hset ▸ (show DSt base w0 _ l ⟨p, D.jleft keep b, [], [], false, ((lrow S D.cs).take k ++ List.replicate (D.cs.length - k) (([], [], false) : Cel)).set k (o, o, false)⟩ _ from H7).drop.drop)
            clear H6 H5 H4 hset z5 q0 q1 q2 z0 z1 z2 kd5 kd5' h5l
            go_wp2_with fail
            go_roundg (gk - 1)
            case measure => have := HM.out; omega
            case rel => exact ⟨k + 1, rfl, by rw [hdirt, wrap_up (by have := dirt_le D.cs k; omega)], ⟨hlt⟩, ⟨by have := HM.out; omega⟩, H7⟩
      · have i1 : decide ((k : Int) < (D.cs.length : Int)) = false := decide_eq_false (by omega)
        have hkn : k = D.cs.length := by have := HK.out; omega
        subst hkn
        have h := HD.out.lose.swap
        rw [Nat.sub_self, List.replicate_zero, List.append_nil, List.take_of_length_le (by rw [lrow, List.length_mapIdx]; exact Nat.le_refl _)] at h
        clear HD
        go_wp2
        go_ret
        obtain ⟨u1, u2, u3, u4, h⟩ := h
        exact ⟨l, u1, u2, u3, u4, rfl, h⟩
end Go.Proofs.Ytpggfnodpjofkaa.Disk
