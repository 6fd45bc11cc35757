/- The walk of DiskMemory. -/
import Derived.Test.YtpggfnodpjofkaaDiskAlive
namespace Go.Proofs.Ytpggfnodpjofkaa.Disk
open Go.RowKit Go.Proofs.YtpggfnodpjofkaaW.PrintWords Go.Proofs.YtpggfnodpjofkaaW.PrintLast Go.Proofs.YtpggfnodpjofkaaW.PrintMore Go.Proofs.Ytpggfnodpjofkaa.MDisk Go.Proofs.Ytpggfnodpjofkaa.Sep
set_option linter.unusedVariables false
set_option linter.unusedSimpArgs false
theorem results_c1 {P : Program} {fn : Func} {p : Tmp} {ty : TypeId} (h : fn.results = #[.cell p ty]) (tmps : Array Value) (w : World) (g : Nat) (t : TypeId) (cs : Array Value) (fr : Nat × Nat) (d : TypeDesc)
    (hp : tmps.getD p undef = .pointer (some ⟨g, 0, none⟩)) (hg : w.heap[g]? = some (.cells cs t fr))
    (hu : P.underlying ty = some d) (hd : (match d with | .struct _ | .array _ _ => true | _ => false) = true) (hi : (P.info? ty).map (·.size) = some cs.size) :
    (results fn tmps).run P w = .ok (.agg cs) w := by
  have hp' : tmps[p]?.getD undef = .pointer (some ⟨g, 0, none⟩) := by simpa using hp
  simp [results, h, hp', asAddr, run_loadVar_row w g t ty cs fr d hg hu hd hi]
set_option maxHeartbeats 8000000 in
set_option maxRecDepth 100000 in
theorem CopyFate_ok {base : Nat} {w0 : World} {L : List Atom} (keep : Int) (b : Bool) (A : Option Addr) (c : Nat) (S : List Int) (w : World) (H : St base w0 w L) (hr : Kd.C (Kd.int .i64) w A S.length S) (hc : S.length ≤ c) (hl : S.length < 17592186044416) :
    Calls Try.prog 23 #[.agg #[.int .i64 keep, .bool b, .slice A S.length c]] w fun e w' => ∃ v, e = .returned (.agg #[.int .i64 keep, .bool b, v]) ∧ St base w0 w' (aM ik S [v] :: L) := by
  have HR := Aside0.mk hr
  have HC := Aside0.mk hc
  have HL := Aside0.mk hl
  replace H := Aside0.mk H
  clear hr hc hl
  go_enter Try.func23, Try.ntmps23
  go_wp2_with fail
  refine (rillref00_CopyInts.calls A c S S _ (Kd.C_below HR.out (below_alloc (below_alloc (Below.refl _ _) _) _)) HC.out (CopyInts_ok _ HL.out)).mono ?_
  rintro e w4 ⟨v4, rfl, ho, hb4⟩
  obtain ⟨A4, c4, rfl, _, _⟩ := Kd.R_reads ho
  have h1 := ((H.out.box #[.int .i64 keep, .bool b, .slice A S.length c] 32).box #[.int .i64 0, .bool false, .slice none 0 0] 32).newR hb4 ho
  rw [show (w.alloc (.cells #[.int .i64 keep, .bool b, .slice A S.length c] 32)).heap.size = w.heap.size + 1 from Array.size_push ..] at h1
  have z0 := h1.f2.cell 0
  have z1 := h1.f2.cell 1
  have z2 := h1.f2.cell 2
  have zf := h1.f2.frozen 2
  have y0 : w4.cell? ⟨w.heap.size + 1, 0, none⟩ = some (Value.int .i64 0) := h1.f1.cell 0
  have y1 : w4.cell? ⟨w.heap.size + 1, 1, none⟩ = some (Value.bool false) := h1.f1.cell 1
  have y2 : w4.cell? ⟨w.heap.size + 1, 2, none⟩ = some (Value.slice none 0 0) := h1.f1.cell 2
  have yf0 := h1.f1.frozen 0
  have yf1 := h1.f1.frozen 1
  have yf2 := h1.f1.frozen 2
  replace H := Aside0.mk h1
  clear h1 ho hb4
  replace z0 : _ = some (Value.int .i64 keep) := z0
  replace z1 : _ = some (Value.bool b) := z1
  replace z2 : _ = some (Value.slice A S.length c) := z2
  go_wp2_with fail
  have h3 := (((H.out.f2.set 2 (.slice A4 S.length c4)).f2.set 0 (.int .i64 keep)).set 1 (.bool b)).set 2 (.slice A4 S.length c4)
  have hb := h3.blk
  exact bodyPost_ret (results_c1 rfl _ _ (w.heap.size + 1) 32 #[.int .i64 keep, .bool b, .slice A4 S.length c4] (0, 0) _ rfl hb Try.underlying32 rfl (by kernel_rfl)) rfl ⟨.slice A4 S.length c4, rfl, h3.drop.drop⟩
theorem DiskM_great (A B : Option Addr) (c e : Nat) (a b : List Int) (f : Value) (w : World) (h : 64 < b.length ∨ 5000 < a.length) (keep : Int) (fb : Bool) (vs : Value) :
    Calls Try.prog 5 #[.slice A a.length c, .slice B b.length e, .agg #[.int .i64 keep, .bool fb, vs]] w fun e w' => e = .returned (.bool true) ∧ Below w.heap.size w w' := by
  by_cases h1 : 64 < b.length
  · have i1 : decide (64 < (b.length : Int)) = true := decide_eq_true (by omega)
    clear h h1
    go_enter Try.func5, Try.ntmps5
    go_wp2_with fail
    refine (alive_ok _ ((St.start w).alloc _)).mono ?_
    rintro e w1 ⟨rfl, h1⟩
    replace h1 := Aside0.mk h1
    go_wp2
    go_ret
    exact ⟨rfl, h1.out.1⟩
  · have i1 : decide (64 < (b.length : Int)) = false := decide_eq_false (by omega)
    have i2 : decide (5000 < (a.length : Int)) = true := decide_eq_true (by omega)
    clear h h1
    go_enter Try.func5, Try.ntmps5
    go_wp2_with fail
    refine (alive_ok _ ((St.start w).alloc _)).mono ?_
    rintro e w1 ⟨rfl, h1⟩
    replace h1 := Aside0.mk h1
    go_wp2
    go_ret
    exact ⟨rfl, h1.out.1⟩
set_option maxHeartbeats 16000000 in
set_option maxRecDepth 100000 in
theorem DiskMemory_small (A B : Option Addr) (c e : Nat) (a b : List Int) (keep : Int) (fb : Bool) (As : Option Addr) (cs : Nat) (S : List Int) (w : World)
    (hra : Kd.C (Kd.int .u8) w A a.length a) (hca : a.length ≤ c) (hrb : Kd.C (Kd.int .u8) w B b.length b) (hcb : b.length ≤ e) (hrs : Kd.C (Kd.int .i64) w As S.length S) (hcs : S.length ≤ cs) (hS8 : S.length < 17592186044416) (hSw : ∀ x ∈ S, -9223372036854775808 ≤ x ∧ x ≤ 9223372036854775807) (h64 : b.length ≤ 64) (h5k : a.length ≤ 5000) :
    Calls Try.prog 5 #[.slice A a.length c, .slice B b.length e, .agg #[.int .i64 keep, .bool fb, .slice As S.length cs]] w fun e w' => e = .returned (.bool true) ∧ Below w.heap.size w w' := by
  have HRA := Aside0.mk hra
  have HCA := Aside0.mk hca
  have HRB := Aside0.mk hrb
  have HCB := Aside0.mk hcb
  have HRS := Aside0.mk hrs
  have HCS := Aside0.mk hcs
  have HS8 := Aside0.mk hS8
  have HSW := Aside0.mk hSw
  have H64 := Aside0.mk h64
  have H5K := Aside0.mk h5k
  have i1 : decide (64 < (b.length : Int)) = false := decide_eq_false (by omega)
  have i2 : decide (5000 < (a.length : Int)) = false := decide_eq_false (by omega)
  clear hra hca hrb hcb hrs hcs hS8 hSw h64 h5k
  go_enter Try.func5, Try.ntmps5
  go_wp2_with fail
  refine (alive_ok _ ((St.start w).box _ _)).mono ?_
  rintro e w1 ⟨rfl, h1⟩
  have H := Aside0.mk h1
  clear h1
  go_wp2_with fail
  refine (New_ok 1 (-1) w1 H.out (by decide) (by decide)).mono ?_
  rintro e w2 ⟨d, rfl, h1⟩
  replace H := Aside0.mk h1
  clear h1
  go_wp2_with fail
  refine (rillref00_CopyBytes.calls B _ b b _ (Kd.C_below HRB.out H.out.below) HCB.out (Copy_ok b (by have := H64.out; omega))).mono ?_
  rintro e w3 ⟨v3, rfl, ho, hb3⟩
  obtain ⟨Ao, co, rfl, _, _⟩ := Kd.R_reads ho
  replace H := Aside0.mk (H.out.newR hb3 ho)
  clear ho hb3
  go_wp2_with fail
  refine (Lay_ok d (fresh 1 (-1)) Ao co b _ H.out (by decide) H.out.row_reads.2 (fun _ _ h => h.row_reads.1) (by have := H64.out; omega)).mono ?_
  rintro e w4 ⟨rfl, h1⟩
  replace H := Aside0.mk (show DSt w.heap.size w w4 d ⟨-1, [], b, [], true, [([], [], false)]⟩ _ from h1)
  clear h1
  go_wp2_with fail
  refine (Append_ok d _ A c a _ H.out (show (-1 : Int) ≠ 0 by decide) (fun _ h _ => Kd.C_below HRA.out h) (by have := H5K.out; show 0 + a.length < _; omega)).mono ?_
  rintro e w5 ⟨rfl, h1⟩
  replace H := Aside0.mk (show DSt w.heap.size w w5 d ⟨-1, [], b, a, true, [([], [], false)]⟩ _ from h1)
  clear h1
  go_wp2_with fail
  refine (Write_ok d _ 0 ([], [], false) Ao co b _ H.out rfl (show 1 ≤ 512 by decide) H64.out (show (-1 : Int) ≠ 0 by decide) H.out.row_reads.2 (fun _ _ h => h.row_reads.1)).mono ?_
  rintro e w6 ⟨rfl, h1⟩
  replace H := Aside0.mk (show DSt w.heap.size w w6 d ⟨-1, [], b, a, true, [([], b, true)]⟩ _ from h1)
  clear h1
  go_wp2_with fail
  refine (SyncLog_ok d _ _ H.out (show (-1 : Int) ≠ 0 by decide) ⟨by have := H5K.out; show 0 + a.length < _; omega, by have := H5K.out; have := H64.out; show b.length + a.length < _; omega⟩).mono ?_
  rintro e w7 ⟨rfl, h1⟩
  replace H := Aside0.mk (show DSt w.heap.size w w7 d ⟨-1, b ++ a, [], [], false, [([], b, true)]⟩ _ from h1)
  clear h1
  go_wp2_with fail
  refine (SyncSlots_ok d _ _ H.out (show (-1 : Int) ≠ 0 by decide) (show 1 ≤ 512 by decide) (by intro x hx; rw [List.mem_singleton.1 hx]; have := H64.out; show b.length < _; omega)).mono ?_
  rintro e w8 ⟨rfl, h1⟩
  replace H := Aside0.mk (show DSt w.heap.size w w8 d ⟨-1, b ++ a, [], [], false, [(b, b, false)]⟩ _ from h1)
  clear h1
  go_wp2_with fail
  go_loopg [10] (b.length + 1) (fun kq v10 w' => ∃ (i : Nat) (xs : List Int), v10 = .int .i64 i ∧ xs.length = b.length ∧ Aside0 (i ≤ b.length) ∧ Aside0 (kq + i = b.length + 1) ∧ Aside0 (DSt w.heap.size w w' d ⟨-1, b ++ a, [], [], false, [(b, b, false)]⟩ (aM bk xs [.slice Ao b.length co] :: [aB w.heap.size #[.int .i64 keep, .bool fb, .slice As S.length cs] 32])))
  case atStart => exact ⟨0, b, rfl, rfl, ⟨Nat.zero_le _⟩, ⟨by omega⟩, H⟩
  case round =>
    clear H
    obtain ⟨i, xs, rfl, hxl, HK, HM, H⟩ := hrel
    by_cases hlt : i < b.length
    · have i5 : decide ((i : Int) < (b.length : Int)) = true := decide_eq_true (by omega)
      have i3 : (0 : Int) ≤ (i : Int) := by omega
      have i4 : (i : Int) < (b.length : Int) := by omega
      have hbig : (i : Int) ≤ 10000 := by have := H64.out; have := H5K.out; omega
      obtain ⟨_, _, _, _, hin⟩ := H.out.in_
      replace hin : St w.heap.size w _ (aM bk xs [.slice Ao b.length co] :: (_ ++ _)) := hin
      obtain ⟨g, rfl, hq1, hq2⟩ := hin.ints_block (by omega)
      clear hq1 hq2
      obtain ⟨hcell, hfz⟩ := hin.int_cell i (by omega)
      have HXL := Aside0.mk hxl
      have HIN := Aside0.mk hin
      clear hxl hin
      go_wp2_with fail
      go_roundg (gk - 1)
      case measure => have := HM.out; omega
      case rel => exact ⟨i + 1, xs.set i _, rfl, by rw [List.length_set]; exact HXL.out, ⟨hlt⟩, ⟨by have := HM.out; omega⟩, ⟨DSt.of_in (L := aM bk _ [_] :: ([aB w.heap.size #[.int .i64 keep, .bool fb, .slice As S.length cs] 32])) (HIN.out.int_set i _)⟩⟩
    · have i5 : decide ((i : Int) < (b.length : Int)) = false := decide_eq_false (by omega)
      have HR2 := Aside0.mk H.out.drop
      clear H hxl HK HM
      have H := HR2
      clear HR2
      obtain ⟨_, _, _, _, hin⟩ := H.out.in_
      replace hin : St w.heap.size w _ (aB w.heap.size #[.int .i64 keep, .bool fb, .slice As S.length cs] 32 :: ([] ++ _)) := hin
      have bx0 : wr.cell? ⟨w.heap.size, 0, none⟩ = some (Value.int .i64 keep) := hin.cell 0
      have bx1 : wr.cell? ⟨w.heap.size, 1, none⟩ = some (Value.bool fb) := hin.cell 1
      have bx2 : wr.cell? ⟨w.heap.size, 2, none⟩ = some (Value.slice As S.length cs) := hin.cell 2
      have HIN := Aside0.mk hin
      clear hin H
      go_wp2_with fail
      refine (CopyFate_ok keep fb As cs S _ HIN.out (Kd.C_below HRS.out HIN.out.1) HCS.out HS8.out).mono ?_
      rintro e w9 ⟨vs, rfl, h1⟩
      have H := Aside0.mk (DSt.of_in (d := d) (D := ⟨-1, b ++ a, [], [], false, [(b, b, false)]⟩) (L := aM ik S [vs] :: [aB w.heap.size #[.int .i64 keep, .bool fb, .slice As S.length cs] 32]) h1)
      clear h1 HIN bx0 bx1 bx2
      go_wp2_with fail
      refine (Left_ok d _ keep fb S vs (-1) _ H.out ⟨by have := H5K.out; have := H64.out; show (b ++ a).length + 0 < _; rw [List.length_append]; omega, by show 0 + 0 < _; omega⟩ (show 1 ≤ 1 by decide) (show 1 ≤ 512 by decide) HS8.out HSW.out (by intro x hx; rw [List.mem_singleton.1 hx]; have := H64.out; show b.length + b.length < _; omega)).mono ?_
      rintro e w10 ⟨l, us, ub, um, uc, rfl, h1⟩
      replace H := Aside0.mk (show DSt w.heap.size w w10 d ⟨-1, b ++ a, [], [], false, [(b, b, false)]⟩ (datoms l ⟨-1, Dk.jleft ⟨-1, b ++ a, [], [], false, [(b, b, false)]⟩ keep fb, [], [], false, [(b, b, false)]⟩ us ub um uc ++ aM ik S [vs] :: [aB w.heap.size #[.int .i64 keep, .bool fb, .slice As S.length cs] 32]) from h1)
      clear h1
      go_wp2_with fail
      refine (Log_ok d _ _ H.out ⟨by have := H5K.out; have := H64.out; show (b ++ a).length + 0 < _; rw [List.length_append]; omega, by show 0 + 0 < _; omega⟩).mono ?_
      rintro e w11 ⟨vx, rfl, h1⟩
      replace h1 : DSt w.heap.size w w11 d ⟨-1, b ++ a, [], [], false, [(b, b, false)]⟩ (aM bk ((b ++ a) ++ []) [vx] :: _) := h1
      rw [List.append_nil] at h1
      obtain ⟨Ax, cx, rfl, _, _⟩ := h1.row_form
      replace H := h1
      clear h1
      obtain ⟨n2, hn2⟩ : ∃ n2, n2 = (b ++ a).length := ⟨_, rfl⟩
      rw [← hn2] at H
      rw [← hn2]
      have hn2' : n2 ≤ 5064 := by rw [hn2, List.length_append]; have := H5K.out; have := H64.out; omega
      have HN2 := Aside0.mk hn2
      have HN3 := Aside0.mk hn2'
      clear hn2 hn2'
      replace H := Aside0.mk H
      go_wp2_with fail
      refine (Read_ok d _ 0 (b, b, false) _ H.out rfl (show 1 ≤ 512 by decide) (by have := H64.out; show b.length < _; omega)).mono ?_
      rintro e w12 ⟨vy, rfl, h1⟩
      replace h1 : DSt w.heap.size w w12 d ⟨-1, b ++ a, [], [], false, [(b, b, false)]⟩ (aM bk b [vy] :: _) := h1
      obtain ⟨Ay, cy, rfl, _, _⟩ := h1.row_form
      replace H := Aside0.mk (h1.perm (List.Perm.swap _ _ _))
      clear h1
      go_wp2_with fail
      go_loopg [15] (n2 + 1) (fun kq v15 w' => ∃ (i : Nat) (xs : List Int), v15 = .int .i64 i ∧ xs.length = n2 ∧ Aside0 (i ≤ n2) ∧ Aside0 (kq + i = n2 + 1) ∧ Aside0 (DSt w.heap.size w w' d ⟨-1, b ++ a, [], [], false, [(b, b, false)]⟩ (aM bk xs [.slice Ax n2 cx] :: aM bk b [.slice Ay b.length cy] :: (datoms l ⟨-1, Dk.jleft ⟨-1, b ++ a, [], [], false, [(b, b, false)]⟩ keep fb, [], [], false, [(b, b, false)]⟩ us ub um uc ++ aM ik S [vs] :: [aB w.heap.size #[.int .i64 keep, .bool fb, .slice As S.length cs] 32]))))
      case atStart => exact ⟨0, (b ++ a), rfl, HN2.out.symm, ⟨Nat.zero_le _⟩, ⟨by omega⟩, H⟩
      case round =>
        clear H
        obtain ⟨i, xs, rfl, hxl, HK, HM, H⟩ := hrel
        by_cases hlt : i < n2
        · have i5 : decide ((i : Int) < (n2 : Int)) = true := decide_eq_true (by omega)
          have i3 : (0 : Int) ≤ (i : Int) := by omega
          have i4 : (i : Int) < (n2 : Int) := by omega
          have hbig : (i : Int) ≤ 10000 := by have := H64.out; have := H5K.out; have := HN3.out; omega
          obtain ⟨_, _, _, _, hin⟩ := H.out.in_
          replace hin : St w.heap.size w _ (aM bk xs [.slice Ax n2 cx] :: (_ ++ _)) := hin
          obtain ⟨g, rfl, hq1, hq2⟩ := hin.ints_block (by omega)
          clear hq1 hq2
          obtain ⟨hcell, hfz⟩ := hin.int_cell i (by omega)
          have HXL := Aside0.mk hxl
          have HIN := Aside0.mk hin
          clear hxl hin
          go_wp2_with fail
          go_roundg (gk - 1)
          case measure => have := HM.out; omega
          case rel => exact ⟨i + 1, xs.set i _, rfl, by rw [List.length_set]; exact HXL.out, ⟨hlt⟩, ⟨by have := HM.out; omega⟩, ⟨DSt.of_in (L := aM bk _ [_] :: (aM bk b [.slice Ay b.length cy] :: (datoms l ⟨-1, Dk.jleft ⟨-1, b ++ a, [], [], false, [(b, b, false)]⟩ keep fb, [], [], false, [(b, b, false)]⟩ us ub um uc ++ aM ik S [vs] :: [aB w.heap.size #[.int .i64 keep, .bool fb, .slice As S.length cs] 32]))) (HIN.out.int_set i _)⟩⟩
        · have i5 : decide ((i : Int) < (n2 : Int)) = false := decide_eq_false (by omega)
          have HR2 := Aside0.mk H.out.drop
          clear H hxl HK HM
          have H := HR2
          clear HR2
          go_wp2_with fail
          go_loopg [16] (b.length + 1) (fun kq v16 w' => ∃ (i : Nat) (xs : List Int), v16 = .int .i64 i ∧ xs.length = b.length ∧ Aside0 (i ≤ b.length) ∧ Aside0 (kq + i = b.length + 1) ∧ Aside0 (DSt w.heap.size w w' d ⟨-1, b ++ a, [], [], false, [(b, b, false)]⟩ (aM bk xs [.slice Ay b.length cy] :: (datoms l ⟨-1, Dk.jleft ⟨-1, b ++ a, [], [], false, [(b, b, false)]⟩ keep fb, [], [], false, [(b, b, false)]⟩ us ub um uc ++ aM ik S [vs] :: [aB w.heap.size #[.int .i64 keep, .bool fb, .slice As S.length cs] 32]))))
          case atStart => exact ⟨0, b, rfl, rfl, ⟨Nat.zero_le _⟩, ⟨by omega⟩, H⟩
          case round =>
            clear H
            obtain ⟨i, xs, rfl, hxl, HK, HM, H⟩ := hrel
            by_cases hlt : i < b.length
            · have i5 : decide ((i : Int) < (b.length : Int)) = true := decide_eq_true (by omega)
              have i3 : (0 : Int) ≤ (i : Int) := by omega
              have i4 : (i : Int) < (b.length : Int) := by omega
              have hbig : (i : Int) ≤ 10000 := by have := H64.out; have := H5K.out; omega
              obtain ⟨_, _, _, _, hin⟩ := H.out.in_
              replace hin : St w.heap.size w _ (aM bk xs [.slice Ay b.length cy] :: (_ ++ _)) := hin
              obtain ⟨g, rfl, hq1, hq2⟩ := hin.ints_block (by omega)
              clear hq1 hq2
              obtain ⟨hcell, hfz⟩ := hin.int_cell i (by omega)
              have HXL := Aside0.mk hxl
              have HIN := Aside0.mk hin
              clear hxl hin
              go_wp2_with fail
              go_roundg (gk - 1)
              case measure => have := HM.out; omega
              case rel => exact ⟨i + 1, xs.set i _, rfl, by rw [List.length_set]; exact HXL.out, ⟨hlt⟩, ⟨by have := HM.out; omega⟩, ⟨DSt.of_in (L := aM bk _ [_] :: ((datoms l ⟨-1, Dk.jleft ⟨-1, b ++ a, [], [], false, [(b, b, false)]⟩ keep fb, [], [], false, [(b, b, false)]⟩ us ub um uc ++ aM ik S [vs] :: [aB w.heap.size #[.int .i64 keep, .bool fb, .slice As S.length cs] 32]))) (HIN.out.int_set i _)⟩⟩
            · have i5 : decide ((i : Int) < (b.length : Int)) = false := decide_eq_false (by omega)
              have HR2 := Aside0.mk H.out.drop
              clear H hxl HK HM
              have H := HR2
              clear HR2
              have HSWP := Aside0.mk H.out.swap
              obtain ⟨u1, u2, u3, u4, hl⟩ := HSWP.out
              replace H := Aside0.mk (hl.lit 5 .u8 [1, 2, 3] (by decide))
              clear hl HSWP
              go_wp2_with fail
              refine (Append_ok l _ _ 3 [1, 2, 3] _ H.out (show (-1 : Int) ≠ 0 by decide) (fun _ _ h => h.row_reads.1) (show 0 + 3 < 140737488355328 by decide)).mono ?_
              rintro e w13 ⟨rfl, h1⟩
              replace H := Aside0.mk (show DSt w.heap.size w w13 l ⟨-1, Dk.jleft ⟨-1, b ++ a, [], [], false, [(b, b, false)]⟩ keep fb, [], [1, 2, 3], false, [(b, b, false)]⟩ _ from h1.drop)
              clear h1
              go_wp2_with fail
              refine (Write_ok l _ 0 (b, b, false) none 0 [] _ H.out rfl (show 1 ≤ 512 by decide) (show 0 ≤ 64 by decide) (show (-1 : Int) ≠ 0 by decide) (Nat.le_refl 0) (fun _ _ _ => Kd.C_nil _ _)).mono ?_
              rintro e w14 ⟨rfl, h1⟩
              obtain ⟨y1, y2, y3, y4, hd⟩ := h1.swap
              replace H := Aside0.mk (show DSt w.heap.size w w14 d ⟨-1, b ++ a, [], [], false, [(b, b, false)]⟩ (aM ik S [vs] :: [aB w.heap.size #[.int .i64 keep, .bool fb, .slice As S.length cs] 32]) from hd.let5)
              clear h1 hd
              go_wp2_with fail
              refine (rillref00_CopyBytes.calls B _ b b _ (Kd.C_below HRB.out H.out.below) HCB.out (Copy_ok b (by have := H64.out; omega))).mono ?_
              rintro e w15 ⟨va, rfl, ho, hb3⟩
              obtain ⟨Aa, ca, rfl, _, _⟩ := Kd.R_reads ho
              have h1 := H.out.newR hb3 ho
              obtain ⟨_, _, _, _, hin⟩ := h1.in_
              replace hin : St w.heap.size w w15 (aM bk b [.slice Aa b.length ca] :: ((aM ik S [vs] :: [aB w.heap.size #[.int .i64 keep, .bool fb, .slice As S.length cs] 32]) ++ _)) := hin
              replace H := Aside0.mk hin
              clear ho hb3 h1 hin
              go_wp2_with (at_builtin; refine St.append_row H.out rfl (.tmp 111) (.tmp 112) 29 1 rfl Try.underlying29 info5 (by decide) A c rfl rfl (Kd.C_below HRA.out H.out.1) (by have := H64.out; have := H5K.out; omega) ?_; intro v8 w16 H8; obtain ⟨A8, c8, rfl, hl8, _⟩ := H8.reads; rw [← HN2.out] at H8 hl8 ⊢; replace H8 := Aside0.mk (DSt.of_in (d := d) (D := ⟨-1, b ++ a, [], [], false, [(b, b, false)]⟩) (L := aM bk (b ++ a) [.slice A8 n2 c8] :: aM ik S [vs] :: [aB w.heap.size #[.int .i64 keep, .bool fb, .slice As S.length cs] 32]) H8); clear H; replace hl8 := Aside0.mk hl8)
              refine (Read_ok d _ 0 (b, b, false) _ H8.out rfl (show 1 ≤ 512 by decide) (by have := H64.out; show b.length < _; omega)).mono ?_
              rintro e w17 ⟨vz, rfl, h1⟩
              replace h1 : DSt w.heap.size w w17 d ⟨-1, b ++ a, [], [], false, [(b, b, false)]⟩ (aM bk b [vz] :: aM bk (b ++ a) [.slice A8 n2 c8] :: aM ik S [vs] :: [aB w.heap.size #[.int .i64 keep, .bool fb, .slice As S.length cs] 32]) := h1
              obtain ⟨Az, cz, rfl, _, _⟩ := h1.row_form
              have H := Aside0.mk h1
              clear h1 H8
              go_wp2_with fail
              refine (Log_ok d _ _ H.out ⟨by have := H5K.out; have := H64.out; show (b ++ a).length + 0 < _; rw [List.length_append]; omega, by show 0 + 0 < _; omega⟩).mono ?_
              rintro e w18 ⟨vx9, rfl, h1⟩
              replace h1 : DSt w.heap.size w w18 d ⟨-1, b ++ a, [], [], false, [(b, b, false)]⟩ (aM bk ((b ++ a) ++ []) [vx9] :: aM bk b [.slice Az b.length cz] :: aM bk (b ++ a) [.slice A8 n2 c8] :: aM ik S [vs] :: [aB w.heap.size #[.int .i64 keep, .bool fb, .slice As S.length cs] 32]) := h1
              rw [List.append_nil] at h1
              obtain ⟨A9, c9, rfl, hr9, hl9⟩ := h1.row_form
              obtain ⟨_, _, _, _, hin⟩ := h1.in_
              replace hin : St w.heap.size w w18 (aM bk (b ++ a) [.slice A9 (b ++ a).length c9] :: aM bk b [.slice Az b.length cz] :: aM bk (b ++ a) [.slice A8 n2 c8] :: ((aM ik S [vs] :: [aB w.heap.size #[.int .i64 keep, .bool fb, .slice As S.length cs] 32]) ++ _)) := hin
              obtain ⟨_, _, he, hlz, hrz⟩ := hin.f1.reads
              cases he
              obtain ⟨_, _, he, hl8', hr8⟩ := hin.f2.reads
              cases he
              have hcall := rillref00_SameBytes.calls ((b ++ a).length + 1) A9 c9 (b ++ a) A8 c8 (b ++ a) true w18 hr9 hl9 hr8 hl8' (by rw [Same_ok _ _ (by rw [List.length_append]; have := H64.out; have := H5K.out; omega) _ (by omega), decide_eq_true rfl])
              rw [List.length_append] at hcall
              replace hcall := Aside0.mk hcall
              have HRZ := Aside0.mk hrz
              have HLZ := Aside0.mk hlz
              replace H := Aside0.mk h1.below
              clear h1 hin hrz hlz hr9 hl9 hr8 hl8'
              go_wp2_with fail
              refine hcall.out.mono ?_
              rintro e w19 ⟨rfl, ⟨nd, rfl⟩⟩
              go_wp2_with fail
              refine (rillref00_SameBytes.calls (b.length + 1) Az cz b B _ b true _ (Kd.C_below HRZ.out (pw_below_drewN (Below.refl _ _) nd)) HLZ.out (Kd.C_below HRB.out (pw_below_drewN H.out nd)) HCB.out (by rw [Same_ok b b (by have := H64.out; omega) _ (by omega), decide_eq_true rfl])).mono ?_
              rintro e w20 ⟨rfl, ⟨nd2, rfl⟩⟩
              go_wp2
              go_ret
              exact ⟨rfl, pw_below_drewN H.out (nd + nd2)⟩
theorem DiskMemory_walk (A B : Option Addr) (c e : Nat) (a b : List Int) (keep : Int) (fb : Bool) (As : Option Addr) (cs : Nat) (S : List Int) (w : World)
    (hra : Kd.C (Kd.int .u8) w A a.length a) (hca : a.length ≤ c) (hrb : Kd.C (Kd.int .u8) w B b.length b) (hcb : b.length ≤ e) (hrs : Kd.C (Kd.int .i64) w As S.length S) (hcs : S.length ≤ cs) (hS8 : S.length * 8 ≤ 140737488351232) (hSw : ∀ x ∈ S, (Lit.int .i64 x).wf = true) :
    Calls Try.prog 5 #[.slice A a.length c, .slice B b.length e, .agg #[.int .i64 keep, .bool fb, .slice As S.length cs]] w fun e w' => e = .returned (.bool true) ∧ Below w.heap.size w w' := by
  by_cases h : 64 < b.length ∨ 5000 < a.length
  · exact DiskM_great A B c e a b (.int .i64 0) w h keep fb _
  · exact DiskMemory_small A B c e a b keep fb As cs S w hra hca hrb hcb hrs hcs (by omega) (fun x hx => by have := bounds_i64 (hSw x hx); omega) (by omega) (by omega)
end Go.Proofs.Ytpggfnodpjofkaa.Disk
