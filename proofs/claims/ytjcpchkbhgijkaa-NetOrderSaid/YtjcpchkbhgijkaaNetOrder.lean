/- The walk of NetOrder. -/
import Derived.Test.YtjcpchkbhgijkaaNetAlive
import Derived.Test.YtjcpchkbhgijkaaNetPlain
import Derived.Test.YtjcpchkbhgijkaaSep2
namespace Go.Proofs.Ytjcpchkbhgijkaa.Net
open Go.RowKit Go.Proofs.YtjcpchkbhgijkaaW.PrintWords Go.Proofs.YtjcpchkbhgijkaaW.PrintLast Go.Proofs.YtjcpchkbhgijkaaW.PrintMore Go.Proofs.Ytjcpchkbhgijkaa.MNet Go.Proofs.Ytjcpchkbhgijkaa.Sep
set_option linter.unusedVariables false
set_option linter.unusedSimpArgs false
/-- What is on its way: the numbers that are left, with their bytes. -/
def Left (lst : List (List Int)) (left : List Int) (ds : List Dg) : Prop := ds.map (·.1) = left.map (fun i => (i, lst.getD i.toNat [])) ∧ ∀ i ∈ left, 0 ≤ i ∧ i < (lst.length : Int)
theorem Left.len {lst : List (List Int)} {left : List Int} {ds : List Dg} (h : Left lst left ds) : ds.length = left.length := by
  have := congrArg List.length h.1
  simpa using this
theorem Left.snoc {lst : List (List Int)} {left : List Int} {ds : List Dg} (h : Left lst left ds) (k : Nat) (hk : k < lst.length) (v : List Value) : Left lst (left ++ [(k : Int)]) (ds ++ [(((k : Int), lst.getD k []), v)]) := by
  refine ⟨by rw [List.map_append, List.map_append, h.1]; simp, fun i hi => ?_⟩
  rcases List.mem_append.1 hi with hi | hi
  · exact h.2 i hi
  · rw [List.mem_singleton.1 hi]; omega
theorem Left.erase {lst : List (List Int)} {left : List Int} {ds : List Dg} (h : Left lst left ds) (k : Nat) : Left lst (left.eraseIdx k) (ds.eraseIdx k) := by
  refine ⟨?_, fun i hi => h.2 i (List.mem_of_mem_eraseIdx hi)⟩
  have m : ∀ {α β : Type} (f : α → β) (l : List α) (k : Nat), (l.map f).eraseIdx k = (l.eraseIdx k).map f := fun f l k => map_eraseIdx_ f l k
  rw [← m, h.1, m]
theorem Left.at_ {lst : List (List Int)} {left : List Int} {ds : List Dg} (h : Left lst left ds) (k : Nat) (hk : k < left.length) : ∃ x, ds[k]? = some x ∧ x.1 = (left.getD k 0, lst.getD (left.getD k 0).toNat []) ∧ 0 ≤ left.getD k 0 ∧ left.getD k 0 < (lst.length : Int) := by
  have hd : k < ds.length := by rw [h.len]; exact hk
  have e := congrArg (fun l => l[k]?) h.1
  simp only [List.getElem?_map, List.getElem?_eq_getElem hd, List.getElem?_eq_getElem hk, Option.map_some] at e
  have g : left.getD k 0 = left[k] := by rw [List.getD_eq_getElem?_getD, List.getElem?_eq_getElem hk]; rfl
  rw [g]
  have := h.2 _ (List.getElem_mem hk)
  exact ⟨ds[k], List.getElem?_eq_getElem hd, Option.some.inj e, this.1, this.2⟩
theorem Left.tos {lst : List (List Int)} {left : List Int} {ds : List Dg} (h : Left lst left ds) : ds.map (·.1.1) = left := by
  have := congrArg (List.map Prod.fst) h.1
  rw [List.map_map, List.map_map] at this
  rw [show (ds.map (·.1.1)) = ds.map (Prod.fst ∘ fun x => x.1) from rfl, this]
  exact List.map_id _
theorem ord_at {w : World} {ad : Addr} {xs : List Int} (h : Kd.C (Kd.int .i64) w (some ad) xs.length xs) (i : Nat) (hi : i < xs.length) : w.cell? (ad.add i) = some (.int .i64 (rd xs (i : Int))) := by
  obtain ⟨ad', he, h0⟩ := Kd.at_int h (i : Int) (by omega) (by omega)
  cases he
  rw [Int.toNat_natCast] at h0
  exact h0
theorem in_out' (n : Int) (m : Nat) : (∃ k : Nat, n = (k : Int) ∧ k < m) ∨ (n < 0 ∨ (0 ≤ n ∧ (m : Int) ≤ n)) := by
  by_cases h : 0 ≤ n ∧ n < (m : Int)
  · exact .inl ⟨n.toNat, by omega, by omega⟩
  · exact .inr (by omega)
set_option maxHeartbeats 16000000 in
set_option maxRecDepth 100000 in
theorem NetOrder_great (A B : Option Addr) (c d : Nat) (lst : List (List Int)) (ord : List Int) (w : World) (h : 100 < lst.length ∨ 200 < ord.length) :
    Calls Try.prog 5 #[.slice A lst.length c, .slice B ord.length d] w fun e w' => e = .returned (.bool true) ∧ Below w.heap.size w w' := by
  by_cases h1 : 100 < lst.length
  · have i1 : decide (100 < (lst.length : Int)) = true := decide_eq_true (by omega)
    clear h h1
    go_enter Try.func5, Try.ntmps5
    go_wp2_with fail
    refine (alive_ok w (St.start w)).mono ?_
    rintro e w1 ⟨rfl, h1⟩
    replace h1 := Aside0.mk h1
    go_wp2
    go_ret
    exact ⟨rfl, h1.out.1⟩
  · have i1 : decide (100 < (lst.length : Int)) = false := decide_eq_false (by omega)
    have i2 : decide (200 < (ord.length : Int)) = true := decide_eq_true (by omega)
    clear h h1
    go_enter Try.func5, Try.ntmps5
    go_wp2_with fail
    refine (alive_ok w (St.start w)).mono ?_
    rintro e w1 ⟨rfl, h1⟩
    replace h1 := Aside0.mk h1
    go_wp2
    go_ret
    exact ⟨rfl, h1.out.1⟩
set_option maxHeartbeats 16000000 in
set_option maxRecDepth 100000 in
theorem NetOrder_small (A B : Option Addr) (c d : Nat) (lst : List (List Int)) (ord : List Int) (w : World) (hr : Kd.C (Kd.slice 5 (Kd.int .u8)) w A lst.length lst) (hc : lst.length ≤ c) (hq : Kd.C (Kd.int .i64) w B ord.length ord) (hd : ord.length ≤ d) (h1 : lst.length ≤ 100) (h2 : ord.length ≤ 200) (hy : ∀ x ∈ lst, x.length ≤ 140737488351232) :
    Calls Try.prog 5 #[.slice A lst.length c, .slice B ord.length d] w fun e w' => e = .returned (.bool true) ∧ Below w.heap.size w w' := by
  have i1 : decide (100 < (lst.length : Int)) = false := decide_eq_false (by omega)
  have i2 : decide (200 < (ord.length : Int)) = false := decide_eq_false (by omega)
  have HR := Aside0.mk hr
  have HC := Aside0.mk hc
  have HQ := Aside0.mk hq
  have HD := Aside0.mk hd
  have H1 := Aside0.mk h1
  have H2 := Aside0.mk h2
  have HY := Aside0.mk hy
  clear hr hc hq hd h1 h2 hy
  go_enter Try.func5, Try.ntmps5
  go_wp2_with fail
  refine (alive_ok w (St.start w)).mono ?_
  rintro e w1 ⟨rfl, h1⟩
  have H := Aside0.mk h1
  clear h1
  go_wp2_with fail
  refine (New_ok w1 H.out).mono ?_
  rintro e w2 ⟨p, rfl, h1⟩
  replace H := Aside0.mk h1
  clear h1
  clear i1 i2
  go_wp2_with fail
  obtain ⟨vp, h1⟩ := H.out
  have HS := Aside0.mk (show ∃ vp, St w.heap.size w (w2.alloc (.cells #[] 3)) (aM (sep 3 (Kd.int .i64)) [] [.slice (some ⟨w2.heap.size, 0, none⟩) 0 0] :: aB p #[vp, .int .i64 ((0 : Nat) : Int)] 50 :: aM (sep 57 dk) [] [vp] :: []) from ⟨vp, h1.lit [] (by decide)⟩)
  clear h1 H
  go_loopg [6, 7] (lst.length + 1) (fun kq v6 v7 w' => ∃ (k : Nat) (vp : Value) (ds : List Dg) (left : List Int), v7 = .int .i64 k ∧ Aside0 (k ≤ lst.length) ∧ Aside0 (kq + k = lst.length + 1) ∧ Aside0 (Left lst left ds) ∧ Aside0 (left.length = k) ∧
    Aside0 (St w.heap.size w w' (aM (sep 3 (Kd.int .i64)) left [v6] :: aB p #[vp, .int .i64 (k : Int)] 50 :: aM (sep 57 dk) ds [vp] :: [])))
  case atStart =>
    obtain ⟨vp, h1⟩ := HS.out
    exact ⟨0, vp, [], [], rfl, ⟨Nat.zero_le _⟩, ⟨by omega⟩, ⟨rfl, fun i hi => by cases hi⟩, ⟨rfl⟩, ⟨h1⟩⟩
  case round =>
    clear HS
    obtain ⟨k, vp, ds, left, rfl, HK, HM, HL, HLL, H⟩ := hrel
    obtain ⟨A6, c6, rfl, hl6, hr6⟩ := H.out.reads
    have hk100 : (k : Int) ≤ 100 := by have := HK.out; have := H1.out; omega
    by_cases hlt : k < lst.length
    · have i2 : decide ((k : Int) < (lst.length : Int)) = true := decide_eq_true (by omega)
      have i3 : (0 : Int) ≤ (k : Int) := by omega
      have i4 : (k : Int) < (lst.length : Int) := by omega
      obtain ⟨ad, Ab, cb, rfl, h0, hlb, hcb⟩ := at_L1 (Kd.C_below HR.out H.out.1) (k : Int) i3 i4
      rw [Int.toNat_natCast] at h0
      obtain ⟨b, hb⟩ : ∃ b, b = rd_L1 lst (k : Int) := ⟨_, rfl⟩
      rw [← hb] at h0 hlb hcb
      have HBE := Aside0.mk (show b = lst.getD k [] from by rw [hb]; unfold rd_L1; rw [Int.toNat_natCast])
      have HBY := Aside0.mk (show b.length ≤ 140737488351232 from HY.out _ (by rw [HBE.out, List.getD_eq_getElem?_getD, List.getElem?_eq_getElem hlt]; exact List.getElem_mem hlt))
      have HCB := Aside0.mk hcb
      have HLB := Aside0.mk hlb
      clear hb hcb hlb hl6 hr6
      go_wp2_with fail
      refine (rillref00_CopyBytes.calls Ab cb b b _ HCB.out HLB.out (Copy_ok b (by have := HBY.out; omega))).mono ?_
      rintro e w4 ⟨v4, rfl, ho, hb4⟩
      obtain ⟨A4, c4, rfl, hl4, hr4⟩ := Kd.R_reads ho
      have H3 := Aside0.mk ((H.out.newR hb4 ho).f3.f3)
      have HR4 := Aside0.mk hr4
      have HL4 := Aside0.mk hl4
      clear ho hb4 hl4 hr4 H
      go_wp2_with fail
      refine (Send_ok p ds k k A4 c4 b w4 ⟨_, H3.out⟩ HR4.out HL4.out (by have := HBY.out; omega) (by have := HL.out.len; have := HLL.out; omega)).mono ?_
      rintro e w5 ⟨rfl, v5, vp5, h5⟩
      have H := Aside0.mk h5.f3.f3.drop
      rw [show wrap64 ((k : Int) + 1) = ((k + 1 : Nat) : Int) from wrap_up (by omega)] at H
      clear h5 H3 HR4 HL4
      go_wp2_with (at_builtin; refine St.append ((H.out.scal (Value.int .i64) (fun _ => rfl) (k : Int)).f1) rfl (.tmp 43) (.tmp 45) 26 (.int .i64 0) 8 rfl Try.underlying26 info3 rfl (by decide) (by decide) rfl rfl (by have := HLL.out; omega) ?_; intro v6 w6 H6; replace H6 := Aside0.mk H6)
      go_roundg (gk - 1)
      case measure => have := HM.out; omega
      case rel => exact ⟨k + 1, vp5, _, _, by simp, ⟨hlt⟩, ⟨by have := HM.out; omega⟩, ⟨HBE.out ▸ HL.out.snoc k hlt _⟩, ⟨by rw [List.length_append, HLL.out]; rfl⟩, H6⟩
    · have i2 : decide ((k : Int) < (lst.length : Int)) = false := decide_eq_false (by omega)
      obtain rfl : k = lst.length := by have := HK.out; omega
      clear hl6 hr6 HK HM hlt
      have H' := Aside0.mk (show ∃ vp, St w.heap.size w wr (aM (sep 3 (Kd.int .i64)) left [.slice A6 left.length c6] :: aB p #[vp, .int .i64 (lst.length : Int)] 50 :: aM (sep 57 dk) ds [vp] :: []) from ⟨vp, H.out⟩)
      clear H
      go_wp2_with fail
      go_loopg [6, 8] (ord.length + 1) (fun kq v6 v8 w' => ∃ (i : Nat) (vp : Value) (ds : List Dg) (left : List Int), v8 = .int .i64 i ∧ Aside0 (i ≤ ord.length) ∧ Aside0 (kq + i = ord.length + 1) ∧ Aside0 (Left lst left ds) ∧ Aside0 (left.length ≤ 100) ∧
        Aside0 (St w.heap.size w w' (aM (sep 3 (Kd.int .i64)) left [v6] :: aB p #[vp, .int .i64 (lst.length : Int)] 50 :: aM (sep 57 dk) ds [vp] :: [])))
      case atStart =>
        obtain ⟨vp, h1⟩ := H'.out
        exact ⟨0, vp, ds, left, rfl, ⟨Nat.zero_le _⟩, ⟨by omega⟩, HL, ⟨by have := HLL.out; have := H1.out; omega⟩, ⟨h1⟩⟩
      case round =>
        clear H' HL HLL vp
        obtain ⟨i, vp, ds, left, rfl, HK, HM, HL, HLL, H⟩ := hrel
        obtain ⟨A6, c6, rfl, hl6, hr6⟩ := H.out.reads
        have hi200 : (i : Int) ≤ 200 := by have := HK.out; have := H2.out; omega
        by_cases hlt : i < ord.length
        · have i2 : decide ((i : Int) < (ord.length : Int)) = true := decide_eq_true (by omega)
          have i3 : (0 : Int) ≤ (i : Int) := by omega
          have i4 : (i : Int) < (ord.length : Int) := by omega
          obtain ⟨ad, he, h0⟩ := Kd.at_int (Kd.C_below HQ.out H.out.1) (i : Int) i3 i4
          cases he
          rw [Int.toNat_natCast] at h0
          obtain ⟨oo, hoo⟩ : ∃ oo, oo = rd ord (i : Int) := ⟨_, rfl⟩
          rw [← hoo] at h0
          replace hoo := Aside0.mk hoo
          rcases in_out' oo left.length with ⟨k, rfl, hk⟩ | hout
          · have HKK := Aside0.mk hk
            obtain ⟨x, hx, hx1, hp0, hp1⟩ := HL.out.at_ k hk
            have HX := Aside0.mk hx
            obtain ⟨want, hwant⟩ : ∃ want, want = left.getD k 0 := ⟨_, rfl⟩
            rw [← hwant] at hx1 hp0 hp1
            have HX1 := Aside0.mk hx1
            have HWA := Aside0.mk hwant
            have j1 : decide ((k : Int) < 0) = false := decide_eq_false (by omega)
            have j2 : decide ((left.length : Int) ≤ (k : Int)) = false := decide_eq_false (by omega)
            have j3 : decide (left.length ≤ k) = false := decide_eq_false (by omega)
            have j4 : (0 : Int) ≤ (k : Int) := by omega
            have j5 : (k : Int) < (left.length : Int) := by omega
            clear hl6 hr6 hx hx1 hk hwant
            have H3 := Aside0.mk H.out.f2.f2
            clear H
            go_wp2_with fail
            refine (Take_ok p ds _ k x wr ⟨_, H3.out⟩ HX.out (by have := HL.out.len; have := HLL.out; omega)).mono ?_
            rintro e w4 ⟨vb, rfl, vp4, h4⟩
            have h5 := ord_at (Kd.C_below HQ.out h4.1) i hlt
            rw [← hoo.out] at h5
            obtain ⟨Ab, cb, rfl, hlb, hrb⟩ := (h4.f2).reads
            obtain ⟨g6, rfl, _, _⟩ := (h4.f3).ints_block (by have := HKK.out; omega)
            obtain ⟨hc6, _⟩ := (h4.f3).int_cell k HKK.out
            rw [← HWA.out] at hc6
            obtain ⟨adl, Al, cl, hel, h0l, hll, hcl⟩ := at_L1 (Kd.C_below HR.out h4.1) want hp0 hp1
            cases hel
            have hbb : rd_L1 lst want = x.1.2 := by rw [HX1.out]; rfl
            rw [hbb] at h0l hll hcl
            have hx11 : x.1.1 = want := by rw [HX1.out]
            rw [hx11]
            have hbe : (want == want) = true := beq_self_eq_true _
            have hbn : (want != want) = false := by simp
            replace H3 := Aside0.mk h4
            replace hll := Aside0.mk hll
            replace hcl := Aside0.mk hcl
            replace hlb := Aside0.mk hlb
            replace hrb := Aside0.mk hrb
            have HYX := Aside0.mk (show x.1.2.length ≤ 140737488351232 from HY.out _ (by rw [← hbb]; unfold rd_L1; rw [List.getD_eq_getElem?_getD, List.getElem?_eq_getElem (by omega)]; exact List.getElem_mem _))
            clear h4 hbb hx11
            go_wp2_with fail
            refine (rillref00_SameBytes.calls (x.1.2.length + 1) Ab cb x.1.2 Al cl x.1.2 true _ hrb.out hlb.out hcl.out hll.out (by rw [Same_ok _ _ (by have := HYX.out; omega) _ (by omega), decide_eq_true rfl])).mono ?_
            rintro e w5 ⟨rfl, ⟨nd5, rfl⟩⟩
            replace H3 := Aside0.mk ((H3.out.f3).drewN nd5)
            replace h5 : (w4.drewN nd5).cell? _ = _ := h5
            obtain ⟨_, _, he6, hl6, hr6⟩ := H3.out.reads
            cases he6
            obtain ⟨i0, hi0, hsz⟩ := Option.map_eq_some_iff.1 (show (Try.prog.info? 3).map (·.size) = some 1 from by kernel_rfl)
            have hcut1 := cut_upto (P := Try.prog) 26 3 Try.underlying26 hi0 (some ⟨g6, 0, none⟩) left.length c6 k (by have := HKK.out; omega)
            have hcut2 := cut_from (P := Try.prog) 26 3 Try.underlying26 hi0 (some ⟨g6, 0, none⟩) left.length c6 (k + 1) (by have := HKK.out; omega)
            rw [hsz] at hcut2
            simp only [show ((k + 1 : Nat) : Int) = (k : Int) + 1 from by omega] at hcut2
            have hrt := Kd.C_take hr6 (Nat.le_of_lt HKK.out)
            have hrd := Kd.C_drop hr6 (show k + 1 ≤ left.length from HKK.out) hl6
            obtain ⟨Ad, hAd⟩ : ∃ Ad, Ad = if c6 = k + 1 then some (⟨g6, 0, none⟩ : Addr) else (some (⟨g6, 0, none⟩ : Addr)).map (·.add ((k + 1) * (Kd.int .i64).sz)) := ⟨_, rfl⟩
            rw [← hAd] at hrd
            rw [show (Kd.int .i64).sz = 1 from rfl] at hAd
            simp only [← hAd] at hcut2
            have hlt1 : (left.take k).length = k := by rw [List.length_take]; have := HKK.out; omega
            have hld1 : (left.drop (k + 1)).length = left.length - (k + 1) := List.length_drop
            rw [← hld1] at hcut2
            rw [← hlt1] at hcut1
            have HT := Aside0.mk hrt
            have HDD := Aside0.mk hrd
            have HL6 := Aside0.mk (show (left.take k).length ≤ c6 from by rw [hlt1]; have := HKK.out; omega)
            have HLT := Aside0.mk hlt1
            have HLD := Aside0.mk hld1
            have hk9 : (k : Int) ≤ 100 := by have := HKK.out; have := HLL.out; omega
            clear hl6 hr6 hi0 hsz hrt hrd hAd h0l hc6
            rw [hlt1] at hcut1
            have hcopy := rillref00_CopyInts.calls (some ⟨g6, 0, none⟩) c6 (left.take k) (left.take k) (w4.drewN nd5) HT.out HL6.out (CopyInts_ok _ (by rw [hlt1]; have := HLL.out; have := HKK.out; omega))
            rw [hlt1] at hcopy
            replace hcopy := Aside0.mk hcopy
            clear hlt1 hld1
            go_wp2_with fail
            refine hcopy.out.mono ?_
            rintro e w6 ⟨v6, rfl, ho, hb6⟩
            have h7 := pw_cell_below hb6 h5
            replace HDD := Aside0.mk (Kd.C_below HDD.out hb6)
            replace H3 := Aside0.mk (H3.out.newR hb6 ho)
            clear hcopy ho hb6 hcut1 h5
            obtain ⟨A7, c7, rfl, _, _⟩ := H3.out.reads
            rw [HLT.out] at H3
            rw [HLT.out]
            rw [HLD.out] at hcut2 HDD
            go_wp2_with (at_builtin; refine St.append_row H3.out rfl (.tmp 108) (.tmp 115) 26 8 rfl Try.underlying26 info3 (by decide) Ad (c6 - (k + 1)) (ys := left.drop (k + 1)) rfl (by rw [HLD.out]; rfl) (by rw [HLD.out]; exact HDD.out) (by rw [HLT.out, HLD.out]; have := HLL.out; have := HKK.out; omega) ?_; intro v8 w8 H8; replace H8 := Aside0.mk H8)
            go_roundg (gk - 1)
            case measure => have := HM.out; omega
            case rel =>
              have h9 := H8.out.f1.drop.f3.drop.f2.f2.f2
              rw [← List.eraseIdx_eq_take_drop_succ] at h9
              exact ⟨i + 1, vp4, _, _, by simp, ⟨hlt⟩, ⟨by have := HM.out; omega⟩, ⟨HL.out.erase k⟩, ⟨by rw [List.length_eraseIdx]; have := HLL.out; split <;> omega⟩, ⟨h9⟩⟩
          · clear hl6 hr6
            have H3 := Aside0.mk H.out.f2.f2
            clear H
            rcases hout with hneg | hbig
            · have j1 : decide (oo < 0) = true := decide_eq_true hneg
              replace hneg := Aside0.mk hneg
              go_wp2_with fail
              refine (Take_out p ds _ oo wr ⟨_, H3.out⟩ (.inl hneg.out)).mono ?_
              rintro e w4 ⟨rfl, vp4, h4⟩
              have h5 := ord_at (Kd.C_below HQ.out h4.1) i hlt
              rw [← hoo.out] at h5
              replace H3 := Aside0.mk h4.f2
              clear h4
              go_wp2_with fail
              go_roundg (gk - 1)
              case measure => have := HM.out; omega
              case rel => exact ⟨i + 1, vp4, ds, left, by simp, ⟨hlt⟩, ⟨by have := HM.out; omega⟩, HL, HLL, H3⟩
            · have j1 : decide (oo < 0) = false := decide_eq_false (by omega)
              have j2 : decide ((left.length : Int) ≤ oo) = true := decide_eq_true hbig.2
              replace hbig := Aside0.mk hbig
              go_wp2_with fail
              refine (Take_out p ds _ oo wr ⟨_, H3.out⟩ (.inr (by rw [HL.out.len]; exact hbig.out.2))).mono ?_
              rintro e w4 ⟨rfl, vp4, h4⟩
              have h5 := ord_at (Kd.C_below HQ.out h4.1) i hlt
              rw [← hoo.out] at h5
              replace H3 := Aside0.mk h4.f2
              clear h4
              go_wp2_with fail
              go_roundg (gk - 1)
              case measure => have := HM.out; omega
              case rel => exact ⟨i + 1, vp4, ds, left, by simp, ⟨hlt⟩, ⟨by have := HM.out; omega⟩, HL, HLL, H3⟩
        · have i2 : decide ((i : Int) < (ord.length : Int)) = false := decide_eq_false (by omega)
          have H3 := Aside0.mk (show NetSt w.heap.size w wr p ds _ _ from ⟨vp, H.out.f2.f2⟩)
          clear H
          obtain ⟨Af, cf, hcell, hlf, hrf⟩ := H3.out.cell
          replace hrf := Aside0.mk hrf
          replace hlf := Aside0.mk hlf
          replace hl6 := Aside0.mk hl6
          replace hr6 := Aside0.mk hr6
          go_wp2_with fail
          refine (Flight_ok Af cf ds wr hrf.out hlf.out (by have := HL.out.len; have := HLL.out; omega)).mono ?_
          rintro e w4 ⟨vf, rfl, hF⟩
          replace H3 := Aside0.mk (H3.out.with_ hF)
          replace hr6 := Aside0.mk (Kd.C_below hr6.out hF.1)
          clear hF
          rw [HL.out.tos] at H3
          obtain ⟨v9, h9⟩ := H3.out
          obtain ⟨A7, c7, rfl, hl7, hr7⟩ := (h9.f2).reads
          clear h9
          replace hl7 := Aside0.mk hl7
          replace hr7 := Aside0.mk hr7
          go_wp2_with fail
          refine (rillref00_SameInts.calls (left.length + 1) A7 c7 left A6 c6 left true _ hr7.out hl7.out hr6.out hl6.out (by rw [SameI_ok _ _ (by have := HLL.out; omega) _ (by omega), decide_eq_true rfl])).mono ?_
          rintro e w5 ⟨rfl, ⟨nd5, rfl⟩⟩
          go_wp2
          go_ret
          exact ⟨rfl, (H3.out.drewN nd5).below⟩
theorem NetOrder_walk (A B : Option Addr) (c d : Nat) (lst : List (List Int)) (ord : List Int) (w : World) (hr : Kd.C (Kd.slice 5 (Kd.int .u8)) w A lst.length lst) (hc : lst.length ≤ c) (hq : Kd.C (Kd.int .i64) w B ord.length ord) (hd : ord.length ≤ d) (hy : ∀ x ∈ lst, x.length ≤ 140737488351232) :
    Calls Try.prog 5 #[.slice A lst.length c, .slice B ord.length d] w fun e w' => e = .returned (.bool true) ∧ Below w.heap.size w w' := by
  by_cases h : 100 < lst.length ∨ 200 < ord.length
  · exact NetOrder_great A B c d lst ord w h
  · exact NetOrder_small A B c d lst ord w hr hc hq hd (by omega) (by omega) hy
end Go.Proofs.Ytjcpchkbhgijkaa.Net
