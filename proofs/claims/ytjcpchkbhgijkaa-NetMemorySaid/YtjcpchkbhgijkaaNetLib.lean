/- Contracts of the net's functions, over states told as atoms. -/
import Derived.Test.YtjcpchkbhgijkaaMNetx1
import Derived.Test.YtjcpchkbhgijkaaSep
import Derived.Deep.RegionLaw
namespace Go.Proofs.Ytjcpchkbhgijkaa.Net
open Go.RowKit Go.Proofs.YtjcpchkbhgijkaaW.PrintWords Go.Proofs.YtjcpchkbhgijkaaW.PrintLast Go.Proofs.YtjcpchkbhgijkaaW.PrintMore Go.Proofs.Ytjcpchkbhgijkaa.MNet Go.Proofs.Ytjcpchkbhgijkaa.Sep
set_option linter.unusedVariables false
set_option linter.unusedSimpArgs false
theorem info57 : (Try.prog.info? 57).map (fun i => (i.zero, i.size, i.bytes)) = some (some (.agg #[.int .i64 0, .slice none 0 0]), 2, 32) := by kernel_rfl
/-- A datagram: its receiver and its bytes; its cells told besides. -/
abbrev dk : Kd ((Int × List Int) × List Value) := here (both (Kd.int .i64) (sep 5 (Kd.int .u8)))
abbrev Dg := (Int × List Int) × List Value
/-- The net at p, with these on their way and this count. -/
def NetSt (base : Nat) (w0 w : World) (p : Nat) (ds : List Dg) (c : Int) (L : List Atom) : Prop := ∃ v, St base w0 w (aB p #[v, .int .i64 c] 50 :: aM (sep 57 dk) ds [v] :: L)
theorem dg_join {base : Nat} {w0 w : World} {L : List Atom} {tt : Int} {l : List Int} {v : Value} (h : St base w0 w (aM (sep 5 (Kd.int .u8)) l [v] :: L)) : St base w0 w (aM dk ((tt, l), [.int .i64 tt, v]) [.int .i64 tt, v] :: L) :=
  h.imp (fun ok hM => ⟨rfl, [.int .i64 tt], [v], fun _ => False, ok, rfl, fun _ hk => hk.elim, fun _ hk => ⟨hk, fun h => h⟩, rfl, hM⟩)
set_option maxHeartbeats 8000000 in
set_option maxRecDepth 100000 in
theorem Send_ok {base : Nat} {w0 : World} {L : List Atom} (p : Nat) (ds : List Dg) (c tt : Int) (A : Option Addr) (cb : Nat) (l : List Int) (w : World) (hN : NetSt base w0 w p ds c L) (hr : Kd.C (Kd.int .u8) w A l.length l) (hc : l.length ≤ cb) (hl : l.length < 140737488355328) (hds : ds.length < 400) :
    Calls Try.prog 13 #[.pointer (some ⟨p, 0, none⟩), .int .i64 tt, .slice A l.length cb] w fun e w' => e = .returned (.bool true) ∧ ∃ v', NetSt base w0 w' p (ds ++ [((tt, l), [.int .i64 tt, v'])]) (wrap64 (c + 1)) L := by
  obtain ⟨v, H⟩ := hN
  have hcell := (H.cell 0).trans (show _ = some v from rfl)
  obtain ⟨Af, cf, rfl, hlf, _⟩ := (H.front 1 _ rfl).reads
  have hd1 : decide (400 ≤ ((ds.length : Nat) : Int)) = false := decide_eq_false (by omega)
  replace H := Aside0.mk H
  have HR := Aside0.mk hr
  have HC := Aside0.mk hc
  have HL := Aside0.mk hl
  have HD := Aside0.mk hds
  clear hr hc hl hlf hds
  have hu57 := Try.underlying57
  go_enter Try.func13, Try.ntmps13
  go_wp2_with fail
  go_region_law
    (first
      | (go_simp; go_at_call 25; refine (slices_Clone_byte_byte.calls A cb l l _ (Kd.C_below HR.out (below_drew (Below.refl _ _))) HC.out (if_pos HL.out)).mono ?_; rintro e w1 ⟨v1, rfl, ho, hb⟩; obtain ⟨A1, c1, rfl, _, _⟩ := Kd.R_reads ho; have H1 := Aside0.mk (dg_join (tt := tt) ((H.out.drew).newR hb ho)); clear ho hb H; have hcell1 := ((H1.out.f1).cell 0).trans (show _ = some (Value.slice Af ds.length cf) from rfl); have hal1 : ∀ o, (w1.alloc o).cell? ⟨p, 0, none⟩ = some (Value.slice Af ds.length cf) := fun o => (H1.out.alloc o).f1.cell 0; dsimp only)
      | (refine St.append_step H1.out.f2 (by rfl) (.tmp 17) (.tmp 22) 48 (.agg #[.int .i64 0, .slice none 0 0]) 32 (by rfl) Try.underlying48 info57 rfl (by decide) (by decide) (by rfl) (by rfl) (by have := HD.out; omega) ?_; intro v2 w2 H2; obtain ⟨A2, c2, rfl, _, _⟩ := H2.reads; rw [List.length_append, List.length_singleton] at H2; have hcell2 := ((H2.f1).cell 0).trans (show _ = some (Value.slice Af ds.length cf) from rfl); have hcell3 := ((H2.f1).cell 1).trans (show _ = some (Value.int .i64 c) from rfl); have hfz2 := (H2.f1).frozen 0; have hfz3 := (H2.f1).frozen 1; replace H2 := Aside0.mk H2))
  all_goals go_wp2
  all_goals
    go_ret
    refine ⟨rfl, _, _, (H2.out.f1.set 0 _).set 1 _⟩
end Go.Proofs.Ytjcpchkbhgijkaa.Net
