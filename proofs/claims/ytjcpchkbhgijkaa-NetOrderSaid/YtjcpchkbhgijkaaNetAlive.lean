/- The law's alive, over states told as atoms. -/
import Derived.Test.YtjcpchkbhgijkaaNetD
namespace Go.Proofs.Ytjcpchkbhgijkaa.Net
open Go.RowKit Go.Proofs.YtjcpchkbhgijkaaW.PrintWords Go.Proofs.YtjcpchkbhgijkaaW.PrintLast Go.Proofs.YtjcpchkbhgijkaaW.PrintMore Go.Proofs.Ytjcpchkbhgijkaa.MNet Go.Proofs.Ytjcpchkbhgijkaa.Sep
set_option linter.unusedVariables false
set_option linter.unusedSimpArgs false
theorem same33 : rillref00_SameInts.f 10 [3, 3] [3, 3] = some true := by decide +kernel
set_option maxHeartbeats 8000000 in
set_option maxRecDepth 100000 in
theorem alive_ok {base : Nat} {w0 : World} {L : List Atom} (w : World) (H : St base w0 w L) :
    Calls Try.prog 8 #[] w fun e w' => e = .returned (.bool true) ∧ St base w0 w' L := by
  have kc := fun (W : World) (C : Array Value) (n c : Nat) => Lib.run_convert_bytes_const (P := Try.prog) W 31 5 C n c Try.underlying31 Try.underlying5
  replace H := Aside0.mk H
  go_enter Try.func8, Try.ntmps8
  go_wp2_with fail
  refine (New_ok _ H.out).mono ?_
  rintro e w1 ⟨p, rfl, h1⟩
  replace H := Aside0.mk h1
  clear h1
  go_wp2_with fail
  refine (Send_ok p [] 0 3 _ 1 [97] _ (H.out.alloc _) (Own.const_C w1 5 .u8 [97] (1, 2) (by decide)) (Nat.le_refl _) (by decide) (by decide)).mono ?_
  rintro e w2 ⟨rfl, v2, h1⟩
  replace H := Aside0.mk h1
  clear h1
  go_wp2_with fail
  refine (Send_ok p _ _ 4 _ 1 [98] _ (H.out.alloc _) (Own.const_C w2 5 .u8 [98] (1, 2) (by decide)) (Nat.le_refl _) (by decide) (by simp)).mono ?_
  rintro e w3 ⟨rfl, v3, h1⟩
  replace H := Aside0.mk h1
  clear h1
  go_wp2_with fail
  refine (Double_ok p _ _ 0 ((3, [97]), [.int .i64 3, v2]) _ H.out rfl (by simp) (show 1 < 140737488355328 by decide)).mono ?_
  rintro e w4 ⟨rfl, v4, h1⟩
  replace H := Aside0.mk h1
  clear h1
  go_wp2_with fail
  refine (Take_ok p _ _ 1 ((4, [98]), [.int .i64 4, v3]) _ H.out rfl (by simp)).mono ?_
  rintro e w5 ⟨vb, rfl, v5, h1⟩
  obtain ⟨Ab, cb, rfl, hlb, hcb⟩ := (h1.f2).reads
  have hstr : (convert 31 9 (.slice Ab 1 cb)).run Try.prog w5 = .ok (.string ⟨#[98]⟩) w5 := (Kd.C_string (P := Try.prog) (src := 31) (dst := 9) (e := 5) (c := cb) Try.underlying31 Try.underlying5 Try.underlying9 hcb).trans (by rfl)
  have hcell := (h1.cell 0).trans (show _ = some v5 from rfl)
  obtain ⟨Af, cf, rfl, hlf, hcf⟩ := (h1.f1).reads
  replace H := Aside0.mk h1
  have HF := Aside0.mk hcf
  have HFl := Aside0.mk hlf
  clear h1 hlb hcb hcf hlf
  go_wp2_with fail
  refine (Flight_ok Af cf _ w5 HF.out HFl.out (show 2 ≤ 400 by decide)).mono ?_
  rintro e w6 ⟨vf, rfl, h1⟩
  replace H := Aside0.mk (H.out.with_ h1)
  clear h1
  obtain ⟨A6, c6, rfl, hl6, hr6⟩ := H.out.reads
  have HR6 := Aside0.mk hr6
  have HL6 := Aside0.mk hl6
  clear hr6 hl6
  go_wp2_with fail
  have hlit := Own.const_C w6 3 .i64 [3, 3] (0, 0) (by decide)
  refine (rillref00_SameInts.calls 10 A6 c6 [3, 3] _ 2 [3, 3] true _ (Kd.C_below HR6.out (below_alloc (Below.refl _ _) _)) HL6.out hlit (Nat.le_refl _) same33).mono ?_
  rintro e w7 ⟨rfl, ⟨nd, rfl⟩⟩
  go_wp2_with fail
  obtain ⟨c9, hc9, hc9'⟩ : ∃ c9 : Int, c9 = wrap64 (wrap64 (wrap64 (0 + 1) + 1) + 1) ∧ c9 = 3 := ⟨3, by unfold wrap64; rfl, rfl⟩
  rw [← hc9] at H
  subst hc9'
  clear hc9
  refine (Sent_ok p _ 3 _ (((show NetSt base w0 w6 p _ 3 _ from ⟨_, H.out.drop⟩).alloc _).drewN nd)).mono ?_
  rintro e w8 ⟨rfl, v8, h1⟩
  replace H := Aside0.mk h1
  clear h1
  go_wp2
  go_ret
  exact ⟨rfl, H.out.drop.drop.drop⟩
end Go.Proofs.Ytjcpchkbhgijkaa.Net
