/- Contracts of the disk's functions: what a loss of power leaves of a slot. -/
import Derived.Test.YtpggfnodpjofkaaDiskE
namespace Go.Proofs.Ytpggfnodpjofkaa.Disk
open Go.RowKit Go.Proofs.YtpggfnodpjofkaaW.PrintWords Go.Proofs.YtpggfnodpjofkaaW.PrintLast Go.Proofs.YtpggfnodpjofkaaW.PrintMore Go.Proofs.Ytpggfnodpjofkaa.MDisk Go.Proofs.Ytpggfnodpjofkaa.Sep
set_option linter.unusedVariables false
set_option linter.unusedSimpArgs false
/-- Which fate a slot has. -/
def fate3 (f : Int) : Int := (f.tmod 3 + 3).tmod 3
def cleft (x : Cel) (f : Int) : List Int := if fate3 f = 1 then x.2.1 else if fate3 f = 2 then x.2.1.take (x.2.1.length / 2) ++ x.1.drop (min (x.2.1.length / 2) x.1.length) else x.1
theorem half_len (n : Nat) : ((n : Int).tdiv 2).toNat = n / 2 ∧ (n : Int).tdiv 2 = ((n / 2 : Nat) : Int) := by
  have h : (n : Int).tdiv 2 = ((n / 2 : Nat) : Int) := rfl
  exact ⟨by rw [h]; rfl, h⟩
set_option maxHeartbeats 8000000 in
set_option maxRecDepth 100000 in
theorem cleft_ok {base : Nat} {w0 : World} {L : List Atom} (x : Cel) (f : Int) (A B : Option Addr) (c e : Nat) (w : World) (H : St base w0 w L) (hf : -9223372036854775808 ≤ f ∧ f ≤ 9223372036854775807) (ha : x.1.length ≤ c) (hA : (Kd.int .u8).C w A x.1.length x.1) (hb : x.2.1.length ≤ e) (hB : (Kd.int .u8).C w B x.2.1.length x.2.1) (hl : x.1.length + x.2.1.length < 140737488355328) :
    Calls Try.prog 37 #[.agg #[.slice A x.1.length c, .slice B x.2.1.length e, .bool x.2.2], .int .i64 f] w fun e w' => ∃ v, e = .returned v ∧ St base w0 w' (aM bk (cleft x f) [v] :: L) := by
  have i0 : wrap64 (f.tmod 3 + 3) = f.tmod 3 + 3 := by
    have := Int.tmod_lt_of_pos f (show (0 : Int) < 3 by decide)
    have := Int.lt_tmod_of_pos f (show (0 : Int) < 3 by decide)
    unfold wrap64
    omega
  have HS := Aside0.mk H
  have HA := Aside0.mk hA
  have HB := Aside0.mk hB
  have Ha := Aside0.mk ha
  have Hb := Aside0.mk hb
  have HL := Aside0.mk hl
  clear hA hB ha hb hl hf H
  unfold cleft
  by_cases h1 : fate3 f = 1
  · rw [if_pos h1]
    have i1 : (f.tmod 3 + 3).tmod 3 = 1 := h1
    clear h1
    go_enter Try.func37, Try.ntmps37
    go_wp2_with fail
    refine (slices_Clone_byte_byte.calls B e x.2.1 x.2.1 _ (Kd.C_below HB.out (below_alloc (Below.refl _ _) _)) Hb.out (Clone_ok _ (by have := HL.out; omega))).mono ?_
    rintro e4 w4 ⟨v4, rfl, ho, hb4⟩
    have H4 := Aside0.mk ((HS.out.alloc _).newR hb4 ho)
    clear ho hb4
    go_wp2
    go_ret
    exact ⟨v4, rfl, H4.out⟩
  · rw [if_neg h1]
    have i1 : ((f.tmod 3 + 3).tmod 3 == 1) = false := beq_eq_false_iff_ne.2 h1
    clear h1
    by_cases h2 : fate3 f = 2
    · rw [if_pos h2]
      have i2 : (f.tmod 3 + 3).tmod 3 = 2 := h2
      clear h2
      have i3 : ((2 : Int) == 1) = false := rfl
      obtain ⟨m, hm⟩ : ∃ m, m = x.2.1.length / 2 := ⟨_, rfl⟩
      obtain ⟨p, hp⟩ : ∃ p, p = min m x.1.length := ⟨_, rfl⟩
      have i4 : wrap64 ((x.2.1.length : Int) / 2) = (m : Int) := by have := HL.out; unfold wrap64; omega
      have i5 : (m : Int) ≤ (e : Int) := by have := Hb.out; omega
      have i6 : (if (x.1.length : Int) < (m : Int) then (x.1.length : Int) else (m : Int)) = (p : Int) := by split <;> omega
      have i7 : (if x.1.length < m then (x.1.length : Int) else (m : Int)) = (p : Int) := by split <;> omega
      have i8 : min (m : Int) (x.1.length : Int) = (p : Int) := by omega
      rw [← hm, ← hp]
      obtain ⟨i0', hi0, hsz⟩ := Option.map_eq_some_iff.1 (show (Try.prog.info? 5).map (·.size) = some 1 from by kernel_rfl)
      have hcut := cut_from (P := Try.prog) 29 5 Try.underlying29 hi0 A x.1.length c p (by omega)
      have hrd := Kd.C_drop HA.out (show p ≤ x.1.length by omega) Ha.out
      rw [hsz] at hcut
      obtain ⟨Ad, hAd⟩ : ∃ Ad, Ad = if c = p then A else A.map (·.add (p * 1)) := ⟨_, rfl⟩
      rw [← hAd] at hcut
      rw [show (Kd.int .u8).sz = 1 from rfl, ← hAd] at hrd
      have hrt := C_take' HB.out m
      have hlt : (x.2.1.take m).length = m := by rw [List.length_take]; omega
      have hld : (x.1.drop p).length = x.1.length - p := List.length_drop
      have HT := Aside0.mk (Concat2 (x.2.1.take m) (x.1.drop p) (by rw [hlt, hld]; have := HL.out; omega))
      generalize x.2.1.take m = T at hrt hlt HT ⊢
      generalize x.1.drop p = D at hrd hld HT ⊢
      rw [← hld] at hcut
      have HRT := Aside0.mk hrt
      have HRD := Aside0.mk hrd
      have HLT := Aside0.mk hlt
      have HLD := Aside0.mk (show D.length ≤ c - p by have := Ha.out; omega)
      have HLM := Aside0.mk (show T.length ≤ e by omega)
      clear hrt hrd hlt hld hAd hi0 hsz hm hp
      have HC := Aside0.mk (fun (W : World) (hb : Below w.heap.size w W) => Own.lit2 (Kd.int .u8) 5 W 29 HLM.out HLD.out (Kd.C_below HRT.out (below_alloc hb _)) (Kd.C_below HRD.out (below_alloc hb _)))
      rw [HLT.out] at HC
      go_enter Try.func37, Try.ntmps37
      go_wp2_with fail
      rw [i4]
      have bx0 : (w.alloc (Obj.cells #[Value.slice A x.1.length c, Value.slice B x.2.1.length e, Value.bool x.2.2] 77)).cell? ⟨w.heap.size, 0, none⟩ = some (Value.slice A x.1.length c) := (HS.out.box _ _).cell 0
      have bx1 : (w.alloc (Obj.cells #[Value.slice A x.1.length c, Value.slice B x.2.1.length e, Value.bool x.2.2] 77)).cell? ⟨w.heap.size, 1, none⟩ = some (Value.slice B x.2.1.length e) := (HS.out.box _ _).cell 1
      have HC2 := HC.out (w.alloc (Obj.cells #[Value.slice A x.1.length c, Value.slice B x.2.1.length e, Value.bool x.2.2] 77)) (below_alloc (Below.refl _ _) _)
      rw [show (w.alloc (Obj.cells #[Value.slice A x.1.length c, Value.slice B x.2.1.length e, Value.bool x.2.2] 77)).heap.size = w.heap.size + 1 from Array.size_push ..] at HC2
      replace HC2 := Aside0.mk HC2
      go_region_held3 (fun w' => w'.cell? ⟨w.heap.size, 0, none⟩ = some (Value.slice A x.1.length c) ∧ w'.cell? ⟨w.heap.size, 1, none⟩ = some (Value.slice B x.2.1.length e)) (go_keep)
        ((go_at_call 48; refine (slices_Concat_byte_byte.calls HT.out.choose (some ⟨w.heap.size + 1, 0, none⟩) 2 [T, D] _ _ (Kd.C_below HC2.out (below_drew (Below.refl _ _))) (Nat.le_refl 2) HT.out.choose_spec).mono ?_; rintro e4 w4 ⟨v4, rfl, ho, hb4⟩; have H4 := Aside0.mk (((HS.out.alloc (.cells #[Value.slice A x.1.length c, Value.slice B x.2.1.length e, Value.bool x.2.2] 77)).alloc (.cells #[Value.slice B m e, Value.slice Ad D.length (c - p)] 29)).drew.newR hb4 ho); have kc2 := pw_cell_below hb4 (cellD (cellA bx0 _)); have kc3 := pw_cell_below hb4 (cellD (cellA bx1 _)); clear ho hb4))
      go_wp2
      go_ret
      exact ⟨v4, rfl, H4.out⟩
    · rw [if_neg h2]
      have i2 : ((f.tmod 3 + 3).tmod 3 == 2) = false := beq_eq_false_iff_ne.2 h2
      clear h2
      go_enter Try.func37, Try.ntmps37
      go_wp2_with fail
      refine (slices_Clone_byte_byte.calls A c x.1 x.1 _ (Kd.C_below HA.out (below_alloc (Below.refl _ _) _)) Ha.out (Clone_ok _ (by have := HL.out; omega))).mono ?_
      rintro e4 w4 ⟨v4, rfl, ho, hb4⟩
      have H4 := Aside0.mk ((HS.out.alloc _).newR hb4 ho)
      clear ho hb4
      go_wp2
      go_ret
      exact ⟨v4, rfl, H4.out⟩
end Go.Proofs.Ytpggfnodpjofkaa.Disk
