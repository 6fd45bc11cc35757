/- Contracts of the disk's functions, over states told as atoms: what a loss of power leaves. -/
import Derived.Test.YtpggfnodpjofkaaDiskC
namespace Go.Proofs.Ytpggfnodpjofkaa.Disk
open Go.RowKit Go.Proofs.YtpggfnodpjofkaaW.PrintWords Go.Proofs.YtpggfnodpjofkaaW.PrintLast Go.Proofs.YtpggfnodpjofkaaW.PrintMore Go.Proofs.Ytpggfnodpjofkaa.MDisk Go.Proofs.Ytpggfnodpjofkaa.Sep
set_option linter.unusedVariables false
set_option linter.unusedSimpArgs false
/-- How much of what was not made safe is kept. -/
def kept (k : Int) (n : Nat) : Nat := (if (n : Int) < if k < 0 then 0 else k then (n : Int) else if k < 0 then 0 else k).toNat
theorem kept_le (k : Int) (n : Nat) : kept k n ≤ n := by unfold kept; split <;> split <;> omega
/-- What is left of the log. -/
def Dk.jleft (D : Dk) (k : Int) (b : Bool) : List Int := if D.laid then (if b then D.base ++ D.more.take (kept k D.more.length) else D.safe) else D.safe ++ D.more.take (kept k D.more.length)
set_option maxHeartbeats 8000000 in
set_option maxRecDepth 100000 in
theorem jleft_safe {base : Nat} {w0 : World} {L : List Atom} (d : Nat) (D : Dk) (k : Int) (b : Bool) (vf : Value) (w : World) (h : DSt base w0 w d D L) (hl : D.fits) (hp : D.laid = false) :
    Calls Try.prog 36 #[.pointer (some ⟨d, 1, none⟩), .agg #[.int .i64 k, .bool b, vf]] w fun e w' => ∃ v, e = .returned v ∧ DSt base w0 w' d D (aM bk (D.safe ++ D.more.take (kept k D.more.length)) [v] :: L) ∧ Below w.heap.size w w' := by
  obtain ⟨As, cs, Ab, cb, Am, cm, Ac, cc, h1, ⟨hs1, hs2⟩, ⟨hb1, hb2⟩, ⟨hm1, hm2⟩, _⟩ := h.cells
  have hc4 := (h1.cell 4).trans (show _ = some (Value.bool D.laid) from rfl)
  have hc1 := (h1.cell 1).trans (show _ = some (Value.slice As D.safe.length cs) from rfl)
  have hc2 := (h1.cell 2).trans (show _ = some (Value.slice Ab D.base.length cb) from rfl)
  have hc3 := (h1.cell 3).trans (show _ = some (Value.slice Am D.more.length cm) from rfl)
  rw [hp] at hc4
  have H := Aside0.mk (h.box #[.int .i64 k, .bool b, vf] 32)
  have hkl := kept_le k D.more.length
  have hq0 : min (max k 0) (D.more.length : Int) = (kept k D.more.length : Int) := by unfold kept; split <;> split <;> omega
  have hkc : (kept k D.more.length : Int) ≤ (cm : Int) := by omega
  have HS1 := Aside0.mk hs1
  have HS2 := Aside0.mk hs2
  have HB1 := Aside0.mk hb1
  have HB2 := Aside0.mk hb2
  have HM1 := Aside0.mk hm1
  have HM2 := Aside0.mk hm2
  have HK := Aside0.mk hl
  have HKL := Aside0.mk hkl
  have hle : (D.more.take (kept k D.more.length)).length = kept k D.more.length := by rw [List.length_take]; exact Nat.min_eq_left hkl
  have HT := Aside0.mk (Concat2 D.safe (D.more.take (kept k D.more.length)) (by have := HK.out; unfold Dk.fits at this; rw [hle]; omega))
  have HT2 := Aside0.mk (C_take' hm2 (kept k D.more.length))
  generalize D.more.take (kept k D.more.length) = T at hle HT HT2 ⊢
  have HLE := Aside0.mk hle
  have HTC := Aside0.mk (show T.length ≤ cm by omega)
  clear hle
  clear h h1 hb1 hb2 hm1 hm2 hl hs1 hs2 hkl hp
  go_enter Try.func36, Try.ntmps36
  have hcm := cellA hc3 (.cells #[.int .i64 k, .bool b, vf] 32)
  go_wp2_with fail
  go_quiet (fail)
  rw [show (if (D.more.length : Int) < if k < 0 then 0 else k then (D.more.length : Int) else if k < 0 then 0 else k).toNat = kept k D.more.length from rfl]
  generalize (if (D.more.length : Int) < if k < 0 then 0 else k then (D.more.length : Int) else if k < 0 then 0 else k) = z2
  generalize (if k < 0 then 0 else k) = z1
  have kc1 : ((w.alloc (.cells #[.int .i64 k, .bool b, vf] 32)).drewN nq).cell? ⟨d, 1, none⟩ = _ := cellA hc1 _
  have kc2 : ((w.alloc (.cells #[.int .i64 k, .bool b, vf] 32)).drewN nq).cell? ⟨d, 2, none⟩ = _ := cellA hc2 _
  have kc4 : ((w.alloc (.cells #[.int .i64 k, .bool b, vf] 32)).drewN nq).cell? ⟨d, 4, none⟩ = _ := cellA hc4 _
  clear hc1 hc2 hc3 hc4 hcm hq0 hkc
  rw [← HLE.out]
  go_wp2_with fail
  have HC := Own.lit2 (Kd.int .u8) 5 ((w.alloc (.cells #[.int .i64 k, .bool b, vf] 32)).drewN nq) 29 HS1.out HTC.out (Kd.C_below HS2.out (below_alloc (pw_below_drewN (below_alloc (Below.refl _ _) _) _) _)) (Kd.C_below HT2.out (below_alloc (pw_below_drewN (below_alloc (Below.refl _ _) _) _) _))
  rw [show ((w.alloc (.cells #[.int .i64 k, .bool b, vf] 32)).drewN nq).heap.size = w.heap.size + 1 from Array.size_push ..] at HC
  refine (slices_Concat_byte_byte.calls HT.out.choose _ 2 [D.safe, T] _ _ HC (Nat.le_refl 2) HT.out.choose_spec).mono ?_
  rintro e w4 ⟨v4, rfl, ho, hb4⟩
  have hB0 := below_alloc (pw_below_drewN (below_alloc (Below.refl w.heap.size w) (.cells #[.int .i64 k, .bool b, vf] 32)) nq) (.cells #[.slice As D.safe.length cs, .slice Am T.length cm] 29)
  have HBB := Aside0.mk (below_then hB0 hB0.size hb4)
  clear hB0
  have H4 := Aside0.mk ((((H.out.drewN nq).alloc (.cells #[.slice As D.safe.length cs, .slice Am T.length cm] 29)).newR hb4 ho).perm (List.Perm.swap _ _ _)).drop
  clear ho hb4
  go_wp2
  go_ret
  exact ⟨v4, rfl, H4.out, HBB.out⟩
set_option maxHeartbeats 8000000 in
set_option maxRecDepth 100000 in
theorem jleft_laid {base : Nat} {w0 : World} {L : List Atom} (d : Nat) (D : Dk) (k : Int) (b : Bool) (vf : Value) (w : World) (h : DSt base w0 w d D L) (hl : D.fits) (hp : D.laid = true) (hb : b = true) :
    Calls Try.prog 36 #[.pointer (some ⟨d, 1, none⟩), .agg #[.int .i64 k, .bool b, vf]] w fun e w' => ∃ v, e = .returned v ∧ DSt base w0 w' d D (aM bk (D.base ++ D.more.take (kept k D.more.length)) [v] :: L) ∧ Below w.heap.size w w' := by
  obtain ⟨As, cs, Ab, cb, Am, cm, Ac, cc, h1, ⟨hs1, hs2⟩, ⟨hb1, hb2⟩, ⟨hm1, hm2⟩, _⟩ := h.cells
  have hc4 := (h1.cell 4).trans (show _ = some (Value.bool D.laid) from rfl)
  have hc1 := (h1.cell 1).trans (show _ = some (Value.slice As D.safe.length cs) from rfl)
  have hc2 := (h1.cell 2).trans (show _ = some (Value.slice Ab D.base.length cb) from rfl)
  have hc3 := (h1.cell 3).trans (show _ = some (Value.slice Am D.more.length cm) from rfl)
  rw [hp] at hc4
  subst hb
  have H := Aside0.mk (h.box #[.int .i64 k, .bool true, vf] 32)
  have hkl := kept_le k D.more.length
  have hq0 : min (max k 0) (D.more.length : Int) = (kept k D.more.length : Int) := by unfold kept; split <;> split <;> omega
  have hkc : (kept k D.more.length : Int) ≤ (cm : Int) := by omega
  have HS1 := Aside0.mk hs1
  have HS2 := Aside0.mk hs2
  have HB1 := Aside0.mk hb1
  have HB2 := Aside0.mk hb2
  have HM1 := Aside0.mk hm1
  have HM2 := Aside0.mk hm2
  have HK := Aside0.mk hl
  have HKL := Aside0.mk hkl
  have hle : (D.more.take (kept k D.more.length)).length = kept k D.more.length := by rw [List.length_take]; exact Nat.min_eq_left hkl
  have HT := Aside0.mk (Concat2 D.base (D.more.take (kept k D.more.length)) (by have := HK.out; unfold Dk.fits at this; rw [hle]; omega))
  have HT2 := Aside0.mk (C_take' hm2 (kept k D.more.length))
  generalize D.more.take (kept k D.more.length) = T at hle HT HT2 ⊢
  have HLE := Aside0.mk hle
  have HTC := Aside0.mk (show T.length ≤ cm by omega)
  clear hle
  clear h h1 hb1 hb2 hm1 hm2 hl hs1 hs2 hkl hp
  go_enter Try.func36, Try.ntmps36
  have hcm := cellA hc3 (.cells #[.int .i64 k, .bool true, vf] 32)
  go_wp2_with fail
  go_quiet (fail)
  rw [show (if (D.more.length : Int) < if k < 0 then 0 else k then (D.more.length : Int) else if k < 0 then 0 else k).toNat = kept k D.more.length from rfl]
  generalize (if (D.more.length : Int) < if k < 0 then 0 else k then (D.more.length : Int) else if k < 0 then 0 else k) = z2
  generalize (if k < 0 then 0 else k) = z1
  have kc1 : ((w.alloc (.cells #[.int .i64 k, .bool true, vf] 32)).drewN nq).cell? ⟨d, 1, none⟩ = _ := cellA hc1 _
  have kc2 : ((w.alloc (.cells #[.int .i64 k, .bool true, vf] 32)).drewN nq).cell? ⟨d, 2, none⟩ = _ := cellA hc2 _
  have kc4 : ((w.alloc (.cells #[.int .i64 k, .bool true, vf] 32)).drewN nq).cell? ⟨d, 4, none⟩ = _ := cellA hc4 _
  clear hc1 hc2 hc3 hc4 hcm hq0 hkc
  rw [← HLE.out]
  go_wp2_with fail
  have HC := Own.lit2 (Kd.int .u8) 5 ((w.alloc (.cells #[.int .i64 k, .bool true, vf] 32)).drewN nq) 29 HB1.out HTC.out (Kd.C_below HB2.out (below_alloc (pw_below_drewN (below_alloc (Below.refl _ _) _) _) _)) (Kd.C_below HT2.out (below_alloc (pw_below_drewN (below_alloc (Below.refl _ _) _) _) _))
  rw [show ((w.alloc (.cells #[.int .i64 k, .bool true, vf] 32)).drewN nq).heap.size = w.heap.size + 1 from Array.size_push ..] at HC
  refine (slices_Concat_byte_byte.calls HT.out.choose _ 2 [D.base, T] _ _ HC (Nat.le_refl 2) HT.out.choose_spec).mono ?_
  rintro e w4 ⟨v4, rfl, ho, hb4⟩
  have hB0 := below_alloc (pw_below_drewN (below_alloc (Below.refl w.heap.size w) (.cells #[.int .i64 k, .bool true, vf] 32)) nq) (.cells #[.slice Ab D.base.length cb, .slice Am T.length cm] 29)
  have HBB := Aside0.mk (below_then hB0 hB0.size hb4)
  clear hB0
  have H4 := Aside0.mk ((((H.out.drewN nq).alloc (.cells #[.slice Ab D.base.length cb, .slice Am T.length cm] 29)).newR hb4 ho).perm (List.Perm.swap _ _ _)).drop
  clear ho hb4
  go_wp2
  go_ret
  exact ⟨v4, rfl, H4.out, HBB.out⟩
set_option maxHeartbeats 8000000 in
set_option maxRecDepth 100000 in
theorem jleft_old {base : Nat} {w0 : World} {L : List Atom} (d : Nat) (D : Dk) (k : Int) (b : Bool) (vf : Value) (w : World) (h : DSt base w0 w d D L) (hl : D.fits) (hp : D.laid = true) (hb : b = false) :
    Calls Try.prog 36 #[.pointer (some ⟨d, 1, none⟩), .agg #[.int .i64 k, .bool b, vf]] w fun e w' => ∃ v, e = .returned v ∧ DSt base w0 w' d D (aM bk D.safe [v] :: L) ∧ Below w.heap.size w w' := by
  obtain ⟨As, cs, Ab, cb, Am, cm, Ac, cc, h1, ⟨hs1, hs2⟩, ⟨hb1, hb2⟩, ⟨hm1, hm2⟩, _⟩ := h.cells
  have hc4 := (h1.cell 4).trans (show _ = some (Value.bool D.laid) from rfl)
  have hc1 := (h1.cell 1).trans (show _ = some (Value.slice As D.safe.length cs) from rfl)
  have hc2 := (h1.cell 2).trans (show _ = some (Value.slice Ab D.base.length cb) from rfl)
  have hc3 := (h1.cell 3).trans (show _ = some (Value.slice Am D.more.length cm) from rfl)
  rw [hp] at hc4
  subst hb
  have H := Aside0.mk (h.box #[.int .i64 k, .bool false, vf] 32)
  have hkl := kept_le k D.more.length
  have hq0 : min (max k 0) (D.more.length : Int) = (kept k D.more.length : Int) := by unfold kept; split <;> split <;> omega
  have hkc : (kept k D.more.length : Int) ≤ (cm : Int) := by omega
  have HS1 := Aside0.mk hs1
  have HS2 := Aside0.mk hs2
  have HB1 := Aside0.mk hb1
  have HB2 := Aside0.mk hb2
  have HM1 := Aside0.mk hm1
  have HM2 := Aside0.mk hm2
  have HK := Aside0.mk hl
  have HKL := Aside0.mk hkl
  clear h h1 hb1 hb2 hm1 hm2 hl hs1 hs2 hkl hp
  go_enter Try.func36, Try.ntmps36
  have hcm := cellA hc3 (.cells #[.int .i64 k, .bool false, vf] 32)
  go_wp2_with fail
  go_quiet (fail)
  rw [show (if (D.more.length : Int) < if k < 0 then 0 else k then (D.more.length : Int) else if k < 0 then 0 else k).toNat = kept k D.more.length from rfl]
  generalize (if (D.more.length : Int) < if k < 0 then 0 else k then (D.more.length : Int) else if k < 0 then 0 else k) = z2
  generalize (if k < 0 then 0 else k) = z1
  have kc1 : ((w.alloc (.cells #[.int .i64 k, .bool false, vf] 32)).drewN nq).cell? ⟨d, 1, none⟩ = _ := cellA hc1 _
  have kc2 : ((w.alloc (.cells #[.int .i64 k, .bool false, vf] 32)).drewN nq).cell? ⟨d, 2, none⟩ = _ := cellA hc2 _
  have kc4 : ((w.alloc (.cells #[.int .i64 k, .bool false, vf] 32)).drewN nq).cell? ⟨d, 4, none⟩ = _ := cellA hc4 _
  clear hc1 hc2 hc3 hc4 hcm hq0 hkc
  go_wp2_with fail
  refine (slices_Clone_byte_byte.calls As cs D.safe D.safe _ (Kd.C_below HS2.out (pw_below_drewN (below_alloc (Below.refl _ _) _) _)) HS1.out (Clone_ok _ (by have := HK.out.1; omega))).mono ?_
  rintro e w4 ⟨v4, rfl, ho, hb4⟩
  have hB0 := pw_below_drewN (below_alloc (Below.refl w.heap.size w) (.cells #[.int .i64 k, .bool false, vf] 32)) nq
  have HBB := Aside0.mk (below_then hB0 hB0.size hb4)
  clear hB0
  have H4 := Aside0.mk ((((H.out.drewN nq)).newR hb4 ho).perm (List.Perm.swap _ _ _)).drop
  clear ho hb4
  go_wp2
  go_ret
  exact ⟨v4, rfl, H4.out, HBB.out⟩
theorem jleft_ok {base : Nat} {w0 : World} {L : List Atom} (d : Nat) (D : Dk) (k : Int) (b : Bool) (vf : Value) (w : World) (h : DSt base w0 w d D L) (hl : D.fits) :
    Calls Try.prog 36 #[.pointer (some ⟨d, 1, none⟩), .agg #[.int .i64 k, .bool b, vf]] w fun e w' => ∃ v, e = .returned v ∧ DSt base w0 w' d D (aM bk (D.jleft k b) [v] :: L) ∧ Below w.heap.size w w' := by
  unfold Dk.jleft
  cases hp : D.laid
  · exact jleft_safe d D k b vf w h hl hp
  · cases b
    · exact jleft_old d D k false vf w h hl hp rfl
    · exact jleft_laid d D k true vf w h hl hp rfl
end Go.Proofs.Ytpggfnodpjofkaa.Disk
