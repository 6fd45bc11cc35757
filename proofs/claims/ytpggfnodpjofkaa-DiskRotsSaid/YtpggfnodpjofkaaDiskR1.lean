/- The walk of DiskRots. -/
import Derived.Test.YtpggfnodpjofkaaDiskAlive
namespace Go.Proofs.Ytpggfnodpjofkaa.Disk
open Go.RowKit Go.Proofs.YtpggfnodpjofkaaW.PrintWords Go.Proofs.YtpggfnodpjofkaaW.PrintLast Go.Proofs.YtpggfnodpjofkaaW.PrintMore Go.Proofs.Ytpggfnodpjofkaa.MDisk Go.Proofs.Ytpggfnodpjofkaa.Sep
set_option linter.unusedVariables false
set_option linter.unusedSimpArgs false
theorem turned_len (l : List Int) (bit : Int) : (turned l bit).length = l.length := by
  unfold turned
  split
  · exact List.length_set
  · rfl
theorem mask_byte (n : Nat) (h : n < 8) : ∃ m : Nat, ((2 : Int) ^ n % 256) = (m : Int) ∧ 0 < m ∧ m < 256 := by
  rcases n with _ | _ | _ | _ | _ | _ | _ | _ | n
  all_goals first | exact ⟨_, rfl, by decide, by decide⟩ | omega
theorem xor_back (x m : Nat) (hx : x < 256) (hm : m < 256) : Go.bits .xor .u8 (Go.bits .xor .u8 (x : Int) (m : Int)) (m : Int) = (x : Int) := by
  rw [u8_xor_nat x m hx hm, u8_xor_nat _ m (Nat.xor_lt_two_pow (n := 8) hx hm) hm, Nat.xor_assoc, Nat.xor_self, Nat.xor_zero]
theorem xor_other (x m : Nat) (hx : x < 256) (hm : m < 256) (h0 : 0 < m) : Go.bits .xor .u8 (x : Int) (m : Int) ≠ (x : Int) := by
  rw [u8_xor_nat x m hx hm]
  intro h
  have h1 : x ^^^ m = x := by exact_mod_cast h
  have h2 : x ^^^ (x ^^^ m) = x ^^^ x := by rw [h1]
  rw [← Nat.xor_assoc, Nat.xor_self, Nat.zero_xor] at h2
  omega
theorem turned_in {l : List Int} {bit : Int} (hl : Bytes l) (h0 : 0 ≤ bit) (h : bit / 8 < (l.length : Int)) : ∃ j x m : Nat, (bit / 8).toNat = j ∧ j < l.length ∧ l.getD j 0 = (x : Int) ∧ x < 256 ∧ 0 < m ∧ m < 256 ∧ turned l bit = l.set j (Go.bits .xor .u8 (x : Int) (m : Int)) ∧ (2 : Int) ^ (bit % 8).toNat % 256 = (m : Int) := by
  obtain ⟨m, hm, hm0, hm1⟩ := mask_byte (bit % 8).toNat (by omega)
  have hb := hl.at_ (bit / 8).toNat
  refine ⟨(bit / 8).toNat, (l.getD (bit / 8).toNat 0).toNat, m, rfl, by omega, by have := hb.1; omega, nat_byte hb, hm0, hm1, ?_, hm⟩
  unfold turned
  rw [if_pos h, hm, Int.toNat_of_nonneg hb.1]
theorem turned_twice {l : List Int} {bit : Int} (hl : Bytes l) (h0 : 0 ≤ bit) (h : bit / 8 < (l.length : Int)) : turned (turned l bit) bit = l := by
  obtain ⟨j, x, m, hj, hjl, hx, hx1, hm0, hm1, ht, hm⟩ := turned_in hl h0 h
  have hl2 : (turned l bit).length = l.length := turned_len l bit
  rw [show turned (turned l bit) bit = (if bit / 8 < ((turned l bit).length : Int) then (turned l bit).set (bit / 8).toNat (Go.bits .xor .u8 ((turned l bit).getD (bit / 8).toNat 0) ((2 : Int) ^ (bit % 8).toNat % 256)) else turned l bit) from rfl, if_pos (by rw [hl2]; exact h), hj, hm]
  have hg : (turned l bit).getD j 0 = Go.bits .xor .u8 (x : Int) (m : Int) := by
    rw [ht, List.getD_eq_getElem?_getD, List.getElem?_set_self hjl]
    rfl
  rw [hg, xor_back x m hx1 hm1, ht, List.set_set]
  have : l[j] = (x : Int) := by rw [List.getD_eq_getElem?_getD, List.getElem?_eq_getElem hjl] at hx; exact hx
  rw [← this]
  exact List.set_getElem_self hjl
theorem turned_ne {l : List Int} {bit : Int} (hl : Bytes l) (h0 : 0 ≤ bit) (h : bit / 8 < (l.length : Int)) : turned l bit ≠ l := by
  obtain ⟨j, x, m, hj, hjl, hx, hx1, hm0, hm1, ht, hm⟩ := turned_in hl h0 h
  intro he
  rw [ht] at he
  have h1 := congrArg (fun s => s.getD j 0) he
  simp only [List.getD_eq_getElem?_getD, List.getElem?_set_self hjl, List.getElem?_eq_getElem hjl] at h1
  rw [List.getD_eq_getElem?_getD, List.getElem?_eq_getElem hjl] at hx
  simp only [Option.getD_some] at h1 hx
  exact xor_other x m hx1 hm1 hm0 (h1.trans hx)
/-- A row that was turned: what it holds at the turned byte, stored. -/
theorem turned_set {l : List Int} {bit : Int} {j m : Nat} (hj : bit / 8 = (j : Int)) (hjl : j < l.length) (hm : bit % 8 = (m : Int)) : turned l bit = l.set j (Go.bits .xor .u8 (l.getD j 0) ((2 : Int) ^ m % 256)) := by
  unfold turned
  rw [if_pos (by omega), hj, hm]
  rfl
set_option maxHeartbeats 8000000 in
set_option maxRecDepth 100000 in
theorem DiskR_great (A : Option Addr) (c : Nat) (b : List Int) (slot bit : Int) (w : World) (h : slot < 0 ∨ 3 < slot ∨ 64 < b.length) :
    Calls Try.prog 6 #[.slice A b.length c, .int .i64 slot, .int .i64 bit] w fun e w' => e = .returned (.bool true) ∧ Below w.heap.size w w' := by
  by_cases h1 : slot < 0
  · have i1 : decide (slot < 0) = true := decide_eq_true h1
    clear h h1
    go_enter Try.func6, Try.ntmps6
    go_wp2_with fail
    refine (alive_ok w (St.start w)).mono ?_
    rintro e w1 ⟨rfl, h1⟩
    have H := Aside0.mk h1
    clear h1
    go_wp2_with fail
    refine (New_ok 4 (-1) w1 H.out (by decide) (by decide)).mono ?_
    rintro e w2 ⟨d, rfl, h1⟩
    replace H := Aside0.mk h1.below
    clear h1
    go_wp2
    go_ret
    exact ⟨rfl, H.out⟩
  · have i1 : decide (slot < 0) = false := decide_eq_false h1
    by_cases h2 : 3 < slot
    · have i2 : decide (3 < slot) = true := decide_eq_true h2
      clear h h1 h2
      go_enter Try.func6, Try.ntmps6
      go_wp2_with fail
      refine (alive_ok w (St.start w)).mono ?_
      rintro e w1 ⟨rfl, h1⟩
      have H := Aside0.mk h1
      clear h1
      go_wp2_with fail
      refine (New_ok 4 (-1) w1 H.out (by decide) (by decide)).mono ?_
      rintro e w2 ⟨d, rfl, h1⟩
      replace H := Aside0.mk h1.below
      clear h1
      go_wp2
      go_ret
      exact ⟨rfl, H.out⟩
    · have i2 : decide (3 < slot) = false := decide_eq_false h2
      have i3 : decide (64 < (b.length : Int)) = true := decide_eq_true (by omega)
      clear h h1 h2
      go_enter Try.func6, Try.ntmps6
      go_wp2_with fail
      refine (alive_ok w (St.start w)).mono ?_
      rintro e w1 ⟨rfl, h1⟩
      have H := Aside0.mk h1
      clear h1
      go_wp2_with fail
      refine (New_ok 4 (-1) w1 H.out (by decide) (by decide)).mono ?_
      rintro e w2 ⟨d, rfl, h1⟩
      replace H := Aside0.mk h1.below
      clear h1
      go_wp2
      go_ret
      exact ⟨rfl, H.out⟩
theorem synced_facts {b : List Int} (hb : b.length ≤ 64) : ∀ (k : Nat), k < 4 → (List.replicate 4 (([], [], false) : Cel))[k]? = some ([], [], false) ∧ (synced ((List.replicate 4 (([], [], false) : Cel)).set k ([], b, true)))[k]? = some (b, b, false) ∧ (synced ((List.replicate 4 (([], [], false) : Cel)).set k ([], b, true))).length = 4 ∧
    (∀ x ∈ (List.replicate 4 (([], [], false) : Cel)).set k ([], b, true), x.2.1.length ≤ 64) ∧ ∀ x ∈ synced ((List.replicate 4 (([], [], false) : Cel)).set k ([], b, true)), x.1.length + x.2.1.length ≤ 128 := by
  intro k hk
  rcases k with _ | _ | _ | _ | k
  all_goals first | omega | skip
  all_goals
    refine ⟨rfl, rfl, rfl, ?_, ?_⟩
    all_goals
      simp [synced, List.replicate, List.set]
      try omega
/-- The walk up to the turning: what it starts from. -/
theorem set_facts {cs : List Cel} {k n m : Nat} {y : Cel} (hl : cs.length = n) (hk : k < n) (hx : ∀ x ∈ cs, x.1.length + x.2.1.length ≤ m) (hy : y.1.length + y.2.1.length ≤ m) : (cs.set k y).length = n ∧ (cs.set k y)[k]? = some y ∧ ∀ x ∈ cs.set k y, x.1.length + x.2.1.length ≤ m := by
  refine ⟨by rw [List.length_set]; exact hl, List.getElem?_set_self (by omega), fun x h => ?_⟩
  rcases List.mem_or_eq_of_mem_set h with h | rfl
  · exact hx x h
  · exact hy
set_option maxHeartbeats 16000000 in
set_option maxRecDepth 100000 in
theorem DiskR_bad (A : Option Addr) (c : Nat) (b : List Int) (k : Nat) (bit : Int) (w : World) (hra : Kd.C (Kd.int .u8) w A b.length b) (hca : b.length ≤ c) (hk : k < 4) (h64 : b.length ≤ 64) (h9 : bit ≤ 9223372036854775807) (h : bit < 0 ∨ (b.length : Int) ≤ bit / 8) :
    Calls Try.prog 6 #[.slice A b.length c, .int .i64 k, .int .i64 bit] w fun e w' => e = .returned (.bool true) ∧ Below w.heap.size w w' := by
  have i1 : decide ((k : Int) < 0) = false := decide_eq_false (by omega)
  have i2 : decide (3 < (k : Int)) = false := decide_eq_false (by omega)
  have i3 : decide (64 < (b.length : Int)) = false := decide_eq_false (by omega)
  obtain ⟨hc0, hc2, hcl, hcb1, hcb⟩ := synced_facts h64 k hk
  have HRA := Aside0.mk hra
  have HCA := Aside0.mk hca
  have H64 := Aside0.mk h64
  have HLT := Aside0.mk (show b.length ≤ 64 from h64)
  have HK := Aside0.mk hk
  have HC0 := Aside0.mk hc0
  have HC2 := Aside0.mk hc2
  have HCL := Aside0.mk hcl
  have HCB := Aside0.mk hcb
  have HCB1 := Aside0.mk hcb1
  have HBIT := Aside0.mk h
  have H9 := Aside0.mk h9
  clear hra hca h64 hk hc0 hc2 hcl hcb hcb1 h h9
  go_enter Try.func6, Try.ntmps6
  go_wp2_with fail
  refine (alive_ok w (St.start w)).mono ?_
  rintro e w1 ⟨rfl, h1⟩
  have H := Aside0.mk h1
  clear h1
  go_wp2_with fail
  refine (New_ok 4 (-1) w1 H.out (by decide) (by decide)).mono ?_
  rintro e w2 ⟨d, rfl, h1⟩
  replace H := Aside0.mk h1
  clear h1
  go_wp2_with fail
  refine (rillref00_CopyBytes.calls A _ b b _ (Kd.C_below HRA.out H.out.below) HCA.out (Copy_ok b (by have := H64.out; omega))).mono ?_
  rintro e w3 ⟨v3, rfl, ho, hb3⟩
  obtain ⟨Ao, co, rfl, _, _⟩ := Kd.R_reads ho
  replace H := Aside0.mk (H.out.newR hb3 ho)
  clear ho hb3
  go_wp2_with fail
  refine (Write_ok d (fresh 4 (-1)) k ([], [], false) Ao co b _ H.out HC0.out (show 4 ≤ 512 by decide) H64.out (show (-1 : Int) ≠ 0 by decide) H.out.row_reads.2 (fun _ _ h => h.row_reads.1)).mono ?_
  rintro e w4 ⟨rfl, h1⟩
  replace H := Aside0.mk (show DSt w.heap.size w w4 d ⟨-1, [], [], [], false, (List.replicate 4 (([], [], false) : Cel)).set k ([], b, true)⟩ [] from h1.drop)
  clear h1
  go_wp2_with fail
  refine (SyncSlots_ok d _ _ H.out (show (-1 : Int) ≠ 0 by decide) (by show ((List.replicate 4 (([], [], false) : Cel)).set k ([], b, true)).length ≤ 512; rw [List.length_set, List.length_replicate]; decide) (fun x hx => by have := HCB1.out x hx; omega)).mono ?_
  rintro e w5 ⟨rfl, h1⟩
  replace h1 : DSt w.heap.size w w5 d ⟨-1, [], [], [], false, synced ((List.replicate 4 (([], [], false) : Cel)).set k ([], b, true))⟩ [] := h1
  generalize synced ((List.replicate 4 (([], [], false) : Cel)).set k ([], b, true)) = cs2 at h1 HC2 HCL HCB
  replace H := Aside0.mk h1
  clear h1
  go_wp2_with fail
  have hrot : Calls Try.prog 24 #[.pointer (some ⟨d, 0, none⟩), .int .i64 k, .int .i64 bit] w5 fun e w' => e = .returned (.int .i64 41) ∧ w5 = w' := by
    by_cases h : bit < 0
    · exact Rot_neg d _ k bit w5 H.out (by show k < cs2.length; rw [HCL.out]; exact HK.out) (by show cs2.length ≤ 512; rw [HCL.out]; decide) h
    · exact Rot_far d _ k (b, b, false) bit w5 H.out HC2.out (by show cs2.length ≤ 512; rw [HCL.out]; decide) (by omega) H9.out (by have := HBIT.out; show (b.length : Int) ≤ _; omega)
  refine hrot.mono ?_
  rintro e w6 ⟨rfl, rfl⟩
  clear hrot
  have hn : DSt w.heap.size w w5 d ⟨-1, [], [], [], false, cs2⟩ [aM ik [] [.slice none 0 0]] := by
    obtain ⟨_, _, _, _, hin⟩ := H.out.in_
    exact DSt.of_in (hin.nil_row (Kd.int .i64) 3)
  replace H := Aside0.mk hn
  clear hn
  go_wp2_with fail
  refine (Left_ok d _ 0 false [] _ (-1) _ H.out ⟨by show 0 + 0 < _; omega, by show 0 + 0 < _; omega⟩ (by show 1 ≤ cs2.length; rw [HCL.out]; decide) (by show cs2.length ≤ 512; rw [HCL.out]; decide) (by decide) (by simp) (fun x hx => by have := HCB.out x hx; omega)).mono ?_
  rintro e w7 ⟨l, us, ub, um, uc, rfl, h1⟩
  replace H := Aside0.mk h1
  clear h1
  go_wp2_with fail
  refine (Read_ok d _ k (b, b, false) _ H.out HC2.out (by show cs2.length ≤ 512; rw [HCL.out]; decide) (by have := HLT.out; show (b).length < _; omega)).mono ?_
  rintro e w8 ⟨vx, rfl, h1⟩
  replace h1 : DSt w.heap.size w w8 d ⟨-1, [], [], [], false, cs2⟩ (aM bk b [vx] :: (datoms l (Dk.left ⟨-1, [], [], [], false, cs2⟩ 0 false [] (-1)) us ub um uc ++ [aM ik [] [.slice none 0 0]])) := h1
  obtain ⟨Ax, cx, rfl, _, _⟩ := h1.row_form
  obtain ⟨v1, v2, v3, v4, h2⟩ := (h1.perm (List.perm_middle (l₁ := datoms l (Dk.left ⟨-1, [], [], [], false, cs2⟩ 0 false [] (-1)) us ub um uc)).symm).swap
  replace H := Aside0.mk h2
  clear h1 h2
  go_wp2_with fail
  refine (Read_ok l _ k _ _ H.out (lrow_at HC2.out) (by show (lrow [] cs2).length ≤ 512; rw [lrow, List.length_mapIdx, HCL.out]; decide) (by have := HLT.out; show (b).length < _; omega)).mono ?_
  rintro e w9 ⟨vy, rfl, h1⟩
  replace h1 : DSt w.heap.size w w9 l (Dk.left ⟨-1, [], [], [], false, cs2⟩ 0 false [] (-1)) (aM bk b [vy] :: (datoms d ⟨-1, [], [], [], false, cs2⟩ v1 v2 v3 v4 ++ (aM bk b [.slice Ax (b).length cx] :: [aM ik [] [.slice none 0 0]]))) := h1
  obtain ⟨Ay, cy, rfl, hy1, hy2⟩ := h1.row_form
  obtain ⟨hx1, hx2⟩ := (h1.drop.let5).row_reads
  have HX1 := Aside0.mk hx1
  have HX2 := Aside0.mk hx2
  replace H := Aside0.mk h1
  clear h1 hy1 hy2 hx1 hx2
  have i6 : wrap64 (8 * (b.length : Int)) = 8 * (b.length : Int) := by have := H64.out; unfold wrap64; omega
  have hsame := Aside0.mk (rillref00_SameBytes.calls (b.length + 1) Ax cx b A c b true w9 HX1.out HX2.out (Kd.C_below HRA.out H.out.below) HCA.out (by rw [Same_ok b b (by have := H64.out; omega) _ (by omega), decide_eq_true rfl]))
  by_cases h : bit < 0
  · have i4 : decide (bit < 0) = true := decide_eq_true h
    clear h
    go_wp2_with fail
    refine hsame.out.mono ?_
    rintro e w10 ⟨rfl, ⟨nd, rfl⟩⟩
    go_wp2
    go_ret
    exact ⟨rfl, pw_below_drewN H.out.below nd⟩
  · have i4 : decide (bit < 0) = false := decide_eq_false h
    have i5 : decide (8 * (b.length : Int) ≤ bit) = true := decide_eq_true (by have := HBIT.out; omega)
    clear h
    go_wp2_with fail
    refine hsame.out.mono ?_
    rintro e w10 ⟨rfl, ⟨nd, rfl⟩⟩
    go_wp2
    go_ret
    exact ⟨rfl, pw_below_drewN H.out.below nd⟩
set_option maxHeartbeats 16000000 in
set_option maxRecDepth 100000 in
theorem DiskR_good (A : Option Addr) (c : Nat) (b : List Int) (k : Nat) (bit : Int) (w : World) (hra : Kd.C (Kd.int .u8) w A b.length b) (hca : b.length ≤ c) (hk : k < 4) (h64 : b.length ≤ 64) (h9 : bit ≤ 9223372036854775807) (hby : Bytes b) (h0 : 0 ≤ bit) (h : bit / 8 < (b.length : Int)) :
    Calls Try.prog 6 #[.slice A b.length c, .int .i64 k, .int .i64 bit] w fun e w' => e = .returned (.bool true) ∧ Below w.heap.size w w' := by
  have i1 : decide ((k : Int) < 0) = false := decide_eq_false (by omega)
  have i2 : decide (3 < (k : Int)) = false := decide_eq_false (by omega)
  have i3 : decide (64 < (b.length : Int)) = false := decide_eq_false (by omega)
  obtain ⟨hc0, hc2, hcl, hcb1, hcb⟩ := synced_facts h64 k hk
  have HRA := Aside0.mk hra
  have HCA := Aside0.mk hca
  have H64 := Aside0.mk h64
  have HLT := Aside0.mk (show b.length ≤ 64 from h64)
  have HK := Aside0.mk hk
  have HC0 := Aside0.mk hc0
  have HC2 := Aside0.mk hc2
  have HCL := Aside0.mk hcl
  have HCB := Aside0.mk hcb
  have HCB1 := Aside0.mk hcb1
  have HBIT := Aside0.mk h
  have H9 := Aside0.mk h9
  have H0 := Aside0.mk h0
  have HBY := Aside0.mk hby
  have HTL := Aside0.mk (turned_len b bit)
  replace HLT := Aside0.mk (show (turned b bit).length ≤ 64 by rw [turned_len]; exact h64)
  clear hra hca h64 hk hc0 hc2 hcl hcb hcb1 h h9 h0 hby
  go_enter Try.func6, Try.ntmps6
  go_wp2_with fail
  refine (alive_ok w (St.start w)).mono ?_
  rintro e w1 ⟨rfl, h1⟩
  have H := Aside0.mk h1
  clear h1
  go_wp2_with fail
  refine (New_ok 4 (-1) w1 H.out (by decide) (by decide)).mono ?_
  rintro e w2 ⟨d, rfl, h1⟩
  replace H := Aside0.mk h1
  clear h1
  go_wp2_with fail
  refine (rillref00_CopyBytes.calls A _ b b _ (Kd.C_below HRA.out H.out.below) HCA.out (Copy_ok b (by have := H64.out; omega))).mono ?_
  rintro e w3 ⟨v3, rfl, ho, hb3⟩
  obtain ⟨Ao, co, rfl, _, _⟩ := Kd.R_reads ho
  replace H := Aside0.mk (H.out.newR hb3 ho)
  clear ho hb3
  go_wp2_with fail
  refine (Write_ok d (fresh 4 (-1)) k ([], [], false) Ao co b _ H.out HC0.out (show 4 ≤ 512 by decide) H64.out (show (-1 : Int) ≠ 0 by decide) H.out.row_reads.2 (fun _ _ h => h.row_reads.1)).mono ?_
  rintro e w4 ⟨rfl, h1⟩
  replace H := Aside0.mk (show DSt w.heap.size w w4 d ⟨-1, [], [], [], false, (List.replicate 4 (([], [], false) : Cel)).set k ([], b, true)⟩ [] from h1.drop)
  clear h1
  go_wp2_with fail
  refine (SyncSlots_ok d _ _ H.out (show (-1 : Int) ≠ 0 by decide) (by show ((List.replicate 4 (([], [], false) : Cel)).set k ([], b, true)).length ≤ 512; rw [List.length_set, List.length_replicate]; decide) (fun x hx => by have := HCB1.out x hx; omega)).mono ?_
  rintro e w5 ⟨rfl, h1⟩
  replace h1 : DSt w.heap.size w w5 d ⟨-1, [], [], [], false, synced ((List.replicate 4 (([], [], false) : Cel)).set k ([], b, true))⟩ [] := h1
  generalize synced ((List.replicate 4 (([], [], false) : Cel)).set k ([], b, true)) = cs2 at h1 HC2 HCL HCB
  replace H := Aside0.mk h1
  clear h1
  go_wp2_with fail
  refine (Rot_ok d _ k (b, b, false) bit w5 H.out HC2.out (by show cs2.length ≤ 512; rw [HCL.out]; decide) H0.out H9.out HBIT.out (by have := H64.out; show b.length ≤ _ ∧ b.length ≤ _; omega)).mono ?_
  rintro e w6 ⟨rfl, h1⟩
  replace h1 : DSt w.heap.size w w6 d ⟨-1, [], [], [], false, cs2.set k (turned b bit, turned b bit, false)⟩ [] := h1
  obtain ⟨hf1, hf2, hf3⟩ := set_facts (y := (turned b bit, turned b bit, false)) HCL.out HK.out HCB.out (by have := HLT.out; show (turned b bit).length + (turned b bit).length ≤ 128; omega)
  have HCX := Aside0.mk hf2
  have HCXL := Aside0.mk hf1
  have HCXB := Aside0.mk hf3
  clear hf1 hf2 hf3
  generalize cs2.set k (turned b bit, turned b bit, false) = cs3 at h1 HCX HCXL HCXB
  replace H := Aside0.mk h1
  clear h1
  have hn : DSt w.heap.size w w6 d ⟨-1, [], [], [], false, cs3⟩ [aM ik [] [.slice none 0 0]] := by
    obtain ⟨_, _, _, _, hin⟩ := H.out.in_
    exact DSt.of_in (hin.nil_row (Kd.int .i64) 3)
  replace H := Aside0.mk hn
  clear hn
  go_wp2_with fail
  refine (Left_ok d _ 0 false [] _ (-1) _ H.out ⟨by show 0 + 0 < _; omega, by show 0 + 0 < _; omega⟩ (by show 1 ≤ cs3.length; rw [HCXL.out]; decide) (by show cs3.length ≤ 512; rw [HCXL.out]; decide) (by decide) (by simp) (fun x hx => by have := HCXB.out x hx; omega)).mono ?_
  rintro e w7 ⟨l, us, ub, um, uc, rfl, h1⟩
  replace H := Aside0.mk h1
  clear h1
  go_wp2_with fail
  refine (Read_ok d _ k ((turned b bit), (turned b bit), false) _ H.out HCX.out (by show cs3.length ≤ 512; rw [HCXL.out]; decide) (by have := HLT.out; show (turned b bit).length < _; omega)).mono ?_
  rintro e w8 ⟨vx, rfl, h1⟩
  replace h1 : DSt w.heap.size w w8 d ⟨-1, [], [], [], false, cs3⟩ (aM bk (turned b bit) [vx] :: (datoms l (Dk.left ⟨-1, [], [], [], false, cs3⟩ 0 false [] (-1)) us ub um uc ++ [aM ik [] [.slice none 0 0]])) := h1
  obtain ⟨Ax, cx, rfl, _, _⟩ := h1.row_form
  obtain ⟨v1, v2, v3, v4, h2⟩ := (h1.perm (List.perm_middle (l₁ := datoms l (Dk.left ⟨-1, [], [], [], false, cs3⟩ 0 false [] (-1)) us ub um uc)).symm).swap
  replace H := Aside0.mk h2
  clear h1 h2
  go_wp2_with fail
  refine (Read_ok l _ k _ _ H.out (lrow_at HCX.out) (by show (lrow [] cs3).length ≤ 512; rw [lrow, List.length_mapIdx, HCXL.out]; decide) (by have := HLT.out; show (turned b bit).length < _; omega)).mono ?_
  rintro e w9 ⟨vy, rfl, h1⟩
  replace h1 : DSt w.heap.size w w9 l (Dk.left ⟨-1, [], [], [], false, cs3⟩ 0 false [] (-1)) (aM bk (turned b bit) [vy] :: (datoms d ⟨-1, [], [], [], false, cs3⟩ v1 v2 v3 v4 ++ (aM bk (turned b bit) [.slice Ax (turned b bit).length cx] :: [aM ik [] [.slice none 0 0]]))) := h1
  obtain ⟨Ay, cy, rfl, hy1, hy2⟩ := h1.row_form
  obtain ⟨hx1, hx2⟩ := (h1.drop.let5).row_reads
  have HX1 := Aside0.mk hx1
  have HX2 := Aside0.mk hx2
  obtain ⟨y1, y2, y3, y4, h2⟩ := h1.drop.swap
  have hs1 := rillref00_SameBytes.calls ((turned b bit).length + 1) Ax cx (turned b bit) Ay cy (turned b bit) true w9 hx1 hx2 hy1 hy2 (by rw [Same_ok _ _ (by have := HLT.out; omega) _ (by omega), decide_eq_true rfl])
  have hs2 := fun nd => rillref00_SameBytes.calls ((turned b bit).length + 1) Ax cx (turned b bit) A c b false (w9.drewN nd) (Kd.C_below hx1 (pw_below_drewN (Below.refl _ _) nd)) hx2 (Kd.C_below HRA.out (pw_below_drewN h1.below nd)) HCA.out (by rw [Same_ok _ _ (by have := HLT.out; omega) _ (by omega), decide_eq_false (turned_ne HBY.out H0.out HBIT.out)])
  simp only [turned_len] at hs1 hs2
  replace hs1 := Aside0.mk hs1
  replace hs2 := Aside0.mk hs2
  have h3 := h2.let5
  rw [turned_len] at h3
  replace H := Aside0.mk h3
  clear h1 h2 h3 hy1 hy2 hx1 hx2
  simp only [turned_len]
  go_wp2_with fail
  refine hs1.out.mono ?_
  rintro e w10 ⟨rfl, ⟨nd, rfl⟩⟩
  go_wp2_with fail
  refine (hs2.out nd).mono ?_
  rintro e w11 ⟨rfl, ⟨nd2, rfl⟩⟩
  clear hs1 hs2
  obtain ⟨_, _, _, _, hin⟩ := (H.out.drewN (nd + nd2)).in_
  replace hin : St w.heap.size w _ (aM bk (turned b bit) [.slice Ax b.length cx] :: ([aM ik [] [.slice none 0 0]] ++ _)) := hin
  obtain ⟨g, rfl, hq1, hq2⟩ := hin.ints_block (by rw [turned_len]; have := HBIT.out; have := H0.out; omega)
  clear hq1 hq2
  obtain ⟨j, hj⟩ : ∃ j : Nat, bit / 8 = (j : Int) := ⟨(bit / 8).toNat, by have := H0.out; omega⟩
  have hjn : j < b.length := by have := HBIT.out; omega
  obtain ⟨hc, hf⟩ := hin.int_cell j (by first | exact hjn | (rw [turned_len]; exact hjn))
  have i6 : (0 : Int) ≤ (j : Int) := by omega
  have i7 : (j : Int) < (b.length : Int) := by omega
  have HJ := Aside0.mk hj
  have HJN := Aside0.mk hjn
  have j1 : Int.tdiv bit 8 = (j : Int) := by rw [Int.tdiv_eq_ediv_of_nonneg H0.out]; exact hj
  obtain ⟨m, hm⟩ : ∃ m : Nat, bit % 8 = (m : Int) := ⟨(bit % 8).toNat, by omega⟩
  have j2 : Int.tmod bit 8 = (m : Int) := by rw [Int.tmod_eq_emod_of_nonneg H0.out]; exact hm
  have j3 : (0 : Int) ≤ (m : Int) := by omega
  have j4 : (m : Int) < 8 := by omega
  have j5 : wrap64 (j : Int) = (j : Int) := by have := H64.out; unfold wrap64; omega
  have HM := Aside0.mk hm
  have HIN := Aside0.mk hin
  clear hm hj hjn hin
  go_wp2_with fail
  have hst := HIN.out.int_set j (Go.bits .xor .u8 ((turned b bit).getD j 0) ((2 : Int) ^ m % 256))
  rw [← turned_set HJ.out (by rw [turned_len]; exact HJN.out) HM.out, turned_twice HBY.out H0.out HBIT.out] at hst
  rw [List.getD_eq_getElem?_getD] at hst
  replace H := Aside0.mk (DSt.of_in (d := d) (D := ⟨-1, [], [], [], false, cs3⟩) (L := aM bk b [.slice (some ⟨g, 0, none⟩) b.length cx] :: [aM ik [] [.slice none 0 0]]) hst)
  clear hst HIN hc hf j1 j2 j3 j4 j5 i6 i7
  generalize ((w9.drewN (nd + nd2)).setCell ⟨g, j, none⟩ (Value.int .u8 (Go.bits .xor .u8 ((turned b bit)[j]?.getD 0) ((2 : Int) ^ m % 256)))) = w12 at H ⊢
  refine (Rot_ok d _ k (turned b bit, turned b bit, false) bit w12 H.out HCX.out (by show cs3.length ≤ 512; rw [HCXL.out]; decide) H0.out H9.out (by show bit / 8 < ((turned b bit).length : Int); rw [turned_len]; exact HBIT.out) (by have := HLT.out; show (turned b bit).length ≤ _ ∧ (turned b bit).length ≤ _; omega)).mono ?_
  rintro e w13 ⟨rfl, h1⟩
  replace h1 : DSt w.heap.size w w13 d ⟨-1, [], [], [], false, cs3.set k (turned (turned b bit) bit, turned (turned b bit) bit, false)⟩ (aM bk b [.slice (some ⟨g, 0, none⟩) b.length cx] :: [aM ik [] [.slice none 0 0]]) := h1
  rw [turned_twice HBY.out H0.out HBIT.out] at h1
  have hf2 : (cs3.set k (b, b, false))[k]? = some (b, b, false) := List.getElem?_set_self (by have := HCXL.out; have := HK.out; omega)
  have hf1 : (cs3.set k (b, b, false)).length = 4 := by rw [List.length_set]; exact HCXL.out
  have HCY := Aside0.mk hf2
  have HCYL := Aside0.mk hf1
  clear hf1 hf2
  generalize cs3.set k (b, b, false) = cs4 at h1 HCY HCYL
  replace H := Aside0.mk h1
  clear h1
  go_wp2_with fail
  refine (Read_ok d _ k (b, b, false) _ H.out HCY.out (by show cs4.length ≤ 512; rw [HCYL.out]; decide) (by have := H64.out; show b.length < _; omega)).mono ?_
  rintro e w14 ⟨vz, rfl, h1⟩
  replace h1 : DSt w.heap.size w w14 d ⟨-1, [], [], [], false, cs4⟩ (aM bk b [vz] :: aM bk b [.slice (some ⟨g, 0, none⟩) b.length cx] :: [aM ik [] [.slice none 0 0]]) := h1
  obtain ⟨Az, cz, rfl, hz1, hz2⟩ := h1.row_form
  obtain ⟨hx1, hx2⟩ := h1.drop.row_reads
  have HZ1 := Aside0.mk hz1
  have HZ2 := Aside0.mk hz2
  have HX1' := Aside0.mk hx1
  have HX2' := Aside0.mk hx2
  replace H := Aside0.mk h1.below
  clear h1 hz1 hz2 hx1 hx2
  go_wp2_with fail
  refine (rillref00_SameBytes.calls (b.length + 1) (some ⟨g, 0, none⟩) cx b A c b true w14 HX1'.out HX2'.out (Kd.C_below HRA.out H.out) HCA.out (by rw [Same_ok b b (by have := H64.out; omega) _ (by omega), decide_eq_true rfl])).mono ?_
  rintro e w15 ⟨rfl, ⟨nd5, rfl⟩⟩
  go_wp2_with fail
  refine (rillref00_SameBytes.calls (b.length + 1) Az cz b A c b true _ (Kd.C_below HZ1.out (pw_below_drewN (Below.refl _ _) nd5)) HZ2.out (Kd.C_below HRA.out (pw_below_drewN H.out nd5)) HCA.out (by rw [Same_ok b b (by have := H64.out; omega) _ (by omega), decide_eq_true rfl])).mono ?_
  rintro e w16 ⟨rfl, ⟨nd6, rfl⟩⟩
  go_wp2
  go_ret
  exact ⟨rfl, pw_below_drewN H.out (nd5 + nd6)⟩
theorem DiskRots_walk (A : Option Addr) (c : Nat) (b : List Int) (slot bit : Int) (w : World) (hra : Kd.C (Kd.int .u8) w A b.length b) (hca : b.length ≤ c) (hby : ∀ x ∈ b, (Lit.int .u8 x).wf = true) (hbit : (Lit.int .i64 bit).wf = true) :
    Calls Try.prog 6 #[.slice A b.length c, .int .i64 slot, .int .i64 bit] w fun e w' => e = .returned (.bool true) ∧ Below w.heap.size w w' := by
  have h9 : bit ≤ 9223372036854775807 := by have := bounds_i64 hbit; omega
  by_cases hg : slot < 0 ∨ 3 < slot ∨ 64 < b.length
  · exact DiskR_great A c b slot bit w hg
  · obtain ⟨k, rfl⟩ : ∃ k : Nat, slot = (k : Int) := ⟨slot.toNat, by omega⟩
    by_cases h : bit < 0 ∨ (b.length : Int) ≤ bit / 8
    · exact DiskR_bad A c b k bit w hra hca (by omega) (by omega) h9 h
    · exact DiskR_good A c b k bit w hra hca (by omega) (by omega) h9 (bytes_wf hby) (by omega) (by omega)
end Go.Proofs.Ytpggfnodpjofkaa.Disk
