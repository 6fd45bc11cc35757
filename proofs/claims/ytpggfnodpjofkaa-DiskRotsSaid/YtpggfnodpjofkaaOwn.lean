/- Words of this session's own for walks: rows of rows in a literal, constant strings as bytes. -/
import Derived.Test.YtpggfnodpjofkaaWWords
import Derived.Test.YtpggfnodpjofkaaWLast
import Derived.Test.YtpggfnodpjofkaaWFoot
import Derived.Test.YtpggfnodpjofkaaWShare
import Derived.Test.YtpggfnodpjofkaaWMore
import Derived.Lib.SlBytesConst
namespace Go.Proofs.Ytpggfnodpjofkaa.Own
open Go.RowKit Go.Proofs.YtpggfnodpjofkaaW.PrintWords Go.Proofs.YtpggfnodpjofkaaW.PrintLast Go.Proofs.YtpggfnodpjofkaaW.PrintMore
theorem size_alloc (W : World) (o : Obj) : (W.alloc o).heap.size = W.heap.size + 1 := by simp
theorem C_lit {α : Type} (d : Kd α) (E : Nat) (W : World) (T : TypeId) (cs : List Value) (xs : List (List α)) (hl : xs.length ≤ 9223372036854775807) (hr : Reps ((Kd.slice E d).K (W.alloc (.cells cs.toArray T))) 1 xs cs) :
    (Kd.slice E d).C (W.alloc (.cells cs.toArray T)) (some ⟨W.heap.size, 0, none⟩) xs.length xs := by
  obtain ⟨A, c, he, _, h⟩ := OwnRow.reads (OwnRow.lit (e := T) (size := 1) W 0 hr (Nat.zero_le _) hl)
  cases he
  exact h
section
variable {α : Type} (d : Kd α) (E : Nat) (W : World) (T : TypeId) {A1 A2 A3 : Option Addr} {c1 c2 c3 : Nat} {l1 l2 l3 : List α}
theorem lit1 (h1 : l1.length ≤ c1) (k1 : d.C (W.alloc (.cells #[.slice A1 l1.length c1] T)) A1 l1.length l1) :
    (Kd.slice E d).C (W.alloc (.cells #[.slice A1 l1.length c1] T)) (some ⟨W.heap.size, 0, none⟩) 1 [l1] :=
  C_lit d E W T [.slice A1 l1.length c1] [l1] (by simp) ((Reps.none ((Kd.slice E d).K (W.alloc (.cells #[.slice A1 l1.length c1] T))) 1).snoc (p := l1) (c := [.slice A1 l1.length c1]) ⟨A1, c1, rfl, h1, k1⟩ rfl)
theorem lit2 (h1 : l1.length ≤ c1) (h2 : l2.length ≤ c2)
    (k1 : d.C (W.alloc (.cells #[.slice A1 l1.length c1, .slice A2 l2.length c2] T)) A1 l1.length l1) (k2 : d.C (W.alloc (.cells #[.slice A1 l1.length c1, .slice A2 l2.length c2] T)) A2 l2.length l2) :
    (Kd.slice E d).C (W.alloc (.cells #[.slice A1 l1.length c1, .slice A2 l2.length c2] T)) (some ⟨W.heap.size, 0, none⟩) 2 [l1, l2] :=
  C_lit d E W T [.slice A1 l1.length c1, .slice A2 l2.length c2] [l1, l2] (by simp) (((Reps.none ((Kd.slice E d).K (W.alloc (.cells #[.slice A1 l1.length c1, .slice A2 l2.length c2] T))) 1).snoc (p := l1) (c := [.slice A1 l1.length c1]) ⟨A1, c1, rfl, h1, k1⟩ rfl).snoc (p := l2) (c := [.slice A2 l2.length c2]) ⟨A2, c2, rfl, h2, k2⟩ rfl)
theorem lit3 (h1 : l1.length ≤ c1) (h2 : l2.length ≤ c2) (h3 : l3.length ≤ c3)
    (k1 : d.C (W.alloc (.cells #[.slice A1 l1.length c1, .slice A2 l2.length c2, .slice A3 l3.length c3] T)) A1 l1.length l1) (k2 : d.C (W.alloc (.cells #[.slice A1 l1.length c1, .slice A2 l2.length c2, .slice A3 l3.length c3] T)) A2 l2.length l2) (k3 : d.C (W.alloc (.cells #[.slice A1 l1.length c1, .slice A2 l2.length c2, .slice A3 l3.length c3] T)) A3 l3.length l3) :
    (Kd.slice E d).C (W.alloc (.cells #[.slice A1 l1.length c1, .slice A2 l2.length c2, .slice A3 l3.length c3] T)) (some ⟨W.heap.size, 0, none⟩) 3 [l1, l2, l3] :=
  C_lit d E W T [.slice A1 l1.length c1, .slice A2 l2.length c2, .slice A3 l3.length c3] [l1, l2, l3] (by simp) ((((Reps.none ((Kd.slice E d).K (W.alloc (.cells #[.slice A1 l1.length c1, .slice A2 l2.length c2, .slice A3 l3.length c3] T))) 1).snoc (p := l1) (c := [.slice A1 l1.length c1]) ⟨A1, c1, rfl, h1, k1⟩ rfl).snoc (p := l2) (c := [.slice A2 l2.length c2]) ⟨A2, c2, rfl, h2, k2⟩ rfl).snoc (p := l3) (c := [.slice A3 l3.length c3]) ⟨A3, c3, rfl, h3, k3⟩ rfl)
end
/-- The cells of a new block of whole numbers, whatever its mark. -/
theorem const_C (W : World) (E : TypeId) (k : IntKind) (xs : List Int) (m : Nat × Nat) (hl : xs.length ≤ 9223372036854775807) :
    (Kd.int k).C (W.alloc (.cells (nums k xs).toArray E m)) (some ⟨W.heap.size, 0, none⟩) xs.length xs := by
  refine Kd.C_of_reads (h1 := fun _ => rfl) (d := (0 : Int)) ⟨rfl, hl, fun _ => ⟨_, rfl, fun j hj => ?_⟩⟩
  rw [add_plain]
  have hb : (W.alloc (.cells (nums k xs).toArray E m)).heap[W.heap.size]? = some (.cells (nums k xs).toArray E m) := heap_alloc_new W _
  unfold World.cell?
  simp only [hb]
  simp [nums, List.getElem?_eq_getElem hj, List.getD_eq_getElem?_getD]
/-- A cut from the beginning, run. -/
theorem cut_take {P : Program} (t e : TypeId) (kl : IntKind) {i : TypeInfo} (ht : P.underlying t = some (.slice e)) (hi : P.info? e = some i) (hsz : i.size = 1) (k : IntKind) (A : Option Addr) (c : Nat) (xs : List Int) (n : Nat) (hn : n ≤ xs.length) (hc : xs.length ≤ c) (W : World) :
    (Instr.slice t (.slice A xs.length c) none (some (.int kl (n : Int))) none).run P W = .ok (.slice A (xs.take n).length c) W := by
  have := (print_take_of (P := P) (Value.int k) 0 t e kl ht hi hsz A c xs (n : Int) (by omega) (by omega) hc).1 W
  rw [Int.toNat_natCast] at this
  exact this
/-- Cuts of rows of any kind, run. -/
theorem cut_to_ {P : Program} {α : Type} (t e : TypeId) (kh : IntKind) {i : TypeInfo} (ht : P.underlying t = some (.slice e)) (hi : P.info? e = some i) (A : Option Addr) (c : Nat) (xs : List α) (j : Nat) (hj : j ≤ xs.length) (hc : xs.length ≤ c) (W : World) :
    (Instr.slice t (.slice A xs.length c) none (some (.int kh (j : Int))) none).run P W = .ok (.slice A (xs.take j).length c) W := by
  have := cut_to (P := P) t e kh ht hi A xs.length c (j : Int) (by omega) (by omega) hc W
  rw [Int.toNat_natCast] at this
  rw [this, List.length_take, Nat.min_eq_left hj]
theorem cut_mid_ {P : Program} {α : Type} (d : Kd α) (t e : TypeId) (kl kh : IntKind) {i : TypeInfo} (ht : P.underlying t = some (.slice e)) (hi : P.info? e = some i) (hsz : i.size = d.sz) (A : Option Addr) (c : Nat) (xs : List α) (lo hi' : Nat) (h1 : lo ≤ hi') (h2 : hi' ≤ xs.length) (hc : xs.length ≤ c) :
    ∃ A', (∀ W : World, (Instr.slice t (.slice A xs.length c) (some (.int kl (lo : Int))) (some (.int kh (hi' : Int))) none).run P W = .ok (.slice A' ((xs.take hi').drop lo).length (c - lo)) W) ∧
      (∀ w : World, d.C w A xs.length xs → d.C w A' ((xs.take hi').drop lo).length ((xs.take hi').drop lo)) ∧ ((xs.take hi').drop lo).length ≤ c - lo := by
  have hl : ((xs.take hi').drop lo).length = hi' - lo := by rw [List.length_drop, List.length_take]; omega
  refine ⟨_, fun W => ?_, fun w h => Kd.C_mid h h1 h2 hc, by rw [hl]; omega⟩
  have := cut_mid (P := P) t e kl kh ht hi d.sz hsz A xs.length c (lo : Int) (hi' : Int) (by omega) (by omega) (by omega) hc W
  simp only [Int.toNat_natCast] at this
  rw [this, hl]
end Go.Proofs.Ytpggfnodpjofkaa.Own
