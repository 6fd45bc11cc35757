/- Contracts of the net's functions, over states told as atoms: Delete, Lose, Take, Double. -/
import Derived.Test.YtjcpchkbhgijkaaNetB
namespace Go.Proofs.Ytjcpchkbhgijkaa.Net
open Go.RowKit Go.Proofs.YtjcpchkbhgijkaaW.PrintWords Go.Proofs.YtjcpchkbhgijkaaW.PrintLast Go.Proofs.YtjcpchkbhgijkaaW.PrintMore Go.Proofs.Ytjcpchkbhgijkaa.MNet Go.Proofs.Ytjcpchkbhgijkaa.Sep
set_option linter.unusedVariables false
set_option linter.unusedSimpArgs false
theorem size57 : (Try.prog.info? 57).map (·.size) = some 2 := by kernel_rfl
theorem zero57 : ∀ w : World, (zeroValue 57).run Try.prog w = .ok (.agg #[.int .i64 0, .slice none 0 0]) w := by intro w; kernel_rfl
abbrev dk0 : Kd (Int × List Int) := both (Kd.int .i64) (sep 5 (Kd.int .u8))
theorem map_eraseIdx_ {α β : Type} (f : α → β) : ∀ (l : List α) (k : Nat), (l.map f).eraseIdx k = (l.eraseIdx k).map f
  | [], _ => by simp
  | _ :: _, 0 => by simp
  | x :: l, k + 1 => by simp [map_eraseIdx_ f l k]
theorem del_mid {base : Nat} {w0 w w1 : World} {L : List Atom} {g cap k : Nat} {ds : List Dg} {x : Dg} {ok : Nat → Prop} (H : St base w0 w (aM (sep 57 dk) ds [.slice (some ⟨g, 0, none⟩) ds.length cap] :: L)) (hx : ds[k]? = some x) (hn : 0 < ds.length) (hc : ds.length ≤ cap)
    (hR : (Kd.raw 2).R 57 w1 base ok (.slice (some ⟨g, 0, none⟩) (ds.length - 1) cap) ((ds.map (·.2)).eraseIdx k)) (hg : w.drew.grownBy w1 (some g)) :
    ∃ cur', (∀ ty, (Builtin.clear_ #[48] ty #[.slice (some ⟨g, (ds.length - 1) * 2, none⟩) 1 (cap - (ds.length - 1))]).run Try.prog w1 = .ok (.tuple #[]) (w1.setRow g cur')) ∧
      St base w0 (w1.setRow g cur') (aM (sep 57 dk) (ds.eraseIdx k) [.slice (some ⟨g, 0, none⟩) (ds.length - 1) cap] :: aM dk0 x.1 x.2 :: L) := by
  have hk : k < ds.length := (List.getElem?_eq_some_iff.1 hx).1
  have hO := own_raw hR
  have hle : ((ds.map (·.2)).eraseIdx k).length = ds.length - 1 := by rw [List.length_eraseIdx, List.length_map, if_pos hk]
  have hle2 : (ds.eraseIdx k).length = ds.length - 1 := by rw [List.length_eraseIdx, if_pos hk]
  have hme : (ds.map (·.2)).eraseIdx k = (ds.eraseIdx k).map (·.2) := map_eraseIdx_ _ _ _
  rw [hle, hme] at hO
  have H1 := H.drew.erased hx hO hg
  obtain ⟨hl, hv | ⟨g', cap', cur, hv, hb, hh, hnc, hcm, hcs, htk⟩⟩ := hO
  · cases hv.1
  · cases hv
    obtain ⟨cur', hcl, hs', ht'⟩ := clear_run (P := Try.prog) w1 48 57 _ Try.underlying48 zero57 (by decide) g ((ds.length - 1) * 2) 1 (cap - (ds.length - 1)) cur hh (by decide) (by show _ + 1 * 2 ≤ _; omega)
    refine ⟨cur', hcl, ?_⟩
    have H2 := H1.cleared hh hs' ht'
    rw [← hle2] at H2
    have H3 := St.shut_row (d := dk) H2
    rw [hle2] at H3
    exact H3
set_option maxHeartbeats 8000000 in
set_option maxRecDepth 100000 in
theorem Delete_ok {base : Nat} {w0 : World} {L : List Atom} (g cap k : Nat) (ds : List Dg) (x : Dg) (w : World) (H : St base w0 w (aM (sep 57 dk) ds [.slice (some ⟨g, 0, none⟩) ds.length cap] :: L)) (hx : ds[k]? = some x) (hn : ds.length ≤ 400) :
    Calls Try.prog 27 #[.slice (some ⟨g, 0, none⟩) ds.length cap, .int .i64 k, .int .i64 ((k : Int) + 1)] w fun e w' => e = .returned (.slice (some ⟨g, 0, none⟩) (ds.length - 1) cap) ∧ St base w0 w' (aM (sep 57 dk) (ds.eraseIdx k) [.slice (some ⟨g, 0, none⟩) (ds.length - 1) cap] :: aM dk0 x.1 x.2 :: L) := by
  have hk : k < ds.length := (List.getElem?_eq_some_iff.1 hx).1
  obtain ⟨_, _, he, hcap, _⟩ := H.reads
  cases he
  obtain ⟨i0, hi0, hsz⟩ := Option.map_eq_some_iff.1 size57
  obtain ⟨v3, h3⟩ := cut_three (P := Try.prog) 48 57 Try.underlying48 hi0 (some ⟨g, 0, none⟩) ds.length cap k (k + 1) ds.length (by omega) (by omega) hcap
  have h4 := fun W => cut_upto (P := Try.prog) 48 57 Try.underlying48 hi0 (some ⟨g, 0, none⟩) ds.length cap k (by omega) W
  have h5 := fun W => cut_from (P := Try.prog) 48 57 Try.underlying48 hi0 (some ⟨g, 0, none⟩) ds.length cap (k + 1) (by omega) W
  have h6 := fun W => cut_two (P := Try.prog) 48 57 Try.underlying48 hi0 (some ⟨g, 0, none⟩) (ds.length - 1) cap (ds.length - 1) ds.length (by omega) hcap W
  rw [hsz, if_neg (by omega), Option.map_some, add_plain, show ds.length - (ds.length - 1) = 1 from by omega] at h6
  rw [hsz] at h5
  have ek : ((k + 1 : Nat) : Int) = (k : Int) + 1 := by omega
  rw [ek] at h3
  simp only [ek] at h5
  have hkk : (((k : Nat) : Int) == ((k : Int) + 1)) = false := beq_eq_false_iff_ne.2 (by omega)
  obtain ⟨A5, e5⟩ : ∃ A5, A5 = if cap = k + 1 then some (⟨g, 0, none⟩ : Addr) else (some (⟨g, 0, none⟩ : Addr)).map (·.add ((k + 1) * 2)) := ⟨_, rfl⟩
  rw [← e5] at h5
  obtain ⟨ok1, HO⟩ := H.raw
  replace HO := Aside0.mk (show (Kd.raw 2).R 57 w base ok1 (.slice (some ⟨g, 0, none⟩) ds.length cap) (ds.map (fun x : Dg => x.2)) from HO)
  have HN := Aside0.mk (show 0 < ds.length from by omega)
  replace H := Aside0.mk H
  replace e5 := Aside0.mk e5
  have HK := Aside0.mk hk
  have HX := Aside0.mk hx
  have HC := Aside0.mk hcap
  clear hk hx hcap hsz hi0 ek
  go_enter Try.func27, Try.ntmps27
  go_wp2_with fail
  go_region_law
    (refine Kd.R_delete_step (Kd.raw 2) (w0 := w0) base (by rfl) (.tmp 22) (.tmp 25) 48 57 (by rfl) Try.underlying48 size57 (g := g) (n := ds.length) (c := cap) (k := k) (m := ds.length - (k + 1)) (c2 := cap - (k + 1)) (A := A5) (xs := ds.map (fun x : Dg => x.2)) (ok := ok1) (by rfl) (by rfl) e5.out (by rfl) (Kd.R_drew HO.out) HK.out H.out.drew.1 H.out.drew.2.1 ?_; intro w1 hR1 hB1 hG1; obtain ⟨cur', hcl, HE⟩ := del_mid H.out HX.out HN.out HC.out hR1 hG1; replace HE := Aside0.mk HE; clear hR1 hB1 hG1)
  all_goals
    go_wp2
    go_ret
    exact ⟨rfl, HE.out⟩
end Go.Proofs.Ytjcpchkbhgijkaa.Net
