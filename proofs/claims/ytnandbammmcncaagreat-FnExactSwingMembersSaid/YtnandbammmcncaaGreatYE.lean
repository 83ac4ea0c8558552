/- Votes without one, walked; the count without a member, both. The count without a member, walked: the program's. FnExactCountWithout, walked. -/
import Derived.Test.YtnandbammmcncaaGreatYG
namespace Go.Proofs.YtnandbammmcncaaGreat
open Go.RowKit Go.Lib

def WoPost (vs : List Int) (m : Nat) (w : World) (e : Ending) (w' : World) : Prop :=
  ∃ g c, e = .returned (.slice (some ⟨g, 0, none⟩) vs.length c) ∧ OwnL intCells (vs.set m 0) w.heap.size w' (.slice (some ⟨g, 0, none⟩) vs.length c) ∧ Below w.heap.size w w'
theorem wo_set {vs : List Int} {m g c base : Nat} {w : World} (hm : m < vs.length) (hg : base ≤ g) (hl : g < w.heap.size) (hc : vs.length ≤ c) (hcm : c ≤ maxLen) (h : Row w g (vs.flatMap intCells)) : OwnL intCells (vs.set m 0) base (w.setCell ⟨g, m, none⟩ (.int .i64 0)) (.slice (some ⟨g, 0, none⟩) vs.length c) :=
  ⟨some ⟨g, 0, none⟩, c, by rw [List.length_set], by rw [List.length_set]; exact hc, hcm, fun _ => ⟨g, rfl, hg, by simpa using hl, by
    rw [flat_ints] at h ⊢
    rw [List.map_set]
    exact h.set m _ (by rw [List.length_map]; exact hm)⟩⟩
set_option maxHeartbeats 2000000 in
theorem wo1_any (vs : List Int) (m : Nat) (v : Value) (w : World) (hV : Ints w w.heap.size v vs) (hm : m < vs.length) (hl : vs.length ≤ 1048576) :
    Calls Tryz.prog 72 #[v, .int .i64 (m : Int)] w (WoPost vs m w) := by
  have HOW := Lib.hid (own64_any vs w v hV hl)
  unfold RetOwnS at HOW
  unfold WoPost
  obtain ⟨A0, c0, rfl, _⟩ := hV.sl
  clear hV
  go_enter Tryz.func72, Tryz.ntmps72
  go_wp2_with (fail)
  refine HOW.out.mono ?_
  rintro e w1 ⟨A9, c9, rfl, hO1, hb1⟩
  obtain ⟨A1, c1, hv1, hc1, hm1, hg1⟩ := hO1
  obtain ⟨g1, rfl, hgb, hgl, hr1⟩ := hg1 (by intro e; rw [e] at hm; simp at hm)
  injection hv1 with e1 e2 e3; subst e1 e3
  have x0 := hr1.cell m (.int .i64 vs[m]) (by rw [flat_ints, List.getElem?_map, List.getElem?_eq_getElem hm]; rfl)
  have f0 := hr1.free m (by rw [flat_ints, List.length_map]; exact hm)
  have hmi : (m : Int) < (vs.length : Int) := by omega
  have HF := Lib.hid (wo_set hm hgb hgl hc1 hm1 hr1)
  have HBF := Lib.hid (hb1.setCell (p := ⟨g1, m, none⟩) hgb (.int .i64 0))
  clear hr1 hg1 hb1
  generalize vs[m] = old at *
  go_wp2
  go_ret
  exact ⟨g1, _, rfl, HF.out, HBF.out⟩
set_option maxHeartbeats 2000000 in
theorem wo2_any (vs : List Int) (m : Nat) (ad : Addr) (cv : Nat) (w : World) (hV : Ints w w.heap.size (.slice (some ad) vs.length cv) vs) (hm : m < vs.length) (hl : vs.length ≤ 1048576) :
    Calls Tryz.prog 73 #[.slice (some ad) vs.length cv, .int .i64 (m : Int)] w (WoPost vs m w) := by
  have HOW := Lib.hid (clone_some vs ad cv w hV hl)
  unfold ClonePost at HOW
  unfold WoPost
  clear hV
  go_enter Tryz.func73, Tryz.ntmps73
  go_wp2_with (fail)
  refine HOW.out.mono ?_
  rintro e w1 ⟨v9, rfl, hown, hb1⟩
  have hO1 : OwnL intCells vs w.heap.size w1 v9 := OwnL.of_own intCells (size := 1) (fun _ => rfl) hown
  clear hown
  obtain ⟨A1, c1, hv1, hc1, hm1, hg1⟩ := hO1
  obtain ⟨g1, rfl, hgb, hgl, hr1⟩ := hg1 (by intro e; rw [e] at hm; simp at hm)
  subst hv1
  have x0 := hr1.cell m (.int .i64 vs[m]) (by rw [flat_ints, List.getElem?_map, List.getElem?_eq_getElem hm]; rfl)
  have f0 := hr1.free m (by rw [flat_ints, List.length_map]; exact hm)
  have hmi : (m : Int) < (vs.length : Int) := by omega
  have HF := Lib.hid (wo_set hm hgb hgl hc1 hm1 hr1)
  have HBF := Lib.hid (hb1.setCell (p := ⟨g1, m, none⟩) hgb (.int .i64 0))
  clear hr1 hg1 hb1
  generalize vs[m] = old at *
  go_wp2
  go_ret
  exact ⟨g1, _, rfl, HF.out, HBF.out⟩

noncomputable def okM (a : Asm) (t : ByteArray) (m : Int) : Bool := knownB a t && inB m 0 ((a.trust.length : Int) - 1)
noncomputable def countWo (a : Asm) (t : ByteArray) (m : Int) : List Int := if okM a t m = true then countM a ((motOf a t).votes.set m.toNat 0) else []
end Go.Proofs.YtnandbammmcncaaGreat

namespace Go.Proofs.YtnandbammmcncaaGreat
open Go.RowKit Go.Lib

end Go.Proofs.YtnandbammmcncaaGreat

namespace Go.Proofs.YtnandbammmcncaaGreat
open Go.RowKit Go.Lib

end Go.Proofs.YtnandbammmcncaaGreat
