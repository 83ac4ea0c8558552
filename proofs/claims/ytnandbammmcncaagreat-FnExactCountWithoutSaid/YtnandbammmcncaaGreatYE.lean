/- Votes without one, walked; the count without a member, both. The count without a member, walked: the program's. FnExactCountWithout, walked. -/
import Derived.Test.YtnandbammmcncaaGreatYG
namespace Go.Proofs.YtnandbammmcncaaGreat
open Go.RowKit Go.Lib

def WoPost (vs : List Int) (m : Nat) (w : World) (e : Ending) (w' : World) : Prop :=
  ∃ g c, e = .returned (.slice (some ⟨g, 0, none⟩) vs.length c) ∧ OwnL intCells (vs.set m 0) w.heap.size w' (.slice (some ⟨g, 0, none⟩) vs.length c) ∧ Below w.heap.size w w'
theorem wo_set {vs : List Int} {m g c base : Nat} {w : World} (hm : m < vs.length) (hg : base ≤ g) (hl : g < w.heap.size) (hc : vs.length ≤ c) (hcm : c ≤ maxLen) (h : Row w g (vs.flatMap intCells)) : OwnL intCells (vs.set m 0) base (w.setCell ⟨g, m, none⟩ (.int .i64 0)) (.slice (some ⟨g, 0, none⟩) vs.length c) :=
  ⟨some ⟨g, 0, none⟩, c, by rw [List.length_set], by rw [List.length_set]; exact hc, hcm, fun _ => ⟨g, rfl, hg, by simpa using hl, by
    rw [flat_ints] at h ⊢
    rw [List.map_set]
    exact h.set m _ (by rw [List.length_map]; exact hm)⟩⟩
set_option maxHeartbeats 2000000 in
theorem wo1_any (vs : List Int) (m : Nat) (v : Value) (w : World) (hV : Ints w w.heap.size v vs) (hm : m < vs.length) (hl : vs.length ≤ 1048576) :
    Calls Tryz.prog 72 #[v, .int .i64 (m : Int)] w (WoPost vs m w) := by
  have HOW := Lib.hid (own64_any vs w v hV hl)
  unfold RetOwnS at HOW
  unfold WoPost
  obtain ⟨A0, c0, rfl, _⟩ := hV.sl
  clear hV
  go_enter Tryz.func72, Tryz.ntmps72
  go_wp2_with (fail)
  refine HOW.out.mono ?_
  rintro e w1 ⟨A9, c9, rfl, hO1, hb1⟩
  obtain ⟨A1, c1, hv1, hc1, hm1, hg1⟩ := hO1
  obtain ⟨g1, rfl, hgb, hgl, hr1⟩ := hg1 (by intro e; rw [e] at hm; simp at hm)
  injection hv1 with e1 e2 e3; subst e1 e3
  have x0 := hr1.cell m (.int .i64 vs[m]) (by rw [flat_ints, List.getElem?_map, List.getElem?_eq_getElem hm]; rfl)
  have f0 := hr1.free m (by rw [flat_ints, List.length_map]; exact hm)
  have hmi : (m : Int) < (vs.length : Int) := by omega
  have HF := Lib.hid (wo_set hm hgb hgl hc1 hm1 hr1)
  have HBF := Lib.hid (hb1.setCell (p := ⟨g1, m, none⟩) hgb (.int .i64 0))
  clear hr1 hg1 hb1
  generalize vs[m] = old at *
  go_wp2
  go_ret
  exact ⟨g1, _, rfl, HF.out, HBF.out⟩
set_option maxHeartbeats 2000000 in
theorem wo2_any (vs : List Int) (m : Nat) (ad : Addr) (cv : Nat) (w : World) (hV : Ints w w.heap.size (.slice (some ad) vs.length cv) vs) (hm : m < vs.length) (hl : vs.length ≤ 1048576) :
    Calls Tryz.prog 73 #[.slice (some ad) vs.length cv, .int .i64 (m : Int)] w (WoPost vs m w) := by
  have HOW := Lib.hid (clone_some vs ad cv w hV hl)
  unfold ClonePost at HOW
  unfold WoPost
  clear hV
  go_enter Tryz.func73, Tryz.ntmps73
  go_wp2_with (fail)
  refine HOW.out.mono ?_
  rintro e w1 ⟨v9, rfl, hown, hb1⟩
  have hO1 : OwnL intCells vs w.heap.size w1 v9 := OwnL.of_own intCells (size := 1) (fun _ => rfl) hown
  clear hown
  obtain ⟨A1, c1, hv1, hc1, hm1, hg1⟩ := hO1
  obtain ⟨g1, rfl, hgb, hgl, hr1⟩ := hg1 (by intro e; rw [e] at hm; simp at hm)
  subst hv1
  have x0 := hr1.cell m (.int .i64 vs[m]) (by rw [flat_ints, List.getElem?_map, List.getElem?_eq_getElem hm]; rfl)
  have f0 := hr1.free m (by rw [flat_ints, List.length_map]; exact hm)
  have hmi : (m : Int) < (vs.length : Int) := by omega
  have HF := Lib.hid (wo_set hm hgb hgl hc1 hm1 hr1)
  have HBF := Lib.hid (hb1.setCell (p := ⟨g1, m, none⟩) hgb (.int .i64 0))
  clear hr1 hg1 hb1
  generalize vs[m] = old at *
  go_wp2
  go_ret
  exact ⟨g1, _, rfl, HF.out, HBF.out⟩

noncomputable def okM (a : Asm) (t : ByteArray) (m : Int) : Bool := knownB a t && inB m 0 ((a.trust.length : Int) - 1)
noncomputable def countWo (a : Asm) (t : ByteArray) (m : Int) : List Int := if okM a t m = true then countM a ((motOf a t).votes.set m.toNat 0) else []
theorem countWo_no {a : Asm} {t : ByteArray} {m : Int} (h : okM a t m = false) : countWo a t m = [] := by unfold countWo; rw [if_neg (by rw [h]; simp)]
theorem countWo_yes {a : Asm} {t : ByteArray} {m : Int} (h : okM a t m = true) : countWo a t m = countM a ((motOf a t).votes.set m.toNat 0) := by unfold countWo; rw [if_pos h]
theorem countWo_len (a : Asm) (t : ByteArray) (m : Int) : (countWo a t m).length ≤ 1048576 := by
  unfold countWo
  split
  · rw [countM_len]; omega
  · simp

set_option maxRecDepth 100000 in
set_option maxHeartbeats 4000000 in
theorem countWo1_any (a : Asm) (x : VAsm) (t : ByteArray) (m : Int) (w : World) (h : AsmR w w.heap.size x a) (hs : AsmSz a) : Calls Tryz.prog 24 #[asmV a x, .string t, .int .i64 m] w (ResP (intK (countWo a t m)).own (okM a t m) w) := by
  obtain ⟨At, ct, Ab, cb, Ac, cc, Am, cm, rfl⟩ := h.slices
  unfold asmV
  obtain ⟨W, hW⟩ : ∃ W : World, W = w.alloc (.cells #[.int .i64 a.day, .int .i64 a.rule, .slice At a.trust.length ct, .slice Ab a.base.length cb, .slice Ac a.acts.length cc, .slice Am a.mots.length cm] 36) := ⟨_, rfl⟩
  have bW : Below w.heap.size w W := by rw [hW]; exact (Below.refl _ _).alloc (Nat.le_refl _) _
  have a1 : Row W w.heap.size [.int .i64 a.day, .int .i64 a.rule, .slice At a.trust.length ct, .slice Ab a.base.length cb, .slice Ac a.acts.length cc, .slice Am a.mots.length cm] := by rw [hW]; exact Row.new w _ _
  have z0 := fun y : Aft W => y.cell (a1.cell 0 _ rfl)
  have z1 := fun y : Aft W => y.cell (a1.cell 1 _ rfl)
  have z2 := fun y : Aft W => y.cell (a1.cell 2 _ rfl)
  have z3 := fun y : Aft W => y.cell (a1.cell 3 _ rfl)
  have z4 := fun y : Aft W => y.cell (a1.cell 4 _ rfl)
  have z5 := fun y : Aft W => y.cell (a1.cell 5 _ rfl)
  have hRW := h.on bW bW.size
  have HR := Lib.hid (fun y : Aft W => h.on (aft_done bW y) (aft_done bW y).size)
  have HGM : Hid (0 < a.mots.length → ∃ b off, Am = some ⟨b, off, none⟩ ∧ b < W.heap.size ∧ ∀ (k : Nat) (m : Mot), a.mots[k]? = some m → ∃ A1 c1 A2 c2, MotP W W.heap.size b (off + k * 8) m A1 c1 A2 c2) := Lib.hid (by
    obtain ⟨A, c, hv, _, _, h⟩ := mots_at hRW.m
    have hv : Value.slice Am a.mots.length cm = .slice A a.mots.length c := hv
    injection hv with e1 e2 e3
    rw [e1]
    exact h)
  have HW := Lib.hid hW
  have HROW := Lib.hid a1
  have sW : w.heap.size < W.heap.size := by rw [hW]; simp
  obtain ⟨x0, hx0⟩ : ∃ y : Aft W, y.val = W := ⟨⟨W, Below.refl _ _⟩, rfl⟩
  have HX0 := Lib.hid hx0
  have HOK := Lib.hid (fun y : Aft W => ok1_any a ⟨.slice At a.trust.length ct, .slice Ab a.base.length cb, .slice Ac a.acts.length cc, .slice Am a.mots.length cm⟩ w.heap.size 0 y.val (z0 y) (z1 y) (z2 y) (z3 y) (z4 y) (z5 y) (HR.out y) hs)
  have HFI := Lib.hid (fun y : Aft W => find1_anyT a ⟨.slice At a.trust.length ct, .slice Ab a.base.length cb, .slice Ac a.acts.length cc, .slice Am a.mots.length cm⟩ t w.heap.size 0 y.val (by rw [Nat.zero_add]; exact z5 y) (HR.out y).m)
  clear h hW a1 hx0 hRW hs
  cases hv : okAsm a with
  | false =>
    have hkb : okM a t m = false := by unfold okM; rw [known_bad hv]; rfl
    have HN := Lib.hid (countWo_no hkb)
    rw [hv] at HOK
    rw [hkb]
    clear hv hkb
    go_enter Tryz.func24, Tryz.ntmps24
    go_wp2_with (fail)
    rw [← HW.out, ← HX0.out]
    refine (aft_b (HOK.out x0)).mono ?_
    rintro e _ ⟨rfl, x1, rfl⟩
    go_wp2
    go_ret2
    exact ⟨_, rfl, by show OwnL intCells (countWo a t m) _ _ _; rw [HN.out]; exact OwnL.nil _ _ _, aft_done bW x1⟩
  | true =>
    rw [hv] at HOK
    have hok := okAsm_ok hv
    have hn12 := hok.n12
    have hn1 := hok.n1
    have hwn : IntKind.i64.wrap ((a.trust.length : Int) - 1) = (a.trust.length : Int) - 1 := IntWalk.i64_in _ (by omega)
    cases hi : inB m 0 ((a.trust.length : Int) - 1) with
    | false =>
      have hkb : okM a t m = false := by unfold okM; rw [hi, Bool.and_false]
      have HN := Lib.hid (countWo_no hkb)
      rw [hkb]
      have HIN := Lib.hid hi
      clear hv hkb hi hok
      go_enter Tryz.func24, Tryz.ntmps24
      go_wp2_with (fail)
      rw [← HW.out, ← HX0.out]
      refine (aft_b (HOK.out x0)).mono ?_
      rintro e _ ⟨rfl, x1, rfl⟩
      go_wp2_with (fail)
      refine (aft_q (in1_val _ _ _ _ _ HIN.out)).mono ?_
      rintro e _ ⟨rfl, x2, rfl⟩
      go_wp2
      go_ret2
      exact ⟨_, rfl, by show OwnL intCells (countWo a t m) _ _ _; rw [HN.out]; exact OwnL.nil _ _ _, aft_done bW x2⟩
    | true =>
      have HIN := Lib.hid hi
      have hm0 := inB_iff.1 hi
      cases hk : knownB a t with
      | false =>
        have hkb : okM a t m = false := by unfold okM; rw [hk]; rfl
        have hn := known_not hk hv
        have HN := Lib.hid (countWo_no hkb)
        rw [hkb]
        generalize findT a.mots t = n at *
        clear hk hv hkb hi hok hm0
        go_enter Tryz.func24, Tryz.ntmps24
        go_wp2_with (fail)
        rw [← HW.out, ← HX0.out]
        refine (aft_b (HOK.out x0)).mono ?_
        rintro e _ ⟨rfl, x1, rfl⟩
        go_wp2_with (fail)
        refine (aft_q (in1_val _ _ _ _ _ HIN.out)).mono ?_
        rintro e _ ⟨rfl, x2, rfl⟩
        go_wp2_with (fail)
        refine (aft_b (HFI.out x2)).mono ?_
        rintro e _ ⟨rfl, x3, rfl⟩
        go_wp2
        go_ret2
        exact ⟨_, rfl, by show OwnL intCells (countWo a t m) _ _ _; rw [HN.out]; exact OwnL.nil _ _ _, aft_done bW x3⟩
      | true =>
        have hkb : okM a t m = true := by unfold okM; rw [hk, hi]; rfl
        obtain ⟨_, k, hfk, hkl, hkm⟩ := known_at hk
        have HY := Lib.hid (countWo_yes hkb)
        rw [hkb]
        obtain ⟨mm, rfl⟩ : ∃ mm : Nat, m = (mm : Int) := ⟨m.toNat, by omega⟩
        rw [Int.toNat_natCast] at HY
        have hvl := hok.votes hkm
        obtain ⟨b2, off, rfl, hb2, hcell⟩ := HGM.out (by omega)
        obtain ⟨A1, c1, A2, c2, hP⟩ := hcell k _ hkm
        have t6 := fun y : Aft W => y.cell hP.k6
        have HI := Lib.hid (fun y : Aft W => (hP.on y.ok y.ok.size hb2).ints)
        rw [hfk] at HFI
        have hnk : ¬ (k : Int) < 0 := by omega
        have hk0 : (0 : Int) ≤ (k : Int) := by omega
        have hki : (k : Int) < (a.mots.length : Int) := by omega
        generalize motOf a t = q at *
        have HWO := Lib.hid (fun y : Aft W => wo1_any q.votes mm _ y.val (HI.out y) (by omega) (by omega))
        have HCO := Lib.hid (fun (y : Aft W) (Av : Option Addr) (cv : Nat) (hv : Ints y.val y.val.heap.size (.slice Av (q.votes.set mm 0).length cv) (q.votes.set mm 0)) => count1_any a At ct (q.votes.set mm 0) w.heap.size 0 Av cv y.val (by rw [Nat.zero_add]; exact z1 y) (by rw [Nat.zero_add]; exact z2 y) (HR.out y).t hv (by rw [List.length_set]; exact hvl) hok)
        rw [List.length_set] at HCO
        unfold WoPost at HWO
        unfold CountPost at HCO
        clear hk hv hfk hkm hcell hP hvl hkb hi hok hm0
        go_enter Tryz.func24, Tryz.ntmps24
        go_wp2_with (fail)
        rw [← HW.out, ← HX0.out]
        refine (aft_b (HOK.out x0)).mono ?_
        rintro e _ ⟨rfl, x1, rfl⟩
        go_wp2_with (fail)
        refine (aft_q (in1_val _ _ _ _ _ HIN.out)).mono ?_
        rintro e _ ⟨rfl, x2, rfl⟩
        go_wp2_with (fail)
        refine (aft_b (HFI.out x2)).mono ?_
        rintro e _ ⟨rfl, x3, rfl⟩
        go_wp2_with (fail)
        refine (HWO.out x3).mono ?_
        rintro e w4 ⟨g4, c4, rfl, hO4, hb4⟩
        obtain ⟨x4, rfl⟩ : ∃ y : Aft W, w4 = y.val := ⟨⟨w4, x3.ok.trans (hb4.mono x3.ok.size)⟩, rfl⟩
        have HC4 := Lib.hid (HCO.out x4 _ c4 (by have := hO4.slR (size := 1) (fun _ => rfl); exact this))
        clear hO4 hb4
        go_wp2_with (fail)
        refine HC4.out.mono ?_
        rintro e w5 ⟨g5, rfl, hT, hb5⟩
        have HT := Lib.hid (hT.less (Nat.le_trans bW.size x4.ok.size))
        have hbb := (aft_done bW x4).trans (hb5.mono (aft_done bW x4).size)
        clear hT hb5
        go_wp2
        go_ret2
        exact ⟨_, rfl, by show OwnL intCells (countWo a t _) _ _ _; rw [HY.out]; exact HT.out, hbb⟩
end Go.Proofs.YtnandbammmcncaaGreat

namespace Go.Proofs.YtnandbammmcncaaGreat
open Go.RowKit Go.Lib

set_option maxRecDepth 100000 in
set_option maxHeartbeats 8000000 in
theorem countWo2_any (a : Asm) (x : VAsm) (t : ByteArray) (m : Int) (w : World) (h : AsmR w w.heap.size x a) (hs : AsmSz a) : Calls Tryz.prog 25 #[asmV a x, .string t, .int .i64 m] w (ResP (intK (countWo a t m)).own (okM a t m) w) := by
  obtain ⟨At, ct, Ab, cb, Ac, cc, Am, cm, rfl⟩ := h.slices
  unfold asmV
  obtain ⟨W, hW⟩ : ∃ W : World, W = w.alloc (.cells #[.int .i64 a.day, .int .i64 a.rule, .slice At a.trust.length ct, .slice Ab a.base.length cb, .slice Ac a.acts.length cc, .slice Am a.mots.length cm] 36) := ⟨_, rfl⟩
  have bW : Below w.heap.size w W := by rw [hW]; exact (Below.refl _ _).alloc (Nat.le_refl _) _
  have a1 : Row W w.heap.size [.int .i64 a.day, .int .i64 a.rule, .slice At a.trust.length ct, .slice Ab a.base.length cb, .slice Ac a.acts.length cc, .slice Am a.mots.length cm] := by rw [hW]; exact Row.new w _ _
  have z0 := fun y : Aft W => y.cell (a1.cell 0 _ rfl)
  have z1 := fun y : Aft W => y.cell (a1.cell 1 _ rfl)
  have z2 := fun y : Aft W => y.cell (a1.cell 2 _ rfl)
  have z3 := fun y : Aft W => y.cell (a1.cell 3 _ rfl)
  have z4 := fun y : Aft W => y.cell (a1.cell 4 _ rfl)
  have z5 := fun y : Aft W => y.cell (a1.cell 5 _ rfl)
  have hRW := h.on bW bW.size
  have HR := Lib.hid (fun y : Aft W => h.on (aft_done bW y) (aft_done bW y).size)
  have HGM : Hid (0 < a.mots.length → ∃ b off, Am = some ⟨b, off, none⟩ ∧ b < W.heap.size ∧ ∀ (k : Nat) (m : Mot), a.mots[k]? = some m → ∃ A1 c1 A2 c2, MotP W W.heap.size b (off + k * 8) m A1 c1 A2 c2) := Lib.hid (by
    obtain ⟨A, c, hv, _, _, h⟩ := mots_at hRW.m
    have hv : Value.slice Am a.mots.length cm = .slice A a.mots.length c := hv
    injection hv with e1 e2 e3
    rw [e1]
    exact h)
  have HW := Lib.hid hW
  have HROW := Lib.hid a1
  have sW : w.heap.size < W.heap.size := by rw [hW]; simp
  obtain ⟨x0, hx0⟩ : ∃ y : Aft W, y.val = W := ⟨⟨W, Below.refl _ _⟩, rfl⟩
  have HX0 := Lib.hid hx0
  have HKN := Lib.hid (fun y : Aft W => known2_any a At ct Ab cb Ac cc Am cm t y.val (HR.out y) hs)
  clear h hW a1 hx0 hRW hs
  cases hk : knownB a t with
  | false =>
    have hkb : okM a t m = false := by unfold okM; rw [hk]; rfl
    have HN := Lib.hid (countWo_no hkb)
    rw [hkb]
    rw [hk] at HKN
    clear hk hkb
    go_enter Tryz.func25, Tryz.ntmps25
    go_wp2_with (fail)
    rw [← HW.out, ← HX0.out]
    refine (aft_b (HKN.out x0)).mono ?_
    rintro e _ ⟨rfl, x1, rfl⟩
    go_wp2
    go_ret2
    exact ⟨_, rfl, by show OwnL intCells (countWo a t m) _ _ _; rw [HN.out]; exact OwnL.nil _ _ _, aft_done bW x1⟩
  | true =>
    rw [hk] at HKN
    obtain ⟨hv, k, hfk, hkl, hkm⟩ := known_at hk
    have hok := okAsm_ok hv
    have hn12 := hok.n12
    have hn1 := hok.n1
    have hwn : IntKind.i64.wrap ((a.trust.length : Int) - 1) = (a.trust.length : Int) - 1 := IntWalk.i64_in _ (by omega)
    rw [hfk] at HKN
    cases hi : inB m 0 ((a.trust.length : Int) - 1) with
    | false =>
      have hkb : okM a t m = false := by unfold okM; rw [hi, Bool.and_false]
      have HN := Lib.hid (countWo_no hkb)
      rw [hkb]
      have HIN := Lib.hid hi
      clear hv hkb hi hok hk hfk hkm
      go_enter Tryz.func25, Tryz.ntmps25
      go_wp2_with (fail)
      rw [← HW.out, ← HX0.out]
      refine (aft_b (HKN.out x0)).mono ?_
      rintro e _ ⟨rfl, x1, rfl⟩
      go_wp2_with (fail)
      refine (aft_q (in2_val _ _ _ _ _ HIN.out)).mono ?_
      rintro e _ ⟨rfl, x2, rfl⟩
      go_wp2
      go_ret2
      exact ⟨_, rfl, by show OwnL intCells (countWo a t m) _ _ _; rw [HN.out]; exact OwnL.nil _ _ _, aft_done bW x2⟩
    | true =>
      have HIN := Lib.hid hi
      have hm0 := inB_iff.1 hi
      have hkb : okM a t m = true := by unfold okM; rw [hk, hi]; rfl
      have HY := Lib.hid (countWo_yes hkb)
      rw [hkb]
      obtain ⟨mm, rfl⟩ : ∃ mm : Nat, m = (mm : Int) := ⟨m.toNat, by omega⟩
      rw [Int.toNat_natCast] at HY
      have hvl := hok.votes hkm
      obtain ⟨b2, off, rfl, hb2, hcell⟩ := HGM.out (by omega)
      obtain ⟨A1, c1, A2, c2, hP⟩ := hcell k _ hkm
      have HK6 := Lib.hid (fun y : Aft W => y.cell hP.k6)
      have HI := Lib.hid (fun y : Aft W => (hP.on y.ok y.ok.size hb2).ints)
      have hk0 : (0 : Int) ≤ (k : Int) := by omega
      have hki : (k : Int) < (a.mots.length : Int) := by omega
      generalize motOf a t = q at *
      obtain ⟨ad2, hA2⟩ : ∃ ad, A2 = some ad := by
        have hg := hP.ints
        obtain ⟨b0, o0, e0, _⟩ := ints_get hg (List.getElem?_eq_getElem (show 0 < q.votes.length by omega))
        exact ⟨_, e0⟩
      subst hA2
      have HWO := Lib.hid (fun (W' : World) (hb : Below W.heap.size W W') => wo2_any q.votes mm ad2 c2 W' (HI.out ⟨W', hb⟩) (by omega) (by omega))
      have HCO := Lib.hid (fun (W' : World) (hb : Below W.heap.size W W') (Av : Option Addr) (cv : Nat) (hv : Ints W' W'.heap.size (.slice Av (q.votes.set mm 0).length cv) (q.votes.set mm 0)) => count2_any a At ct Ab cb Ac cc (some ⟨b2, off, none⟩) cm (q.votes.set mm 0) Av cv W' (HR.out ⟨W', hb⟩).t hv (by rw [List.length_set]; exact hvl) hok)
      rw [List.length_set] at HCO
      unfold WoPost at HWO
      unfold CountPost at HCO
      clear hk hv hfk hkm hcell hP hvl hkb hi hok hm0
      go_enter Tryz.func25, Tryz.ntmps25
      go_wp2_with (fail)
      rw [← HW.out, ← HX0.out]
      refine (aft_b (HKN.out x0)).mono ?_
      rintro e _ ⟨rfl, x1, rfl⟩
      go_wp2_with (fail)
      refine (aft_q (in2_val _ _ _ _ _ HIN.out)).mono ?_
      rintro e _ ⟨rfl, x2, rfl⟩
      have HKEEP : Hid (∀ w', Below W.heap.size W w' → w'.cell? ⟨w.heap.size, 0, none⟩ = some (.int .i64 a.day) ∧ w'.cell? ⟨w.heap.size, 1, none⟩ = some (.int .i64 a.rule) ∧ w'.cell? ⟨w.heap.size, 2, none⟩ = some (.slice At a.trust.length ct) ∧ w'.cell? ⟨w.heap.size, 3, none⟩ = some (.slice Ab a.base.length cb) ∧ w'.cell? ⟨w.heap.size, 4, none⟩ = some (.slice Ac a.acts.length cc) ∧ w'.cell? ⟨w.heap.size, 5, none⟩ = some (.slice (some ⟨b2, off, none⟩) a.mots.length cm) ∧ w'.cell? ⟨b2, off + k * 8 + 6, none⟩ = some (.slice (some ad2) q.votes.length c2) ∧ Below W.heap.size W w') := Lib.hid (fun X hX => ⟨(HROW.out.below hX sW).cell 0 _ rfl, (HROW.out.below hX sW).cell 1 _ rfl, (HROW.out.below hX sW).cell 2 _ rfl, (HROW.out.below hX sW).cell 3 _ rfl, (HROW.out.below hX sW).cell 4 _ rfl, (HROW.out.below hX sW).cell 5 _ rfl, HK6.out ⟨X, hX⟩, hX⟩)
      have HBEL : Hid (∀ w', w'.cell? ⟨w.heap.size, 0, none⟩ = some (.int .i64 a.day) ∧ w'.cell? ⟨w.heap.size, 1, none⟩ = some (.int .i64 a.rule) ∧ w'.cell? ⟨w.heap.size, 2, none⟩ = some (.slice At a.trust.length ct) ∧ w'.cell? ⟨w.heap.size, 3, none⟩ = some (.slice Ab a.base.length cb) ∧ w'.cell? ⟨w.heap.size, 4, none⟩ = some (.slice Ac a.acts.length cc) ∧ w'.cell? ⟨w.heap.size, 5, none⟩ = some (.slice (some ⟨b2, off, none⟩) a.mots.length cm) ∧ w'.cell? ⟨b2, off + k * 8 + 6, none⟩ = some (.slice (some ad2) q.votes.length c2) ∧ Below W.heap.size W w' → Below W.heap.size W w') := Lib.hid (fun X hX => hX.2.2.2.2.2.2.2)
      have bx := x2.ok
      obtain ⟨U, hU⟩ : ∃ U, U = x2.val := ⟨_, rfl⟩
      rw [← hU] at bx ⊢
      have hc := HKEEP.out U bx
      obtain ⟨q0, q1, q2, q3, q4, q5, q6, -⟩ := hc
      clear hU z0 z1 z2 z3 z4 z5
      go_wp2_with (fail)
      go_region_held3 (fun w' => w'.cell? ⟨w.heap.size, 0, none⟩ = some (.int .i64 a.day) ∧ w'.cell? ⟨w.heap.size, 1, none⟩ = some (.int .i64 a.rule) ∧ w'.cell? ⟨w.heap.size, 2, none⟩ = some (.slice At a.trust.length ct) ∧ w'.cell? ⟨w.heap.size, 3, none⟩ = some (.slice Ab a.base.length cb) ∧ w'.cell? ⟨w.heap.size, 4, none⟩ = some (.slice Ac a.acts.length cc) ∧ w'.cell? ⟨w.heap.size, 5, none⟩ = some (.slice (some ⟨b2, off, none⟩) a.mots.length cm) ∧ w'.cell? ⟨b2, off + k * 8 + 6, none⟩ = some (.slice (some ad2) q.votes.length c2) ∧ Below W.heap.size W w')
        (first | exact HKEEP.out _ bx | exact HKEEP.out _ bx.drew | exact HKEEP.out _ ((HBEL.out _ (by assumption)).trans (Below.mono (by assumption) (HBEL.out _ (by assumption)).size)))
        (first | (go_at_call 73; refine Calls.mono (HWO.out _ (HBEL.out _ (by assumption))) ?_; rintro e w3 ⟨g3, c3, rfl, hO3, hb3⟩) | (go_at_call 71; refine Calls.mono (HCO.out w3 (HBEL.out _ (by assumption)) _ c3 (hO3.slR (size := 1) (fun _ => rfl))) ?_; rintro e w4 ⟨g4, rfl, hT, hb4⟩; have hS3 := HBEL.out w3 (by assumption)))
      all_goals
        have hb9 : Below W.heap.size W w4 := HBEL.out _ (by assumption)
        have HT := Lib.hid (hT.less (b := w.heap.size) (Nat.le_trans bW.size hS3.size))
        have hbb := bW.trans (hb9.mono bW.size)
        clear hT hb4 hO3 hb3
        go_wp2
        go_ret2
        exact ⟨_, rfl, by show OwnL intCells (countWo a t _) _ _ _; rw [HY.out]; exact HT.out, hbb⟩
end Go.Proofs.YtnandbammmcncaaGreat

namespace Go.Proofs.YtnandbammmcncaaGreat
open Go.RowKit Go.Lib

set_option maxRecDepth 100000 in
set_option maxHeartbeats 8000000 in
theorem lawYy_any (a : Asm) (x : VAsm) (t : ByteArray) (m : Int) (w : World) (h : AsmR w w.heap.size x a) (hs : AsmSz a) (ht9 : t.size ≤ maxLen) : Calls Tryz.prog 6 #[asmV a x, .string t, .int .i64 m] w (RetB (.bool true) w) := by
  unfold maxLen at ht9
  obtain ⟨At, ct, Ab, cb, Ac, cc, Am, cm, rfl⟩ := h.slices
  obtain ⟨W, hW⟩ : ∃ W : World, W = w.alloc (.cells #[.int .i64 a.day, .int .i64 a.rule, .slice At a.trust.length ct, .slice Ab a.base.length cb, .slice Ac a.acts.length cc, .slice Am a.mots.length cm] 27) := ⟨_, rfl⟩
  have bW : Below w.heap.size w W := by rw [hW]; exact (Below.refl _ _).alloc (Nat.le_refl _) _
  have a1 : Row W w.heap.size [.int .i64 a.day, .int .i64 a.rule, .slice At a.trust.length ct, .slice Ab a.base.length cb, .slice Ac a.acts.length cc, .slice Am a.mots.length cm] := by rw [hW]; exact Row.new w _ _
  have HSP := Lib.hid (fun W x (hx : AsmR W W.heap.size x a) => countWo1_any a x t m W hx hs)
  have HIM := Lib.hid (fun W x (hx : AsmR W W.heap.size x a) => countWo2_any a x t m W hx hs)
  have HEQ := Lib.hid (intK_eq (countWo a t m))
  have HMK := Lib.hid (intK_mark (countWo a t m) (countWo_len a t m))
  have HHD := Lib.hid (intK_held (countWo a t m) (countWo_len a t m))
  have z0 := fun y : Aft W => y.cell (a1.cell 0 _ rfl)
  have z1 := fun y : Aft W => y.cell (a1.cell 1 _ rfl)
  have z2 := fun y : Aft W => y.cell (a1.cell 2 _ rfl)
  have z3 := fun y : Aft W => y.cell (a1.cell 3 _ rfl)
  have z4 := fun y : Aft W => y.cell (a1.cell 4 _ rfl)
  have z5 := fun y : Aft W => y.cell (a1.cell 5 _ rfl)
  have HROW := Lib.hid a1
  have HR := Lib.hid (fun y : Aft W => h.on (aft_done bW y) (aft_done bW y).size)
  have HS := Lib.hid hs
  have HW := Lib.hid hW
  clear h hs hW a1
  unfold ResP at HSP HIM
  generalize intK (countWo a t m) = K at *
  obtain ⟨ok, hok⟩ : ∃ r, r = okM a t m := ⟨_, rfl⟩
  rw [← hok] at HSP HIM
  have hne : (ok != ok) = false := by cases ok <;> rfl
  clear hok
  unfold asmV
  by_cases ht : t.size ≤ 1048576
  case neg =>
    have h2 : (1048576 : Int) < (t.size : Int) := by omega
    go_enter Tryz.func6, Tryz.ntmps6
    go_wp2
    go_ret
    exact ⟨rfl, by rw [← HW.out]; exact bW⟩
  have h2 : ¬ (1048576 : Int) < (t.size : Int) := by omega
  go_enter Tryz.func6, Tryz.ntmps6
  go_wp2_with (fail)
  rw [← HW.out]
  obtain ⟨x0, hx0⟩ : ∃ y : Aft W, y.val = W := ⟨⟨W, Below.refl _ _⟩, rfl⟩
  rw [← hx0]
  clear hx0
  refine (szAsm_any a _ 1048576 _ (HR.out x0) HS.out (by omega) (by omega)).mono ?_
  rintro e1 w1 ⟨r, rfl, hr, hb1⟩
  obtain ⟨x1, rfl⟩ : ∃ y : Aft W, w1 = y.val := ⟨⟨w1, x0.ok.trans (hb1.mono x0.ok.size)⟩, rfl⟩
  clear hb1
  rcases hr with hr | ⟨hf, hr0, hr1⟩
  · go_wp2
    go_ret
    exact ⟨rfl, aft_done bW x1⟩
  have hrn : ¬ r < 0 := by omega
  have HF := Lib.hid hf
  clear hf
  go_wp2_with (fail)
  refine (toAsm_any a _ _ (HR.out x1) HF.out).mono ?_
  rintro e2 w2 ⟨y2, T2, C2, M2, rfl, hO2, hb2⟩
  obtain ⟨x2, rfl⟩ : ∃ y : Aft W, w2 = y.val := ⟨⟨w2, x1.ok.trans (hb2.mono x1.ok.size)⟩, rfl⟩
  have HO2 := Lib.hid hO2.r
  obtain ⟨B1, d1, B2, d2, B3, d3, B4, d4, rfl⟩ := hO2.r.slices
  clear hb2 hO2
  unfold asmV
  go_wp2_with (fail)
  refine (HSP.out _ _ HO2.out).mono ?_
  rintro e3 w3 ⟨vw, rfl, hvw, hb3⟩
  obtain ⟨x3, rfl⟩ : ∃ y : Aft W, w3 = y.val := ⟨⟨w3, x2.ok.trans (hb3.mono x2.ok.size)⟩, rfl⟩
  obtain ⟨AW, nW, cW, rfl⟩ := K.slice hvw
  have HVW := Lib.hid hvw
  clear hb3 hvw
  go_wp2_with (fail)
  refine (toAsm_any a _ _ (HR.out x3) HF.out).mono ?_
  rintro e4 w4 ⟨y4, T4, C4, M4, rfl, hO4, hb4⟩
  obtain ⟨x4, rfl⟩ : ∃ y : Aft W, w4 = y.val := ⟨⟨w4, x3.ok.trans (hb4.mono x3.ok.size)⟩, rfl⟩
  obtain ⟨D1, f1, D2, f2, D3, f3, D4, f4, rfl⟩ := hO4.r.slices
  have HB34 := Lib.hid hb4
  have HO4 := Lib.hid hO4
  clear hb4 hO4
  unfold asmV
  have hsz4 : w.heap.size < x4.val.heap.size := World.block_lt_of_cell? x4.val ⟨w.heap.size, 0, none⟩ (z0 x4)
  go_wp2_with (fail)
  obtain ⟨V, hV⟩ : ∃ V : World, V = x4.val.alloc (.cells #[.int .i64 a.day, .int .i64 a.rule, .slice D1 a.trust.length f1, .slice D2 a.base.length f2, .slice D3 a.acts.length f3, .slice D4 a.mots.length f4] 36) := ⟨_, rfl⟩
  have bV : Below x4.val.heap.size x4.val V := by rw [hV]; exact (Below.refl _ _).alloc (Nat.le_refl _) _
  have sV : x4.val.heap.size < V.heap.size := by rw [hV]; simp
  have r4 : Row V x4.val.heap.size [.int .i64 a.day, .int .i64 a.rule, .slice D1 a.trust.length f1, .slice D2 a.base.length f2, .slice D3 a.acts.length f3, .slice D4 a.mots.length f4] := by rw [hV]; exact Row.new x4.val _ _
  have b3V : Below x3.val.heap.size x3.val V := HB34.out.trans (bV.mono HB34.out.size)
  have bWV : Below W.heap.size W V := x3.ok.trans (b3V.mono x3.ok.size)
  have HROWV := Lib.hid (HROW.out.below bWV (by have : w.heap.size < W.heap.size := World.block_lt_of_cell? W ⟨w.heap.size, 0, none⟩ (HROW.out.cell 0 _ rfl); exact this))
  have HR4 := Lib.hid r4
  have HO := Lib.hid (HO4.out.below bV)
  have HB3V := Lib.hid b3V
  have HFTL : Hid (∀ b, asmFoot ⟨.slice D1 a.trust.length f1, .slice D2 a.base.length f2, .slice D3 a.acts.length f3, .slice D4 a.mots.length f4⟩ a T4 C4 M4 b → x3.val.heap.size ≤ b ∧ b < x4.val.heap.size) := Lib.hid (fun b hb => HO4.out.lt hb)
  have HBW := Lib.hid bW
  have hw3 : w.heap.size < x3.val.heap.size := World.block_lt_of_cell? x3.val ⟨w.heap.size, 0, none⟩ (z0 x3)
  have h34 : x3.val.heap.size ≤ x4.val.heap.size := HB34.out.size
  have HRA := Lib.hid (fun X (hX : Below x3.val.heap.size x3.val X) => HR.out ⟨X, x3.ok.trans (hX.mono x3.ok.size)⟩)
  have HFINB := Lib.hid (fun X (hX : Below x3.val.heap.size x3.val X) => bW.trans ((x3.ok.trans (hX.mono x3.ok.size)).mono bW.size))
  rw [← hV]
  clear hV r4 z0 z1 z2 z3 z4 z5 bWV b3V bV HO4 HB34
  refine (HIM.out V _ HO.out.r).mono ?_
  rintro e5 U ⟨vg, rfl, hvg, bU⟩
  obtain ⟨AG, nG, cG, rfl⟩ := K.slice hvg
  have HVG := Lib.hid hvg
  have HBU := Lib.hid bU
  have HB3U := Lib.hid (HB3V.out.trans (bU.mono HB3V.out.size))
  have HVWU := Lib.hid (K.below HVW.out HB3U.out)
  clear hvg bU
  go_wp2_with (fail)
  refine (HEQ.out U _ _ _ _ HVG.out HVWU.out).mono ?_
  rintro e6 U2 ⟨rfl, bU2⟩
  have HBU2 := Lib.hid (HBU.out.trans (bU2.mono HBU.out.size))
  have HVG2 := Lib.hid (K.below HVG.out bU2)
  clear bU2
  have HKEEP : Hid (∀ w', Below U2.heap.size U2 w' → (fun w' => w'.cell? ⟨x4.val.heap.size, 0, none⟩ = some (.int .i64 a.day) ∧ w'.cell? ⟨x4.val.heap.size, 1, none⟩ = some (.int .i64 a.rule) ∧ w'.cell? ⟨x4.val.heap.size, 2, none⟩ = some (.slice D1 a.trust.length f1) ∧ w'.cell? ⟨x4.val.heap.size, 3, none⟩ = some (.slice D2 a.base.length f2) ∧ w'.cell? ⟨x4.val.heap.size, 4, none⟩ = some (.slice D3 a.acts.length f3) ∧ w'.cell? ⟨x4.val.heap.size, 5, none⟩ = some (.slice D4 a.mots.length f4) ∧ w'.cell? ⟨w.heap.size, 0, none⟩ = some (.int .i64 a.day) ∧ w'.cell? ⟨w.heap.size, 1, none⟩ = some (.int .i64 a.rule) ∧ w'.cell? ⟨w.heap.size, 2, none⟩ = some (.slice At a.trust.length ct) ∧ w'.cell? ⟨w.heap.size, 3, none⟩ = some (.slice Ab a.base.length cb) ∧ w'.cell? ⟨w.heap.size, 4, none⟩ = some (.slice Ac a.acts.length cc) ∧ w'.cell? ⟨w.heap.size, 5, none⟩ = some (.slice Am a.mots.length cm) ∧ Below U2.heap.size U2 w') w') := Lib.hid (fun X hX => by
    have h1 := HR4.out.below (HBU2.out.trans (hX.mono HBU2.out.size)) sV
    have h2 := HROWV.out.below (HBU2.out.trans (hX.mono HBU2.out.size)) (by omega)
    exact ⟨h1.cell 0 _ rfl, h1.cell 1 _ rfl, h1.cell 2 _ rfl, h1.cell 3 _ rfl, h1.cell 4 _ rfl, h1.cell 5 _ rfl, h2.cell 0 _ rfl, h2.cell 1 _ rfl, h2.cell 2 _ rfl, h2.cell 3 _ rfl, h2.cell 4 _ rfl, h2.cell 5 _ rfl, hX⟩)
  have HBEL : Hid (∀ w', (fun w' => w'.cell? ⟨x4.val.heap.size, 0, none⟩ = some (.int .i64 a.day) ∧ w'.cell? ⟨x4.val.heap.size, 1, none⟩ = some (.int .i64 a.rule) ∧ w'.cell? ⟨x4.val.heap.size, 2, none⟩ = some (.slice D1 a.trust.length f1) ∧ w'.cell? ⟨x4.val.heap.size, 3, none⟩ = some (.slice D2 a.base.length f2) ∧ w'.cell? ⟨x4.val.heap.size, 4, none⟩ = some (.slice D3 a.acts.length f3) ∧ w'.cell? ⟨x4.val.heap.size, 5, none⟩ = some (.slice D4 a.mots.length f4) ∧ w'.cell? ⟨w.heap.size, 0, none⟩ = some (.int .i64 a.day) ∧ w'.cell? ⟨w.heap.size, 1, none⟩ = some (.int .i64 a.rule) ∧ w'.cell? ⟨w.heap.size, 2, none⟩ = some (.slice At a.trust.length ct) ∧ w'.cell? ⟨w.heap.size, 3, none⟩ = some (.slice Ab a.base.length cb) ∧ w'.cell? ⟨w.heap.size, 4, none⟩ = some (.slice Ac a.acts.length cc) ∧ w'.cell? ⟨w.heap.size, 5, none⟩ = some (.slice Am a.mots.length cm) ∧ Below U2.heap.size U2 w') w' → Below U2.heap.size U2 w') := Lib.hid (fun X hX => hX.2.2.2.2.2.2.2.2.2.2.2.2)
  have HB3U2 := Lib.hid (HB3V.out.trans (HBU2.out.mono HB3V.out.size))
  have HR2 := Lib.hid (fun X (hX : Below U2.heap.size U2 X) => HRA.out X (HB3U2.out.trans (hX.mono HB3U2.out.size)))
  have HX2 := Lib.hid (fun X (hX : Below U2.heap.size U2 X) => (HO.out.below (HBU2.out.trans (hX.mono HBU2.out.size))).r)
  have bU2 : Below U2.heap.size U2 U2 := Below.refl _ _
  go_wp2_with (fail)
  go_region_held3 (fun w' => w'.cell? ⟨x4.val.heap.size, 0, none⟩ = some (.int .i64 a.day) ∧ w'.cell? ⟨x4.val.heap.size, 1, none⟩ = some (.int .i64 a.rule) ∧ w'.cell? ⟨x4.val.heap.size, 2, none⟩ = some (.slice D1 a.trust.length f1) ∧ w'.cell? ⟨x4.val.heap.size, 3, none⟩ = some (.slice D2 a.base.length f2) ∧ w'.cell? ⟨x4.val.heap.size, 4, none⟩ = some (.slice D3 a.acts.length f3) ∧ w'.cell? ⟨x4.val.heap.size, 5, none⟩ = some (.slice D4 a.mots.length f4) ∧ w'.cell? ⟨w.heap.size, 0, none⟩ = some (.int .i64 a.day) ∧ w'.cell? ⟨w.heap.size, 1, none⟩ = some (.int .i64 a.rule) ∧ w'.cell? ⟨w.heap.size, 2, none⟩ = some (.slice At a.trust.length ct) ∧ w'.cell? ⟨w.heap.size, 3, none⟩ = some (.slice Ab a.base.length cb) ∧ w'.cell? ⟨w.heap.size, 4, none⟩ = some (.slice Ac a.acts.length cc) ∧ w'.cell? ⟨w.heap.size, 5, none⟩ = some (.slice Am a.mots.length cm) ∧ Below U2.heap.size U2 w')
    (first | exact HKEEP.out _ bU2 | exact HKEEP.out _ bU2.drew | exact HKEEP.out _ ((HBEL.out _ (by assumption)).trans (Below.mono (by assumption) (HBEL.out _ (by assumption)).size)))
    (first | (go_at_call 13; refine (toAsm_any a _ _ (HR2.out _ (HBEL.out _ (by assumption))) HF.out).mono ?_; rintro e6 w6 ⟨y6, T6, C6, M6, rfl, hO6, hb6⟩; have hR6 := hO6.r; obtain ⟨E1, l1, E2, l2, E3, l3, E4, l4, rfl⟩ := hO6.r.slices; clear hO6; unfold asmV) | (go_at_call 16; refine (eqAsm_any a _ _ _ (HX2.out _ (HBEL.out _ (by assumption))) hR6).mono ?_; rintro e7 w7 ⟨rfl, hb7⟩))
  all_goals
    have hB7 : Below U2.heap.size U2 w7 := HBEL.out _ (by assumption)
    have hS7 := HKEEP.out _ hB7
    obtain ⟨c0, c1, c2, c3, c4, c5, -⟩ := hS7
    have HBV7 := Lib.hid (HBU2.out.trans (hB7.mono HBU2.out.size))
    have HO7 := Lib.hid (HO.out.below HBV7.out)
    have HVG7 := Lib.hid (K.below HVG2.out hB7)
    have HB37 := Lib.hid (HB3V.out.trans (HBV7.out.mono HB3V.out.size))
    have h37 := HB37.out.size
    have hTF := HF.out.trees HO7.out.tm HO7.out.cm HO7.out.mm
    clear hB7 hb7 hb6 hR6
    go_wp2_with (fail)
    refine (markAsm_any a ⟨.slice D1 a.trust.length f1, .slice D2 a.base.length f2, .slice D3 a.acts.length f3, .slice D4 a.mots.length f4⟩ T4 C4 M4 _ 1 w7 HO7.out hTF (by omega) (by omega)).mono ?_
    rintro e8 X ⟨rfl, -, tX⟩
    have hkn : ¬ ((eAsm 1 a T4 C4 M4 : Nat) : Int) < 0 := by omega
    have HVGX := Lib.hid (K.touch HVG7.out tX (fun c hf => by have q2 := HFTL.out c hf; omega))
    have HB3X := Lib.hid (HB37.out.trans (tX.below h37 (fun b hb => (HFTL.out b hb).1)))
    have hXs := tX.size
    generalize eAsm 1 a T4 C4 M4 = kk at *
    clear tX c0 c1 c2 c3 c4 c5 hTF
    go_wp2_with (fail)
    refine (HEQ.out X _ _ _ _ HVGX.out (K.below HVW.out HB3X.out)).mono ?_
    rintro e9 X1 ⟨rfl, bX1⟩
    have HVG1 := Lib.hid (K.below HVGX.out bX1)
    have HB31 := Lib.hid (HB3X.out.trans (bX1.mono HB3X.out.size))
    have hX1s := bX1.size
    clear bX1
    go_wp2_with (fail)
    refine (HMK.out X1 _ _ HVG1.out).mono ?_
    rintro e10 X2 ⟨rfl, hmk, tM⟩
    have hnn : ¬ ((K.n : Nat) : Int) < 0 := by omega
    have hnz : (((K.n : Nat) : Int) != ((K.n : Nat) : Int)) = false := by simp
    have HB32 := Lib.hid (HB31.out.trans (tM.below HB31.out.size (fun b hb => by have q1 : V.heap.size ≤ b := hb; omega)))
    have HMK2 := Lib.hid hmk
    clear tM hmk
    go_wp2_with (fail)
    refine (HHD.out X2 _ _ HMK2.out).mono ?_
    rintro e11 X3 ⟨rfl, bX3⟩
    have HMK3 := Lib.hid (K.mtouch HMK2.out bX3)
    have HB33 := Lib.hid (HB32.out.trans (bX3.mono HB32.out.size))
    have r3 := HROW.out.below (x3.ok.trans (HB33.out.mono x3.ok.size)) (by have : w.heap.size < W.heap.size := World.block_lt_of_cell? W ⟨w.heap.size, 0, none⟩ (HROW.out.cell 0 _ rfl); exact this)
    have p0 := r3.cell 0 _ rfl
    have p1 := r3.cell 1 _ rfl
    have p2 := r3.cell 2 _ rfl
    have p3 := r3.cell 3 _ rfl
    have p4 := r3.cell 4 _ rfl
    have p5 := r3.cell 5 _ rfl
    clear bX3 r3
    go_wp2_with (fail)
    refine (toAsm_any a _ X3 (HRA.out X3 HB33.out) HF.out).mono ?_
    rintro e12 X4 ⟨y9, T9, C9, M9, rfl, hO9, bX4⟩
    obtain ⟨G1, j1, G2, j2, G3, j3, G4, j4, rfl⟩ := hO9.r.slices
    have HO9 := Lib.hid hO9.r
    have HMK4 := Lib.hid (K.mtouch HMK3.out bX4)
    have HB34' := Lib.hid (HB33.out.trans (bX4.mono HB33.out.size))
    clear bX4 hO9 p0 p1 p2 p3 p4 p5
    unfold asmV
    go_wp2_with (fail)
    refine (HIM.out X4 _ HO9.out).mono ?_
    rintro e13 X5 ⟨vh, rfl, hvh, bX5⟩
    obtain ⟨AH, nH, cH, rfl⟩ := K.slice hvh
    have HVH := Lib.hid hvh
    have HMK5 := Lib.hid (K.mtouch HMK4.out bX5)
    have HB35 := Lib.hid (HB34'.out.trans (bX5.mono HB34'.out.size))
    clear bX5 hvh
    go_wp2_with (fail)
    refine (HEQ.out X5 _ _ _ _ HVH.out (K.below HVW.out HB35.out)).mono ?_
    rintro e14 X6 ⟨rfl, bX6⟩
    have HMK6 := Lib.hid (K.mtouch HMK5.out bX6)
    have HB36 := Lib.hid (HB35.out.trans (bX6.mono HB35.out.size))
    clear bX6
    go_wp2_with (fail)
    refine (HHD.out X6 _ _ HMK6.out).mono ?_
    rintro e15 X7 ⟨rfl, bX7⟩
    have HFIN := Lib.hid (HFINB.out X7 (HB36.out.trans (bX7.mono HB36.out.size)))
    clear bX7
    go_wp2
    go_ret
    exact ⟨rfl, HFIN.out⟩
end Go.Proofs.YtnandbammmcncaaGreat
