/- The reference's reader of a deed, walked: the next day, and what is no deed. -/
import Derived.Test.YthlfpiflegfoiaaGreatDoorRH
namespace Go.Proofs.YthlfpiflegfoiaaGreatDoor
open Go.RowKit Go.Lib

theorem St.startK (w : World) (m : Nat) (cs : Array Value) : St w (((w.alloc (.cells #[.int .i64 0, .int .i64 0, .slice none 0 0, .string ⟨#[]⟩, .int .i64 0, .slice none 0 0, .int .i64 0, .int .i64 0, .int .i64 0] 39)).drewN m).alloc (.cells cs 39)) cs.toList := by
  have hs : ((w.alloc (.cells #[.int .i64 0, .int .i64 0, .slice none 0 0, .string ⟨#[]⟩, .int .i64 0, .slice none 0 0, .int .i64 0, .int .i64 0, .int .i64 0] 39)).drewN m).heap.size = w.heap.size + 1 := by simp
  have r1 := Row.new ((w.alloc (.cells #[.int .i64 0, .int .i64 0, .slice none 0 0, .string ⟨#[]⟩, .int .i64 0, .slice none 0 0, .int .i64 0, .int .i64 0, .int .i64 0] 39)).drewN m) cs 39
  rw [hs] at r1
  have b1 : Below w.heap.size w ((w.alloc (.cells #[.int .i64 0, .int .i64 0, .slice none 0 0, .string ⟨#[]⟩, .int .i64 0, .slice none 0 0, .int .i64 0, .int .i64 0, .int .i64 0] 39)).drewN m) := below_drewN ((Below.refl _ _).alloc (Nat.le_refl _) _) m
  have hx : w.heap.size < (w.alloc (.cells #[.int .i64 0, .int .i64 0, .slice none 0 0, .string ⟨#[]⟩, .int .i64 0, .slice none 0 0, .int .i64 0, .int .i64 0, .int .i64 0] 39)).heap.size := by simp
  have r0 := (Row.new w #[.int .i64 0, .int .i64 0, .slice none 0 0, .string ⟨#[]⟩, .int .i64 0, .slice none 0 0, .int .i64 0, .int .i64 0, .int .i64 0] 39).below (below_drewN (Below.refl _ _) m) hx
  exact ⟨r1, r0.below ((Below.refl _ _).alloc (Nat.le_refl _) _) (by rw [hs]; omega), b1.alloc b1.size _, by simp⟩

set_option maxRecDepth 100000 in
set_option maxHeartbeats 2000000 in
theorem readDeed1_next (s : ByteArray) (w : World) (hs : s.size ≤ 1048576) (hw : (cutL 32 s.data.toList).1 = [110, 101, 120, 116]) :
    Calls Tryz.prog 33 #[.string s] w (DeedPost s.data.toList w) := by
  have HU : Hid (∀ q, okDeed q = true → deedText q = s.data.toList → (⟨4, 0, [], ⟨#[]⟩, 0, [], 0, 0, 0⟩ : Deed) = q) := Lib.hid (fun q h e => by
    have h1 := cand1_of h e
    unfold cand1 at h1
    dsimp only at h1
    rw [if_neg (by rw [hw]; decide), if_neg (by rw [hw]; decide), if_neg (by rw [hw]; decide), if_pos hw] at h1
    exact h1)
  have HC := Lib.hid (fun W => cut1_any 32 32 rfl s W hs)
  generalize cutL 32 s.data.toList = p at *
  obtain ⟨wd, rest⟩ := p
  simp only at hw HC
  subst hw
  go_enter Tryz.func33, Tryz.ntmps33
  go_wp2_with (fail)
  refine (HC.out _).mono ?_
  rintro e w1 ⟨rfl, m1, rfl⟩
  have HC3 : Hid (Cand s.data.toList w _ ⟨4, 0, [], ⟨#[]⟩, 0, [], 0, 0, 0⟩ none 0 none 0) := Lib.hid ⟨St.startK w m1 #[.int .i64 4, .int .i64 0, .slice none 0 0, .string ⟨#[]⟩, .int .i64 0, .slice none 0 0, .int .i64 0, .int .i64 0, .int .i64 0], OwnL.nil _ _ _, OwnL.nil _ _ _, fun e he => (by cases he), Nat.zero_le _, HU.out⟩
  clear HU
  go_wp2_with (fail)
  obtain ⟨d, A1, c1, A2, c2, V, hC, hV⟩ : ∃ d A1 c1 A2 c2 V, Cand s.data.toList w V d A1 c1 A2 c2 ∧ (((w.alloc (.cells #[.int .i64 0, .int .i64 0, .slice none 0 0, .string ⟨#[]⟩, .int .i64 0, .slice none 0 0, .int .i64 0, .int .i64 0, .int .i64 0] 39)).drewN m1).alloc (.cells #[.int .i64 4, .int .i64 0, .slice none 0 0, .string ⟨#[]⟩, .int .i64 0, .slice none 0 0, .int .i64 0, .int .i64 0, .int .i64 0] 39)) = V := ⟨_, _, _, _, _, _, HC3.out, rfl⟩
  rw [hV]
  clear hV
  have HDP := Lib.hid hC.deed
  have HS := Lib.hid hC.st
  have HU := Lib.hid hC.un
  have HO := Lib.hid (And.intro hC.o1 hC.o2)
  clear hC
  cases hok : okDeed d with
  | false =>
    have HN : Hid (deedOf s.data.toList = none) := Lib.hid (inv_no HU.out (by rw [hok]; simp))
    have HD1 := deed1_any d (w.heap.size + 1) 0 A1 c1 A2 c2 V HDP.out
    rw [hok] at HD1
    clear hok
    refine HD1.mono ?_
    rintro e V1 ⟨rfl, hb1⟩
    have S1 := HS.out.below hb1
    clear hb1 HD1
    have z0 : V1.cell? ⟨w.heap.size, 0, none⟩ = some (.int .i64 0) := S1.res.cell 0 _ rfl
    have z1 : V1.cell? ⟨w.heap.size, 1, none⟩ = some (.int .i64 0) := S1.res.cell 1 _ rfl
    have z2 : V1.cell? ⟨w.heap.size, 2, none⟩ = some (.slice none 0 0) := S1.res.cell 2 _ rfl
    have z3 : V1.cell? ⟨w.heap.size, 3, none⟩ = some (.string ⟨#[]⟩) := S1.res.cell 3 _ rfl
    have z4 : V1.cell? ⟨w.heap.size, 4, none⟩ = some (.int .i64 0) := S1.res.cell 4 _ rfl
    have z5 : V1.cell? ⟨w.heap.size, 5, none⟩ = some (.slice none 0 0) := S1.res.cell 5 _ rfl
    have z6 : V1.cell? ⟨w.heap.size, 6, none⟩ = some (.int .i64 0) := S1.res.cell 6 _ rfl
    have z7 : V1.cell? ⟨w.heap.size, 7, none⟩ = some (.int .i64 0) := S1.res.cell 7 _ rfl
    have z8 : V1.cell? ⟨w.heap.size, 8, none⟩ = some (.int .i64 0) := S1.res.cell 8 _ rfl
    have f0 : V1.frozen? ⟨w.heap.size, 0, none⟩ = false := S1.res.free 0 (by decide)
    have f1 : V1.frozen? ⟨w.heap.size, 1, none⟩ = false := S1.res.free 1 (by decide)
    have f2 : V1.frozen? ⟨w.heap.size, 2, none⟩ = false := S1.res.free 2 (by decide)
    have f3 : V1.frozen? ⟨w.heap.size, 3, none⟩ = false := S1.res.free 3 (by decide)
    have f4 : V1.frozen? ⟨w.heap.size, 4, none⟩ = false := S1.res.free 4 (by decide)
    have f5 : V1.frozen? ⟨w.heap.size, 5, none⟩ = false := S1.res.free 5 (by decide)
    have f6 : V1.frozen? ⟨w.heap.size, 6, none⟩ = false := S1.res.free 6 (by decide)
    have f7 : V1.frozen? ⟨w.heap.size, 7, none⟩ = false := S1.res.free 7 (by decide)
    have f8 : V1.frozen? ⟨w.heap.size, 8, none⟩ = false := S1.res.free 8 (by decide)
    go_wp2
    refine bodyPost_ret (v := .tuple #[.agg #[.int .i64 0, .int .i64 0, .slice none 0 0, .string ⟨#[]⟩, .int .i64 0, .slice none 0 0, .int .i64 0, .int .i64 0, .int .i64 0], .bool false]) ?hr rfl ?_
    case hr => exact (res_l11 _ _ w.heap.size (.int .i64 0) (.int .i64 0) (.slice none 0 0) (.string ⟨#[]⟩) (.int .i64 0) (.slice none 0 0) (.int .i64 0) (.int .i64 0) (.int .i64 0) false (by kernel_rfl) (by kernel_rfl) (by simp [go_sem, z0]) (by simp [go_sem, z1]) (by simp [go_sem, z2]) (by simp [go_sem, z3]) (by simp [go_sem, z4]) (by simp [go_sem, z5]) (by simp [go_sem, z6]) (by simp [go_sem, z7]) (by simp [go_sem, z8]))
    refine ⟨none, 0, none, 0, by rw [HN.out]; rfl, by rw [HN.out]; exact OwnL.nil _ _ _, by rw [HN.out]; exact OwnL.nil _ _ _, ?_⟩
    iterate 9 refine Below.setCell ?_ (by simp) _
    exact S1.bel
  | true =>
    have HD1 := deed1_any d (w.heap.size + 1) 0 A1 c1 A2 c2 V HDP.out
    rw [hok] at HD1
    have HOK := Lib.hid hok
    clear hok
    refine HD1.mono ?_
    rintro e V1 ⟨rfl, hb1⟩
    have S1 := HS.out.below hb1
    have HB1 := Lib.hid hb1
    have HTX := Lib.hid (text1_any d (w.heap.size + 1) 0 A1 c1 A2 c2 V1 (HDP.out.aft ⟨V1, hb1⟩) HOK.out)
    clear hb1 HD1
    go_wp2_with (fail)
    refine HTX.out.mono ?_
    rintro e V2 ⟨rfl, hb2⟩
    have S2 := S1.below hb2
    have HB2 := Lib.hid hb2
    clear hb2 S1
    have z0 : V2.cell? ⟨w.heap.size, 0, none⟩ = some (.int .i64 0) := S2.res.cell 0 _ rfl
    have z1 : V2.cell? ⟨w.heap.size, 1, none⟩ = some (.int .i64 0) := S2.res.cell 1 _ rfl
    have z2 : V2.cell? ⟨w.heap.size, 2, none⟩ = some (.slice none 0 0) := S2.res.cell 2 _ rfl
    have z3 : V2.cell? ⟨w.heap.size, 3, none⟩ = some (.string ⟨#[]⟩) := S2.res.cell 3 _ rfl
    have z4 : V2.cell? ⟨w.heap.size, 4, none⟩ = some (.int .i64 0) := S2.res.cell 4 _ rfl
    have z5 : V2.cell? ⟨w.heap.size, 5, none⟩ = some (.slice none 0 0) := S2.res.cell 5 _ rfl
    have z6 : V2.cell? ⟨w.heap.size, 6, none⟩ = some (.int .i64 0) := S2.res.cell 6 _ rfl
    have z7 : V2.cell? ⟨w.heap.size, 7, none⟩ = some (.int .i64 0) := S2.res.cell 7 _ rfl
    have z8 : V2.cell? ⟨w.heap.size, 8, none⟩ = some (.int .i64 0) := S2.res.cell 8 _ rfl
    have f0 : V2.frozen? ⟨w.heap.size, 0, none⟩ = false := S2.res.free 0 (by decide)
    have f1 : V2.frozen? ⟨w.heap.size, 1, none⟩ = false := S2.res.free 1 (by decide)
    have f2 : V2.frozen? ⟨w.heap.size, 2, none⟩ = false := S2.res.free 2 (by decide)
    have f3 : V2.frozen? ⟨w.heap.size, 3, none⟩ = false := S2.res.free 3 (by decide)
    have f4 : V2.frozen? ⟨w.heap.size, 4, none⟩ = false := S2.res.free 4 (by decide)
    have f5 : V2.frozen? ⟨w.heap.size, 5, none⟩ = false := S2.res.free 5 (by decide)
    have f6 : V2.frozen? ⟨w.heap.size, 6, none⟩ = false := S2.res.free 6 (by decide)
    have f7 : V2.frozen? ⟨w.heap.size, 7, none⟩ = false := S2.res.free 7 (by decide)
    have f8 : V2.frozen? ⟨w.heap.size, 8, none⟩ = false := S2.res.free 8 (by decide)
    by_cases heq : deedText d = s.data.toList
    · have hs1 : (deedText d == s.toList) = true := by rw [ByteArray.toList_eq, heq]; simp
      have HN : Hid (deedOf s.data.toList = some d) := Lib.hid (inv_of HU.out HOK.out heq)
      clear heq
      have y0 : V2.cell? ⟨w.heap.size + 1, 0, none⟩ = some (.int .i64 d.kind) := S2.row.cell 0 _ rfl
      have y1 : V2.cell? ⟨w.heap.size + 1, 1, none⟩ = some (.int .i64 d.member) := S2.row.cell 1 _ rfl
      have y2 : V2.cell? ⟨w.heap.size + 1, 2, none⟩ = some (.slice A1 d.trust.length c1) := S2.row.cell 2 _ rfl
      have y3 : V2.cell? ⟨w.heap.size + 1, 3, none⟩ = some (.string d.title) := S2.row.cell 3 _ rfl
      have y4 : V2.cell? ⟨w.heap.size + 1, 4, none⟩ = some (.int .i64 d.vote) := S2.row.cell 4 _ rfl
      have y5 : V2.cell? ⟨w.heap.size + 1, 5, none⟩ = some (.slice A2 d.patch.length c2) := S2.row.cell 5 _ rfl
      have y6 : V2.cell? ⟨w.heap.size + 1, 6, none⟩ = some (.int .i64 d.start) := S2.row.cell 6 _ rfl
      have y7 : V2.cell? ⟨w.heap.size + 1, 7, none⟩ = some (.int .i64 d.until_) := S2.row.cell 7 _ rfl
      have y8 : V2.cell? ⟨w.heap.size + 1, 8, none⟩ = some (.int .i64 d.closes) := S2.row.cell 8 _ rfl
      obtain ⟨o1, o2⟩ := HO.out
      have HO1 := Lib.hid ((o1.on HB1.out).on HB2.out)
      have HO2 := Lib.hid ((o2.on HB1.out).on HB2.out)
      have HBB := Lib.hid S2.bel
      clear o1 o2 S2
      go_wp2
      refine bodyPost_ret (v := .tuple #[deedV d A1 c1 A2 c2, .bool true]) ?hr rfl ?_
      case hr => exact (res_l11 _ _ w.heap.size (.int .i64 d.kind) (.int .i64 d.member) (.slice A1 d.trust.length c1) (.string d.title) (.int .i64 d.vote) (.slice A2 d.patch.length c2) (.int .i64 d.start) (.int .i64 d.until_) (.int .i64 d.closes) true (by kernel_rfl) (by kernel_rfl) (by simp [go_sem, z0]) (by simp [go_sem, z1]) (by simp [go_sem, z2]) (by simp [go_sem, z3]) (by simp [go_sem, z4]) (by simp [go_sem, z5]) (by simp [go_sem, z6]) (by simp [go_sem, z7]) (by simp [go_sem, z8]))
      refine ⟨A1, c1, A2, c2, by rw [HN.out]; rfl, ?_, ?_, ?_⟩
      · rw [HN.out]
        refine OwnL.less (base := w.heap.size + 2) ?_ (by omega)
        iterate 9 refine OwnL.set ?_ _ (by simp)
        exact HO1.out
      · rw [HN.out]
        refine OwnL.less (base := w.heap.size + 2) ?_ (by omega)
        iterate 9 refine OwnL.set ?_ _ (by simp)
        exact HO2.out
      · iterate 9 refine Below.setCell ?_ (by simp) _
        exact HBB.out
    · have hs1 : (deedText d == s.toList) = false := by rw [ByteArray.toList_eq]; simpa using heq
      have HN : Hid (deedOf s.data.toList = none) := Lib.hid (inv_no HU.out (fun h => heq h.2))
      clear heq
      go_wp2
      refine bodyPost_ret (v := .tuple #[.agg #[.int .i64 0, .int .i64 0, .slice none 0 0, .string ⟨#[]⟩, .int .i64 0, .slice none 0 0, .int .i64 0, .int .i64 0, .int .i64 0], .bool false]) ?hr rfl ?_
      case hr => exact (res_l11 _ _ w.heap.size (.int .i64 0) (.int .i64 0) (.slice none 0 0) (.string ⟨#[]⟩) (.int .i64 0) (.slice none 0 0) (.int .i64 0) (.int .i64 0) (.int .i64 0) false (by kernel_rfl) (by kernel_rfl) (by simp [go_sem, z0]) (by simp [go_sem, z1]) (by simp [go_sem, z2]) (by simp [go_sem, z3]) (by simp [go_sem, z4]) (by simp [go_sem, z5]) (by simp [go_sem, z6]) (by simp [go_sem, z7]) (by simp [go_sem, z8]))
      refine ⟨none, 0, none, 0, by rw [HN.out]; rfl, by rw [HN.out]; exact OwnL.nil _ _ _, by rw [HN.out]; exact OwnL.nil _ _ _, ?_⟩
      iterate 9 refine Below.setCell ?_ (by simp) _
      exact S2.bel

set_option maxRecDepth 100000 in
set_option maxHeartbeats 2000000 in
theorem readDeed1_none (s : ByteArray) (w : World) (hs : s.size ≤ 1048576) (h1 : (cutL 32 s.data.toList).1 ≠ [116, 114, 117, 115, 116]) (h2 : (cutL 32 s.data.toList).1 ≠ [118, 111, 116, 101]) (h3 : (cutL 32 s.data.toList).1 ≠ [112, 114, 111, 112, 111, 115, 101]) (h4 : (cutL 32 s.data.toList).1 ≠ [110, 101, 120, 116]) :
    Calls Tryz.prog 33 #[.string s] w (DeedPost s.data.toList w) := by
  have HU : Hid (∀ q, okDeed q = true → deedText q = s.data.toList → zeroDeed = q) := Lib.hid (fun q h e => by
    have hc := cand1_of h e
    unfold cand1 at hc
    dsimp only at hc
    rw [if_neg h1, if_neg h2, if_neg h3, if_neg h4] at hc
    exact hc)
  have HC := Lib.hid (fun W => cut1_any 32 32 rfl s W hs)
  generalize cutL 32 s.data.toList = p at *
  obtain ⟨wd, rest⟩ := p
  simp only at h1 h2 h3 h4 HC
  obtain ⟨wb, hwb⟩ : ∃ wb : ByteArray, wb = ⟨wd.toArray⟩ := ⟨_, rfl⟩
  rw [← hwb] at HC
  have hwl : wb.toList = wd := by rw [hwb, ByteArray.toList_eq]
  have e1 : (wb.toList == [116, 114, 117, 115, 116]) = false := by rw [hwl]; simpa using h1
  have e2 : (wb.toList == [118, 111, 116, 101]) = false := by rw [hwl]; simpa using h2
  have e3 : (wb.toList == [112, 114, 111, 112, 111, 115, 101]) = false := by rw [hwl]; simpa using h3
  have e4 : (wb.toList == [110, 101, 120, 116]) = false := by rw [hwl]; simpa using h4
  clear h1 h2 h3 h4 hwl hwb
  go_enter Tryz.func33, Tryz.ntmps33
  go_wp2_with (fail)
  refine (HC.out _).mono ?_
  rintro e w1 ⟨rfl, m1, rfl⟩
  have HC3 : Hid (Cand s.data.toList w _ zeroDeed none 0 none 0) := Lib.hid ⟨St.start w m1, OwnL.nil _ _ _, OwnL.nil _ _ _, fun e he => (by cases he), Nat.zero_le _, HU.out⟩
  clear HU
  go_wp2_with (fail)
  obtain ⟨d, A1, c1, A2, c2, V, hC, hV⟩ : ∃ d A1 c1 A2 c2 V, Cand s.data.toList w V d A1 c1 A2 c2 ∧ (((w.alloc (.cells #[.int .i64 0, .int .i64 0, .slice none 0 0, .string ⟨#[]⟩, .int .i64 0, .slice none 0 0, .int .i64 0, .int .i64 0, .int .i64 0] 39)).drewN m1).alloc (.cells #[.int .i64 0, .int .i64 0, .slice none 0 0, .string ⟨#[]⟩, .int .i64 0, .slice none 0 0, .int .i64 0, .int .i64 0, .int .i64 0] 39)) = V := ⟨_, _, _, _, _, _, HC3.out, rfl⟩
  rw [hV]
  clear hV
  have HDP := Lib.hid hC.deed
  have HS := Lib.hid hC.st
  have HU := Lib.hid hC.un
  have HO := Lib.hid (And.intro hC.o1 hC.o2)
  clear hC
  cases hok : okDeed d with
  | false =>
    have HN : Hid (deedOf s.data.toList = none) := Lib.hid (inv_no HU.out (by rw [hok]; simp))
    have HD1 := deed1_any d (w.heap.size + 1) 0 A1 c1 A2 c2 V HDP.out
    rw [hok] at HD1
    clear hok
    refine HD1.mono ?_
    rintro e V1 ⟨rfl, hb1⟩
    have S1 := HS.out.below hb1
    clear hb1 HD1
    have z0 : V1.cell? ⟨w.heap.size, 0, none⟩ = some (.int .i64 0) := S1.res.cell 0 _ rfl
    have z1 : V1.cell? ⟨w.heap.size, 1, none⟩ = some (.int .i64 0) := S1.res.cell 1 _ rfl
    have z2 : V1.cell? ⟨w.heap.size, 2, none⟩ = some (.slice none 0 0) := S1.res.cell 2 _ rfl
    have z3 : V1.cell? ⟨w.heap.size, 3, none⟩ = some (.string ⟨#[]⟩) := S1.res.cell 3 _ rfl
    have z4 : V1.cell? ⟨w.heap.size, 4, none⟩ = some (.int .i64 0) := S1.res.cell 4 _ rfl
    have z5 : V1.cell? ⟨w.heap.size, 5, none⟩ = some (.slice none 0 0) := S1.res.cell 5 _ rfl
    have z6 : V1.cell? ⟨w.heap.size, 6, none⟩ = some (.int .i64 0) := S1.res.cell 6 _ rfl
    have z7 : V1.cell? ⟨w.heap.size, 7, none⟩ = some (.int .i64 0) := S1.res.cell 7 _ rfl
    have z8 : V1.cell? ⟨w.heap.size, 8, none⟩ = some (.int .i64 0) := S1.res.cell 8 _ rfl
    have f0 : V1.frozen? ⟨w.heap.size, 0, none⟩ = false := S1.res.free 0 (by decide)
    have f1 : V1.frozen? ⟨w.heap.size, 1, none⟩ = false := S1.res.free 1 (by decide)
    have f2 : V1.frozen? ⟨w.heap.size, 2, none⟩ = false := S1.res.free 2 (by decide)
    have f3 : V1.frozen? ⟨w.heap.size, 3, none⟩ = false := S1.res.free 3 (by decide)
    have f4 : V1.frozen? ⟨w.heap.size, 4, none⟩ = false := S1.res.free 4 (by decide)
    have f5 : V1.frozen? ⟨w.heap.size, 5, none⟩ = false := S1.res.free 5 (by decide)
    have f6 : V1.frozen? ⟨w.heap.size, 6, none⟩ = false := S1.res.free 6 (by decide)
    have f7 : V1.frozen? ⟨w.heap.size, 7, none⟩ = false := S1.res.free 7 (by decide)
    have f8 : V1.frozen? ⟨w.heap.size, 8, none⟩ = false := S1.res.free 8 (by decide)
    go_wp2
    refine bodyPost_ret (v := .tuple #[.agg #[.int .i64 0, .int .i64 0, .slice none 0 0, .string ⟨#[]⟩, .int .i64 0, .slice none 0 0, .int .i64 0, .int .i64 0, .int .i64 0], .bool false]) ?hr rfl ?_
    case hr => exact (res_l11 _ _ w.heap.size (.int .i64 0) (.int .i64 0) (.slice none 0 0) (.string ⟨#[]⟩) (.int .i64 0) (.slice none 0 0) (.int .i64 0) (.int .i64 0) (.int .i64 0) false (by kernel_rfl) (by kernel_rfl) (by simp [go_sem, z0]) (by simp [go_sem, z1]) (by simp [go_sem, z2]) (by simp [go_sem, z3]) (by simp [go_sem, z4]) (by simp [go_sem, z5]) (by simp [go_sem, z6]) (by simp [go_sem, z7]) (by simp [go_sem, z8]))
    refine ⟨none, 0, none, 0, by rw [HN.out]; rfl, by rw [HN.out]; exact OwnL.nil _ _ _, by rw [HN.out]; exact OwnL.nil _ _ _, ?_⟩
    iterate 9 refine Below.setCell ?_ (by simp) _
    exact S1.bel
  | true =>
    have HD1 := deed1_any d (w.heap.size + 1) 0 A1 c1 A2 c2 V HDP.out
    rw [hok] at HD1
    have HOK := Lib.hid hok
    clear hok
    refine HD1.mono ?_
    rintro e V1 ⟨rfl, hb1⟩
    have S1 := HS.out.below hb1
    have HB1 := Lib.hid hb1
    have HTX := Lib.hid (text1_any d (w.heap.size + 1) 0 A1 c1 A2 c2 V1 (HDP.out.aft ⟨V1, hb1⟩) HOK.out)
    clear hb1 HD1
    go_wp2_with (fail)
    refine HTX.out.mono ?_
    rintro e V2 ⟨rfl, hb2⟩
    have S2 := S1.below hb2
    have HB2 := Lib.hid hb2
    clear hb2 S1
    have z0 : V2.cell? ⟨w.heap.size, 0, none⟩ = some (.int .i64 0) := S2.res.cell 0 _ rfl
    have z1 : V2.cell? ⟨w.heap.size, 1, none⟩ = some (.int .i64 0) := S2.res.cell 1 _ rfl
    have z2 : V2.cell? ⟨w.heap.size, 2, none⟩ = some (.slice none 0 0) := S2.res.cell 2 _ rfl
    have z3 : V2.cell? ⟨w.heap.size, 3, none⟩ = some (.string ⟨#[]⟩) := S2.res.cell 3 _ rfl
    have z4 : V2.cell? ⟨w.heap.size, 4, none⟩ = some (.int .i64 0) := S2.res.cell 4 _ rfl
    have z5 : V2.cell? ⟨w.heap.size, 5, none⟩ = some (.slice none 0 0) := S2.res.cell 5 _ rfl
    have z6 : V2.cell? ⟨w.heap.size, 6, none⟩ = some (.int .i64 0) := S2.res.cell 6 _ rfl
    have z7 : V2.cell? ⟨w.heap.size, 7, none⟩ = some (.int .i64 0) := S2.res.cell 7 _ rfl
    have z8 : V2.cell? ⟨w.heap.size, 8, none⟩ = some (.int .i64 0) := S2.res.cell 8 _ rfl
    have f0 : V2.frozen? ⟨w.heap.size, 0, none⟩ = false := S2.res.free 0 (by decide)
    have f1 : V2.frozen? ⟨w.heap.size, 1, none⟩ = false := S2.res.free 1 (by decide)
    have f2 : V2.frozen? ⟨w.heap.size, 2, none⟩ = false := S2.res.free 2 (by decide)
    have f3 : V2.frozen? ⟨w.heap.size, 3, none⟩ = false := S2.res.free 3 (by decide)
    have f4 : V2.frozen? ⟨w.heap.size, 4, none⟩ = false := S2.res.free 4 (by decide)
    have f5 : V2.frozen? ⟨w.heap.size, 5, none⟩ = false := S2.res.free 5 (by decide)
    have f6 : V2.frozen? ⟨w.heap.size, 6, none⟩ = false := S2.res.free 6 (by decide)
    have f7 : V2.frozen? ⟨w.heap.size, 7, none⟩ = false := S2.res.free 7 (by decide)
    have f8 : V2.frozen? ⟨w.heap.size, 8, none⟩ = false := S2.res.free 8 (by decide)
    by_cases heq : deedText d = s.data.toList
    · have hs1 : (deedText d == s.toList) = true := by rw [ByteArray.toList_eq, heq]; simp
      have HN : Hid (deedOf s.data.toList = some d) := Lib.hid (inv_of HU.out HOK.out heq)
      clear heq
      have y0 : V2.cell? ⟨w.heap.size + 1, 0, none⟩ = some (.int .i64 d.kind) := S2.row.cell 0 _ rfl
      have y1 : V2.cell? ⟨w.heap.size + 1, 1, none⟩ = some (.int .i64 d.member) := S2.row.cell 1 _ rfl
      have y2 : V2.cell? ⟨w.heap.size + 1, 2, none⟩ = some (.slice A1 d.trust.length c1) := S2.row.cell 2 _ rfl
      have y3 : V2.cell? ⟨w.heap.size + 1, 3, none⟩ = some (.string d.title) := S2.row.cell 3 _ rfl
      have y4 : V2.cell? ⟨w.heap.size + 1, 4, none⟩ = some (.int .i64 d.vote) := S2.row.cell 4 _ rfl
      have y5 : V2.cell? ⟨w.heap.size + 1, 5, none⟩ = some (.slice A2 d.patch.length c2) := S2.row.cell 5 _ rfl
      have y6 : V2.cell? ⟨w.heap.size + 1, 6, none⟩ = some (.int .i64 d.start) := S2.row.cell 6 _ rfl
      have y7 : V2.cell? ⟨w.heap.size + 1, 7, none⟩ = some (.int .i64 d.until_) := S2.row.cell 7 _ rfl
      have y8 : V2.cell? ⟨w.heap.size + 1, 8, none⟩ = some (.int .i64 d.closes) := S2.row.cell 8 _ rfl
      obtain ⟨o1, o2⟩ := HO.out
      have HO1 := Lib.hid ((o1.on HB1.out).on HB2.out)
      have HO2 := Lib.hid ((o2.on HB1.out).on HB2.out)
      have HBB := Lib.hid S2.bel
      clear o1 o2 S2
      go_wp2
      refine bodyPost_ret (v := .tuple #[deedV d A1 c1 A2 c2, .bool true]) ?hr rfl ?_
      case hr => exact (res_l11 _ _ w.heap.size (.int .i64 d.kind) (.int .i64 d.member) (.slice A1 d.trust.length c1) (.string d.title) (.int .i64 d.vote) (.slice A2 d.patch.length c2) (.int .i64 d.start) (.int .i64 d.until_) (.int .i64 d.closes) true (by kernel_rfl) (by kernel_rfl) (by simp [go_sem, z0]) (by simp [go_sem, z1]) (by simp [go_sem, z2]) (by simp [go_sem, z3]) (by simp [go_sem, z4]) (by simp [go_sem, z5]) (by simp [go_sem, z6]) (by simp [go_sem, z7]) (by simp [go_sem, z8]))
      refine ⟨A1, c1, A2, c2, by rw [HN.out]; rfl, ?_, ?_, ?_⟩
      · rw [HN.out]
        refine OwnL.less (base := w.heap.size + 2) ?_ (by omega)
        iterate 9 refine OwnL.set ?_ _ (by simp)
        exact HO1.out
      · rw [HN.out]
        refine OwnL.less (base := w.heap.size + 2) ?_ (by omega)
        iterate 9 refine OwnL.set ?_ _ (by simp)
        exact HO2.out
      · iterate 9 refine Below.setCell ?_ (by simp) _
        exact HBB.out
    · have hs1 : (deedText d == s.toList) = false := by rw [ByteArray.toList_eq]; simpa using heq
      have HN : Hid (deedOf s.data.toList = none) := Lib.hid (inv_no HU.out (fun h => heq h.2))
      clear heq
      go_wp2
      refine bodyPost_ret (v := .tuple #[.agg #[.int .i64 0, .int .i64 0, .slice none 0 0, .string ⟨#[]⟩, .int .i64 0, .slice none 0 0, .int .i64 0, .int .i64 0, .int .i64 0], .bool false]) ?hr rfl ?_
      case hr => exact (res_l11 _ _ w.heap.size (.int .i64 0) (.int .i64 0) (.slice none 0 0) (.string ⟨#[]⟩) (.int .i64 0) (.slice none 0 0) (.int .i64 0) (.int .i64 0) (.int .i64 0) false (by kernel_rfl) (by kernel_rfl) (by simp [go_sem, z0]) (by simp [go_sem, z1]) (by simp [go_sem, z2]) (by simp [go_sem, z3]) (by simp [go_sem, z4]) (by simp [go_sem, z5]) (by simp [go_sem, z6]) (by simp [go_sem, z7]) (by simp [go_sem, z8]))
      refine ⟨none, 0, none, 0, by rw [HN.out]; rfl, by rw [HN.out]; exact OwnL.nil _ _ _, by rw [HN.out]; exact OwnL.nil _ _ _, ?_⟩
      iterate 9 refine Below.setCell ?_ (by simp) _
      exact S2.bel
end Go.Proofs.YthlfpiflegfoiaaGreatDoor
