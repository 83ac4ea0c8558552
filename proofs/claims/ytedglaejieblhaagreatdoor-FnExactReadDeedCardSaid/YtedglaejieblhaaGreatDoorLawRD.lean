/- FnExactReadDeed's law, walked. -/
import Derived.Test.YtedglaejieblhaaGreatDoorMd
import Derived.Test.YtedglaejieblhaaGreatDoorRI
namespace Go.Proofs.YtedglaejieblhaaGreatDoor
open Go.RowKit Go.Lib

def ReadsD (f : FuncId) : Prop := ∀ (s : ByteArray) (W : World), s.size ≤ 1048576 → EnvR W.heap.size W → Calls Tryz.prog f #[.string s] W (DeedPost s.data.toList W)
theorem deedOf_facts (l : List UInt8) : (((deedOf l).getD zeroDeed).trust = [] ∨ ((deedOf l).getD zeroDeed).patch = []) ∧ ((deedOf l).getD zeroDeed).trust.length ≤ 4 ∧ ((deedOf l).getD zeroDeed).patch.length ≤ 16 ∧ SizesOk ((deedOf l).getD zeroDeed).patch := by
  cases h : deedOf l with
  | none => exact ⟨.inl rfl, Nat.zero_le _, Nat.zero_le _, fun e he => by cases he⟩
  | some d =>
    have ho := (inv_some h).1
    show (d.trust = [] ∨ d.patch = []) ∧ d.trust.length ≤ 4 ∧ d.patch.length ≤ 16 ∧ SizesOk d.patch
    rcases okDeed_full ho with ⟨_, _, _, _, hl, _, _, hp, _⟩ | ⟨_, _, _, _, _, _, ht, hp, _⟩ | ⟨_, _, _, _, hp, _, _, _, _, _, ht, _⟩ | ⟨_, _, ht, _, _, hp, _⟩
    · exact ⟨.inr hp, hl, by rw [hp]; exact Nat.zero_le _, by rw [hp]; exact fun e he => by cases he⟩
    · exact ⟨.inl ht, by rw [ht]; exact Nat.zero_le _, by rw [hp]; exact Nat.zero_le _, by rw [hp]; exact fun e he => by cases he⟩
    · exact ⟨.inl ht, by rw [ht]; exact Nat.zero_le _, okPatch_len hp, fun e he => by
        obtain ⟨k, hk⟩ := List.getElem?_of_mem he
        have := okEdit_facts (okPatch_at hp hk)
        have e1 : e.old.size = e.old.toList.length := by simp [ByteArray.toList_eq]
        have e2 : e.new.size = e.new.toList.length := by simp [ByteArray.toList_eq]
        unfold SizeOk maxLen
        omega⟩
    · exact ⟨.inl ht, by rw [ht]; exact Nat.zero_le _, by rw [hp]; exact Nat.zero_le _, by rw [hp]; exact fun e he => by cases he⟩
theorem Row.same {W W' : World} {g : Nat} {L : List Value} (h : Row W g L) (e : W'.heap[g]? = W.heap[g]?) : Row W' g L :=
  ⟨fun j u hj => (World.cell?_of_block (a := ⟨g, j, none⟩) e).trans (h.cell j u hj), fun j hj => (World.frozen?_of_block (a := ⟨g, j, none⟩) e).trans (h.free j hj)⟩

set_option maxRecDepth 100000 in
set_option maxHeartbeats 4000000 in
theorem lawRD_any (s : ByteArray) (w : World) (hE : EnvR w.heap.size w) (hs9 : s.size ≤ maxLen) (h1 : ReadsD 9) (h2 : ReadsD 10) :
    Calls Tryz.prog 3 #[.string s] w (RetB (.bool true) w) := by
  have E := Lib.hid hE
  clear hE
  unfold maxLen at hs9
  by_cases hs : s.size ≤ 1048576
  · have H1 := Lib.hid (h1 s w hs E.out)
    have H2 : Hid (∀ V : World, Below w.heap.size w V → Calls Tryz.prog 10 #[.string s] V (DeedPost s.data.toList V)) := Lib.hid (fun V hb => h2 s V hs ((E.out.on hb).more hb.size))
    obtain ⟨hx, l1, l2, hsz⟩ := deedOf_facts s.data.toList
    unfold DeedPost deedV at H1 H2
    generalize (deedOf s.data.toList).getD zeroDeed = D at *
    generalize (deedOf s.data.toList).isSome = r at *
    have HX := Lib.hid hx
    have HSZ := Lib.hid hsz
    clear hx hsz h1 h2
    go_enter Tryz.func3, Tryz.ntmps3
    go_wp2_with (fail)
    refine H1.out.mono ?_
    rintro e w1 ⟨A1, c1, A2, c2, rfl, o1, o2, hb1⟩
    obtain ⟨V1, hV1⟩ : ∃ V : World, V = w1.alloc (.cells #[.int .i64 D.kind, .int .i64 D.member, .slice A1 D.trust.length c1, .string D.title, .int .i64 D.vote, .slice A2 D.patch.length c2, .int .i64 D.start, .int .i64 D.until_, .int .i64 D.closes] 25) := ⟨_, rfl⟩
    have bV1 : Below w1.heap.size w1 V1 := by rw [hV1]; exact (Below.refl _ _).alloc (Nat.le_refl _) _
    have sV1 : V1.heap.size = w1.heap.size + 1 := by rw [hV1]; simp
    have RV1 : Row V1 w1.heap.size (deedCs D A1 c1 A2 c2) := by rw [hV1]; exact Row.new _ _ _
    have HbV1 : Hid (Below w.heap.size w V1) := Lib.hid (hb1.trans (bV1.mono hb1.size))
    have HO1 := Lib.hid (o1.on bV1)
    have HO2 := Lib.hid (o2.on bV1)
    have HR1 := Lib.hid RV1
    have HV1 := Lib.hid hV1
    clear o1 o2 hb1 bV1 RV1 hV1
    go_wp2_with (fail)
    rw [← HV1.out]
    refine (H2.out V1 HbV1.out).mono ?_
    rintro e w2 ⟨B1, e1, B2, e2, rfl, p1, p2, hb2⟩
    obtain ⟨V2, hV2⟩ : ∃ V : World, V = w2.alloc (.cells #[.int .i64 D.kind, .int .i64 D.member, .slice B1 D.trust.length e1, .string D.title, .int .i64 D.vote, .slice B2 D.patch.length e2, .int .i64 D.start, .int .i64 D.until_, .int .i64 D.closes] 25) := ⟨_, rfl⟩
    have bV2 : Below w2.heap.size w2 V2 := by rw [hV2]; exact (Below.refl _ _).alloc (Nat.le_refl _) _
    have sV2 : V2.heap.size = w2.heap.size + 1 := by rw [hV2]; simp
    have RV2 : Row V2 w2.heap.size (deedCs D B1 e1 B2 e2) := by rw [hV2]; exact Row.new _ _ _
    have HU1 := Lib.hid p1.under
    have HU2 := Lib.hid p2.under
    have HP1 := Lib.hid (p1.on bV2)
    have HP2 := Lib.hid (p2.on bV2)
    have b12 : Below V1.heap.size V1 V2 := hb2.trans (bV2.mono hb2.size)
    have HB12 := Lib.hid b12
    have hlt1 : w1.heap.size < V1.heap.size := by omega
    have HR12 := Lib.hid (HR1.out.below b12 hlt1)
    have HR2 := Lib.hid RV2
    have HV2 := Lib.hid hV2
    have HS2 := Lib.hid sV2
    have HS1 := Lib.hid sV1
    have hle12 : V1.heap.size ≤ w2.heap.size := hb2.size
    clear p1 p2 hb2 bV2 RV2 hV2 b12
    have hz := HR2.out
    have hy := HR12.out
    have y0 : V2.cell? ⟨w1.heap.size, 0, none⟩ = some (.int .i64 D.kind) := (HR12.out).cell 0 _ rfl
    have y1 : V2.cell? ⟨w1.heap.size, 1, none⟩ = some (.int .i64 D.member) := (HR12.out).cell 1 _ rfl
    have y2 : V2.cell? ⟨w1.heap.size, 2, none⟩ = some (.slice A1 D.trust.length c1) := (HR12.out).cell 2 _ rfl
    have y3 : V2.cell? ⟨w1.heap.size, 3, none⟩ = some (.string D.title) := (HR12.out).cell 3 _ rfl
    have y4 : V2.cell? ⟨w1.heap.size, 4, none⟩ = some (.int .i64 D.vote) := (HR12.out).cell 4 _ rfl
    have y5 : V2.cell? ⟨w1.heap.size, 5, none⟩ = some (.slice A2 D.patch.length c2) := (HR12.out).cell 5 _ rfl
    have y6 : V2.cell? ⟨w1.heap.size, 6, none⟩ = some (.int .i64 D.start) := (HR12.out).cell 6 _ rfl
    have y7 : V2.cell? ⟨w1.heap.size, 7, none⟩ = some (.int .i64 D.until_) := (HR12.out).cell 7 _ rfl
    have y8 : V2.cell? ⟨w1.heap.size, 8, none⟩ = some (.int .i64 D.closes) := (HR12.out).cell 8 _ rfl
    have z0 : V2.cell? ⟨w2.heap.size, 0, none⟩ = some (.int .i64 D.kind) := (HR2.out).cell 0 _ rfl
    have z1 : V2.cell? ⟨w2.heap.size, 1, none⟩ = some (.int .i64 D.member) := (HR2.out).cell 1 _ rfl
    have z2 : V2.cell? ⟨w2.heap.size, 2, none⟩ = some (.slice B1 D.trust.length e1) := (HR2.out).cell 2 _ rfl
    have z3 : V2.cell? ⟨w2.heap.size, 3, none⟩ = some (.string D.title) := (HR2.out).cell 3 _ rfl
    have z4 : V2.cell? ⟨w2.heap.size, 4, none⟩ = some (.int .i64 D.vote) := (HR2.out).cell 4 _ rfl
    have z5 : V2.cell? ⟨w2.heap.size, 5, none⟩ = some (.slice B2 D.patch.length e2) := (HR2.out).cell 5 _ rfl
    have z6 : V2.cell? ⟨w2.heap.size, 6, none⟩ = some (.int .i64 D.start) := (HR2.out).cell 6 _ rfl
    have z7 : V2.cell? ⟨w2.heap.size, 7, none⟩ = some (.int .i64 D.until_) := (HR2.out).cell 7 _ rfl
    have z8 : V2.cell? ⟨w2.heap.size, 8, none⟩ = some (.int .i64 D.closes) := (HR2.out).cell 8 _ rfl
    clear hz hy
    go_upto_region 5 with (fail)
    rw [← HV2.out]
    go_wp2_with (fail)
    refine (eqDeed_any D B1 _ e1 B2 _ e2 A1 _ c1 A2 _ c2 V2 (HP1.out.slR (size := 1) fun _ => rfl) (HP2.out.slR (size := 4) fun _ => rfl) ((HO1.out.on HB12.out).slR (size := 1) fun _ => rfl) ((HO2.out.on HB12.out).slR (size := 4) fun _ => rfl)).mono ?_
    rintro e3 V3 ⟨rfl, hb3⟩
    have hlt2 : w2.heap.size < V2.heap.size := by have := HS2.out; omega
    have HR3 := Lib.hid (HR2.out.below hb3 hlt2)
    have hV23 := hb3.size
    have HB13 : Hid (Below V1.heap.size V1 V3) := Lib.hid (HB12.out.trans (hb3.mono HB12.out.size))
    obtain ⟨M, hM⟩ : ∃ M : Nat, M = 1 + D.trust.length + 4 * D.patch.length := ⟨_, rfl⟩
    have HMB : Hid (M ≤ 100) := Lib.hid (by omega)
    have HMK := Lib.hid (markDeed_any D B1 e1 B2 e2 V1.heap.size w2.heap.size 1 V3 (HP1.out.on hb3) (HP2.out.on hb3) HX.out HU1.out HU2.out (by omega) (by omega) (by omega) (by omega) (by omega) (by omega))
    unfold MarkedD at HMK
    rw [← hM] at HMK
    have HME := Lib.hid hM
    clear y0 y1 y2 y3 y4 y5 y6 y7 y8
    clear z0 z1 z2 z3 z4 z5 z6 z7 z8
    clear hM hb3
    have z0 : V3.cell? ⟨w2.heap.size, 0, none⟩ = some (.int .i64 D.kind) := (HR3.out).cell 0 _ rfl
    have z1 : V3.cell? ⟨w2.heap.size, 1, none⟩ = some (.int .i64 D.member) := (HR3.out).cell 1 _ rfl
    have z2 : V3.cell? ⟨w2.heap.size, 2, none⟩ = some (.slice B1 D.trust.length e1) := (HR3.out).cell 2 _ rfl
    have z3 : V3.cell? ⟨w2.heap.size, 3, none⟩ = some (.string D.title) := (HR3.out).cell 3 _ rfl
    have z4 : V3.cell? ⟨w2.heap.size, 4, none⟩ = some (.int .i64 D.vote) := (HR3.out).cell 4 _ rfl
    have z5 : V3.cell? ⟨w2.heap.size, 5, none⟩ = some (.slice B2 D.patch.length e2) := (HR3.out).cell 5 _ rfl
    have z6 : V3.cell? ⟨w2.heap.size, 6, none⟩ = some (.int .i64 D.start) := (HR3.out).cell 6 _ rfl
    have z7 : V3.cell? ⟨w2.heap.size, 7, none⟩ = some (.int .i64 D.until_) := (HR3.out).cell 7 _ rfl
    have z8 : V3.cell? ⟨w2.heap.size, 8, none⟩ = some (.int .i64 D.closes) := (HR3.out).cell 8 _ rfl
    go_wp2_with (fail)
    refine HMK.out.mono ?_
    rintro e4 V4 ⟨rfl, m1, m2, b4, k4⟩
    have HR4 := Lib.hid (HR3.out.same (k4 w2.heap.size (Nat.le_refl _) (by omega)))
    have HB14 : Hid (Below V1.heap.size V1 V4) := Lib.hid (HB13.out.trans b4)
    have hV34 := b4.size
    have HM1 := Lib.hid m1
    have HM2 := Lib.hid m2
    have HHD : Hid (∀ V : World, Below V4.heap.size V4 V → Calls Tryz.prog 13 #[.agg #[.int .i64 D.kind, .int .i64 D.member, .slice B1 D.trust.length e1, .string D.title, .int .i64 D.vote, .slice B2 D.patch.length e2, .int .i64 D.start, .int .i64 D.until_, .int .i64 D.closes], .int .i64 1] V (RetB (.int .i64 (M : Int)) V)) := Lib.hid (fun V hb => by
      have := heldDeed_any D B1 e1 B2 e2 V1.heap.size 1 V (HM1.out.on hb) (HM2.out.on hb) (by omega) (by omega) (by omega) (by omega)
      rw [← HME.out] at this
      exact this)
    clear z0 z1 z2 z3 z4 z5 z6 z7 z8
    clear m1 m2 b4 k4 HMK
    have hMn : ¬ (M : Int) < 0 := by omega
    have z0 : V4.cell? ⟨w2.heap.size, 0, none⟩ = some (.int .i64 D.kind) := (HR4.out).cell 0 _ rfl
    have z1 : V4.cell? ⟨w2.heap.size, 1, none⟩ = some (.int .i64 D.member) := (HR4.out).cell 1 _ rfl
    have z2 : V4.cell? ⟨w2.heap.size, 2, none⟩ = some (.slice B1 D.trust.length e1) := (HR4.out).cell 2 _ rfl
    have z3 : V4.cell? ⟨w2.heap.size, 3, none⟩ = some (.string D.title) := (HR4.out).cell 3 _ rfl
    have z4 : V4.cell? ⟨w2.heap.size, 4, none⟩ = some (.int .i64 D.vote) := (HR4.out).cell 4 _ rfl
    have z5 : V4.cell? ⟨w2.heap.size, 5, none⟩ = some (.slice B2 D.patch.length e2) := (HR4.out).cell 5 _ rfl
    have z6 : V4.cell? ⟨w2.heap.size, 6, none⟩ = some (.int .i64 D.start) := (HR4.out).cell 6 _ rfl
    have z7 : V4.cell? ⟨w2.heap.size, 7, none⟩ = some (.int .i64 D.until_) := (HR4.out).cell 7 _ rfl
    have z8 : V4.cell? ⟨w2.heap.size, 8, none⟩ = some (.int .i64 D.closes) := (HR4.out).cell 8 _ rfl
    go_wp2_with (fail)
    refine (HHD.out V4 (Below.refl _ _)).mono ?_
    rintro e5 V5 ⟨rfl, hb5⟩
    have HB15 : Hid (Below V1.heap.size V1 V5) := Lib.hid (HB14.out.trans (hb5.mono HB14.out.size))
    have HB45 := Lib.hid hb5
    have HW5 : Hid (Below w.heap.size w V5) := Lib.hid (HbV1.out.trans (HB15.out.mono HbV1.out.size))
    clear z0 z1 z2 z3 z4 z5 z6 z7 z8
    clear hb5
    go_wp2_with (fail)
    refine (H2.out V5 HW5.out).mono ?_
    rintro e6 w6 ⟨G1, g1, G2, g2, rfl, q1, q2, hb6⟩
    obtain ⟨V6, hV6⟩ : ∃ V : World, V = w6.alloc (.cells #[.int .i64 D.kind, .int .i64 D.member, .slice G1 D.trust.length g1, .string D.title, .int .i64 D.vote, .slice G2 D.patch.length g2, .int .i64 D.start, .int .i64 D.until_, .int .i64 D.closes] 25) := ⟨_, rfl⟩
    have bV6 : Below w6.heap.size w6 V6 := by rw [hV6]; exact (Below.refl _ _).alloc (Nat.le_refl _) _
    have sV6 : V6.heap.size = w6.heap.size + 1 := by rw [hV6]; simp
    have RV6 : Row V6 w6.heap.size (deedCs D G1 g1 G2 g2) := by rw [hV6]; exact Row.new _ _ _
    have b56 : Below V5.heap.size V5 V6 := hb6.trans (bV6.mono hb6.size)
    have HB16 : Hid (Below V1.heap.size V1 V6) := Lib.hid (HB15.out.trans (b56.mono HB15.out.size))
    have HB46 : Hid (Below V4.heap.size V4 V6) := Lib.hid (HB45.out.trans (b56.mono HB45.out.size))
    have HQ1 := Lib.hid (q1.on bV6)
    have HQ2 := Lib.hid (q2.on bV6)
    have HR16 := Lib.hid (HR1.out.below HB16.out hlt1)
    have HR6 := Lib.hid RV6
    have HV6 := Lib.hid hV6
    have h46 := HB46.out.size
    clear q1 q2 hb6 bV6 RV6 hV6 b56
    have y0 : V6.cell? ⟨w1.heap.size, 0, none⟩ = some (.int .i64 D.kind) := (HR16.out).cell 0 _ rfl
    have y1 : V6.cell? ⟨w1.heap.size, 1, none⟩ = some (.int .i64 D.member) := (HR16.out).cell 1 _ rfl
    have y2 : V6.cell? ⟨w1.heap.size, 2, none⟩ = some (.slice A1 D.trust.length c1) := (HR16.out).cell 2 _ rfl
    have y3 : V6.cell? ⟨w1.heap.size, 3, none⟩ = some (.string D.title) := (HR16.out).cell 3 _ rfl
    have y4 : V6.cell? ⟨w1.heap.size, 4, none⟩ = some (.int .i64 D.vote) := (HR16.out).cell 4 _ rfl
    have y5 : V6.cell? ⟨w1.heap.size, 5, none⟩ = some (.slice A2 D.patch.length c2) := (HR16.out).cell 5 _ rfl
    have y6 : V6.cell? ⟨w1.heap.size, 6, none⟩ = some (.int .i64 D.start) := (HR16.out).cell 6 _ rfl
    have y7 : V6.cell? ⟨w1.heap.size, 7, none⟩ = some (.int .i64 D.until_) := (HR16.out).cell 7 _ rfl
    have y8 : V6.cell? ⟨w1.heap.size, 8, none⟩ = some (.int .i64 D.closes) := (HR16.out).cell 8 _ rfl
    have z0 : V6.cell? ⟨w6.heap.size, 0, none⟩ = some (.int .i64 D.kind) := (HR6.out).cell 0 _ rfl
    have z1 : V6.cell? ⟨w6.heap.size, 1, none⟩ = some (.int .i64 D.member) := (HR6.out).cell 1 _ rfl
    have z2 : V6.cell? ⟨w6.heap.size, 2, none⟩ = some (.slice G1 D.trust.length g1) := (HR6.out).cell 2 _ rfl
    have z3 : V6.cell? ⟨w6.heap.size, 3, none⟩ = some (.string D.title) := (HR6.out).cell 3 _ rfl
    have z4 : V6.cell? ⟨w6.heap.size, 4, none⟩ = some (.int .i64 D.vote) := (HR6.out).cell 4 _ rfl
    have z5 : V6.cell? ⟨w6.heap.size, 5, none⟩ = some (.slice G2 D.patch.length g2) := (HR6.out).cell 5 _ rfl
    have z6 : V6.cell? ⟨w6.heap.size, 6, none⟩ = some (.int .i64 D.start) := (HR6.out).cell 6 _ rfl
    have z7 : V6.cell? ⟨w6.heap.size, 7, none⟩ = some (.int .i64 D.until_) := (HR6.out).cell 7 _ rfl
    have z8 : V6.cell? ⟨w6.heap.size, 8, none⟩ = some (.int .i64 D.closes) := (HR6.out).cell 8 _ rfl
    go_upto_region 16 with (fail)
    rw [← HV6.out]
    go_wp2_with (fail)
    refine (eqDeed_any D G1 _ g1 G2 _ g2 A1 _ c1 A2 _ c2 V6 (HQ1.out.slR (size := 1) fun _ => rfl) (HQ2.out.slR (size := 4) fun _ => rfl) ((HO1.out.on HB16.out).slR (size := 1) fun _ => rfl) ((HO2.out.on HB16.out).slR (size := 4) fun _ => rfl)).mono ?_
    rintro e7 V7 ⟨rfl, hb7⟩
    have HB47 : Hid (Below V4.heap.size V4 V7) := Lib.hid (HB46.out.trans (hb7.mono HB46.out.size))
    have HB17 : Hid (Below V1.heap.size V1 V7) := Lib.hid (HB16.out.trans (hb7.mono HB16.out.size))
    have HR47 := Lib.hid (HR4.out.below HB47.out (by omega))
    clear y0 y1 y2 y3 y4 y5 y6 y7 y8
    clear z0 z1 z2 z3 z4 z5 z6 z7 z8
    clear hb7
    have z0 : V7.cell? ⟨w2.heap.size, 0, none⟩ = some (.int .i64 D.kind) := (HR47.out).cell 0 _ rfl
    have z1 : V7.cell? ⟨w2.heap.size, 1, none⟩ = some (.int .i64 D.member) := (HR47.out).cell 1 _ rfl
    have z2 : V7.cell? ⟨w2.heap.size, 2, none⟩ = some (.slice B1 D.trust.length e1) := (HR47.out).cell 2 _ rfl
    have z3 : V7.cell? ⟨w2.heap.size, 3, none⟩ = some (.string D.title) := (HR47.out).cell 3 _ rfl
    have z4 : V7.cell? ⟨w2.heap.size, 4, none⟩ = some (.int .i64 D.vote) := (HR47.out).cell 4 _ rfl
    have z5 : V7.cell? ⟨w2.heap.size, 5, none⟩ = some (.slice B2 D.patch.length e2) := (HR47.out).cell 5 _ rfl
    have z6 : V7.cell? ⟨w2.heap.size, 6, none⟩ = some (.int .i64 D.start) := (HR47.out).cell 6 _ rfl
    have z7 : V7.cell? ⟨w2.heap.size, 7, none⟩ = some (.int .i64 D.until_) := (HR47.out).cell 7 _ rfl
    have z8 : V7.cell? ⟨w2.heap.size, 8, none⟩ = some (.int .i64 D.closes) := (HR47.out).cell 8 _ rfl
    go_wp2_with (fail)
    refine (HHD.out V7 HB47.out).mono ?_
    rintro e8 V8 ⟨rfl, hb8⟩
    have hfin : Below w.heap.size w V8 := (HbV1.out.trans (HB17.out.mono HbV1.out.size)).trans (hb8.mono (HbV1.out.trans (HB17.out.mono HbV1.out.size)).size)
    clear z0 z1 z2 z3 z4 z5 z6 z7 z8
    clear hb8
    go_wp2
    go_ret
    exact ⟨rfl, hfin⟩
  · have h2i : (1048576 : Int) < (s.size : Int) := by omega
    go_enter Tryz.func3, Tryz.ntmps3
    go_wp2
    go_ret
    exact ⟨rfl, Below.refl _ _⟩
end Go.Proofs.YtedglaejieblhaaGreatDoor
