/- The reference's reader of a deed, walked: a proposal. -/
import Derived.Test.YthlfpiflegfoiaaGreatDoorRH
namespace Go.Proofs.YthlfpiflegfoiaaGreatDoor
open Go.RowKit Go.Lib


set_option maxRecDepth 100000 in
set_option maxHeartbeats 2000000 in
theorem readDeed1_propose (s : ByteArray) (w : World) (hs : s.size ≤ 1048576) (hw : (cutL 32 s.data.toList).1 = [112, 114, 111, 112, 111, 115, 101]) :
    Calls Tryz.prog 33 #[.string s] w (DeedPost s.data.toList w) := by
  have HU0 : Hid (∀ q, okDeed q = true → deedText q = s.data.toList → cand1 s.data.toList = q) := Lib.hid (fun q h e => cand1_of h e)
  have hcd : cand1 s.data.toList = cand1 s.data.toList := rfl
  conv at hcd => rhs; unfold cand1
  dsimp only at hcd
  rw [if_neg (by rw [hw]; decide), if_neg (by rw [hw]; decide), if_pos hw] at hcd
  have HCD := Lib.hid hcd
  clear hcd
  have hl0 := cutL_len 32 s.data.toList
  have hsz : s.data.toList.length = s.size := by simp
  have HC := Lib.hid (fun W => cut1_any 32 32 rfl s W hs)
  generalize cutL 32 s.data.toList = p at *
  obtain ⟨wd, rest⟩ := p
  simp only at hw hl0 HCD HC
  subst hw
  have hr1 : (⟨rest.toArray⟩ : ByteArray).size ≤ 1048576 := by rw [mk_size]; omega
  have HC1 : Hid (∀ W, Calls Tryz.prog 32 #[.string ⟨rest.toArray⟩, .int .u8 32] W (RetQ (.tuple #[.string ⟨(cutL 32 rest).1.toArray⟩, .string ⟨(cutL 32 rest).2.toArray⟩]) W)) := Lib.hid (fun W => cut1_any 32 32 rfl ⟨rest.toArray⟩ W hr1)
  have hl1 := cutL_len 32 rest
  generalize cutL 32 rest = pq at *
  obtain ⟨a, b⟩ := pq
  simp only at hl1 HCD HC1
  clear hr1
  have hr2 : (⟨b.toArray⟩ : ByteArray).size ≤ 1048576 := by rw [mk_size]; omega
  have HC2 : Hid (∀ W, Calls Tryz.prog 32 #[.string ⟨b.toArray⟩, .int .u8 32] W (RetQ (.tuple #[.string ⟨(cutL 32 b).1.toArray⟩, .string ⟨(cutL 32 b).2.toArray⟩]) W)) := Lib.hid (fun W => cut1_any 32 32 rfl ⟨b.toArray⟩ W hr2)
  have hl2 := cutL_len 32 b
  generalize cutL 32 b = pq at *
  obtain ⟨tt, c⟩ := pq
  simp only at hl2 HCD HC2
  clear hr2
  have hr3 : (⟨c.toArray⟩ : ByteArray).size ≤ 1048576 := by rw [mk_size]; omega
  have HC3 : Hid (∀ W, Calls Tryz.prog 32 #[.string ⟨c.toArray⟩, .int .u8 32] W (RetQ (.tuple #[.string ⟨(cutL 32 c).1.toArray⟩, .string ⟨(cutL 32 c).2.toArray⟩]) W)) := Lib.hid (fun W => cut1_any 32 32 rfl ⟨c.toArray⟩ W hr3)
  have hl3 := cutL_len 32 c
  generalize cutL 32 c = pq at *
  obtain ⟨cl, e0⟩ := pq
  simp only at hl3 HCD HC3
  clear hr3
  have hr4 : (⟨e0.toArray⟩ : ByteArray).size ≤ 1048576 := by rw [mk_size]; omega
  have HC4 : Hid (∀ W, Calls Tryz.prog 32 #[.string ⟨e0.toArray⟩, .int .u8 32] W (RetQ (.tuple #[.string ⟨(cutL 32 e0).1.toArray⟩, .string ⟨(cutL 32 e0).2.toArray⟩]) W)) := Lib.hid (fun W => cut1_any 32 32 rfl ⟨e0.toArray⟩ W hr4)
  have hl4 := cutL_len 32 e0
  generalize cutL 32 e0 = pq at *
  obtain ⟨fr, f0⟩ := pq
  simp only at hl4 HCD HC4
  clear hr4
  have hr5 : (⟨f0.toArray⟩ : ByteArray).size ≤ 1048576 := by rw [mk_size]; omega
  have HC5 : Hid (∀ W, Calls Tryz.prog 32 #[.string ⟨f0.toArray⟩, .int .u8 32] W (RetQ (.tuple #[.string ⟨(cutL 32 f0).1.toArray⟩, .string ⟨(cutL 32 f0).2.toArray⟩]) W)) := Lib.hid (fun W => cut1_any 32 32 rfl ⟨f0.toArray⟩ W hr5)
  have hl5 := cutL_len 32 f0
  generalize cutL 32 f0 = pq at *
  obtain ⟨un, pt⟩ := pq
  simp only at hl5 HCD HC5
  clear hr5
  have HN1 : Hid (∀ W, Calls Tryz.prog 49 #[.string ⟨a.toArray⟩] W (RetB (.tuple #[.int .i64 (num1 a), .bool (numOf (-999999999) 999999999 a).isSome]) W)) := Lib.hid (fun W => read1_any ⟨a.toArray⟩ W (by rw [mk_size]; omega))
  generalize num1 a = n1 at *
  generalize (numOf (-999999999) 999999999 a).isSome = k1 at *
  have HN2 : Hid (∀ W, Calls Tryz.prog 49 #[.string ⟨cl.toArray⟩] W (RetB (.tuple #[.int .i64 (num1 cl), .bool (numOf (-999999999) 999999999 cl).isSome]) W)) := Lib.hid (fun W => read1_any ⟨cl.toArray⟩ W (by rw [mk_size]; omega))
  generalize num1 cl = n2 at *
  generalize (numOf (-999999999) 999999999 cl).isSome = k2 at *
  have HN3 : Hid (∀ W, Calls Tryz.prog 49 #[.string ⟨fr.toArray⟩] W (RetB (.tuple #[.int .i64 (num1 fr), .bool (numOf (-999999999) 999999999 fr).isSome]) W)) := Lib.hid (fun W => read1_any ⟨fr.toArray⟩ W (by rw [mk_size]; omega))
  generalize num1 fr = n3 at *
  generalize (numOf (-999999999) 999999999 fr).isSome = k3 at *
  have HN4 : Hid (∀ W, Calls Tryz.prog 49 #[.string ⟨un.toArray⟩] W (RetB (.tuple #[.int .i64 (num1 un), .bool (numOf (-999999999) 999999999 un).isSome]) W)) := Lib.hid (fun W => read1_any ⟨un.toArray⟩ W (by rw [mk_size]; omega))
  generalize num1 un = n4 at *
  generalize (numOf (-999999999) 999999999 un).isSome = k4 at *
  obtain ⟨ti, hti⟩ : ∃ ti : ByteArray, ti = ⟨tt.toArray⟩ := ⟨_, rfl⟩
  have HTS : Hid (ti.size ≤ maxLen) := Lib.hid (by rw [hti, mk_size]; unfold maxLen; omega)
  have HSW : Hid (∀ W, Calls Tryz.prog 53 #[.string ⟨pt.toArray⟩, .int .u8 59, .int .u8 10] W (RetB (.string ⟨(unsemis pt).toArray⟩) W)) := Lib.hid (fun W => swap1_any pt 59 10 59 10 rfl rfl W (by omega))
  have hul : (unsemis pt).length ≤ 1048576 := by unfold unsemis; rw [List.length_map]; omega
  have HRP : Hid (∀ W, Calls Tryz.prog 52 #[.string ⟨(unsemis pt).toArray⟩] W (PatchPost (unsemis pt) W)) := Lib.hid (fun W => readPatch1_any ⟨(unsemis pt).toArray⟩ W (by rw [mk_size]; exact hul))
  unfold PatchPost at HRP
  have HPS : Hid (SizesOk ((patchOf (unsemis pt)).getD [])) := Lib.hid (by
    cases hp : patchOf (unsemis pt) with
    | none => intro e he; cases he
    | some q =>
      intro e he
      obtain ⟨k, hk⟩ := List.getElem?_of_mem he
      have := okEdit_facts (okPatch_at (inv_some hp).1 hk)
      have e1 : e.old.size = e.old.toList.length := by simp [ByteArray.toList_eq]
      have e2 : e.new.size = e.new.toList.length := by simp [ByteArray.toList_eq]
      unfold SizeOk maxLen
      omega)
  generalize (patchOf (unsemis pt)).getD [] = P at *
  generalize (patchOf (unsemis pt)).isSome = pok at *
  generalize unsemis pt = up at *
  have HU : Hid (∀ q, okDeed q = true → deedText q = s.data.toList → (⟨3, n1, [], ti, 0, P, n3, n4, n2⟩ : Deed) = q) := Lib.hid (fun q h e => by rw [hti, ← HCD.out]; exact HU0.out q h e)
  rw [← hti] at HC2
  clear HU0 HCD hl0 hl1 hl2 hl3 hl4 hl5 hsz hti hul
  go_enter Tryz.func33, Tryz.ntmps33
  go_wp2_with (fail)
  refine (HC.out _).mono ?_
  rintro e w1 ⟨rfl, m1, rfl⟩
  go_wp2_with (fail)
  obtain ⟨V0, S0, hV0⟩ : ∃ V0, St w V0 (deedCs zeroDeed none 0 none 0) ∧ (((w.alloc (.cells #[.int .i64 0, .int .i64 0, .slice none 0 0, .string ⟨#[]⟩, .int .i64 0, .slice none 0 0, .int .i64 0, .int .i64 0, .int .i64 0] 39)).drewN m1).alloc (.cells #[.int .i64 0, .int .i64 0, .slice none 0 0, .string ⟨#[]⟩, .int .i64 0, .slice none 0 0, .int .i64 0, .int .i64 0, .int .i64 0] 39)) = V0 := ⟨_, St.start w m1, rfl⟩
  rw [hV0]
  clear hV0
  refine (HC1.out _).mono ?_
  rintro e V1 ⟨rfl, mm, hw⟩
  have S0 := S0.drew' hw
  clear hw
  go_wp2_with (fail)
  refine (HC2.out _).mono ?_
  rintro e V2 ⟨rfl, mm, hw⟩
  have S0 := S0.drew' hw
  clear hw
  go_wp2_with (fail)
  refine (HC3.out _).mono ?_
  rintro e V3 ⟨rfl, mm, hw⟩
  have S0 := S0.drew' hw
  clear hw
  go_wp2_with (fail)
  refine (HC4.out _).mono ?_
  rintro e V4 ⟨rfl, mm, hw⟩
  have S0 := S0.drew' hw
  clear hw
  go_wp2_with (fail)
  refine (HC5.out _).mono ?_
  rintro e V5 ⟨rfl, mm, hw⟩
  have S1 := S0.drew' hw
  clear hw S0
  have p0 : V5.cell? ⟨w.heap.size + 1, 0, none⟩ = some (.int .i64 0) := S1.row.cell 0 _ rfl
  have q0 : V5.frozen? ⟨w.heap.size + 1, 0, none⟩ = false := S1.row.free 0 (by simp [deedCs])
  go_wp2_with (fail)
  refine (HN1.out _).mono ?_
  rintro e w3 ⟨rfl, hb3⟩
  have S2 : St w w3 _ := (S1.set 0 (.int .i64 3) (by simp [deedCs])).below hb3
  clear p0 q0 S1 hb3
  have p1 : w3.cell? ⟨w.heap.size + 1, 1, none⟩ = some (.int .i64 0) := S2.row.cell 1 _ rfl
  have q1 : w3.frozen? ⟨w.heap.size + 1, 1, none⟩ = false := S2.row.free 1 (by simp [deedCs])
  have p3 : w3.cell? ⟨w.heap.size + 1, 3, none⟩ = some (.string ⟨#[]⟩) := S2.row.cell 3 _ rfl
  have q3 : w3.frozen? ⟨w.heap.size + 1, 3, none⟩ = false := S2.row.free 3 (by simp [deedCs])
  go_wp2_with (fail)
  refine (HN2.out _).mono ?_
  rintro e w4 ⟨rfl, hb4⟩
  have S3 : St w w4 _ := ((S2.set 1 (.int .i64 n1) (by simp [deedCs])).set 3 (.string ti) (by simp [deedCs])).below hb4
  clear p1 q1 p3 q3 S2 hb4
  have p8 : w4.cell? ⟨w.heap.size + 1, 8, none⟩ = some (.int .i64 0) := S3.row.cell 8 _ rfl
  have q8 : w4.frozen? ⟨w.heap.size + 1, 8, none⟩ = false := S3.row.free 8 (by simp [deedCs])
  go_wp2_with (fail)
  refine (HN3.out _).mono ?_
  rintro e w5 ⟨rfl, hb5⟩
  have S4 : St w w5 _ := (S3.set 8 (.int .i64 n2) (by simp [deedCs])).below hb5
  clear p8 q8 S3 hb5
  have p6 : w5.cell? ⟨w.heap.size + 1, 6, none⟩ = some (.int .i64 0) := S4.row.cell 6 _ rfl
  have q6 : w5.frozen? ⟨w.heap.size + 1, 6, none⟩ = false := S4.row.free 6 (by simp [deedCs])
  go_wp2_with (fail)
  refine (HN4.out _).mono ?_
  rintro e w6 ⟨rfl, hb6⟩
  have S5 : St w w6 _ := (S4.set 6 (.int .i64 n3) (by simp [deedCs])).below hb6
  clear p6 q6 S4 hb6
  have p7 : w6.cell? ⟨w.heap.size + 1, 7, none⟩ = some (.int .i64 0) := S5.row.cell 7 _ rfl
  have q7 : w6.frozen? ⟨w.heap.size + 1, 7, none⟩ = false := S5.row.free 7 (by simp [deedCs])
  go_wp2_with (fail)
  refine (HSW.out _).mono ?_
  rintro e w7 ⟨rfl, hb7⟩
  have S6 : St w w7 _ := (S5.set 7 (.int .i64 n4) (by simp [deedCs])).below hb7
  clear p7 q7 S5 hb7
  go_wp2_with (fail)
  refine (HRP.out _).mono ?_
  rintro e w8 ⟨v, rfl, hO, hb8⟩
  have S7 : St w w8 _ := S6.below hb8
  have HO8 := Lib.hid (hO.less S6.own)
  clear S6 hb8 hO
  have p5 : w8.cell? ⟨w.heap.size + 1, 5, none⟩ = some (.slice none 0 0) := S7.row.cell 5 _ rfl
  have q5 : w8.frozen? ⟨w.heap.size + 1, 5, none⟩ = false := S7.row.free 5 (by simp [deedCs])
  obtain ⟨T2, t2, rfl, _⟩ := HO8.out
  have HC3 : Hid (Cand s.data.toList w (w8.setCell ⟨w.heap.size + 1, 5, none⟩ (.slice T2 P.length t2)) ⟨3, n1, [], ti, 0, P, n3, n4, n2⟩ none 0 T2 t2) := Lib.hid ⟨S7.set 5 _ (by simp [deedCs]), OwnL.nil _ _ _, HO8.out.set _ (by simp), HPS.out, HTS.out, HU.out⟩
  clear HO8 S7 HU
  go_wp2_with (fail)
  obtain ⟨d, A1, c1, A2, c2, V, hC, hV⟩ : ∃ d A1 c1 A2 c2 V, Cand s.data.toList w V d A1 c1 A2 c2 ∧ w8.setCell ⟨w.heap.size + 1, 5, none⟩ (.slice T2 P.length t2) = V := ⟨_, _, _, _, _, _, HC3.out, rfl⟩
  rw [hV]
  clear hV
  have HDP := Lib.hid hC.deed
  have HS := Lib.hid hC.st
  have HU := Lib.hid hC.un
  have HO := Lib.hid (And.intro hC.o1 hC.o2)
  clear hC
  cases hok : okDeed d with
  | false =>
    have HN : Hid (deedOf s.data.toList = none) := Lib.hid (inv_no HU.out (by rw [hok]; simp))
    have HD1 := deed1_any d (w.heap.size + 1) 0 A1 c1 A2 c2 V HDP.out
    rw [hok] at HD1
    clear hok
    refine HD1.mono ?_
    rintro e V1 ⟨rfl, hb1⟩
    have S1 := HS.out.below hb1
    clear hb1 HD1
    have z0 : V1.cell? ⟨w.heap.size, 0, none⟩ = some (.int .i64 0) := S1.res.cell 0 _ rfl
    have z1 : V1.cell? ⟨w.heap.size, 1, none⟩ = some (.int .i64 0) := S1.res.cell 1 _ rfl
    have z2 : V1.cell? ⟨w.heap.size, 2, none⟩ = some (.slice none 0 0) := S1.res.cell 2 _ rfl
    have z3 : V1.cell? ⟨w.heap.size, 3, none⟩ = some (.string ⟨#[]⟩) := S1.res.cell 3 _ rfl
    have z4 : V1.cell? ⟨w.heap.size, 4, none⟩ = some (.int .i64 0) := S1.res.cell 4 _ rfl
    have z5 : V1.cell? ⟨w.heap.size, 5, none⟩ = some (.slice none 0 0) := S1.res.cell 5 _ rfl
    have z6 : V1.cell? ⟨w.heap.size, 6, none⟩ = some (.int .i64 0) := S1.res.cell 6 _ rfl
    have z7 : V1.cell? ⟨w.heap.size, 7, none⟩ = some (.int .i64 0) := S1.res.cell 7 _ rfl
    have z8 : V1.cell? ⟨w.heap.size, 8, none⟩ = some (.int .i64 0) := S1.res.cell 8 _ rfl
    have f0 : V1.frozen? ⟨w.heap.size, 0, none⟩ = false := S1.res.free 0 (by decide)
    have f1 : V1.frozen? ⟨w.heap.size, 1, none⟩ = false := S1.res.free 1 (by decide)
    have f2 : V1.frozen? ⟨w.heap.size, 2, none⟩ = false := S1.res.free 2 (by decide)
    have f3 : V1.frozen? ⟨w.heap.size, 3, none⟩ = false := S1.res.free 3 (by decide)
    have f4 : V1.frozen? ⟨w.heap.size, 4, none⟩ = false := S1.res.free 4 (by decide)
    have f5 : V1.frozen? ⟨w.heap.size, 5, none⟩ = false := S1.res.free 5 (by decide)
    have f6 : V1.frozen? ⟨w.heap.size, 6, none⟩ = false := S1.res.free 6 (by decide)
    have f7 : V1.frozen? ⟨w.heap.size, 7, none⟩ = false := S1.res.free 7 (by decide)
    have f8 : V1.frozen? ⟨w.heap.size, 8, none⟩ = false := S1.res.free 8 (by decide)
    go_wp2
    refine bodyPost_ret (v := .tuple #[.agg #[.int .i64 0, .int .i64 0, .slice none 0 0, .string ⟨#[]⟩, .int .i64 0, .slice none 0 0, .int .i64 0, .int .i64 0, .int .i64 0], .bool false]) ?hr rfl ?_
    case hr => exact (res_l11 _ _ w.heap.size (.int .i64 0) (.int .i64 0) (.slice none 0 0) (.string ⟨#[]⟩) (.int .i64 0) (.slice none 0 0) (.int .i64 0) (.int .i64 0) (.int .i64 0) false (by kernel_rfl) (by kernel_rfl) (by simp [go_sem, z0]) (by simp [go_sem, z1]) (by simp [go_sem, z2]) (by simp [go_sem, z3]) (by simp [go_sem, z4]) (by simp [go_sem, z5]) (by simp [go_sem, z6]) (by simp [go_sem, z7]) (by simp [go_sem, z8]))
    refine ⟨none, 0, none, 0, by rw [HN.out]; rfl, by rw [HN.out]; exact OwnL.nil _ _ _, by rw [HN.out]; exact OwnL.nil _ _ _, ?_⟩
    iterate 9 refine Below.setCell ?_ (by simp) _
    exact S1.bel
  | true =>
    have HD1 := deed1_any d (w.heap.size + 1) 0 A1 c1 A2 c2 V HDP.out
    rw [hok] at HD1
    have HOK := Lib.hid hok
    clear hok
    refine HD1.mono ?_
    rintro e V1 ⟨rfl, hb1⟩
    have S1 := HS.out.below hb1
    have HB1 := Lib.hid hb1
    have HTX := Lib.hid (text1_any d (w.heap.size + 1) 0 A1 c1 A2 c2 V1 (HDP.out.aft ⟨V1, hb1⟩) HOK.out)
    clear hb1 HD1
    go_wp2_with (fail)
    refine HTX.out.mono ?_
    rintro e V2 ⟨rfl, hb2⟩
    have S2 := S1.below hb2
    have HB2 := Lib.hid hb2
    clear hb2 S1
    have z0 : V2.cell? ⟨w.heap.size, 0, none⟩ = some (.int .i64 0) := S2.res.cell 0 _ rfl
    have z1 : V2.cell? ⟨w.heap.size, 1, none⟩ = some (.int .i64 0) := S2.res.cell 1 _ rfl
    have z2 : V2.cell? ⟨w.heap.size, 2, none⟩ = some (.slice none 0 0) := S2.res.cell 2 _ rfl
    have z3 : V2.cell? ⟨w.heap.size, 3, none⟩ = some (.string ⟨#[]⟩) := S2.res.cell 3 _ rfl
    have z4 : V2.cell? ⟨w.heap.size, 4, none⟩ = some (.int .i64 0) := S2.res.cell 4 _ rfl
    have z5 : V2.cell? ⟨w.heap.size, 5, none⟩ = some (.slice none 0 0) := S2.res.cell 5 _ rfl
    have z6 : V2.cell? ⟨w.heap.size, 6, none⟩ = some (.int .i64 0) := S2.res.cell 6 _ rfl
    have z7 : V2.cell? ⟨w.heap.size, 7, none⟩ = some (.int .i64 0) := S2.res.cell 7 _ rfl
    have z8 : V2.cell? ⟨w.heap.size, 8, none⟩ = some (.int .i64 0) := S2.res.cell 8 _ rfl
    have f0 : V2.frozen? ⟨w.heap.size, 0, none⟩ = false := S2.res.free 0 (by decide)
    have f1 : V2.frozen? ⟨w.heap.size, 1, none⟩ = false := S2.res.free 1 (by decide)
    have f2 : V2.frozen? ⟨w.heap.size, 2, none⟩ = false := S2.res.free 2 (by decide)
    have f3 : V2.frozen? ⟨w.heap.size, 3, none⟩ = false := S2.res.free 3 (by decide)
    have f4 : V2.frozen? ⟨w.heap.size, 4, none⟩ = false := S2.res.free 4 (by decide)
    have f5 : V2.frozen? ⟨w.heap.size, 5, none⟩ = false := S2.res.free 5 (by decide)
    have f6 : V2.frozen? ⟨w.heap.size, 6, none⟩ = false := S2.res.free 6 (by decide)
    have f7 : V2.frozen? ⟨w.heap.size, 7, none⟩ = false := S2.res.free 7 (by decide)
    have f8 : V2.frozen? ⟨w.heap.size, 8, none⟩ = false := S2.res.free 8 (by decide)
    by_cases heq : deedText d = s.data.toList
    · have hs1 : (deedText d == s.toList) = true := by rw [ByteArray.toList_eq, heq]; simp
      have HN : Hid (deedOf s.data.toList = some d) := Lib.hid (inv_of HU.out HOK.out heq)
      clear heq
      have y0 : V2.cell? ⟨w.heap.size + 1, 0, none⟩ = some (.int .i64 d.kind) := S2.row.cell 0 _ rfl
      have y1 : V2.cell? ⟨w.heap.size + 1, 1, none⟩ = some (.int .i64 d.member) := S2.row.cell 1 _ rfl
      have y2 : V2.cell? ⟨w.heap.size + 1, 2, none⟩ = some (.slice A1 d.trust.length c1) := S2.row.cell 2 _ rfl
      have y3 : V2.cell? ⟨w.heap.size + 1, 3, none⟩ = some (.string d.title) := S2.row.cell 3 _ rfl
      have y4 : V2.cell? ⟨w.heap.size + 1, 4, none⟩ = some (.int .i64 d.vote) := S2.row.cell 4 _ rfl
      have y5 : V2.cell? ⟨w.heap.size + 1, 5, none⟩ = some (.slice A2 d.patch.length c2) := S2.row.cell 5 _ rfl
      have y6 : V2.cell? ⟨w.heap.size + 1, 6, none⟩ = some (.int .i64 d.start) := S2.row.cell 6 _ rfl
      have y7 : V2.cell? ⟨w.heap.size + 1, 7, none⟩ = some (.int .i64 d.until_) := S2.row.cell 7 _ rfl
      have y8 : V2.cell? ⟨w.heap.size + 1, 8, none⟩ = some (.int .i64 d.closes) := S2.row.cell 8 _ rfl
      obtain ⟨o1, o2⟩ := HO.out
      have HO1 := Lib.hid ((o1.on HB1.out).on HB2.out)
      have HO2 := Lib.hid ((o2.on HB1.out).on HB2.out)
      have HBB := Lib.hid S2.bel
      clear o1 o2 S2
      go_wp2
      refine bodyPost_ret (v := .tuple #[deedV d A1 c1 A2 c2, .bool true]) ?hr rfl ?_
      case hr => exact (res_l11 _ _ w.heap.size (.int .i64 d.kind) (.int .i64 d.member) (.slice A1 d.trust.length c1) (.string d.title) (.int .i64 d.vote) (.slice A2 d.patch.length c2) (.int .i64 d.start) (.int .i64 d.until_) (.int .i64 d.closes) true (by kernel_rfl) (by kernel_rfl) (by simp [go_sem, z0]) (by simp [go_sem, z1]) (by simp [go_sem, z2]) (by simp [go_sem, z3]) (by simp [go_sem, z4]) (by simp [go_sem, z5]) (by simp [go_sem, z6]) (by simp [go_sem, z7]) (by simp [go_sem, z8]))
      refine ⟨A1, c1, A2, c2, by rw [HN.out]; rfl, ?_, ?_, ?_⟩
      · rw [HN.out]
        refine OwnL.less (base := w.heap.size + 2) ?_ (by omega)
        iterate 9 refine OwnL.set ?_ _ (by simp)
        exact HO1.out
      · rw [HN.out]
        refine OwnL.less (base := w.heap.size + 2) ?_ (by omega)
        iterate 9 refine OwnL.set ?_ _ (by simp)
        exact HO2.out
      · iterate 9 refine Below.setCell ?_ (by simp) _
        exact HBB.out
    · have hs1 : (deedText d == s.toList) = false := by rw [ByteArray.toList_eq]; simpa using heq
      have HN : Hid (deedOf s.data.toList = none) := Lib.hid (inv_no HU.out (fun h => heq h.2))
      clear heq
      go_wp2
      refine bodyPost_ret (v := .tuple #[.agg #[.int .i64 0, .int .i64 0, .slice none 0 0, .string ⟨#[]⟩, .int .i64 0, .slice none 0 0, .int .i64 0, .int .i64 0, .int .i64 0], .bool false]) ?hr rfl ?_
      case hr => exact (res_l11 _ _ w.heap.size (.int .i64 0) (.int .i64 0) (.slice none 0 0) (.string ⟨#[]⟩) (.int .i64 0) (.slice none 0 0) (.int .i64 0) (.int .i64 0) (.int .i64 0) false (by kernel_rfl) (by kernel_rfl) (by simp [go_sem, z0]) (by simp [go_sem, z1]) (by simp [go_sem, z2]) (by simp [go_sem, z3]) (by simp [go_sem, z4]) (by simp [go_sem, z5]) (by simp [go_sem, z6]) (by simp [go_sem, z7]) (by simp [go_sem, z8]))
      refine ⟨none, 0, none, 0, by rw [HN.out]; rfl, by rw [HN.out]; exact OwnL.nil _ _ _, by rw [HN.out]; exact OwnL.nil _ _ _, ?_⟩
      iterate 9 refine Below.setCell ?_ (by simp) _
      exact S2.bel
end Go.Proofs.YthlfpiflegfoiaaGreatDoor
