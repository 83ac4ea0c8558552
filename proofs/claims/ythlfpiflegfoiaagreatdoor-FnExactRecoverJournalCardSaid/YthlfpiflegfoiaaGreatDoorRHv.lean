/- The reference's reader of a deed, walked: a vote. -/
import Derived.Test.YthlfpiflegfoiaaGreatDoorRH
namespace Go.Proofs.YthlfpiflegfoiaaGreatDoor
open Go.RowKit Go.Lib

def vp (v : List UInt8) : Nat → Int
  | 0 => 0
  | k + 1 => if wordV (k : Int) = v then (k : Int) else vp v k
theorem vp_all (v : List UInt8) : vp v 4 = voteIx v := by
  unfold voteIx
  by_cases h0 : v = wordV 0
  · subst h0; decide
  · by_cases h1 : v = wordV 1
    · subst h1; decide
    · by_cases h2 : v = wordV 2
      · subst h2; decide
      · by_cases h3 : v = wordV 3
        · subst h3; decide
        · rw [if_neg h0, if_neg h1, if_neg h2, if_neg h3]
          have e0 : ¬ wordV ((0 : Nat) : Int) = v := fun e => h0 e.symm
          have e1 : ¬ wordV ((1 : Nat) : Int) = v := fun e => h1 e.symm
          have e2 : ¬ wordV ((2 : Nat) : Int) = v := fun e => h2 e.symm
          have e3 : ¬ wordV ((3 : Nat) : Int) = v := fun e => h3 e.symm
          rw [vp, if_neg e3, vp, if_neg e2, vp, if_neg e1, vp, if_neg e0, vp]
theorem word_cell {k : Nat} (h : k < 4) : (#[.string ⟨#[110, 111, 110, 101]⟩, .string ⟨#[121, 101, 115]⟩, .string ⟨#[110, 111]⟩, .string ⟨#[98, 108, 97, 110, 107]⟩] : Array Value)[k]? = some (.string ⟨(wordV (k : Int)).toArray⟩) := by
  have : k = 0 ∨ k = 1 ∨ k = 2 ∨ k = 3 := by omega
  rcases this with rfl | rfl | rfl | rfl <;> rfl
theorem row_block {w : World} {g k : Nat} {cs : List Value} {u : Value} (h : Row w g cs) (hu : cs[k]? = some u) : w.cell? ⟨g, k, none⟩ = some u := h.cell k u hu

set_option maxRecDepth 100000 in
set_option maxHeartbeats 2000000 in
theorem readDeed1_vote (s : ByteArray) (w : World) (hs : s.size ≤ 1048576) (hw : (cutL 32 s.data.toList).1 = [118, 111, 116, 101]) :
    Calls Tryz.prog 33 #[.string s] w (DeedPost s.data.toList w) := by
  have HU0 : Hid (∀ q, okDeed q = true → deedText q = s.data.toList → cand1 s.data.toList = q) := Lib.hid (fun q h e => cand1_of h e)
  have HCD : Hid (cand1 s.data.toList = ⟨2, num1 (cutL 32 (cutL 32 s.data.toList).2).1, [], ⟨(cutL 32 (cutL 32 (cutL 32 s.data.toList).2).2).1.toArray⟩, voteIx (cutL 32 (cutL 32 (cutL 32 s.data.toList).2).2).2, [], 0, 0, 0⟩) := Lib.hid (by unfold cand1; dsimp only; rw [if_neg (by rw [hw]; decide), if_pos hw])
  have hl0 := cutL_len 32 s.data.toList
  have hsz : s.data.toList.length = s.size := by simp
  have HC := Lib.hid (fun W => cut1_any 32 32 rfl s W hs)
  generalize cutL 32 s.data.toList = p at *
  obtain ⟨wd, rest⟩ := p
  simp only at hw hl0 HCD HC
  subst hw
  have hr : (⟨rest.toArray⟩ : ByteArray).size ≤ 1048576 := by rw [mk_size]; omega
  have HC2 : Hid (∀ W, Calls Tryz.prog 32 #[.string ⟨rest.toArray⟩, .int .u8 32] W (RetQ (.tuple #[.string ⟨(cutL 32 rest).1.toArray⟩, .string ⟨(cutL 32 rest).2.toArray⟩]) W)) := Lib.hid (fun W => cut1_any 32 32 rfl ⟨rest.toArray⟩ W hr)
  have hl1 := cutL_len 32 rest
  generalize cutL 32 rest = ab at *
  obtain ⟨a, b⟩ := ab
  simp only at hl1 HCD HC2
  have hr2 : (⟨b.toArray⟩ : ByteArray).size ≤ 1048576 := by rw [mk_size]; omega
  have HC3 : Hid (∀ W, Calls Tryz.prog 32 #[.string ⟨b.toArray⟩, .int .u8 32] W (RetQ (.tuple #[.string ⟨(cutL 32 b).1.toArray⟩, .string ⟨(cutL 32 b).2.toArray⟩]) W)) := Lib.hid (fun W => cut1_any 32 32 rfl ⟨b.toArray⟩ W hr2)
  have hl2 := cutL_len 32 b
  generalize cutL 32 b = tv at *
  obtain ⟨tt, vt⟩ := tv
  simp only at hl2 HCD HC3
  have HA : Hid (∀ W, Calls Tryz.prog 49 #[.string ⟨a.toArray⟩] W (RetB (.tuple #[.int .i64 (num1 a), .bool (numOf (-999999999) 999999999 a).isSome]) W)) := Lib.hid (fun W => read1_any ⟨a.toArray⟩ W (by rw [mk_size]; omega))
  generalize num1 a = mem at *
  generalize (numOf (-999999999) 999999999 a).isSome = mok at *
  obtain ⟨ti, hti⟩ : ∃ ti : ByteArray, ti = ⟨tt.toArray⟩ := ⟨_, rfl⟩
  obtain ⟨vv, hvv⟩ : ∃ vv : ByteArray, vv = ⟨vt.toArray⟩ := ⟨_, rfl⟩
  have hvl : vv.toList = vt := by rw [hvv, ByteArray.toList_eq]
  have HTS : Hid (ti.size ≤ maxLen) := Lib.hid (by rw [hti, mk_size]; unfold maxLen; omega)
  have HU : Hid (∀ q, okDeed q = true → deedText q = s.data.toList → (⟨2, mem, [], ti, vp vt 4, [], 0, 0, 0⟩ : Deed) = q) := Lib.hid (fun q h e => by rw [vp_all, hti, ← HCD.out]; exact HU0.out q h e)
  rw [← hti, ← hvv] at HC3
  have HVL := Lib.hid hvl
  clear HU0 HCD hl0 hl1 hl2 hr hr2 hsz hti hvv hvl
  go_enter Tryz.func33, Tryz.ntmps33
  go_wp2_with (fail)
  refine (HC.out _).mono ?_
  rintro e w1 ⟨rfl, m1, rfl⟩
  go_wp2_with (fail)
  obtain ⟨V0, S0, hV0⟩ : ∃ V0, St w V0 (deedCs zeroDeed none 0 none 0) ∧ (((w.alloc (.cells #[.int .i64 0, .int .i64 0, .slice none 0 0, .string ⟨#[]⟩, .int .i64 0, .slice none 0 0, .int .i64 0, .int .i64 0, .int .i64 0] 39)).drewN m1).alloc (.cells #[.int .i64 0, .int .i64 0, .slice none 0 0, .string ⟨#[]⟩, .int .i64 0, .slice none 0 0, .int .i64 0, .int .i64 0, .int .i64 0] 39)) = V0 := ⟨_, St.start w m1, rfl⟩
  rw [hV0]
  clear hV0
  refine (HC2.out _).mono ?_
  rintro e w2 ⟨rfl, m2, hw⟩
  have S1 := S0.drew' hw
  clear S0 hw
  go_wp2_with (fail)
  refine (HC3.out _).mono ?_
  rintro e w2' ⟨rfl, m3, hw⟩
  have S1 := S1.drew' hw
  clear hw
  have p0 : w2'.cell? ⟨w.heap.size + 1, 0, none⟩ = some (.int .i64 0) := S1.row.cell 0 _ rfl
  have q0 : w2'.frozen? ⟨w.heap.size + 1, 0, none⟩ = false := S1.row.free 0 (by simp [deedCs])
  go_wp2_with (fail)
  refine (HA.out _).mono ?_
  rintro e w3 ⟨rfl, hb3⟩
  have S2 : St w w3 _ := (S1.set 0 (.int .i64 2) (by simp [deedCs])).below hb3
  clear p0 q0 S1 hb3
  have p1 : w3.cell? ⟨w.heap.size + 1, 1, none⟩ = some (.int .i64 0) := S2.row.cell 1 _ rfl
  have q1 : w3.frozen? ⟨w.heap.size + 1, 1, none⟩ = false := S2.row.free 1 (by simp [deedCs])
  have p3 : w3.cell? ⟨w.heap.size + 1, 3, none⟩ = some (.string ⟨#[]⟩) := S2.row.cell 3 _ rfl
  have q3 : w3.frozen? ⟨w.heap.size + 1, 3, none⟩ = false := S2.row.free 3 (by simp [deedCs])
  go_wp2_with (fail)
  refine (words1_any _).mono ?_
  rintro e w4 ⟨rfl, hw4⟩
  have S3 := ((S2.set 1 (.int .i64 mem) (by simp [deedCs])).set 3 (.string ti) (by simp [deedCs])).alloc' hw4
  have R4 : Row w4 w3.heap.size [.string ⟨#[110, 111, 110, 101]⟩, .string ⟨#[121, 101, 115]⟩, .string ⟨#[110, 111]⟩, .string ⟨#[98, 108, 97, 110, 107]⟩] := by
    have h := Row.new ((w3.setCell ⟨w.heap.size + 1, 1, none⟩ (.int .i64 mem)).setCell ⟨w.heap.size + 1, 3, none⟩ (.string ti)) #[.string ⟨#[110, 111, 110, 101]⟩, .string ⟨#[121, 101, 115]⟩, .string ⟨#[110, 111]⟩, .string ⟨#[98, 108, 97, 110, 107]⟩] 9
    rw [World.size_setCell, World.size_setCell] at h
    rw [hw4]
    exact h
  have hgt := S2.siz
  have HS3 := Lib.hid S3
  have HR4 := Lib.hid R4
  clear hw4 p1 q1 p3 q3 S2 S3 R4
  go_wp2
  go_loopw [14] (fun i wr => ∃ k : Nat, k ≤ 4 ∧ i = .int .i64 (k : Int) ∧ St w wr [.int .i64 2, .int .i64 mem, .slice none 0 0, .string ti, .int .i64 (vp vt k), .slice none 0 0, .int .i64 0, .int .i64 0, .int .i64 0] ∧ Row wr w3.heap.size [.string ⟨#[110, 111, 110, 101]⟩, .string ⟨#[121, 101, 115]⟩, .string ⟨#[110, 111]⟩, .string ⟨#[98, 108, 97, 110, 107]⟩]) (fun i _ => 4 - (RowKit.intOf i).toNat)
  case atStart => exact ⟨0, Nat.zero_le _, rfl, HS3.out, HR4.out⟩
  case round =>
    obtain ⟨k, hk, rfl, hS, hR⟩ := hrel
    by_cases hlt : k < 4
    · have HSS := Lib.hid hS
      have HRR := Lib.hid hR
      have hwc := word_cell hlt
      have x0 : wr.cell? ⟨w3.heap.size, k, none⟩ = some (.string ⟨(wordV (k : Int)).toArray⟩) := hR.cell k _ (by simpa using hwc)
      have p4 : wr.cell? ⟨w.heap.size + 1, 4, none⟩ = some (.int .i64 (vp vt k)) := hS.row.cell 4 _ rfl
      have q4 : wr.frozen? ⟨w.heap.size + 1, 4, none⟩ = false := hS.row.free 4 (by simp)
      have hkn : Hid (vp vt (k + 1) = if wordV (k : Int) = vt then (k : Int) else vp vt k) := Lib.hid rfl
      clear hS hR hwc
      by_cases he : wordV (k : Int) = vt
      · have h1 : (wordV (k : Int) == vv.toList) = true := by rw [HVL.out, he]; simp
        have HK : Hid (vp vt (k + 1) = (k : Int)) := Lib.hid (by rw [hkn.out, if_pos he])
        clear he hkn
        generalize wordV (k : Int) = wk at *
        go_wp2
        go_roundw
        case rel => exact ⟨k + 1, by omega, by go_num, by rw [HK.out]; exact HSS.out.set 4 _ (by simp), HRR.out.far _ (by simp; omega)⟩
        case measure => simp [RowKit.intOf]; omega
      · have h1 : (wordV (k : Int) == vv.toList) = false := by rw [HVL.out]; simpa using he
        have HK : Hid (vp vt (k + 1) = vp vt k) := Lib.hid (by rw [hkn.out, if_neg he])
        clear he hkn
        generalize wordV (k : Int) = wk at *
        go_wp2
        go_roundw
        case rel => exact ⟨k + 1, by omega, by go_num, by rw [HK.out]; exact HSS.out, HRR.out⟩
        case measure => simp [RowKit.intOf]; omega
    · have hge : ¬ (k : Int) < 4 := by omega
      have hk4 : k = 4 := by omega
      have HC3 : Hid (Cand s.data.toList w wr ⟨2, mem, [], ti, vp vt 4, [], 0, 0, 0⟩ none 0 none 0) := Lib.hid ⟨by rw [← hk4]; exact hS, OwnL.nil _ _ _, OwnL.nil _ _ _, fun e he => (by cases he), HTS.out, HU.out⟩
      clear hk4 hlt hS hR HS3 HR4 HU HTS
      go_wp2_with (fail)
      obtain ⟨d, A1, c1, A2, c2, V, hC, hV⟩ : ∃ d A1 c1 A2 c2 V, Cand s.data.toList w V d A1 c1 A2 c2 ∧ wr = V := ⟨_, _, _, _, _, _, HC3.out, rfl⟩
      rw [hV]
      clear hV
      have HDP := Lib.hid hC.deed
      have HS := Lib.hid hC.st
      have HU := Lib.hid hC.un
      have HO := Lib.hid (And.intro hC.o1 hC.o2)
      clear hC
      cases hok : okDeed d with
      | false =>
        have HN : Hid (deedOf s.data.toList = none) := Lib.hid (inv_no HU.out (by rw [hok]; simp))
        have HD1 := deed1_any d (w.heap.size + 1) 0 A1 c1 A2 c2 V HDP.out
        rw [hok] at HD1
        clear hok
        refine HD1.mono ?_
        rintro e V1 ⟨rfl, hb1⟩
        have S1 := HS.out.below hb1
        clear hb1 HD1
        have z0 : V1.cell? ⟨w.heap.size, 0, none⟩ = some (.int .i64 0) := S1.res.cell 0 _ rfl
        have z1 : V1.cell? ⟨w.heap.size, 1, none⟩ = some (.int .i64 0) := S1.res.cell 1 _ rfl
        have z2 : V1.cell? ⟨w.heap.size, 2, none⟩ = some (.slice none 0 0) := S1.res.cell 2 _ rfl
        have z3 : V1.cell? ⟨w.heap.size, 3, none⟩ = some (.string ⟨#[]⟩) := S1.res.cell 3 _ rfl
        have z4 : V1.cell? ⟨w.heap.size, 4, none⟩ = some (.int .i64 0) := S1.res.cell 4 _ rfl
        have z5 : V1.cell? ⟨w.heap.size, 5, none⟩ = some (.slice none 0 0) := S1.res.cell 5 _ rfl
        have z6 : V1.cell? ⟨w.heap.size, 6, none⟩ = some (.int .i64 0) := S1.res.cell 6 _ rfl
        have z7 : V1.cell? ⟨w.heap.size, 7, none⟩ = some (.int .i64 0) := S1.res.cell 7 _ rfl
        have z8 : V1.cell? ⟨w.heap.size, 8, none⟩ = some (.int .i64 0) := S1.res.cell 8 _ rfl
        have f0 : V1.frozen? ⟨w.heap.size, 0, none⟩ = false := S1.res.free 0 (by decide)
        have f1 : V1.frozen? ⟨w.heap.size, 1, none⟩ = false := S1.res.free 1 (by decide)
        have f2 : V1.frozen? ⟨w.heap.size, 2, none⟩ = false := S1.res.free 2 (by decide)
        have f3 : V1.frozen? ⟨w.heap.size, 3, none⟩ = false := S1.res.free 3 (by decide)
        have f4 : V1.frozen? ⟨w.heap.size, 4, none⟩ = false := S1.res.free 4 (by decide)
        have f5 : V1.frozen? ⟨w.heap.size, 5, none⟩ = false := S1.res.free 5 (by decide)
        have f6 : V1.frozen? ⟨w.heap.size, 6, none⟩ = false := S1.res.free 6 (by decide)
        have f7 : V1.frozen? ⟨w.heap.size, 7, none⟩ = false := S1.res.free 7 (by decide)
        have f8 : V1.frozen? ⟨w.heap.size, 8, none⟩ = false := S1.res.free 8 (by decide)
        go_wp2
        refine bodyPost_ret (v := .tuple #[.agg #[.int .i64 0, .int .i64 0, .slice none 0 0, .string ⟨#[]⟩, .int .i64 0, .slice none 0 0, .int .i64 0, .int .i64 0, .int .i64 0], .bool false]) ?hr rfl ?_
        case hr => exact (res_l11 _ _ w.heap.size (.int .i64 0) (.int .i64 0) (.slice none 0 0) (.string ⟨#[]⟩) (.int .i64 0) (.slice none 0 0) (.int .i64 0) (.int .i64 0) (.int .i64 0) false (by kernel_rfl) (by kernel_rfl) (by simp [go_sem, z0]) (by simp [go_sem, z1]) (by simp [go_sem, z2]) (by simp [go_sem, z3]) (by simp [go_sem, z4]) (by simp [go_sem, z5]) (by simp [go_sem, z6]) (by simp [go_sem, z7]) (by simp [go_sem, z8]))
        refine ⟨none, 0, none, 0, by rw [HN.out]; rfl, by rw [HN.out]; exact OwnL.nil _ _ _, by rw [HN.out]; exact OwnL.nil _ _ _, ?_⟩
        iterate 9 refine Below.setCell ?_ (by simp) _
        exact S1.bel
      | true =>
        have HD1 := deed1_any d (w.heap.size + 1) 0 A1 c1 A2 c2 V HDP.out
        rw [hok] at HD1
        have HOK := Lib.hid hok
        clear hok
        refine HD1.mono ?_
        rintro e V1 ⟨rfl, hb1⟩
        have S1 := HS.out.below hb1
        have HB1 := Lib.hid hb1
        have HTX := Lib.hid (text1_any d (w.heap.size + 1) 0 A1 c1 A2 c2 V1 (HDP.out.aft ⟨V1, hb1⟩) HOK.out)
        clear hb1 HD1
        go_wp2_with (fail)
        refine HTX.out.mono ?_
        rintro e V2 ⟨rfl, hb2⟩
        have S2 := S1.below hb2
        have HB2 := Lib.hid hb2
        clear hb2 S1
        have z0 : V2.cell? ⟨w.heap.size, 0, none⟩ = some (.int .i64 0) := S2.res.cell 0 _ rfl
        have z1 : V2.cell? ⟨w.heap.size, 1, none⟩ = some (.int .i64 0) := S2.res.cell 1 _ rfl
        have z2 : V2.cell? ⟨w.heap.size, 2, none⟩ = some (.slice none 0 0) := S2.res.cell 2 _ rfl
        have z3 : V2.cell? ⟨w.heap.size, 3, none⟩ = some (.string ⟨#[]⟩) := S2.res.cell 3 _ rfl
        have z4 : V2.cell? ⟨w.heap.size, 4, none⟩ = some (.int .i64 0) := S2.res.cell 4 _ rfl
        have z5 : V2.cell? ⟨w.heap.size, 5, none⟩ = some (.slice none 0 0) := S2.res.cell 5 _ rfl
        have z6 : V2.cell? ⟨w.heap.size, 6, none⟩ = some (.int .i64 0) := S2.res.cell 6 _ rfl
        have z7 : V2.cell? ⟨w.heap.size, 7, none⟩ = some (.int .i64 0) := S2.res.cell 7 _ rfl
        have z8 : V2.cell? ⟨w.heap.size, 8, none⟩ = some (.int .i64 0) := S2.res.cell 8 _ rfl
        have f0 : V2.frozen? ⟨w.heap.size, 0, none⟩ = false := S2.res.free 0 (by decide)
        have f1 : V2.frozen? ⟨w.heap.size, 1, none⟩ = false := S2.res.free 1 (by decide)
        have f2 : V2.frozen? ⟨w.heap.size, 2, none⟩ = false := S2.res.free 2 (by decide)
        have f3 : V2.frozen? ⟨w.heap.size, 3, none⟩ = false := S2.res.free 3 (by decide)
        have f4 : V2.frozen? ⟨w.heap.size, 4, none⟩ = false := S2.res.free 4 (by decide)
        have f5 : V2.frozen? ⟨w.heap.size, 5, none⟩ = false := S2.res.free 5 (by decide)
        have f6 : V2.frozen? ⟨w.heap.size, 6, none⟩ = false := S2.res.free 6 (by decide)
        have f7 : V2.frozen? ⟨w.heap.size, 7, none⟩ = false := S2.res.free 7 (by decide)
        have f8 : V2.frozen? ⟨w.heap.size, 8, none⟩ = false := S2.res.free 8 (by decide)
        by_cases heq : deedText d = s.data.toList
        · have hs1 : (deedText d == s.toList) = true := by rw [ByteArray.toList_eq, heq]; simp
          have HN : Hid (deedOf s.data.toList = some d) := Lib.hid (inv_of HU.out HOK.out heq)
          clear heq
          have y0 : V2.cell? ⟨w.heap.size + 1, 0, none⟩ = some (.int .i64 d.kind) := S2.row.cell 0 _ rfl
          have y1 : V2.cell? ⟨w.heap.size + 1, 1, none⟩ = some (.int .i64 d.member) := S2.row.cell 1 _ rfl
          have y2 : V2.cell? ⟨w.heap.size + 1, 2, none⟩ = some (.slice A1 d.trust.length c1) := S2.row.cell 2 _ rfl
          have y3 : V2.cell? ⟨w.heap.size + 1, 3, none⟩ = some (.string d.title) := S2.row.cell 3 _ rfl
          have y4 : V2.cell? ⟨w.heap.size + 1, 4, none⟩ = some (.int .i64 d.vote) := S2.row.cell 4 _ rfl
          have y5 : V2.cell? ⟨w.heap.size + 1, 5, none⟩ = some (.slice A2 d.patch.length c2) := S2.row.cell 5 _ rfl
          have y6 : V2.cell? ⟨w.heap.size + 1, 6, none⟩ = some (.int .i64 d.start) := S2.row.cell 6 _ rfl
          have y7 : V2.cell? ⟨w.heap.size + 1, 7, none⟩ = some (.int .i64 d.until_) := S2.row.cell 7 _ rfl
          have y8 : V2.cell? ⟨w.heap.size + 1, 8, none⟩ = some (.int .i64 d.closes) := S2.row.cell 8 _ rfl
          obtain ⟨o1, o2⟩ := HO.out
          have HO1 := Lib.hid ((o1.on HB1.out).on HB2.out)
          have HO2 := Lib.hid ((o2.on HB1.out).on HB2.out)
          have HBB := Lib.hid S2.bel
          clear o1 o2 S2
          go_wp2
          refine bodyPost_ret (v := .tuple #[deedV d A1 c1 A2 c2, .bool true]) ?hr rfl ?_
          case hr => exact (res_l11 _ _ w.heap.size (.int .i64 d.kind) (.int .i64 d.member) (.slice A1 d.trust.length c1) (.string d.title) (.int .i64 d.vote) (.slice A2 d.patch.length c2) (.int .i64 d.start) (.int .i64 d.until_) (.int .i64 d.closes) true (by kernel_rfl) (by kernel_rfl) (by simp [go_sem, z0]) (by simp [go_sem, z1]) (by simp [go_sem, z2]) (by simp [go_sem, z3]) (by simp [go_sem, z4]) (by simp [go_sem, z5]) (by simp [go_sem, z6]) (by simp [go_sem, z7]) (by simp [go_sem, z8]))
          refine ⟨A1, c1, A2, c2, by rw [HN.out]; rfl, ?_, ?_, ?_⟩
          · rw [HN.out]
            refine OwnL.less (base := w.heap.size + 2) ?_ (by omega)
            iterate 9 refine OwnL.set ?_ _ (by simp)
            exact HO1.out
          · rw [HN.out]
            refine OwnL.less (base := w.heap.size + 2) ?_ (by omega)
            iterate 9 refine OwnL.set ?_ _ (by simp)
            exact HO2.out
          · iterate 9 refine Below.setCell ?_ (by simp) _
            exact HBB.out
        · have hs1 : (deedText d == s.toList) = false := by rw [ByteArray.toList_eq]; simpa using heq
          have HN : Hid (deedOf s.data.toList = none) := Lib.hid (inv_no HU.out (fun h => heq h.2))
          clear heq
          go_wp2
          refine bodyPost_ret (v := .tuple #[.agg #[.int .i64 0, .int .i64 0, .slice none 0 0, .string ⟨#[]⟩, .int .i64 0, .slice none 0 0, .int .i64 0, .int .i64 0, .int .i64 0], .bool false]) ?hr rfl ?_
          case hr => exact (res_l11 _ _ w.heap.size (.int .i64 0) (.int .i64 0) (.slice none 0 0) (.string ⟨#[]⟩) (.int .i64 0) (.slice none 0 0) (.int .i64 0) (.int .i64 0) (.int .i64 0) false (by kernel_rfl) (by kernel_rfl) (by simp [go_sem, z0]) (by simp [go_sem, z1]) (by simp [go_sem, z2]) (by simp [go_sem, z3]) (by simp [go_sem, z4]) (by simp [go_sem, z5]) (by simp [go_sem, z6]) (by simp [go_sem, z7]) (by simp [go_sem, z8]))
          refine ⟨none, 0, none, 0, by rw [HN.out]; rfl, by rw [HN.out]; exact OwnL.nil _ _ _, by rw [HN.out]; exact OwnL.nil _ _ _, ?_⟩
          iterate 9 refine Below.setCell ?_ (by simp) _
          exact S2.bel
end Go.Proofs.YthlfpiflegfoiaaGreatDoor
