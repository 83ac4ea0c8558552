/- The program's reader of a deed, walked: a vote. -/
import Derived.Test.YthlfpiflegfoiaaGreatDoorRJ
import Derived.Test.YthlfpiflegfoiaaGreatDoorLawV
import Derived.Deep.CutBlock
namespace Go.Proofs.YthlfpiflegfoiaaGreatDoor
open Go.RowKit Go.Lib

set_option maxRecDepth 100000 in
set_option maxHeartbeats 8000000 in
theorem readDeed2_vote (s : ByteArray) (w : World) (hs : s.size ≤ 1048576) (hE : EnvR w.heap.size w) (hyv : (splitNC 32 6 s.data.toList).getD 0 [] = [118, 111, 116, 101] ∧ (splitNC 32 6 s.data.toList).length = 4) :
    Calls Tryz.prog 38 #[.string s] w (DeedPost s.data.toList w) := by
  have E := Lib.hid hE
  have hsz : s.data.toList.length = s.size := by simp
  clear hE
  by_cases h2000 : s.size ≤ 2000
  · have bW : Below w.heap.size w (w.alloc (.cells #[.int .i64 0, .int .i64 0, .slice none 0 0, .string ⟨#[]⟩, .int .i64 0, .slice none 0 0, .int .i64 0, .int .i64 0, .int .i64 0] 39)) := (Below.refl _ _).alloc (Nat.le_refl _) _
    have hx : w.heap.size < (w.alloc (.cells #[.int .i64 0, .int .i64 0, .slice none 0 0, .string ⟨#[]⟩, .int .i64 0, .slice none 0 0, .int .i64 0, .int .i64 0, .int .i64 0] 39)).heap.size := by simp
    have hxe : (w.alloc (.cells #[.int .i64 0, .int .i64 0, .slice none 0 0, .string ⟨#[]⟩, .int .i64 0, .slice none 0 0, .int .i64 0, .int .i64 0, .int .i64 0] 39)).heap.size = w.heap.size + 1 := by simp
    have hR0 := Row.new w #[.int .i64 0, .int .i64 0, .slice none 0 0, .string ⟨#[]⟩, .int .i64 0, .slice none 0 0, .int .i64 0, .int .i64 0, .int .i64 0] 39
    have HSP := Lib.hid (E.out.spn _ bW s (by omega))
    have HU : Hid (∀ q, okDeed q = true → deedText q = s.data.toList → cand2 (splitNC 32 6 s.data.toList) = q) := Lib.hid (fun q h e => cand2_of h e)
    have hn1 := splitNC_pos (c := 32) 6 s.data.toList
    have hn7 := splitNC_le (c := 32) 6 s.data.toList
    have HWL : Hid (∀ l ∈ splitNC 32 6 s.data.toList, l.length ≤ 2000) := Lib.hid (fun l hl => by
      have := splitNC_len 32 6 s.data.toList l hl
      omega)
    have HYV := Lib.hid hyv
    clear hyv
    generalize splitNC 32 6 s.data.toList = ws at *
    rw [hxe] at HSP
    go_enter Tryz.func38, Tryz.ntmps38
    go_wp2_with (fail)
    refine (HSP.out).mono ?_
    rintro e w1 ⟨c, rfl, hS, hb1⟩
    have hw1 : w.heap.size + 1 ≤ w1.heap.size := by have := hb1.size; omega
    have HB1 : Hid (Below w.heap.size w w1) := Lib.hid (bW.trans (hb1.mono (Nat.le_succ _)))
    have HR1 : Hid (Row w1 w.heap.size (deedCs zeroDeed none 0 none 0)) := Lib.hid (hR0.below hb1 (Nat.lt_succ_self _))
    have HW : Hid (Words w1 (w.heap.size + 1) ws) := Lib.hid (by
      refine ⟨?_, fun k l hk => ?_⟩
      · obtain ⟨b, off, hA, hb, _⟩ := strs_get hS (k := 0) (List.getElem?_eq_getElem (by omega))
        injection hA with hA
        injection hA with hA1 hA2
        omega
      · obtain ⟨b, off, hA, hb, hc⟩ := strs_get hS hk
        injection hA with hA
        injection hA with hA1 hA2
        subst hA1 hA2
        rwa [Nat.zero_add] at hc)
    clear hS hb1 hR0 hx HSP bW
    have HP0 : Hid (Pre w w1 (w1.alloc (.cells #[.int .i64 0, .int .i64 0, .slice none 0 0, .string ⟨#[]⟩, .int .i64 0, .slice none 0 0, .int .i64 0, .int .i64 0, .int .i64 0] 39)) zeroDeed none 0 none 0) := Lib.hid ⟨Si.start HR1.out HB1.out (by omega) _, OwnL.nil _ _ _, OwnL.nil _ _ _, fun e he => (by cases he), Nat.zero_le _⟩
    go_upto_block 0 with (fail)
    go_cut [] (fun wx => ∃ d A1 c1 A2 c2, Pre w w1 wx d A1 c1 A2 c2 ∧ { d with member := memb2 ws } = cand2 ws ∧ d.member = 0)
    case first =>
      obtain ⟨V0, hP0, hV⟩ : ∃ V0, Pre w w1 V0 zeroDeed none 0 none 0 ∧ w1.alloc (.cells #[.int .i64 0, .int .i64 0, .slice none 0 0, .string ⟨#[]⟩, .int .i64 0, .slice none 0 0, .int .i64 0, .int .i64 0, .int .i64 0] 39) = V0 := ⟨_, HP0.out, rfl⟩
      rw [hV]
      clear hV HP0
      have S0 := hP0.st
      have HG : Hid (∀ k, k < ws.length → ws[k]? = some (ws.getD k [])) := Lib.hid (fun k hk => by rw [List.getD_eq_getElem?_getD, List.getElem?_eq_getElem hk]; rfl)
      have HLK : Hid (∀ k, k < ws.length → (ws.getD k []).length ≤ 2000) := Lib.hid (fun k hk => HWL.out _ (List.mem_of_getElem? (HG.out k hk)))
      have hx0 := HW.out.at S0 (HG.out 0 (by omega))
      obtain ⟨a0, ha0⟩ : ∃ a0 : ByteArray, a0 = ⟨(ws.getD 0 []).toArray⟩ := ⟨_, rfl⟩
      have ha : a0.toList = ws.getD 0 [] := by rw [ha0, ByteArray.toList_eq]
      rw [← ha0] at hx0
      have HS0 := Lib.hid S0
      have HA := Lib.hid ha
      clear ha0 ha hP0 S0 HR1
      obtain ⟨hvo, h4⟩ := HYV.out
      have hnx : ¬ ws.getD 0 [] = [110, 101, 120, 116] := by rw [hvo]; decide
      have htr : ¬ ws.getD 0 [] = [116, 114, 117, 115, 116] := by rw [hvo]; decide
      have e1 : (a0.toList == [110, 101, 120, 116]) = false := by rw [HA.out]; simpa using hnx
      have e2 : (a0.toList == [116, 114, 117, 115, 116]) = false := by rw [HA.out]; simpa using htr
      have e3 : (a0.toList == [118, 111, 116, 101]) = true := by rw [HA.out, hvo]; rfl
      have e4 : (a0.toList == [112, 114, 111, 112, 111, 115, 101]) = false := by rw [HA.out, hvo]; rfl
      have hq : ((ws.length : Int) == 4) = true := by rw [h4]; rfl
      have HC : Hid (cand2 ws = ⟨2, memb2 ws, [], ⟨(ws.getD 2 []).toArray⟩, ixOf (ws.getD 3 []), [], 0, 0, 0⟩) := Lib.hid (by unfold cand2; rw [if_neg hnx, if_neg (fun h => htr h.1), if_pos ⟨hvo, h4⟩])
      have x2 := HW.out.at HS0.out (HG.out 2 (by omega))
      have x3 := HW.out.at HS0.out (HG.out 3 (by omega))
      have hl2 := HLK.out 2 (by omega)
      have hn2 : 3 < ws.length := by omega
      obtain ⟨ti, hti⟩ : ∃ ti : ByteArray, ti = ⟨(ws.getD 2 []).toArray⟩ := ⟨_, rfl⟩
      obtain ⟨vb, hvb⟩ : ∃ vb : ByteArray, vb = ⟨(ws.getD 3 []).toArray⟩ := ⟨_, rfl⟩
      have HTS : Hid (ti.size ≤ maxLen) := Lib.hid (by rw [hti, mk_size]; unfold maxLen; omega)
      rw [← hti] at x2 HC
      rw [← hvb] at x3
      have hvd : vb.data.toList = ws.getD 3 [] := by rw [hvb]
      have HIX : Hid (∀ (g : Nat) (V : World), Row V g [.string ⟨#[110, 111, 110, 101]⟩, .string ⟨#[121, 101, 115]⟩, .string ⟨#[110, 111]⟩, .string ⟨#[98, 108, 97, 110, 107]⟩] → Calls Tryz.prog 59 #[.slice (some ⟨g, 0, none⟩) 4 4, .string vb] V (RetQ (.int .i64 (ixOf (ws.getD 3 []))) V)) := Lib.hid (fun g V h => by rw [← hvd]; exact indexS_any g vb V h)
      have HIR : Hid (∀ W : World, Row (W.alloc (.cells #[.string ⟨#[110, 111, 110, 101]⟩, .string ⟨#[121, 101, 115]⟩, .string ⟨#[110, 111]⟩, .string ⟨#[98, 108, 97, 110, 107]⟩] 9)) W.heap.size [.string ⟨#[110, 111, 110, 101]⟩, .string ⟨#[121, 101, 115]⟩, .string ⟨#[110, 111]⟩, .string ⟨#[98, 108, 97, 110, 107]⟩]) := Lib.hid (fun W => Row.new _ _ _)
      have HIRd : Hid (∀ W : World, Row (W.alloc (.cells #[.string ⟨#[110, 111, 110, 101]⟩, .string ⟨#[121, 101, 115]⟩, .string ⟨#[110, 111]⟩, .string ⟨#[98, 108, 97, 110, 107]⟩] 9)).drew W.heap.size [.string ⟨#[110, 111, 110, 101]⟩, .string ⟨#[121, 101, 115]⟩, .string ⟨#[110, 111]⟩, .string ⟨#[98, 108, 97, 110, 107]⟩]) := Lib.hid (fun W => (HIR.out W).drew)
      have HIRe : Hid (∀ W : World, Row (W.alloc (.cells #[.string ⟨#[110, 111, 110, 101]⟩, .string ⟨#[121, 101, 115]⟩, .string ⟨#[110, 111]⟩, .string ⟨#[98, 108, 97, 110, 107]⟩] 9)).drew.drew W.heap.size [.string ⟨#[110, 111, 110, 101]⟩, .string ⟨#[121, 101, 115]⟩, .string ⟨#[110, 111]⟩, .string ⟨#[98, 108, 97, 110, 107]⟩]) := Lib.hid (fun W => (HIRd.out W).drew)
      generalize ixOf (ws.getD 3 []) = ix at *
      have p0 : V0.cell? ⟨w1.heap.size, 0, none⟩ = some (.int .i64 0) := HS0.out.row.cell 0 _ rfl
      have q0 : V0.frozen? ⟨w1.heap.size, 0, none⟩ = false := HS0.out.row.free 0 (by simp [deedCs])
      have p3 : V0.cell? ⟨w1.heap.size, 3, none⟩ = some (.string ⟨#[]⟩) := HS0.out.row.cell 3 _ rfl
      have q3 : V0.frozen? ⟨w1.heap.size, 3, none⟩ = false := HS0.out.row.free 3 (by simp [deedCs])
      have p4 : V0.cell? ⟨w1.heap.size, 4, none⟩ = some (.int .i64 0) := HS0.out.row.cell 4 _ rfl
      have q4 : V0.frozen? ⟨w1.heap.size, 4, none⟩ = false := HS0.out.row.free 4 (by simp [deedCs])
      have hsz0 := HS0.out.siz
      have hwl1 : w.heap.size + 1 < V0.heap.size := Nat.lt_trans HW.out.1 hsz0
      have hwl2 : w.heap.size + 1 ≠ V0.heap.size := Nat.ne_of_lt hwl1
      clear hnx htr hvo h4 hti hvb hvd hl2
      have HFIN : Hid (∀ n, Pre w w1 (((((V0.alloc (.cells #[.string ⟨#[110, 111, 110, 101]⟩, .string ⟨#[121, 101, 115]⟩, .string ⟨#[110, 111]⟩, .string ⟨#[98, 108, 97, 110, 107]⟩] 9)).drewN n).setCell ⟨w1.heap.size, 0, none⟩ (.int .i64 2)).setCell ⟨w1.heap.size, 3, none⟩ (.string ti)).setCell ⟨w1.heap.size, 4, none⟩ (.int .i64 ix)) ⟨2, 0, [], ti, ix, [], 0, 0, 0⟩ none 0 none 0) := Lib.hid (fun n => by
        have b1 : Below V0.heap.size V0 ((V0.alloc (.cells #[.string ⟨#[110, 111, 110, 101]⟩, .string ⟨#[121, 101, 115]⟩, .string ⟨#[110, 111]⟩, .string ⟨#[98, 108, 97, 110, 107]⟩] 9)).drewN n) := below_drewN ((Below.refl _ _).alloc (Nat.le_refl _) _) n
        exact ⟨(((HS0.out.below b1).set 0 _ (by simp [deedCs])).set 3 _ (by simp [deedCs])).set 4 _ (by simp [deedCs]), OwnL.nil _ _ _, OwnL.nil _ _ _, fun e he => (by cases he), HTS.out⟩)
      go_upto_region 12 with (fail)
      clear e1 e2 e3 e4 hq E HWL HG HLK HA HB1 HW HU hx0 h2000 hsz hs hxe hn1 hn7 hw1 HYV HTS HS0
      go_region_with (first | (go_at_call 44; refine (words2_any _).mono ?_; rintro e w' ⟨rfl, rfl⟩) | (go_at_call 59; refine (HIX.out _ _ ?_).mono ?_; (first | exact HIR.out _ | exact HIRd.out _ | exact HIRe.out _); rintro e w' ⟨rfl, m, rfl⟩))
      all_goals
        go_wp2_with (fail)
        go_meet
        exact ⟨_, _, _, _, _, HFIN.out _, HC.out.symm, rfl⟩
    case rest =>
      obtain ⟨d, A1, c1, A2, c2, hP, hd, hm⟩ := hcut
      have HG : Hid (∀ k, k < ws.length → ws[k]? = some (ws.getD k [])) := Lib.hid (fun k hk => by rw [List.getD_eq_getElem?_getD, List.getElem?_eq_getElem hk]; rfl)
      have HLK : Hid (∀ k, k < ws.length → (ws.getD k []).length ≤ 2000) := Lib.hid (fun k hk => HWL.out _ (List.mem_of_getElem? (HG.out k hk)))
      by_cases h1n : 1 < ws.length
      · have hl1 := HLK.out 1 h1n
        have HNUM : Hid (∀ V : World, Below w.heap.size w V → Calls Tryz.prog 60 #[.string ⟨(ws.getD 1 []).toArray⟩, .int .i64 0, .int .i64 12] V (RetB (.tuple #[.int .i64 (num2 12 (ws.getD 1 [])), .bool (numOf 0 12 (ws.getD 1 [])).isSome]) V)) := Lib.hid (fun V bw => number2_any ⟨(ws.getD 1 []).toArray⟩ 0 12 V (by rw [mk_size]; omega) (by omega) (by omega) ((E.out.on bw).more bw.size))
        have hmb : memb2 ws = num2 12 (ws.getD 1 []) := by unfold memb2; rw [if_pos h1n]
        rw [hmb] at hd
        have x1 := HW.out.at hP.st (HG.out 1 h1n)
        have h1i : (1 : Int) < (ws.length : Int) := by omega
        generalize num2 12 (ws.getD 1 []) = mb at *
        generalize (numOf 0 12 (ws.getD 1 [])).isSome = mk at *
        generalize ws.getD 1 [] = l1 at *
        have HPP := Lib.hid hP
        have HDD := Lib.hid hd
        clear hP hd hmb hm hl1
        go_wp2_with (fail)
        refine (HNUM.out _ HPP.out.st.all).mono ?_
        rintro e V1 ⟨rfl, hb1⟩
        have hP1 := HPP.out.below hb1
        have HPM : Hid (Pre w w1 (V1.setCell ⟨w1.heap.size, 1, none⟩ (.int .i64 mb)) { d with member := mb } A1 c1 A2 c2) := Lib.hid (hP1.member mb)
        have y0 : V1.cell? ⟨w1.heap.size, 0, none⟩ = some (.int .i64 d.kind) := (hP1.st).row.cell 0 _ rfl
        have y1 : V1.cell? ⟨w1.heap.size, 1, none⟩ = some (.int .i64 d.member) := (hP1.st).row.cell 1 _ rfl
        have y2 : V1.cell? ⟨w1.heap.size, 2, none⟩ = some (.slice A1 d.trust.length c1) := (hP1.st).row.cell 2 _ rfl
        have y3 : V1.cell? ⟨w1.heap.size, 3, none⟩ = some (.string d.title) := (hP1.st).row.cell 3 _ rfl
        have y4 : V1.cell? ⟨w1.heap.size, 4, none⟩ = some (.int .i64 d.vote) := (hP1.st).row.cell 4 _ rfl
        have y5 : V1.cell? ⟨w1.heap.size, 5, none⟩ = some (.slice A2 d.patch.length c2) := (hP1.st).row.cell 5 _ rfl
        have y6 : V1.cell? ⟨w1.heap.size, 6, none⟩ = some (.int .i64 d.start) := (hP1.st).row.cell 6 _ rfl
        have y7 : V1.cell? ⟨w1.heap.size, 7, none⟩ = some (.int .i64 d.until_) := (hP1.st).row.cell 7 _ rfl
        have y8 : V1.cell? ⟨w1.heap.size, 8, none⟩ = some (.int .i64 d.closes) := (hP1.st).row.cell 8 _ rfl
        have q1 : V1.frozen? ⟨w1.heap.size, 1, none⟩ = false := hP1.st.row.free 1 (by simp [deedCs])
        clear hb1 hP1 x1
        go_wp2_with (fail)
        have HDT : Hid (∀ (x : Deed) (V : World), Pre w w1 V x A1 c1 A2 c2 → Calls Tryz.prog 27 #[deedV x A1 c1 A2 c2] V (RetB (.tuple #[.string ⟨(deedOut x).toArray⟩, .bool (okDeed x)]) V)) := Lib.hid (fun x V hx => deedText2_any x A1 c1 A2 c2 V (hx.o1.slR (size := 1) fun _ => rfl) (hx.o2.slR (size := 4) fun _ => rfl) hx.sz hx.ti (env_more (E.out.env.on hx.st.all) hx.st.all.size))
        have HT0 := HDT.out ({ d with member := mb }) (V1.setCell ⟨w1.heap.size, 1, none⟩ (.int .i64 mb)) HPM.out
        obtain ⟨x, V, hxv⟩ : ∃ (x : Deed) (V : World), x = { d with member := mb } ∧ V = V1.setCell ⟨w1.heap.size, 1, none⟩ (.int .i64 mb) := ⟨_, _, rfl, rfl⟩
        obtain ⟨hx, hv⟩ := hxv
        have HPX : Hid (Pre w w1 V x A1 c1 A2 c2) := Lib.hid (by rw [hx, hv]; exact HPM.out)
        have HUX : Hid (∀ q, okDeed q = true → deedText q = s.data.toList → x = q) := Lib.hid (fun q h e => by rw [hx, HDD.out]; exact HU.out q h e)
        rw [← hx, ← hv] at HT0
        rw [← hv]
        cases hok : okDeed x with
        | false =>
          have HN : Hid (deedOf s.data.toList = none) := Lib.hid (inv_no HUX.out (by rw [hok]; simp))
          rw [deedOut_no hok, hok, hx] at HT0
          clear hok HDT
          refine HT0.mono ?_
          rintro e V2 ⟨rfl, hb2⟩
          have S2 := HPX.out.st.below hb2
          have z0 : V2.cell? ⟨w.heap.size, 0, none⟩ = some (.int .i64 0) := (S2).res.cell 0 _ rfl
          have z1 : V2.cell? ⟨w.heap.size, 1, none⟩ = some (.int .i64 0) := (S2).res.cell 1 _ rfl
          have z2 : V2.cell? ⟨w.heap.size, 2, none⟩ = some (.slice none 0 0) := (S2).res.cell 2 _ rfl
          have z3 : V2.cell? ⟨w.heap.size, 3, none⟩ = some (.string ⟨#[]⟩) := (S2).res.cell 3 _ rfl
          have z4 : V2.cell? ⟨w.heap.size, 4, none⟩ = some (.int .i64 0) := (S2).res.cell 4 _ rfl
          have z5 : V2.cell? ⟨w.heap.size, 5, none⟩ = some (.slice none 0 0) := (S2).res.cell 5 _ rfl
          have z6 : V2.cell? ⟨w.heap.size, 6, none⟩ = some (.int .i64 0) := (S2).res.cell 6 _ rfl
          have z7 : V2.cell? ⟨w.heap.size, 7, none⟩ = some (.int .i64 0) := (S2).res.cell 7 _ rfl
          have z8 : V2.cell? ⟨w.heap.size, 8, none⟩ = some (.int .i64 0) := (S2).res.cell 8 _ rfl
          have f0 : V2.frozen? ⟨w.heap.size, 0, none⟩ = false := (S2).res.free 0 (by decide)
          have f1 : V2.frozen? ⟨w.heap.size, 1, none⟩ = false := (S2).res.free 1 (by decide)
          have f2 : V2.frozen? ⟨w.heap.size, 2, none⟩ = false := (S2).res.free 2 (by decide)
          have f3 : V2.frozen? ⟨w.heap.size, 3, none⟩ = false := (S2).res.free 3 (by decide)
          have f4 : V2.frozen? ⟨w.heap.size, 4, none⟩ = false := (S2).res.free 4 (by decide)
          have f5 : V2.frozen? ⟨w.heap.size, 5, none⟩ = false := (S2).res.free 5 (by decide)
          have f6 : V2.frozen? ⟨w.heap.size, 6, none⟩ = false := (S2).res.free 6 (by decide)
          have f7 : V2.frozen? ⟨w.heap.size, 7, none⟩ = false := (S2).res.free 7 (by decide)
          have f8 : V2.frozen? ⟨w.heap.size, 8, none⟩ = false := (S2).res.free 8 (by decide)
          have HAL := Lib.hid S2.all
          clear hb2 S2 hx hv HT0
          go_wp2
          refine bodyPost_ret (v := .tuple #[.agg #[.int .i64 0, .int .i64 0, .slice none 0 0, .string ⟨#[]⟩, .int .i64 0, .slice none 0 0, .int .i64 0, .int .i64 0, .int .i64 0], .bool false]) ?hr rfl ?_
          case hr => exact (res_rd _ _ w.heap.size (.int .i64 0) (.int .i64 0) (.slice none 0 0) (.string ⟨#[]⟩) (.int .i64 0) (.slice none 0 0) (.int .i64 0) (.int .i64 0) (.int .i64 0) false (by kernel_rfl) (by kernel_rfl) (by simp [go_sem, z0]) (by simp [go_sem, z1]) (by simp [go_sem, z2]) (by simp [go_sem, z3]) (by simp [go_sem, z4]) (by simp [go_sem, z5]) (by simp [go_sem, z6]) (by simp [go_sem, z7]) (by simp [go_sem, z8]))
          refine ⟨none, 0, none, 0, by rw [HN.out]; rfl, by rw [HN.out]; exact OwnL.nil _ _ _, by rw [HN.out]; exact OwnL.nil _ _ _, ?_⟩
          iterate 9 refine Below.setCell ?_ (by simp) _
          exact HAL.out
        | true =>
          have HOK := Lib.hid hok
          rw [deedOut_ok hok, hok] at HT0
          clear hok
          have HTL : ∃ T, T = deedText x := ⟨_, rfl⟩
          obtain ⟨T, hT⟩ := HTL
          rw [← hT, hx] at HT0
          refine HT0.mono ?_
          rintro e V2 ⟨rfl, hb2⟩
          have S2 := HPX.out.st.below hb2
          have z0 : V2.cell? ⟨w.heap.size, 0, none⟩ = some (.int .i64 0) := (S2).res.cell 0 _ rfl
          have z1 : V2.cell? ⟨w.heap.size, 1, none⟩ = some (.int .i64 0) := (S2).res.cell 1 _ rfl
          have z2 : V2.cell? ⟨w.heap.size, 2, none⟩ = some (.slice none 0 0) := (S2).res.cell 2 _ rfl
          have z3 : V2.cell? ⟨w.heap.size, 3, none⟩ = some (.string ⟨#[]⟩) := (S2).res.cell 3 _ rfl
          have z4 : V2.cell? ⟨w.heap.size, 4, none⟩ = some (.int .i64 0) := (S2).res.cell 4 _ rfl
          have z5 : V2.cell? ⟨w.heap.size, 5, none⟩ = some (.slice none 0 0) := (S2).res.cell 5 _ rfl
          have z6 : V2.cell? ⟨w.heap.size, 6, none⟩ = some (.int .i64 0) := (S2).res.cell 6 _ rfl
          have z7 : V2.cell? ⟨w.heap.size, 7, none⟩ = some (.int .i64 0) := (S2).res.cell 7 _ rfl
          have z8 : V2.cell? ⟨w.heap.size, 8, none⟩ = some (.int .i64 0) := (S2).res.cell 8 _ rfl
          have f0 : V2.frozen? ⟨w.heap.size, 0, none⟩ = false := (S2).res.free 0 (by decide)
          have f1 : V2.frozen? ⟨w.heap.size, 1, none⟩ = false := (S2).res.free 1 (by decide)
          have f2 : V2.frozen? ⟨w.heap.size, 2, none⟩ = false := (S2).res.free 2 (by decide)
          have f3 : V2.frozen? ⟨w.heap.size, 3, none⟩ = false := (S2).res.free 3 (by decide)
          have f4 : V2.frozen? ⟨w.heap.size, 4, none⟩ = false := (S2).res.free 4 (by decide)
          have f5 : V2.frozen? ⟨w.heap.size, 5, none⟩ = false := (S2).res.free 5 (by decide)
          have f6 : V2.frozen? ⟨w.heap.size, 6, none⟩ = false := (S2).res.free 6 (by decide)
          have f7 : V2.frozen? ⟨w.heap.size, 7, none⟩ = false := (S2).res.free 7 (by decide)
          have f8 : V2.frozen? ⟨w.heap.size, 8, none⟩ = false := (S2).res.free 8 (by decide)
          have HAL := Lib.hid S2.all
          by_cases heq : T = s.data.toList
          · have hs1 : (T == s.toList) = true := by rw [ByteArray.toList_eq, heq]; simp
            have HN : Hid (deedOf s.data.toList = some x) := Lib.hid (inv_of HUX.out HOK.out (by rw [← hT, heq]))
            have HO1 := Lib.hid (HPX.out.o1.on hb2)
            have HO2 := Lib.hid (HPX.out.o2.on hb2)
            have HX := Lib.hid hx
            have y0 : V2.cell? ⟨w1.heap.size, 0, none⟩ = some (.int .i64 x.kind) := S2.row.cell 0 _ rfl
            have y1 : V2.cell? ⟨w1.heap.size, 1, none⟩ = some (.int .i64 x.member) := S2.row.cell 1 _ rfl
            have y2 : V2.cell? ⟨w1.heap.size, 2, none⟩ = some (.slice A1 x.trust.length c1) := S2.row.cell 2 _ rfl
            have y3 : V2.cell? ⟨w1.heap.size, 3, none⟩ = some (.string x.title) := S2.row.cell 3 _ rfl
            have y4 : V2.cell? ⟨w1.heap.size, 4, none⟩ = some (.int .i64 x.vote) := S2.row.cell 4 _ rfl
            have y5 : V2.cell? ⟨w1.heap.size, 5, none⟩ = some (.slice A2 x.patch.length c2) := S2.row.cell 5 _ rfl
            have y6 : V2.cell? ⟨w1.heap.size, 6, none⟩ = some (.int .i64 x.start) := S2.row.cell 6 _ rfl
            have y7 : V2.cell? ⟨w1.heap.size, 7, none⟩ = some (.int .i64 x.until_) := S2.row.cell 7 _ rfl
            have y8 : V2.cell? ⟨w1.heap.size, 8, none⟩ = some (.int .i64 x.closes) := S2.row.cell 8 _ rfl
            clear heq hb2 S2 hx hv HT0 hT HDT
            go_wp2
            refine bodyPost_ret (v := .tuple #[deedV x A1 c1 A2 c2, .bool true]) ?hr rfl ?_
            case hr => exact (res_rd _ _ w.heap.size (.int .i64 x.kind) (.int .i64 x.member) (.slice A1 x.trust.length c1) (.string x.title) (.int .i64 x.vote) (.slice A2 x.patch.length c2) (.int .i64 x.start) (.int .i64 x.until_) (.int .i64 x.closes) true (by kernel_rfl) (by kernel_rfl) (by simp [go_sem, z0]) (by simp [go_sem, z1]) (by simp [go_sem, z2]) (by simp [go_sem, z3]) (by simp [go_sem, z4]) (by simp [go_sem, z5]) (by simp [go_sem, z6]) (by simp [go_sem, z7]) (by simp [go_sem, z8]))
            refine ⟨A1, c1, A2, c2, by rw [HN.out]; rfl, ?_, ?_, ?_⟩
            · rw [HN.out]
              refine OwnL.less (base := w1.heap.size + 1) ?_ (by omega)
              iterate 9 refine OwnL.set ?_ _ (by simp; omega)
              exact HO1.out
            · rw [HN.out]
              refine OwnL.less (base := w1.heap.size + 1) ?_ (by omega)
              iterate 9 refine OwnL.set ?_ _ (by simp; omega)
              exact HO2.out
            · iterate 9 refine Below.setCell ?_ (by simp) _
              exact HAL.out
          · have hs1 : (T == s.toList) = false := by rw [ByteArray.toList_eq]; simpa using heq
            have HN : Hid (deedOf s.data.toList = none) := Lib.hid (inv_no HUX.out (fun h => heq (by rw [hT]; exact h.2)))
            clear heq hb2 S2 hx hv HT0 hT HDT
            go_wp2
            refine bodyPost_ret (v := .tuple #[.agg #[.int .i64 0, .int .i64 0, .slice none 0 0, .string ⟨#[]⟩, .int .i64 0, .slice none 0 0, .int .i64 0, .int .i64 0, .int .i64 0], .bool false]) ?hr rfl ?_
            case hr => exact (res_rd _ _ w.heap.size (.int .i64 0) (.int .i64 0) (.slice none 0 0) (.string ⟨#[]⟩) (.int .i64 0) (.slice none 0 0) (.int .i64 0) (.int .i64 0) (.int .i64 0) false (by kernel_rfl) (by kernel_rfl) (by simp [go_sem, z0]) (by simp [go_sem, z1]) (by simp [go_sem, z2]) (by simp [go_sem, z3]) (by simp [go_sem, z4]) (by simp [go_sem, z5]) (by simp [go_sem, z6]) (by simp [go_sem, z7]) (by simp [go_sem, z8]))
            refine ⟨none, 0, none, 0, by rw [HN.out]; rfl, by rw [HN.out]; exact OwnL.nil _ _ _, by rw [HN.out]; exact OwnL.nil _ _ _, ?_⟩
            iterate 9 refine Below.setCell ?_ (by simp) _
            exact HAL.out
      · have h1i : ¬ (1 : Int) < (ws.length : Int) := by omega
        have hmb : memb2 ws = 0 := by unfold memb2; rw [if_neg h1n]
        have hdd : d = cand2 ws := by rw [← hd, hmb, ← hm]
        have HPP := Lib.hid hP
        have HDD := Lib.hid hdd
        have y0 : wc.cell? ⟨w1.heap.size, 0, none⟩ = some (.int .i64 d.kind) := (hP.st).row.cell 0 _ rfl
        have y1 : wc.cell? ⟨w1.heap.size, 1, none⟩ = some (.int .i64 d.member) := (hP.st).row.cell 1 _ rfl
        have y2 : wc.cell? ⟨w1.heap.size, 2, none⟩ = some (.slice A1 d.trust.length c1) := (hP.st).row.cell 2 _ rfl
        have y3 : wc.cell? ⟨w1.heap.size, 3, none⟩ = some (.string d.title) := (hP.st).row.cell 3 _ rfl
        have y4 : wc.cell? ⟨w1.heap.size, 4, none⟩ = some (.int .i64 d.vote) := (hP.st).row.cell 4 _ rfl
        have y5 : wc.cell? ⟨w1.heap.size, 5, none⟩ = some (.slice A2 d.patch.length c2) := (hP.st).row.cell 5 _ rfl
        have y6 : wc.cell? ⟨w1.heap.size, 6, none⟩ = some (.int .i64 d.start) := (hP.st).row.cell 6 _ rfl
        have y7 : wc.cell? ⟨w1.heap.size, 7, none⟩ = some (.int .i64 d.until_) := (hP.st).row.cell 7 _ rfl
        have y8 : wc.cell? ⟨w1.heap.size, 8, none⟩ = some (.int .i64 d.closes) := (hP.st).row.cell 8 _ rfl
        clear hP hd hmb hm hdd
        go_wp2_with (fail)
        have HDT : Hid (∀ (x : Deed) (V : World), Pre w w1 V x A1 c1 A2 c2 → Calls Tryz.prog 27 #[deedV x A1 c1 A2 c2] V (RetB (.tuple #[.string ⟨(deedOut x).toArray⟩, .bool (okDeed x)]) V)) := Lib.hid (fun x V hx => deedText2_any x A1 c1 A2 c2 V (hx.o1.slR (size := 1) fun _ => rfl) (hx.o2.slR (size := 4) fun _ => rfl) hx.sz hx.ti (env_more (E.out.env.on hx.st.all) hx.st.all.size))
        have HT0 := HDT.out (d) (wc) HPP.out
        obtain ⟨x, V, hxv⟩ : ∃ (x : Deed) (V : World), x = d ∧ V = wc := ⟨_, _, rfl, rfl⟩
        obtain ⟨hx, hv⟩ := hxv
        have HPX : Hid (Pre w w1 V x A1 c1 A2 c2) := Lib.hid (by rw [hx, hv]; exact HPP.out)
        have HUX : Hid (∀ q, okDeed q = true → deedText q = s.data.toList → x = q) := Lib.hid (fun q h e => by rw [hx, HDD.out]; exact HU.out q h e)
        rw [← hx, ← hv] at HT0
        rw [← hv]
        cases hok : okDeed x with
        | false =>
          have HN : Hid (deedOf s.data.toList = none) := Lib.hid (inv_no HUX.out (by rw [hok]; simp))
          rw [deedOut_no hok, hok, hx] at HT0
          clear hok HDT
          refine HT0.mono ?_
          rintro e V2 ⟨rfl, hb2⟩
          have S2 := HPX.out.st.below hb2
          have z0 : V2.cell? ⟨w.heap.size, 0, none⟩ = some (.int .i64 0) := (S2).res.cell 0 _ rfl
          have z1 : V2.cell? ⟨w.heap.size, 1, none⟩ = some (.int .i64 0) := (S2).res.cell 1 _ rfl
          have z2 : V2.cell? ⟨w.heap.size, 2, none⟩ = some (.slice none 0 0) := (S2).res.cell 2 _ rfl
          have z3 : V2.cell? ⟨w.heap.size, 3, none⟩ = some (.string ⟨#[]⟩) := (S2).res.cell 3 _ rfl
          have z4 : V2.cell? ⟨w.heap.size, 4, none⟩ = some (.int .i64 0) := (S2).res.cell 4 _ rfl
          have z5 : V2.cell? ⟨w.heap.size, 5, none⟩ = some (.slice none 0 0) := (S2).res.cell 5 _ rfl
          have z6 : V2.cell? ⟨w.heap.size, 6, none⟩ = some (.int .i64 0) := (S2).res.cell 6 _ rfl
          have z7 : V2.cell? ⟨w.heap.size, 7, none⟩ = some (.int .i64 0) := (S2).res.cell 7 _ rfl
          have z8 : V2.cell? ⟨w.heap.size, 8, none⟩ = some (.int .i64 0) := (S2).res.cell 8 _ rfl
          have f0 : V2.frozen? ⟨w.heap.size, 0, none⟩ = false := (S2).res.free 0 (by decide)
          have f1 : V2.frozen? ⟨w.heap.size, 1, none⟩ = false := (S2).res.free 1 (by decide)
          have f2 : V2.frozen? ⟨w.heap.size, 2, none⟩ = false := (S2).res.free 2 (by decide)
          have f3 : V2.frozen? ⟨w.heap.size, 3, none⟩ = false := (S2).res.free 3 (by decide)
          have f4 : V2.frozen? ⟨w.heap.size, 4, none⟩ = false := (S2).res.free 4 (by decide)
          have f5 : V2.frozen? ⟨w.heap.size, 5, none⟩ = false := (S2).res.free 5 (by decide)
          have f6 : V2.frozen? ⟨w.heap.size, 6, none⟩ = false := (S2).res.free 6 (by decide)
          have f7 : V2.frozen? ⟨w.heap.size, 7, none⟩ = false := (S2).res.free 7 (by decide)
          have f8 : V2.frozen? ⟨w.heap.size, 8, none⟩ = false := (S2).res.free 8 (by decide)
          have HAL := Lib.hid S2.all
          clear hb2 S2 hx hv HT0
          go_wp2
          refine bodyPost_ret (v := .tuple #[.agg #[.int .i64 0, .int .i64 0, .slice none 0 0, .string ⟨#[]⟩, .int .i64 0, .slice none 0 0, .int .i64 0, .int .i64 0, .int .i64 0], .bool false]) ?hr rfl ?_
          case hr => exact (res_rd _ _ w.heap.size (.int .i64 0) (.int .i64 0) (.slice none 0 0) (.string ⟨#[]⟩) (.int .i64 0) (.slice none 0 0) (.int .i64 0) (.int .i64 0) (.int .i64 0) false (by kernel_rfl) (by kernel_rfl) (by simp [go_sem, z0]) (by simp [go_sem, z1]) (by simp [go_sem, z2]) (by simp [go_sem, z3]) (by simp [go_sem, z4]) (by simp [go_sem, z5]) (by simp [go_sem, z6]) (by simp [go_sem, z7]) (by simp [go_sem, z8]))
          refine ⟨none, 0, none, 0, by rw [HN.out]; rfl, by rw [HN.out]; exact OwnL.nil _ _ _, by rw [HN.out]; exact OwnL.nil _ _ _, ?_⟩
          iterate 9 refine Below.setCell ?_ (by simp) _
          exact HAL.out
        | true =>
          have HOK := Lib.hid hok
          rw [deedOut_ok hok, hok] at HT0
          clear hok
          have HTL : ∃ T, T = deedText x := ⟨_, rfl⟩
          obtain ⟨T, hT⟩ := HTL
          rw [← hT, hx] at HT0
          refine HT0.mono ?_
          rintro e V2 ⟨rfl, hb2⟩
          have S2 := HPX.out.st.below hb2
          have z0 : V2.cell? ⟨w.heap.size, 0, none⟩ = some (.int .i64 0) := (S2).res.cell 0 _ rfl
          have z1 : V2.cell? ⟨w.heap.size, 1, none⟩ = some (.int .i64 0) := (S2).res.cell 1 _ rfl
          have z2 : V2.cell? ⟨w.heap.size, 2, none⟩ = some (.slice none 0 0) := (S2).res.cell 2 _ rfl
          have z3 : V2.cell? ⟨w.heap.size, 3, none⟩ = some (.string ⟨#[]⟩) := (S2).res.cell 3 _ rfl
          have z4 : V2.cell? ⟨w.heap.size, 4, none⟩ = some (.int .i64 0) := (S2).res.cell 4 _ rfl
          have z5 : V2.cell? ⟨w.heap.size, 5, none⟩ = some (.slice none 0 0) := (S2).res.cell 5 _ rfl
          have z6 : V2.cell? ⟨w.heap.size, 6, none⟩ = some (.int .i64 0) := (S2).res.cell 6 _ rfl
          have z7 : V2.cell? ⟨w.heap.size, 7, none⟩ = some (.int .i64 0) := (S2).res.cell 7 _ rfl
          have z8 : V2.cell? ⟨w.heap.size, 8, none⟩ = some (.int .i64 0) := (S2).res.cell 8 _ rfl
          have f0 : V2.frozen? ⟨w.heap.size, 0, none⟩ = false := (S2).res.free 0 (by decide)
          have f1 : V2.frozen? ⟨w.heap.size, 1, none⟩ = false := (S2).res.free 1 (by decide)
          have f2 : V2.frozen? ⟨w.heap.size, 2, none⟩ = false := (S2).res.free 2 (by decide)
          have f3 : V2.frozen? ⟨w.heap.size, 3, none⟩ = false := (S2).res.free 3 (by decide)
          have f4 : V2.frozen? ⟨w.heap.size, 4, none⟩ = false := (S2).res.free 4 (by decide)
          have f5 : V2.frozen? ⟨w.heap.size, 5, none⟩ = false := (S2).res.free 5 (by decide)
          have f6 : V2.frozen? ⟨w.heap.size, 6, none⟩ = false := (S2).res.free 6 (by decide)
          have f7 : V2.frozen? ⟨w.heap.size, 7, none⟩ = false := (S2).res.free 7 (by decide)
          have f8 : V2.frozen? ⟨w.heap.size, 8, none⟩ = false := (S2).res.free 8 (by decide)
          have HAL := Lib.hid S2.all
          by_cases heq : T = s.data.toList
          · have hs1 : (T == s.toList) = true := by rw [ByteArray.toList_eq, heq]; simp
            have HN : Hid (deedOf s.data.toList = some x) := Lib.hid (inv_of HUX.out HOK.out (by rw [← hT, heq]))
            have HO1 := Lib.hid (HPX.out.o1.on hb2)
            have HO2 := Lib.hid (HPX.out.o2.on hb2)
            have HX := Lib.hid hx
            have y0 : V2.cell? ⟨w1.heap.size, 0, none⟩ = some (.int .i64 x.kind) := S2.row.cell 0 _ rfl
            have y1 : V2.cell? ⟨w1.heap.size, 1, none⟩ = some (.int .i64 x.member) := S2.row.cell 1 _ rfl
            have y2 : V2.cell? ⟨w1.heap.size, 2, none⟩ = some (.slice A1 x.trust.length c1) := S2.row.cell 2 _ rfl
            have y3 : V2.cell? ⟨w1.heap.size, 3, none⟩ = some (.string x.title) := S2.row.cell 3 _ rfl
            have y4 : V2.cell? ⟨w1.heap.size, 4, none⟩ = some (.int .i64 x.vote) := S2.row.cell 4 _ rfl
            have y5 : V2.cell? ⟨w1.heap.size, 5, none⟩ = some (.slice A2 x.patch.length c2) := S2.row.cell 5 _ rfl
            have y6 : V2.cell? ⟨w1.heap.size, 6, none⟩ = some (.int .i64 x.start) := S2.row.cell 6 _ rfl
            have y7 : V2.cell? ⟨w1.heap.size, 7, none⟩ = some (.int .i64 x.until_) := S2.row.cell 7 _ rfl
            have y8 : V2.cell? ⟨w1.heap.size, 8, none⟩ = some (.int .i64 x.closes) := S2.row.cell 8 _ rfl
            clear heq hb2 S2 hx hv HT0 hT HDT
            go_wp2
            refine bodyPost_ret (v := .tuple #[deedV x A1 c1 A2 c2, .bool true]) ?hr rfl ?_
            case hr => exact (res_rd _ _ w.heap.size (.int .i64 x.kind) (.int .i64 x.member) (.slice A1 x.trust.length c1) (.string x.title) (.int .i64 x.vote) (.slice A2 x.patch.length c2) (.int .i64 x.start) (.int .i64 x.until_) (.int .i64 x.closes) true (by kernel_rfl) (by kernel_rfl) (by simp [go_sem, z0]) (by simp [go_sem, z1]) (by simp [go_sem, z2]) (by simp [go_sem, z3]) (by simp [go_sem, z4]) (by simp [go_sem, z5]) (by simp [go_sem, z6]) (by simp [go_sem, z7]) (by simp [go_sem, z8]))
            refine ⟨A1, c1, A2, c2, by rw [HN.out]; rfl, ?_, ?_, ?_⟩
            · rw [HN.out]
              refine OwnL.less (base := w1.heap.size + 1) ?_ (by omega)
              iterate 9 refine OwnL.set ?_ _ (by simp; omega)
              exact HO1.out
            · rw [HN.out]
              refine OwnL.less (base := w1.heap.size + 1) ?_ (by omega)
              iterate 9 refine OwnL.set ?_ _ (by simp; omega)
              exact HO2.out
            · iterate 9 refine Below.setCell ?_ (by simp) _
              exact HAL.out
          · have hs1 : (T == s.toList) = false := by rw [ByteArray.toList_eq]; simpa using heq
            have HN : Hid (deedOf s.data.toList = none) := Lib.hid (inv_no HUX.out (fun h => heq (by rw [hT]; exact h.2)))
            clear heq hb2 S2 hx hv HT0 hT HDT
            go_wp2
            refine bodyPost_ret (v := .tuple #[.agg #[.int .i64 0, .int .i64 0, .slice none 0 0, .string ⟨#[]⟩, .int .i64 0, .slice none 0 0, .int .i64 0, .int .i64 0, .int .i64 0], .bool false]) ?hr rfl ?_
            case hr => exact (res_rd _ _ w.heap.size (.int .i64 0) (.int .i64 0) (.slice none 0 0) (.string ⟨#[]⟩) (.int .i64 0) (.slice none 0 0) (.int .i64 0) (.int .i64 0) (.int .i64 0) false (by kernel_rfl) (by kernel_rfl) (by simp [go_sem, z0]) (by simp [go_sem, z1]) (by simp [go_sem, z2]) (by simp [go_sem, z3]) (by simp [go_sem, z4]) (by simp [go_sem, z5]) (by simp [go_sem, z6]) (by simp [go_sem, z7]) (by simp [go_sem, z8]))
            refine ⟨none, 0, none, 0, by rw [HN.out]; rfl, by rw [HN.out]; exact OwnL.nil _ _ _, by rw [HN.out]; exact OwnL.nil _ _ _, ?_⟩
            iterate 9 refine Below.setCell ?_ (by simp) _
            exact HAL.out
  · have HN : Hid (deedOf s.data.toList = none) := Lib.hid (inv_never (fun q h e => by
      have := deedText_len h
      rw [e] at this
      omega))
    have h2i : (2000 : Int) < (s.size : Int) := by omega
    go_enter Tryz.func38, Tryz.ntmps38
    go_wp2
    refine bodyPost_ret (v := .tuple #[.agg #[.int .i64 0, .int .i64 0, .slice none 0 0, .string ⟨#[]⟩, .int .i64 0, .slice none 0 0, .int .i64 0, .int .i64 0, .int .i64 0], .bool false]) ?hr rfl ?_
    case hr => exact (res_rd _ _ w.heap.size (.int .i64 0) (.int .i64 0) (.slice none 0 0) (.string ⟨#[]⟩) (.int .i64 0) (.slice none 0 0) (.int .i64 0) (.int .i64 0) (.int .i64 0) false (by kernel_rfl) (by kernel_rfl) (by simp [go_sem]) (by simp [go_sem]) (by simp [go_sem]) (by simp [go_sem]) (by simp [go_sem]) (by simp [go_sem]) (by simp [go_sem]) (by simp [go_sem]) (by simp [go_sem]))
    exact ⟨none, 0, none, 0, by rw [HN.out]; rfl, by rw [HN.out]; exact OwnL.nil _ _ _, by rw [HN.out]; exact OwnL.nil _ _ _, (Below.refl _ _).alloc (Nat.le_refl _) _⟩
end Go.Proofs.YthlfpiflegfoiaaGreatDoor
