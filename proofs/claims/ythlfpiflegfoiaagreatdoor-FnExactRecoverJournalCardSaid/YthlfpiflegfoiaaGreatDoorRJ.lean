/- The program's reader of a deed, walked. -/
import Derived.Test.YthlfpiflegfoiaaGreatDoorRI
import Derived.Test.YthlfpiflegfoiaaGreatDoorLawV
import Derived.Deep.CutBlock
namespace Go.Proofs.YthlfpiflegfoiaaGreatDoor
open Go.RowKit Go.Lib

theorem res_rd (a : Act) (w' : World) (g : Nat) (v0 v1 v2 v3 v4 v5 v6 v7 v8 : Value) (b : Bool) (ha : a.tmps[2]? = some (.pointer (some ⟨g, 0, none⟩))) (hb : a.tmps[3]? = some (.bool b)) (c0 : w'.cell? ⟨g, 0, none⟩ = some v0) (c1 : w'.cell? ⟨g, 1, none⟩ = some v1) (c2 : w'.cell? ⟨g, 2, none⟩ = some v2) (c3 : w'.cell? ⟨g, 3, none⟩ = some v3) (c4 : w'.cell? ⟨g, 4, none⟩ = some v4) (c5 : w'.cell? ⟨g, 5, none⟩ = some v5) (c6 : w'.cell? ⟨g, 6, none⟩ = some v6) (c7 : w'.cell? ⟨g, 7, none⟩ = some v7) (c8 : w'.cell? ⟨g, 8, none⟩ = some v8) :
    (results Tryz.f38 a.tmps).run Tryz.prog w' = .ok (.tuple #[.agg #[v0, v1, v2, v3, v4, v5, v6, v7, v8], .bool b]) w' := by
  simp [results, Tryz.results38, go_sem, ha, hb, c0, c1, c2, c3, c4, c5, c6, c7, c8]

theorem patchOf_sizes (t : List UInt8) : SizesOk ((patchOf t).getD []) := by
  cases hp : patchOf t with
  | none => intro e he; cases he
  | some q =>
    intro e he
    obtain ⟨k, hk⟩ := List.getElem?_of_mem he
    have := okEdit_facts (okPatch_at (inv_some hp).1 hk)
    have e1 : e.old.size = e.old.toList.length := by simp [ByteArray.toList_eq]
    have e2 : e.new.size = e.new.toList.length := by simp [ByteArray.toList_eq]
    unfold SizeOk maxLen
    omega

set_option maxRecDepth 100000 in
set_option maxHeartbeats 2000000 in
theorem readDeed2_most (s : ByteArray) (w : World) (hs : s.size ≤ 1048576) (hE : EnvR w.heap.size w) (hnv : ¬ ((splitNC 32 6 s.data.toList).getD 0 [] = [118, 111, 116, 101] ∧ (splitNC 32 6 s.data.toList).length = 4)) :
    Calls Tryz.prog 38 #[.string s] w (DeedPost s.data.toList w) := by
  have E := Lib.hid hE
  have hsz : s.data.toList.length = s.size := by simp
  clear hE
  by_cases h2000 : s.size ≤ 2000
  · have bW : Below w.heap.size w (w.alloc (.cells #[.int .i64 0, .int .i64 0, .slice none 0 0, .string ⟨#[]⟩, .int .i64 0, .slice none 0 0, .int .i64 0, .int .i64 0, .int .i64 0] 39)) := (Below.refl _ _).alloc (Nat.le_refl _) _
    have hx : w.heap.size < (w.alloc (.cells #[.int .i64 0, .int .i64 0, .slice none 0 0, .string ⟨#[]⟩, .int .i64 0, .slice none 0 0, .int .i64 0, .int .i64 0, .int .i64 0] 39)).heap.size := by simp
    have hxe : (w.alloc (.cells #[.int .i64 0, .int .i64 0, .slice none 0 0, .string ⟨#[]⟩, .int .i64 0, .slice none 0 0, .int .i64 0, .int .i64 0, .int .i64 0] 39)).heap.size = w.heap.size + 1 := by simp
    have hR0 := Row.new w #[.int .i64 0, .int .i64 0, .slice none 0 0, .string ⟨#[]⟩, .int .i64 0, .slice none 0 0, .int .i64 0, .int .i64 0, .int .i64 0] 39
    have HSP := Lib.hid (E.out.spn _ bW s (by omega))
    have HU : Hid (∀ q, okDeed q = true → deedText q = s.data.toList → cand2 (splitNC 32 6 s.data.toList) = q) := Lib.hid (fun q h e => cand2_of h e)
    have hn1 := splitNC_pos (c := 32) 6 s.data.toList
    have hn7 := splitNC_le (c := 32) 6 s.data.toList
    have HWL : Hid (∀ l ∈ splitNC 32 6 s.data.toList, l.length ≤ 2000) := Lib.hid (fun l hl => by
      have := splitNC_len 32 6 s.data.toList l hl
      omega)
    have HNV := Lib.hid hnv
    clear hnv
    generalize splitNC 32 6 s.data.toList = ws at *
    rw [hxe] at HSP
    go_enter Tryz.func38, Tryz.ntmps38
    go_wp2_with (fail)
    refine (HSP.out).mono ?_
    rintro e w1 ⟨c, rfl, hS, hb1⟩
    have hw1 : w.heap.size + 1 ≤ w1.heap.size := by have := hb1.size; omega
    have HB1 : Hid (Below w.heap.size w w1) := Lib.hid (bW.trans (hb1.mono (Nat.le_succ _)))
    have HR1 : Hid (Row w1 w.heap.size (deedCs zeroDeed none 0 none 0)) := Lib.hid (hR0.below hb1 (Nat.lt_succ_self _))
    have HW : Hid (Words w1 (w.heap.size + 1) ws) := Lib.hid (by
      refine ⟨?_, fun k l hk => ?_⟩
      · obtain ⟨b, off, hA, hb, _⟩ := strs_get hS (k := 0) (List.getElem?_eq_getElem (by omega))
        injection hA with hA
        injection hA with hA1 hA2
        omega
      · obtain ⟨b, off, hA, hb, hc⟩ := strs_get hS hk
        injection hA with hA
        injection hA with hA1 hA2
        subst hA1 hA2
        rwa [Nat.zero_add] at hc)
    clear hS hb1 hR0 hx HSP bW
    have HP0 : Hid (Pre w w1 (w1.alloc (.cells #[.int .i64 0, .int .i64 0, .slice none 0 0, .string ⟨#[]⟩, .int .i64 0, .slice none 0 0, .int .i64 0, .int .i64 0, .int .i64 0] 39)) zeroDeed none 0 none 0) := Lib.hid ⟨Si.start HR1.out HB1.out (by omega) _, OwnL.nil _ _ _, OwnL.nil _ _ _, fun e he => (by cases he), Nat.zero_le _⟩
    go_upto_block 0 with (fail)
    go_cut [] (fun wx => ∃ d A1 c1 A2 c2, Pre w w1 wx d A1 c1 A2 c2 ∧ { d with member := memb2 ws } = cand2 ws ∧ d.member = 0)
    case first =>
      obtain ⟨V0, hP0, hV⟩ : ∃ V0, Pre w w1 V0 zeroDeed none 0 none 0 ∧ w1.alloc (.cells #[.int .i64 0, .int .i64 0, .slice none 0 0, .string ⟨#[]⟩, .int .i64 0, .slice none 0 0, .int .i64 0, .int .i64 0, .int .i64 0] 39) = V0 := ⟨_, HP0.out, rfl⟩
      rw [hV]
      clear hV HP0
      have S0 := hP0.st
      have HG : Hid (∀ k, k < ws.length → ws[k]? = some (ws.getD k [])) := Lib.hid (fun k hk => by rw [List.getD_eq_getElem?_getD, List.getElem?_eq_getElem hk]; rfl)
      have HLK : Hid (∀ k, k < ws.length → (ws.getD k []).length ≤ 2000) := Lib.hid (fun k hk => HWL.out _ (List.mem_of_getElem? (HG.out k hk)))
      have hx0 := HW.out.at S0 (HG.out 0 (by omega))
      obtain ⟨a0, ha0⟩ : ∃ a0 : ByteArray, a0 = ⟨(ws.getD 0 []).toArray⟩ := ⟨_, rfl⟩
      have ha : a0.toList = ws.getD 0 [] := by rw [ha0, ByteArray.toList_eq]
      rw [← ha0] at hx0
      have HS0 := Lib.hid S0
      have HA := Lib.hid ha
      clear ha0 ha hP0 S0 HR1
      by_cases hnx : ws.getD 0 [] = [110, 101, 120, 116]
      · have e1 : (a0.toList == [110, 101, 120, 116]) = true := by rw [HA.out, hnx]; rfl
        have p0 : V0.cell? ⟨w1.heap.size, 0, none⟩ = some (.int .i64 0) := HS0.out.row.cell 0 _ rfl
        have q0 : V0.frozen? ⟨w1.heap.size, 0, none⟩ = false := HS0.out.row.free 0 (by first | (simp; done) | simp [deedCs])
        have HP : Hid (Pre w w1 (V0.setCell ⟨w1.heap.size, 0, none⟩ (.int .i64 4)) ⟨4, 0, [], ⟨#[]⟩, 0, [], 0, 0, 0⟩ none 0 none 0) := Lib.hid ⟨HS0.out.set 0 _ (by simp [deedCs]), OwnL.nil _ _ _, OwnL.nil _ _ _, fun e he => (by cases he), Nat.zero_le _⟩
        have HC : Hid (cand2 ws = ⟨4, memb2 ws, [], ⟨#[]⟩, 0, [], 0, 0, 0⟩) := Lib.hid (by unfold cand2; rw [if_pos hnx])
        clear hnx
        go_wp2_with (fail)
        go_meet
        exact ⟨_, _, _, _, _, HP.out, HC.out.symm, rfl⟩
      · have e1 : (a0.toList == [110, 101, 120, 116]) = false := by rw [HA.out]; simpa using hnx
        by_cases htr : ws.getD 0 [] = [116, 114, 117, 115, 116]
        · have e2 : (a0.toList == [116, 114, 117, 115, 116]) = true := by rw [HA.out, htr]; rfl
          have e3 : (a0.toList == [118, 111, 116, 101]) = false := by rw [HA.out, htr]; rfl
          have e4 : (a0.toList == [112, 114, 111, 112, 111, 115, 101]) = false := by rw [HA.out, htr]; rfl
          by_cases h3 : ws.length ≤ 3
          · have h3i : (ws.length : Int) ≤ 3 := by omega
            have p0 : V0.cell? ⟨w1.heap.size, 0, none⟩ = some (.int .i64 0) := HS0.out.row.cell 0 _ rfl
            have q0 : V0.frozen? ⟨w1.heap.size, 0, none⟩ = false := HS0.out.row.free 0 (by first | (simp; done) | simp [deedCs])
            by_cases h33 : ws.length = 3
            · have hq : ((ws.length : Int) == 3) = true := by rw [h33]; rfl
              have HC : Hid (cand2 ws = ⟨1, memb2 ws, decs 0 12 (ws.getD 2 []), ⟨#[]⟩, 0, [], 0, 0, 0⟩) := Lib.hid (by unfold cand2; rw [if_neg hnx, if_pos ⟨htr, h3⟩, if_pos h33])
              have S1 := HS0.out.set 0 (.int .i64 1) (by simp [deedCs])
              have x2 := HW.out.at HS0.out (HG.out 2 (by omega))
              have hl2 := HLK.out 2 (by omega)
              have HD := Lib.hid (fun (V : World) (hb : Below w.heap.size w V) => decimals2_any ⟨(ws.getD 2 []).toArray⟩ 0 12 V (by rw [mk_size]; omega) (by omega) (by omega) ((E.out.on hb).more hb.size))
              have hlen : 2 < ws.length := by omega
              rw [show (⟨(ws.getD 2 []).toArray⟩ : ByteArray).data.toList = ws.getD 2 [] from rfl] at HD
              generalize decs 0 12 (ws.getD 2 []) = zs at *
              generalize ws.getD 2 [] = l2 at *
              clear hnx htr h33
              go_wp2_with (fail)
              refine (HD.out _ S1.all).mono ?_
              rintro e V1 ⟨v, ok, rfl, hO, hb1⟩
              have S2 : Si w w1 V1 _ := S1.below hb1
              have HO1 := Lib.hid (hO.less S1.own)
              clear hb1 hO S1
              have p2 : V1.cell? ⟨w1.heap.size, 2, none⟩ = some (.slice none 0 0) := S2.row.cell 2 _ rfl
              have q2 : V1.frozen? ⟨w1.heap.size, 2, none⟩ = false := S2.row.free 2 (by first | (simp; done) | simp [deedCs])
              obtain ⟨T1, t1, rfl, _⟩ := HO1.out
              have HP : Hid (Pre w w1 (V1.setCell ⟨w1.heap.size, 2, none⟩ (.slice T1 zs.length t1)) ⟨1, 0, zs, ⟨#[]⟩, 0, [], 0, 0, 0⟩ T1 t1 none 0) := Lib.hid ⟨S2.set 2 _ (by simp [deedCs]), HO1.out.set _ (by simp), OwnL.nil _ _ _, fun e he => (by cases he), Nat.zero_le _⟩
              clear S2 HO1
              go_wp2_with (fail)
              go_meet
              exact ⟨_, _, _, _, _, HP.out, HC.out.symm, rfl⟩
            · have hq : ((ws.length : Int) == 3) = false := by simp; omega
              have HC : Hid (cand2 ws = ⟨1, memb2 ws, [], ⟨#[]⟩, 0, [], 0, 0, 0⟩) := Lib.hid (by unfold cand2; rw [if_neg hnx, if_pos ⟨htr, h3⟩, if_neg h33])
              have HP : Hid (Pre w w1 (V0.setCell ⟨w1.heap.size, 0, none⟩ (.int .i64 1)) ⟨1, 0, [], ⟨#[]⟩, 0, [], 0, 0, 0⟩ none 0 none 0) := Lib.hid ⟨HS0.out.set 0 _ (by simp [deedCs]), OwnL.nil _ _ _, OwnL.nil _ _ _, fun e he => (by cases he), Nat.zero_le _⟩
              clear hnx htr
              go_wp2_with (fail)
              go_meet
              exact ⟨_, _, _, _, _, HP.out, HC.out.symm, rfl⟩
          · have h3i : ¬ (ws.length : Int) ≤ 3 := by omega
            have HC : Hid (cand2 ws = ⟨0, memb2 ws, [], ⟨#[]⟩, 0, [], 0, 0, 0⟩) := Lib.hid (by unfold cand2; rw [if_neg hnx, if_neg (fun h => h3 h.2), if_neg (fun h => absurd h.1 (by rw [htr]; decide)), if_neg (fun h => absurd h.1 (by rw [htr]; decide))])
            have HP : Hid (Pre w w1 V0 zeroDeed none 0 none 0) := Lib.hid ⟨HS0.out, OwnL.nil _ _ _, OwnL.nil _ _ _, fun e he => (by cases he), Nat.zero_le _⟩
            go_wp2_with (fail)
            go_meet
            exact ⟨_, _, _, _, _, HP.out, HC.out.symm, rfl⟩
        · have e2 : (a0.toList == [116, 114, 117, 115, 116]) = false := by rw [HA.out]; simpa using htr
          by_cases hvo : ws.getD 0 [] = [118, 111, 116, 101]
          · have e3 : (a0.toList == [118, 111, 116, 101]) = true := by rw [HA.out, hvo]; rfl
            have e4 : (a0.toList == [112, 114, 111, 112, 111, 115, 101]) = false := by rw [HA.out, hvo]; rfl
            by_cases h4 : ws.length = 4
            · exact absurd ⟨hvo, h4⟩ HNV.out
            · have hq : ((ws.length : Int) == 4) = false := by simp; omega
              have HC : Hid (cand2 ws = ⟨0, memb2 ws, [], ⟨#[]⟩, 0, [], 0, 0, 0⟩) := Lib.hid (by unfold cand2; rw [if_neg hnx, if_neg (fun h => htr h.1), if_neg (fun h => h4 h.2), if_neg (fun h => absurd h.1 (by rw [hvo]; decide))])
              have HP : Hid (Pre w w1 V0 zeroDeed none 0 none 0) := Lib.hid ⟨HS0.out, OwnL.nil _ _ _, OwnL.nil _ _ _, fun e he => (by cases he), Nat.zero_le _⟩
              go_wp2_with (fail)
              go_meet
              exact ⟨_, _, _, _, _, HP.out, HC.out.symm, rfl⟩
          · have e3 : (a0.toList == [118, 111, 116, 101]) = false := by rw [HA.out]; simpa using hvo
            by_cases hpr : ws.getD 0 [] = [112, 114, 111, 112, 111, 115, 101]
            · have e4 : (a0.toList == [112, 114, 111, 112, 111, 115, 101]) = true := by rw [HA.out, hpr]; rfl
              by_cases h7 : ws.length = 7
              · have hq : ((ws.length : Int) == 7) = true := by rw [h7]; rfl
                have HC : Hid (cand2 ws = ⟨3, memb2 ws, [], ⟨(ws.getD 2 []).toArray⟩, 0, (patchOf (unsemis (ws.getD 6 []))).getD [], num2 1000 (ws.getD 4 []), num2 1000 (ws.getD 5 []), num2 1000 (ws.getD 3 [])⟩) := Lib.hid (by unfold cand2; rw [if_neg hnx, if_neg (fun h => htr h.1), if_neg (fun h => hvo h.1), if_pos ⟨hpr, h7⟩])
                have HNU : Hid (∀ k, k < ws.length → ∀ V : World, Below w.heap.size w V → Calls Tryz.prog 60 #[.string ⟨(ws.getD k []).toArray⟩, .int .i64 0, .int .i64 1000] V (RetB (.tuple #[.int .i64 (num2 1000 (ws.getD k [])), .bool (numOf 0 1000 (ws.getD k [])).isSome]) V)) := Lib.hid (fun k hk V bw => number2_any ⟨(ws.getD k []).toArray⟩ 0 1000 V (by have := HLK.out k hk; rw [mk_size]; omega) (by omega) (by omega) ((E.out.on bw).more bw.size))
                have hN3 := HNU.out 3 (by omega)
                have hN4 := HNU.out 4 (by omega)
                have hN5 := HNU.out 5 (by omega)
                have hl6 := HLK.out 6 (by omega)
                have hl2 := HLK.out 2 (by omega)
                have HRB : Hid (∀ V : World, Below w.heap.size w V → Calls Tryz.prog 46 #[.string ⟨(ws.getD 6 []).toArray⟩, .string ⟨#[59]⟩, .string ⟨#[10]⟩] V (RetB (.string ⟨(unsemis (ws.getD 6 [])).toArray⟩) V)) := Lib.hid (fun V bw => E.out.rpb V bw _ (by omega))
                have HRP : Hid (∀ V : World, Below w.heap.size w V → Calls Tryz.prog 61 #[.string ⟨(unsemis (ws.getD 6 [])).toArray⟩] V (PatchPost (unsemis (ws.getD 6 [])) V)) := Lib.hid (fun V bw => readPatch2_any ⟨(unsemis (ws.getD 6 [])).toArray⟩ V (by rw [mk_size]; unfold unsemis; rw [List.length_map]; omega) ((E.out.on bw).more bw.size))
                unfold PatchPost at HRP
                have HPS : Hid (SizesOk ((patchOf (unsemis (ws.getD 6 []))).getD [])) := Lib.hid (patchOf_sizes _)
                have HX : Hid (∀ (V : World) (L : List Value), Si w w1 V L → V.cell? ⟨w.heap.size + 1, 2, none⟩ = some (.string ⟨(ws.getD 2 []).toArray⟩) ∧ V.cell? ⟨w.heap.size + 1, 3, none⟩ = some (.string ⟨(ws.getD 3 []).toArray⟩) ∧ V.cell? ⟨w.heap.size + 1, 4, none⟩ = some (.string ⟨(ws.getD 4 []).toArray⟩) ∧ V.cell? ⟨w.heap.size + 1, 5, none⟩ = some (.string ⟨(ws.getD 5 []).toArray⟩) ∧ V.cell? ⟨w.heap.size + 1, 6, none⟩ = some (.string ⟨(ws.getD 6 []).toArray⟩)) := Lib.hid (fun V L hS => ⟨HW.out.at hS (HG.out 2 (by omega)), HW.out.at hS (HG.out 3 (by omega)), HW.out.at hS (HG.out 4 (by omega)), HW.out.at hS (HG.out 5 (by omega)), HW.out.at hS (HG.out 6 (by omega))⟩)
                have hlen : 6 < ws.length := by omega
                obtain ⟨ti, hti⟩ : ∃ ti : ByteArray, ti = ⟨(ws.getD 2 []).toArray⟩ := ⟨_, rfl⟩
                have HTS : Hid (ti.size ≤ maxLen) := Lib.hid (by rw [hti, mk_size]; unfold maxLen; omega)
                rw [← hti] at HX HC
                generalize (patchOf (unsemis (ws.getD 6 []))).getD [] = P at *
                generalize (patchOf (unsemis (ws.getD 6 []))).isSome = pok at *
                generalize unsemis (ws.getD 6 []) = up at *
                have H3 := Lib.hid hN3
                have H4 := Lib.hid hN4
                have H5 := Lib.hid hN5
                clear hN3 hN4 hN5 HNU hl6 hl2 hti h7
                generalize num2 1000 (ws.getD 3 []) = n3 at *
                generalize num2 1000 (ws.getD 4 []) = n4 at *
                generalize num2 1000 (ws.getD 5 []) = n5 at *
                generalize (numOf 0 1000 (ws.getD 3 [])).isSome = k3 at *
                generalize (numOf 0 1000 (ws.getD 4 [])).isSome = k4 at *
                generalize (numOf 0 1000 (ws.getD 5 [])).isSome = k5 at *
                generalize ws.getD 3 [] = l3 at *
                generalize ws.getD 4 [] = l4 at *
                generalize ws.getD 5 [] = l5 at *
                generalize ws.getD 6 [] = l6 at *
                obtain ⟨x2, x3, x4, x5, x6⟩ := HX.out V0 _ HS0.out
                have p0 : V0.cell? ⟨w1.heap.size, 0, none⟩ = some (.int .i64 0) := HS0.out.row.cell 0 _ rfl
                have q0 : V0.frozen? ⟨w1.heap.size, 0, none⟩ = false := HS0.out.row.free 0 (by first | (simp; done) | simp [deedCs])
                have p3 : V0.cell? ⟨w1.heap.size, 3, none⟩ = some (.string ⟨#[]⟩) := HS0.out.row.cell 3 _ rfl
                have q3 : V0.frozen? ⟨w1.heap.size, 3, none⟩ = false := HS0.out.row.free 3 (by first | (simp; done) | simp [deedCs])
                have hsz0 := HS0.out.siz
                have hwl1 : w.heap.size + 1 < V0.heap.size := Nat.lt_trans HW.out.1 hsz0
                go_upto_region 14 with (fail)
                go_cut [] (fun wx => Si w w1 wx [.int .i64 3, .int .i64 0, .slice none 0 0, .string ti, .int .i64 0, .slice none 0 0, .int .i64 0, .int .i64 0, .int .i64 0])
                case first =>
                  go_region
                  all_goals
                    go_wp2_with (fail)
                    go_meet
                    first
                    | exact ((HS0.out.set 0 _ (by simp [deedCs])).set 3 _ (by simp [deedCs]))
                    | exact ((HS0.out.set 0 _ (by simp [deedCs])).set 3 _ (by simp [deedCs])).drew' (n := 1) rfl
                    | exact ((HS0.out.drew' (n := 1) rfl).set 0 _ (by simp [deedCs])).set 3 _ (by simp [deedCs])
                case rest =>
                  have HSC := Lib.hid hcut
                  obtain ⟨_, x3, _, _, _⟩ := HX.out wc _ hcut
                  clear hcut p0 q0 p3 q3 x2 x4 x5 x6
                  go_wp2_with (fail)
                  refine (H3.out _ HSC.out.all).mono ?_
                  rintro e V1 ⟨rfl, hb⟩
                  have S1 := HSC.out.below hb
                  clear hb
                  have p8 : V1.cell? ⟨w1.heap.size, 8, none⟩ = some (.int .i64 0) := S1.row.cell 8 _ rfl
                  have q8 : V1.frozen? ⟨w1.heap.size, 8, none⟩ = false := S1.row.free 8 (by first | (simp; done) | simp [deedCs])
                  obtain ⟨_, _, x4, _, _⟩ := HX.out V1 _ S1
                  have S2 := S1.set 8 (.int .i64 n3) (by simp)
                  go_wp2_with (fail)
                  refine (H4.out _ S2.all).mono ?_
                  rintro e V2 ⟨rfl, hb⟩
                  have S3 := S2.below hb
                  clear hb p8 q8 S1 S2 x3 x4
                  have p6 : V2.cell? ⟨w1.heap.size, 6, none⟩ = some (.int .i64 0) := S3.row.cell 6 _ rfl
                  have q6 : V2.frozen? ⟨w1.heap.size, 6, none⟩ = false := S3.row.free 6 (by first | (simp; done) | simp [deedCs])
                  obtain ⟨_, _, _, x5, _⟩ := HX.out V2 _ S3
                  have S4 := S3.set 6 (.int .i64 n4) (by simp)
                  go_wp2_with (fail)
                  refine (H5.out _ S4.all).mono ?_
                  rintro e V3 ⟨rfl, hb⟩
                  have S5 := S4.below hb
                  clear hb p6 q6 S3 S4 x5
                  have p7 : V3.cell? ⟨w1.heap.size, 7, none⟩ = some (.int .i64 0) := S5.row.cell 7 _ rfl
                  have q7 : V3.frozen? ⟨w1.heap.size, 7, none⟩ = false := S5.row.free 7 (by first | (simp; done) | simp [deedCs])
                  obtain ⟨_, _, _, _, x6⟩ := HX.out V3 _ S5
                  have S6 := S5.set 7 (.int .i64 n5) (by simp)
                  go_wp2_with (fail)
                  refine (HRB.out _ S6.all).mono ?_
                  rintro e V4 ⟨rfl, hb⟩
                  have S7 := S6.below hb
                  clear hb p7 q7 S5 S6 x6
                  go_wp2_with (fail)
                  refine (HRP.out _ S7.all).mono ?_
                  rintro e V5 ⟨v, rfl, hO, hb⟩
                  have S8 := S7.below hb
                  have HO := Lib.hid (hO.less S7.own)
                  clear hb hO S7
                  have p5 : V5.cell? ⟨w1.heap.size, 5, none⟩ = some (.slice none 0 0) := S8.row.cell 5 _ rfl
                  have q5 : V5.frozen? ⟨w1.heap.size, 5, none⟩ = false := S8.row.free 5 (by first | (simp; done) | simp [deedCs])
                  obtain ⟨T2, t2, rfl, _⟩ := HO.out
                  have HP : Hid (Pre w w1 (V5.setCell ⟨w1.heap.size, 5, none⟩ (.slice T2 P.length t2)) ⟨3, 0, [], ti, 0, P, n4, n5, n3⟩ none 0 T2 t2) := Lib.hid ⟨S8.set 5 _ (by simp), OwnL.nil _ _ _, HO.out.set _ (by simp), HPS.out, HTS.out⟩
                  clear S8 HO
                  go_wp2_with (fail)
                  go_meet
                  exact ⟨_, _, _, _, _, HP.out, HC.out.symm, rfl⟩
              · have hq : ((ws.length : Int) == 7) = false := by simp; omega
                have HC : Hid (cand2 ws = ⟨0, memb2 ws, [], ⟨#[]⟩, 0, [], 0, 0, 0⟩) := Lib.hid (by unfold cand2; rw [if_neg hnx, if_neg (fun h => htr h.1), if_neg (fun h => hvo h.1), if_neg (fun h => h7 h.2)])
                have HP : Hid (Pre w w1 V0 zeroDeed none 0 none 0) := Lib.hid ⟨HS0.out, OwnL.nil _ _ _, OwnL.nil _ _ _, fun e he => (by cases he), Nat.zero_le _⟩
                go_wp2_with (fail)
                go_meet
                exact ⟨_, _, _, _, _, HP.out, HC.out.symm, rfl⟩
            · have e4 : (a0.toList == [112, 114, 111, 112, 111, 115, 101]) = false := by rw [HA.out]; simpa using hpr
              have HC : Hid (cand2 ws = ⟨0, memb2 ws, [], ⟨#[]⟩, 0, [], 0, 0, 0⟩) := Lib.hid (by unfold cand2; rw [if_neg hnx, if_neg (fun h => htr h.1), if_neg (fun h => hvo h.1), if_neg (fun h => hpr h.1)])
              have HP : Hid (Pre w w1 V0 zeroDeed none 0 none 0) := Lib.hid ⟨HS0.out, OwnL.nil _ _ _, OwnL.nil _ _ _, fun e he => (by cases he), Nat.zero_le _⟩
              go_wp2_with (fail)
              go_meet
              exact ⟨_, _, _, _, _, HP.out, HC.out.symm, rfl⟩
    case rest =>
      obtain ⟨d, A1, c1, A2, c2, hP, hd, hm⟩ := hcut
      have HG : Hid (∀ k, k < ws.length → ws[k]? = some (ws.getD k [])) := Lib.hid (fun k hk => by rw [List.getD_eq_getElem?_getD, List.getElem?_eq_getElem hk]; rfl)
      have HLK : Hid (∀ k, k < ws.length → (ws.getD k []).length ≤ 2000) := Lib.hid (fun k hk => HWL.out _ (List.mem_of_getElem? (HG.out k hk)))
      by_cases h1n : 1 < ws.length
      · have hl1 := HLK.out 1 h1n
        have HNUM : Hid (∀ V : World, Below w.heap.size w V → Calls Tryz.prog 60 #[.string ⟨(ws.getD 1 []).toArray⟩, .int .i64 0, .int .i64 12] V (RetB (.tuple #[.int .i64 (num2 12 (ws.getD 1 [])), .bool (numOf 0 12 (ws.getD 1 [])).isSome]) V)) := Lib.hid (fun V bw => number2_any ⟨(ws.getD 1 []).toArray⟩ 0 12 V (by rw [mk_size]; omega) (by omega) (by omega) ((E.out.on bw).more bw.size))
        have hmb : memb2 ws = num2 12 (ws.getD 1 []) := by unfold memb2; rw [if_pos h1n]
        rw [hmb] at hd
        have x1 := HW.out.at hP.st (HG.out 1 h1n)
        have h1i : (1 : Int) < (ws.length : Int) := by omega
        generalize num2 12 (ws.getD 1 []) = mb at *
        generalize (numOf 0 12 (ws.getD 1 [])).isSome = mk at *
        generalize ws.getD 1 [] = l1 at *
        have HPP := Lib.hid hP
        have HDD := Lib.hid hd
        clear hP hd hmb hm hl1
        go_wp2_with (fail)
        refine (HNUM.out _ HPP.out.st.all).mono ?_
        rintro e V1 ⟨rfl, hb1⟩
        have hP1 := HPP.out.below hb1
        have HPM : Hid (Pre w w1 (V1.setCell ⟨w1.heap.size, 1, none⟩ (.int .i64 mb)) { d with member := mb } A1 c1 A2 c2) := Lib.hid (hP1.member mb)
        have y0 : V1.cell? ⟨w1.heap.size, 0, none⟩ = some (.int .i64 d.kind) := (hP1.st).row.cell 0 _ rfl
        have y1 : V1.cell? ⟨w1.heap.size, 1, none⟩ = some (.int .i64 d.member) := (hP1.st).row.cell 1 _ rfl
        have y2 : V1.cell? ⟨w1.heap.size, 2, none⟩ = some (.slice A1 d.trust.length c1) := (hP1.st).row.cell 2 _ rfl
        have y3 : V1.cell? ⟨w1.heap.size, 3, none⟩ = some (.string d.title) := (hP1.st).row.cell 3 _ rfl
        have y4 : V1.cell? ⟨w1.heap.size, 4, none⟩ = some (.int .i64 d.vote) := (hP1.st).row.cell 4 _ rfl
        have y5 : V1.cell? ⟨w1.heap.size, 5, none⟩ = some (.slice A2 d.patch.length c2) := (hP1.st).row.cell 5 _ rfl
        have y6 : V1.cell? ⟨w1.heap.size, 6, none⟩ = some (.int .i64 d.start) := (hP1.st).row.cell 6 _ rfl
        have y7 : V1.cell? ⟨w1.heap.size, 7, none⟩ = some (.int .i64 d.until_) := (hP1.st).row.cell 7 _ rfl
        have y8 : V1.cell? ⟨w1.heap.size, 8, none⟩ = some (.int .i64 d.closes) := (hP1.st).row.cell 8 _ rfl
        have q1 : V1.frozen? ⟨w1.heap.size, 1, none⟩ = false := hP1.st.row.free 1 (by simp [deedCs])
        clear hb1 hP1 x1
        go_wp2_with (fail)
        have HDT : Hid (∀ (x : Deed) (V : World), Pre w w1 V x A1 c1 A2 c2 → Calls Tryz.prog 27 #[deedV x A1 c1 A2 c2] V (RetB (.tuple #[.string ⟨(deedOut x).toArray⟩, .bool (okDeed x)]) V)) := Lib.hid (fun x V hx => deedText2_any x A1 c1 A2 c2 V (hx.o1.slR (size := 1) fun _ => rfl) (hx.o2.slR (size := 4) fun _ => rfl) hx.sz hx.ti (env_more (E.out.env.on hx.st.all) hx.st.all.size))
        have HT0 := HDT.out ({ d with member := mb }) (V1.setCell ⟨w1.heap.size, 1, none⟩ (.int .i64 mb)) HPM.out
        obtain ⟨x, V, hxv⟩ : ∃ (x : Deed) (V : World), x = { d with member := mb } ∧ V = V1.setCell ⟨w1.heap.size, 1, none⟩ (.int .i64 mb) := ⟨_, _, rfl, rfl⟩
        obtain ⟨hx, hv⟩ := hxv
        have HPX : Hid (Pre w w1 V x A1 c1 A2 c2) := Lib.hid (by rw [hx, hv]; exact HPM.out)
        have HUX : Hid (∀ q, okDeed q = true → deedText q = s.data.toList → x = q) := Lib.hid (fun q h e => by rw [hx, HDD.out]; exact HU.out q h e)
        rw [← hx, ← hv] at HT0
        rw [← hv]
        cases hok : okDeed x with
        | false =>
          have HN : Hid (deedOf s.data.toList = none) := Lib.hid (inv_no HUX.out (by rw [hok]; simp))
          rw [deedOut_no hok, hok, hx] at HT0
          clear hok HDT
          refine HT0.mono ?_
          rintro e V2 ⟨rfl, hb2⟩
          have S2 := HPX.out.st.below hb2
          have z0 : V2.cell? ⟨w.heap.size, 0, none⟩ = some (.int .i64 0) := (S2).res.cell 0 _ rfl
          have z1 : V2.cell? ⟨w.heap.size, 1, none⟩ = some (.int .i64 0) := (S2).res.cell 1 _ rfl
          have z2 : V2.cell? ⟨w.heap.size, 2, none⟩ = some (.slice none 0 0) := (S2).res.cell 2 _ rfl
          have z3 : V2.cell? ⟨w.heap.size, 3, none⟩ = some (.string ⟨#[]⟩) := (S2).res.cell 3 _ rfl
          have z4 : V2.cell? ⟨w.heap.size, 4, none⟩ = some (.int .i64 0) := (S2).res.cell 4 _ rfl
          have z5 : V2.cell? ⟨w.heap.size, 5, none⟩ = some (.slice none 0 0) := (S2).res.cell 5 _ rfl
          have z6 : V2.cell? ⟨w.heap.size, 6, none⟩ = some (.int .i64 0) := (S2).res.cell 6 _ rfl
          have z7 : V2.cell? ⟨w.heap.size, 7, none⟩ = some (.int .i64 0) := (S2).res.cell 7 _ rfl
          have z8 : V2.cell? ⟨w.heap.size, 8, none⟩ = some (.int .i64 0) := (S2).res.cell 8 _ rfl
          have f0 : V2.frozen? ⟨w.heap.size, 0, none⟩ = false := (S2).res.free 0 (by decide)
          have f1 : V2.frozen? ⟨w.heap.size, 1, none⟩ = false := (S2).res.free 1 (by decide)
          have f2 : V2.frozen? ⟨w.heap.size, 2, none⟩ = false := (S2).res.free 2 (by decide)
          have f3 : V2.frozen? ⟨w.heap.size, 3, none⟩ = false := (S2).res.free 3 (by decide)
          have f4 : V2.frozen? ⟨w.heap.size, 4, none⟩ = false := (S2).res.free 4 (by decide)
          have f5 : V2.frozen? ⟨w.heap.size, 5, none⟩ = false := (S2).res.free 5 (by decide)
          have f6 : V2.frozen? ⟨w.heap.size, 6, none⟩ = false := (S2).res.free 6 (by decide)
          have f7 : V2.frozen? ⟨w.heap.size, 7, none⟩ = false := (S2).res.free 7 (by decide)
          have f8 : V2.frozen? ⟨w.heap.size, 8, none⟩ = false := (S2).res.free 8 (by decide)
          have HAL := Lib.hid S2.all
          clear hb2 S2 hx hv HT0
          go_wp2
          refine bodyPost_ret (v := .tuple #[.agg #[.int .i64 0, .int .i64 0, .slice none 0 0, .string ⟨#[]⟩, .int .i64 0, .slice none 0 0, .int .i64 0, .int .i64 0, .int .i64 0], .bool false]) ?hr rfl ?_
          case hr => exact (res_rd _ _ w.heap.size (.int .i64 0) (.int .i64 0) (.slice none 0 0) (.string ⟨#[]⟩) (.int .i64 0) (.slice none 0 0) (.int .i64 0) (.int .i64 0) (.int .i64 0) false (by kernel_rfl) (by kernel_rfl) (by simp [go_sem, z0]) (by simp [go_sem, z1]) (by simp [go_sem, z2]) (by simp [go_sem, z3]) (by simp [go_sem, z4]) (by simp [go_sem, z5]) (by simp [go_sem, z6]) (by simp [go_sem, z7]) (by simp [go_sem, z8]))
          refine ⟨none, 0, none, 0, by rw [HN.out]; rfl, by rw [HN.out]; exact OwnL.nil _ _ _, by rw [HN.out]; exact OwnL.nil _ _ _, ?_⟩
          iterate 9 refine Below.setCell ?_ (by simp) _
          exact HAL.out
        | true =>
          have HOK := Lib.hid hok
          rw [deedOut_ok hok, hok] at HT0
          clear hok
          have HTL : ∃ T, T = deedText x := ⟨_, rfl⟩
          obtain ⟨T, hT⟩ := HTL
          rw [← hT, hx] at HT0
          refine HT0.mono ?_
          rintro e V2 ⟨rfl, hb2⟩
          have S2 := HPX.out.st.below hb2
          have z0 : V2.cell? ⟨w.heap.size, 0, none⟩ = some (.int .i64 0) := (S2).res.cell 0 _ rfl
          have z1 : V2.cell? ⟨w.heap.size, 1, none⟩ = some (.int .i64 0) := (S2).res.cell 1 _ rfl
          have z2 : V2.cell? ⟨w.heap.size, 2, none⟩ = some (.slice none 0 0) := (S2).res.cell 2 _ rfl
          have z3 : V2.cell? ⟨w.heap.size, 3, none⟩ = some (.string ⟨#[]⟩) := (S2).res.cell 3 _ rfl
          have z4 : V2.cell? ⟨w.heap.size, 4, none⟩ = some (.int .i64 0) := (S2).res.cell 4 _ rfl
          have z5 : V2.cell? ⟨w.heap.size, 5, none⟩ = some (.slice none 0 0) := (S2).res.cell 5 _ rfl
          have z6 : V2.cell? ⟨w.heap.size, 6, none⟩ = some (.int .i64 0) := (S2).res.cell 6 _ rfl
          have z7 : V2.cell? ⟨w.heap.size, 7, none⟩ = some (.int .i64 0) := (S2).res.cell 7 _ rfl
          have z8 : V2.cell? ⟨w.heap.size, 8, none⟩ = some (.int .i64 0) := (S2).res.cell 8 _ rfl
          have f0 : V2.frozen? ⟨w.heap.size, 0, none⟩ = false := (S2).res.free 0 (by decide)
          have f1 : V2.frozen? ⟨w.heap.size, 1, none⟩ = false := (S2).res.free 1 (by decide)
          have f2 : V2.frozen? ⟨w.heap.size, 2, none⟩ = false := (S2).res.free 2 (by decide)
          have f3 : V2.frozen? ⟨w.heap.size, 3, none⟩ = false := (S2).res.free 3 (by decide)
          have f4 : V2.frozen? ⟨w.heap.size, 4, none⟩ = false := (S2).res.free 4 (by decide)
          have f5 : V2.frozen? ⟨w.heap.size, 5, none⟩ = false := (S2).res.free 5 (by decide)
          have f6 : V2.frozen? ⟨w.heap.size, 6, none⟩ = false := (S2).res.free 6 (by decide)
          have f7 : V2.frozen? ⟨w.heap.size, 7, none⟩ = false := (S2).res.free 7 (by decide)
          have f8 : V2.frozen? ⟨w.heap.size, 8, none⟩ = false := (S2).res.free 8 (by decide)
          have HAL := Lib.hid S2.all
          by_cases heq : T = s.data.toList
          · have hs1 : (T == s.toList) = true := by rw [ByteArray.toList_eq, heq]; simp
            have HN : Hid (deedOf s.data.toList = some x) := Lib.hid (inv_of HUX.out HOK.out (by rw [← hT, heq]))
            have HO1 := Lib.hid (HPX.out.o1.on hb2)
            have HO2 := Lib.hid (HPX.out.o2.on hb2)
            have HX := Lib.hid hx
            have y0 : V2.cell? ⟨w1.heap.size, 0, none⟩ = some (.int .i64 x.kind) := S2.row.cell 0 _ rfl
            have y1 : V2.cell? ⟨w1.heap.size, 1, none⟩ = some (.int .i64 x.member) := S2.row.cell 1 _ rfl
            have y2 : V2.cell? ⟨w1.heap.size, 2, none⟩ = some (.slice A1 x.trust.length c1) := S2.row.cell 2 _ rfl
            have y3 : V2.cell? ⟨w1.heap.size, 3, none⟩ = some (.string x.title) := S2.row.cell 3 _ rfl
            have y4 : V2.cell? ⟨w1.heap.size, 4, none⟩ = some (.int .i64 x.vote) := S2.row.cell 4 _ rfl
            have y5 : V2.cell? ⟨w1.heap.size, 5, none⟩ = some (.slice A2 x.patch.length c2) := S2.row.cell 5 _ rfl
            have y6 : V2.cell? ⟨w1.heap.size, 6, none⟩ = some (.int .i64 x.start) := S2.row.cell 6 _ rfl
            have y7 : V2.cell? ⟨w1.heap.size, 7, none⟩ = some (.int .i64 x.until_) := S2.row.cell 7 _ rfl
            have y8 : V2.cell? ⟨w1.heap.size, 8, none⟩ = some (.int .i64 x.closes) := S2.row.cell 8 _ rfl
            clear heq hb2 S2 hx hv HT0 hT HDT
            go_wp2
            refine bodyPost_ret (v := .tuple #[deedV x A1 c1 A2 c2, .bool true]) ?hr rfl ?_
            case hr => exact (res_rd _ _ w.heap.size (.int .i64 x.kind) (.int .i64 x.member) (.slice A1 x.trust.length c1) (.string x.title) (.int .i64 x.vote) (.slice A2 x.patch.length c2) (.int .i64 x.start) (.int .i64 x.until_) (.int .i64 x.closes) true (by kernel_rfl) (by kernel_rfl) (by simp [go_sem, z0]) (by simp [go_sem, z1]) (by simp [go_sem, z2]) (by simp [go_sem, z3]) (by simp [go_sem, z4]) (by simp [go_sem, z5]) (by simp [go_sem, z6]) (by simp [go_sem, z7]) (by simp [go_sem, z8]))
            refine ⟨A1, c1, A2, c2, by rw [HN.out]; rfl, ?_, ?_, ?_⟩
            · rw [HN.out]
              refine OwnL.less (base := w1.heap.size + 1) ?_ (by omega)
              iterate 9 refine OwnL.set ?_ _ (by simp; omega)
              exact HO1.out
            · rw [HN.out]
              refine OwnL.less (base := w1.heap.size + 1) ?_ (by omega)
              iterate 9 refine OwnL.set ?_ _ (by simp; omega)
              exact HO2.out
            · iterate 9 refine Below.setCell ?_ (by simp) _
              exact HAL.out
          · have hs1 : (T == s.toList) = false := by rw [ByteArray.toList_eq]; simpa using heq
            have HN : Hid (deedOf s.data.toList = none) := Lib.hid (inv_no HUX.out (fun h => heq (by rw [hT]; exact h.2)))
            clear heq hb2 S2 hx hv HT0 hT HDT
            go_wp2
            refine bodyPost_ret (v := .tuple #[.agg #[.int .i64 0, .int .i64 0, .slice none 0 0, .string ⟨#[]⟩, .int .i64 0, .slice none 0 0, .int .i64 0, .int .i64 0, .int .i64 0], .bool false]) ?hr rfl ?_
            case hr => exact (res_rd _ _ w.heap.size (.int .i64 0) (.int .i64 0) (.slice none 0 0) (.string ⟨#[]⟩) (.int .i64 0) (.slice none 0 0) (.int .i64 0) (.int .i64 0) (.int .i64 0) false (by kernel_rfl) (by kernel_rfl) (by simp [go_sem, z0]) (by simp [go_sem, z1]) (by simp [go_sem, z2]) (by simp [go_sem, z3]) (by simp [go_sem, z4]) (by simp [go_sem, z5]) (by simp [go_sem, z6]) (by simp [go_sem, z7]) (by simp [go_sem, z8]))
            refine ⟨none, 0, none, 0, by rw [HN.out]; rfl, by rw [HN.out]; exact OwnL.nil _ _ _, by rw [HN.out]; exact OwnL.nil _ _ _, ?_⟩
            iterate 9 refine Below.setCell ?_ (by simp) _
            exact HAL.out
      · have h1i : ¬ (1 : Int) < (ws.length : Int) := by omega
        have hmb : memb2 ws = 0 := by unfold memb2; rw [if_neg h1n]
        have hdd : d = cand2 ws := by rw [← hd, hmb, ← hm]
        have HPP := Lib.hid hP
        have HDD := Lib.hid hdd
        have y0 : wc.cell? ⟨w1.heap.size, 0, none⟩ = some (.int .i64 d.kind) := (hP.st).row.cell 0 _ rfl
        have y1 : wc.cell? ⟨w1.heap.size, 1, none⟩ = some (.int .i64 d.member) := (hP.st).row.cell 1 _ rfl
        have y2 : wc.cell? ⟨w1.heap.size, 2, none⟩ = some (.slice A1 d.trust.length c1) := (hP.st).row.cell 2 _ rfl
        have y3 : wc.cell? ⟨w1.heap.size, 3, none⟩ = some (.string d.title) := (hP.st).row.cell 3 _ rfl
        have y4 : wc.cell? ⟨w1.heap.size, 4, none⟩ = some (.int .i64 d.vote) := (hP.st).row.cell 4 _ rfl
        have y5 : wc.cell? ⟨w1.heap.size, 5, none⟩ = some (.slice A2 d.patch.length c2) := (hP.st).row.cell 5 _ rfl
        have y6 : wc.cell? ⟨w1.heap.size, 6, none⟩ = some (.int .i64 d.start) := (hP.st).row.cell 6 _ rfl
        have y7 : wc.cell? ⟨w1.heap.size, 7, none⟩ = some (.int .i64 d.until_) := (hP.st).row.cell 7 _ rfl
        have y8 : wc.cell? ⟨w1.heap.size, 8, none⟩ = some (.int .i64 d.closes) := (hP.st).row.cell 8 _ rfl
        clear hP hd hmb hm hdd
        go_wp2_with (fail)
        have HDT : Hid (∀ (x : Deed) (V : World), Pre w w1 V x A1 c1 A2 c2 → Calls Tryz.prog 27 #[deedV x A1 c1 A2 c2] V (RetB (.tuple #[.string ⟨(deedOut x).toArray⟩, .bool (okDeed x)]) V)) := Lib.hid (fun x V hx => deedText2_any x A1 c1 A2 c2 V (hx.o1.slR (size := 1) fun _ => rfl) (hx.o2.slR (size := 4) fun _ => rfl) hx.sz hx.ti (env_more (E.out.env.on hx.st.all) hx.st.all.size))
        have HT0 := HDT.out (d) (wc) HPP.out
        obtain ⟨x, V, hxv⟩ : ∃ (x : Deed) (V : World), x = d ∧ V = wc := ⟨_, _, rfl, rfl⟩
        obtain ⟨hx, hv⟩ := hxv
        have HPX : Hid (Pre w w1 V x A1 c1 A2 c2) := Lib.hid (by rw [hx, hv]; exact HPP.out)
        have HUX : Hid (∀ q, okDeed q = true → deedText q = s.data.toList → x = q) := Lib.hid (fun q h e => by rw [hx, HDD.out]; exact HU.out q h e)
        rw [← hx, ← hv] at HT0
        rw [← hv]
        cases hok : okDeed x with
        | false =>
          have HN : Hid (deedOf s.data.toList = none) := Lib.hid (inv_no HUX.out (by rw [hok]; simp))
          rw [deedOut_no hok, hok, hx] at HT0
          clear hok HDT
          refine HT0.mono ?_
          rintro e V2 ⟨rfl, hb2⟩
          have S2 := HPX.out.st.below hb2
          have z0 : V2.cell? ⟨w.heap.size, 0, none⟩ = some (.int .i64 0) := (S2).res.cell 0 _ rfl
          have z1 : V2.cell? ⟨w.heap.size, 1, none⟩ = some (.int .i64 0) := (S2).res.cell 1 _ rfl
          have z2 : V2.cell? ⟨w.heap.size, 2, none⟩ = some (.slice none 0 0) := (S2).res.cell 2 _ rfl
          have z3 : V2.cell? ⟨w.heap.size, 3, none⟩ = some (.string ⟨#[]⟩) := (S2).res.cell 3 _ rfl
          have z4 : V2.cell? ⟨w.heap.size, 4, none⟩ = some (.int .i64 0) := (S2).res.cell 4 _ rfl
          have z5 : V2.cell? ⟨w.heap.size, 5, none⟩ = some (.slice none 0 0) := (S2).res.cell 5 _ rfl
          have z6 : V2.cell? ⟨w.heap.size, 6, none⟩ = some (.int .i64 0) := (S2).res.cell 6 _ rfl
          have z7 : V2.cell? ⟨w.heap.size, 7, none⟩ = some (.int .i64 0) := (S2).res.cell 7 _ rfl
          have z8 : V2.cell? ⟨w.heap.size, 8, none⟩ = some (.int .i64 0) := (S2).res.cell 8 _ rfl
          have f0 : V2.frozen? ⟨w.heap.size, 0, none⟩ = false := (S2).res.free 0 (by decide)
          have f1 : V2.frozen? ⟨w.heap.size, 1, none⟩ = false := (S2).res.free 1 (by decide)
          have f2 : V2.frozen? ⟨w.heap.size, 2, none⟩ = false := (S2).res.free 2 (by decide)
          have f3 : V2.frozen? ⟨w.heap.size, 3, none⟩ = false := (S2).res.free 3 (by decide)
          have f4 : V2.frozen? ⟨w.heap.size, 4, none⟩ = false := (S2).res.free 4 (by decide)
          have f5 : V2.frozen? ⟨w.heap.size, 5, none⟩ = false := (S2).res.free 5 (by decide)
          have f6 : V2.frozen? ⟨w.heap.size, 6, none⟩ = false := (S2).res.free 6 (by decide)
          have f7 : V2.frozen? ⟨w.heap.size, 7, none⟩ = false := (S2).res.free 7 (by decide)
          have f8 : V2.frozen? ⟨w.heap.size, 8, none⟩ = false := (S2).res.free 8 (by decide)
          have HAL := Lib.hid S2.all
          clear hb2 S2 hx hv HT0
          go_wp2
          refine bodyPost_ret (v := .tuple #[.agg #[.int .i64 0, .int .i64 0, .slice none 0 0, .string ⟨#[]⟩, .int .i64 0, .slice none 0 0, .int .i64 0, .int .i64 0, .int .i64 0], .bool false]) ?hr rfl ?_
          case hr => exact (res_rd _ _ w.heap.size (.int .i64 0) (.int .i64 0) (.slice none 0 0) (.string ⟨#[]⟩) (.int .i64 0) (.slice none 0 0) (.int .i64 0) (.int .i64 0) (.int .i64 0) false (by kernel_rfl) (by kernel_rfl) (by simp [go_sem, z0]) (by simp [go_sem, z1]) (by simp [go_sem, z2]) (by simp [go_sem, z3]) (by simp [go_sem, z4]) (by simp [go_sem, z5]) (by simp [go_sem, z6]) (by simp [go_sem, z7]) (by simp [go_sem, z8]))
          refine ⟨none, 0, none, 0, by rw [HN.out]; rfl, by rw [HN.out]; exact OwnL.nil _ _ _, by rw [HN.out]; exact OwnL.nil _ _ _, ?_⟩
          iterate 9 refine Below.setCell ?_ (by simp) _
          exact HAL.out
        | true =>
          have HOK := Lib.hid hok
          rw [deedOut_ok hok, hok] at HT0
          clear hok
          have HTL : ∃ T, T = deedText x := ⟨_, rfl⟩
          obtain ⟨T, hT⟩ := HTL
          rw [← hT, hx] at HT0
          refine HT0.mono ?_
          rintro e V2 ⟨rfl, hb2⟩
          have S2 := HPX.out.st.below hb2
          have z0 : V2.cell? ⟨w.heap.size, 0, none⟩ = some (.int .i64 0) := (S2).res.cell 0 _ rfl
          have z1 : V2.cell? ⟨w.heap.size, 1, none⟩ = some (.int .i64 0) := (S2).res.cell 1 _ rfl
          have z2 : V2.cell? ⟨w.heap.size, 2, none⟩ = some (.slice none 0 0) := (S2).res.cell 2 _ rfl
          have z3 : V2.cell? ⟨w.heap.size, 3, none⟩ = some (.string ⟨#[]⟩) := (S2).res.cell 3 _ rfl
          have z4 : V2.cell? ⟨w.heap.size, 4, none⟩ = some (.int .i64 0) := (S2).res.cell 4 _ rfl
          have z5 : V2.cell? ⟨w.heap.size, 5, none⟩ = some (.slice none 0 0) := (S2).res.cell 5 _ rfl
          have z6 : V2.cell? ⟨w.heap.size, 6, none⟩ = some (.int .i64 0) := (S2).res.cell 6 _ rfl
          have z7 : V2.cell? ⟨w.heap.size, 7, none⟩ = some (.int .i64 0) := (S2).res.cell 7 _ rfl
          have z8 : V2.cell? ⟨w.heap.size, 8, none⟩ = some (.int .i64 0) := (S2).res.cell 8 _ rfl
          have f0 : V2.frozen? ⟨w.heap.size, 0, none⟩ = false := (S2).res.free 0 (by decide)
          have f1 : V2.frozen? ⟨w.heap.size, 1, none⟩ = false := (S2).res.free 1 (by decide)
          have f2 : V2.frozen? ⟨w.heap.size, 2, none⟩ = false := (S2).res.free 2 (by decide)
          have f3 : V2.frozen? ⟨w.heap.size, 3, none⟩ = false := (S2).res.free 3 (by decide)
          have f4 : V2.frozen? ⟨w.heap.size, 4, none⟩ = false := (S2).res.free 4 (by decide)
          have f5 : V2.frozen? ⟨w.heap.size, 5, none⟩ = false := (S2).res.free 5 (by decide)
          have f6 : V2.frozen? ⟨w.heap.size, 6, none⟩ = false := (S2).res.free 6 (by decide)
          have f7 : V2.frozen? ⟨w.heap.size, 7, none⟩ = false := (S2).res.free 7 (by decide)
          have f8 : V2.frozen? ⟨w.heap.size, 8, none⟩ = false := (S2).res.free 8 (by decide)
          have HAL := Lib.hid S2.all
          by_cases heq : T = s.data.toList
          · have hs1 : (T == s.toList) = true := by rw [ByteArray.toList_eq, heq]; simp
            have HN : Hid (deedOf s.data.toList = some x) := Lib.hid (inv_of HUX.out HOK.out (by rw [← hT, heq]))
            have HO1 := Lib.hid (HPX.out.o1.on hb2)
            have HO2 := Lib.hid (HPX.out.o2.on hb2)
            have HX := Lib.hid hx
            have y0 : V2.cell? ⟨w1.heap.size, 0, none⟩ = some (.int .i64 x.kind) := S2.row.cell 0 _ rfl
            have y1 : V2.cell? ⟨w1.heap.size, 1, none⟩ = some (.int .i64 x.member) := S2.row.cell 1 _ rfl
            have y2 : V2.cell? ⟨w1.heap.size, 2, none⟩ = some (.slice A1 x.trust.length c1) := S2.row.cell 2 _ rfl
            have y3 : V2.cell? ⟨w1.heap.size, 3, none⟩ = some (.string x.title) := S2.row.cell 3 _ rfl
            have y4 : V2.cell? ⟨w1.heap.size, 4, none⟩ = some (.int .i64 x.vote) := S2.row.cell 4 _ rfl
            have y5 : V2.cell? ⟨w1.heap.size, 5, none⟩ = some (.slice A2 x.patch.length c2) := S2.row.cell 5 _ rfl
            have y6 : V2.cell? ⟨w1.heap.size, 6, none⟩ = some (.int .i64 x.start) := S2.row.cell 6 _ rfl
            have y7 : V2.cell? ⟨w1.heap.size, 7, none⟩ = some (.int .i64 x.until_) := S2.row.cell 7 _ rfl
            have y8 : V2.cell? ⟨w1.heap.size, 8, none⟩ = some (.int .i64 x.closes) := S2.row.cell 8 _ rfl
            clear heq hb2 S2 hx hv HT0 hT HDT
            go_wp2
            refine bodyPost_ret (v := .tuple #[deedV x A1 c1 A2 c2, .bool true]) ?hr rfl ?_
            case hr => exact (res_rd _ _ w.heap.size (.int .i64 x.kind) (.int .i64 x.member) (.slice A1 x.trust.length c1) (.string x.title) (.int .i64 x.vote) (.slice A2 x.patch.length c2) (.int .i64 x.start) (.int .i64 x.until_) (.int .i64 x.closes) true (by kernel_rfl) (by kernel_rfl) (by simp [go_sem, z0]) (by simp [go_sem, z1]) (by simp [go_sem, z2]) (by simp [go_sem, z3]) (by simp [go_sem, z4]) (by simp [go_sem, z5]) (by simp [go_sem, z6]) (by simp [go_sem, z7]) (by simp [go_sem, z8]))
            refine ⟨A1, c1, A2, c2, by rw [HN.out]; rfl, ?_, ?_, ?_⟩
            · rw [HN.out]
              refine OwnL.less (base := w1.heap.size + 1) ?_ (by omega)
              iterate 9 refine OwnL.set ?_ _ (by simp; omega)
              exact HO1.out
            · rw [HN.out]
              refine OwnL.less (base := w1.heap.size + 1) ?_ (by omega)
              iterate 9 refine OwnL.set ?_ _ (by simp; omega)
              exact HO2.out
            · iterate 9 refine Below.setCell ?_ (by simp) _
              exact HAL.out
          · have hs1 : (T == s.toList) = false := by rw [ByteArray.toList_eq]; simpa using heq
            have HN : Hid (deedOf s.data.toList = none) := Lib.hid (inv_no HUX.out (fun h => heq (by rw [hT]; exact h.2)))
            clear heq hb2 S2 hx hv HT0 hT HDT
            go_wp2
            refine bodyPost_ret (v := .tuple #[.agg #[.int .i64 0, .int .i64 0, .slice none 0 0, .string ⟨#[]⟩, .int .i64 0, .slice none 0 0, .int .i64 0, .int .i64 0, .int .i64 0], .bool false]) ?hr rfl ?_
            case hr => exact (res_rd _ _ w.heap.size (.int .i64 0) (.int .i64 0) (.slice none 0 0) (.string ⟨#[]⟩) (.int .i64 0) (.slice none 0 0) (.int .i64 0) (.int .i64 0) (.int .i64 0) false (by kernel_rfl) (by kernel_rfl) (by simp [go_sem, z0]) (by simp [go_sem, z1]) (by simp [go_sem, z2]) (by simp [go_sem, z3]) (by simp [go_sem, z4]) (by simp [go_sem, z5]) (by simp [go_sem, z6]) (by simp [go_sem, z7]) (by simp [go_sem, z8]))
            refine ⟨none, 0, none, 0, by rw [HN.out]; rfl, by rw [HN.out]; exact OwnL.nil _ _ _, by rw [HN.out]; exact OwnL.nil _ _ _, ?_⟩
            iterate 9 refine Below.setCell ?_ (by simp) _
            exact HAL.out
  · have HN : Hid (deedOf s.data.toList = none) := Lib.hid (inv_never (fun q h e => by
      have := deedText_len h
      rw [e] at this
      omega))
    have h2i : (2000 : Int) < (s.size : Int) := by omega
    go_enter Tryz.func38, Tryz.ntmps38
    go_wp2
    refine bodyPost_ret (v := .tuple #[.agg #[.int .i64 0, .int .i64 0, .slice none 0 0, .string ⟨#[]⟩, .int .i64 0, .slice none 0 0, .int .i64 0, .int .i64 0, .int .i64 0], .bool false]) ?hr rfl ?_
    case hr => exact (res_rd _ _ w.heap.size (.int .i64 0) (.int .i64 0) (.slice none 0 0) (.string ⟨#[]⟩) (.int .i64 0) (.slice none 0 0) (.int .i64 0) (.int .i64 0) (.int .i64 0) false (by kernel_rfl) (by kernel_rfl) (by simp [go_sem]) (by simp [go_sem]) (by simp [go_sem]) (by simp [go_sem]) (by simp [go_sem]) (by simp [go_sem]) (by simp [go_sem]) (by simp [go_sem]) (by simp [go_sem]))
    exact ⟨none, 0, none, 0, by rw [HN.out]; rfl, by rw [HN.out]; exact OwnL.nil _ _ _, by rw [HN.out]; exact OwnL.nil _ _ _, (Below.refl _ _).alloc (Nat.le_refl _) _⟩
end Go.Proofs.YthlfpiflegfoiaaGreatDoor
