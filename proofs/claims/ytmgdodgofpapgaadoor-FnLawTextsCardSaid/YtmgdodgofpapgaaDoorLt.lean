/- FnLawTexts, walked. -/
import Derived.Test.YtmgdodgofpapgaaDoorDs
import Derived.Test.YtmgdodgofpapgaaDoorLe
import Derived.Test.YtmgdodgofpapgaaDoorLo
namespace Go.Proofs.YtmgdodgofpapgaaDoor
open Go.RowKit Go.Lib

theorem patchOf_text {p : List Edit} (h : okPatch p = true) : patchOf (patchText p) = some p := inv_of (fun q hq e => by
  have h1 : q.map editLine = p.map editLine := by
    have := congrArg (splitC 10) e
    rw [patch_lines hq, patch_lines h] at this
    exact (List.append_inj' this rfl).1
  have h2 := congrArg (List.map (lineP true 1 99)) h1
  rw [List.map_map, List.map_map] at h2
  have back : ∀ r : List Edit, okPatch r = true → r.map (lineP true 1 99 ∘ editLine) = r := fun r hr => by
    conv => rhs; rw [← List.map_id r]
    apply List.map_congr_left
    intro x hx
    obtain ⟨k, hk⟩ := List.getElem?_of_mem hx
    exact lineP_of true (okPatch_at hr hk) (by omega) (by omega) (by omega) (by omega)
  rw [back _ hq, back _ h] at h2
  exact h2.symm) h rfl
theorem sizesOk_of {p : List Edit} (h : okPatch p = true) : SizesOk p := fun e he => by
  obtain ⟨_, _, h1, h2⟩ := okEdit_facts (((okPatch_iff p).1 h).1 e he)
  have e1 : e.old.toList.length = e.old.size := by rw [ByteArray.toList_eq]; simp
  have e2 : e.new.toList.length = e.new.size := by rw [ByteArray.toList_eq]; simp
  unfold SizeOk maxLen
  omega
theorem textsOk_of {s : List Art} (h : okStat s = true) : ∀ a ∈ s, a.text.size ≤ maxLen := fun a ha => by
  have := (okArt_facts (okStat_mem h ha)).2.2.2
  have e1 : a.text.toList.length = a.text.size := by rw [ByteArray.toList_eq]; simp
  unfold maxLen
  omega

set_option maxRecDepth 100000 in
set_option maxHeartbeats 4000000 in
theorem lawTexts_any (A1 : Option Addr) (n1 c1 : Nat) (A2 : Option Addr) (n2 c2 : Nat) (w : World) (hA1 : BytesAt w w.heap.size A1 n1) (hE : EnvR w.heap.size w) :
    Calls Tryd.prog 3 #[.slice A1 n1 c1, .slice A2 n2 c2] w (RetB (.bool true) w) := by
  by_cases hl : n1 ≤ 1048576 ∧ n2 ≤ 1048576
  · have HL := Lib.hid (long_no A1 n1 c1 A2 n2 c2 w hl.1 hl.2)
    have HS := Lib.hid (fun m => statute_any A1 n1 c1 (w.drewN m) hA1)
    have E := Lib.hid hE
    clear hl hA1 hE
    go_enter Tryd.func3, Tryd.ntmps3
    go_wp2_with (fail)
    refine (HL.out).mono ?_
    rintro e w1 ⟨rfl, m1, rfl⟩
    go_wp2_with (fail)
    refine (HS.out m1).mono ?_
    rintro e w2 ⟨v1, v2, v3, S, P, Q, rfl, hS, hP, hQ, hok, hFP, hFQ, hb⟩
    have HB2 : Hid (Below w.heap.size w w2) := Lib.hid ((below_drewN (Below.refl w.heap.size w) m1).trans hb)
    have HT2 := Lib.hid hS
    have HP2 := Lib.hid hP
    have HOK := Lib.hid hok
    have HFP := Lib.hid hFP
    obtain ⟨T1, t1, rfl, _⟩ := hS
    obtain ⟨T2, t2, rfl, _⟩ := hP
    obtain ⟨T3, t3, rfl, _⟩ := hQ
    have hst := statText2_any S w2 _ (HT2.out.slR (size := 2) (fun _ => rfl)) (textsOk_of hok) (env_more (E.out.env.on HB2.out) HB2.out.size)
    rw [hok, statOut_ok hok] at hst
    have HST := Lib.hid hst
    have hl1 := statText_take hok S.length
    have hl8 := okStat_len hok
    rw [List.take_length] at hl1
    have HSO := Lib.hid (statOf_text hok)
    have hp1 := patchText_take hFP.ok P.length
    have hp16 := okPatch_len hFP.ok
    rw [List.take_length] at hp1
    have HPO := Lib.hid (patchOf_text hFP.ok)
    have HPT : Hid (∀ W, Below w2.heap.size w2 W → Calls Tryd.prog 7 #[.slice T2 P.length t2] W (RetB (.tuple #[.string ⟨(patchText P).toArray⟩, .bool true]) W)) := Lib.hid (fun W hW => by
      have := patchText2_any P W _ ((HP2.out.on hW).slR (size := 4) (fun _ => rfl)) (sizesOk_of HFP.out.ok) (env_more ((E.out.env.on HB2.out).on (hW.mono HB2.out.size)) (Nat.le_trans HB2.out.size hW.size))
      rw [HFP.out.ok, patchOut_ok HFP.out.ok] at this
      exact this)
    have HRS : Hid (∀ W, Below w2.heap.size w2 W → Calls Tryd.prog 8 #[.string ⟨(statText S).toArray⟩] W (StatPost (statText S) W)) := Lib.hid (fun W hW => readStat2_any ⟨(statText S).toArray⟩ W (by rw [mk_size]; omega) ((E.out.on (HB2.out.trans (hW.mono HB2.out.size))).more (Nat.le_trans HB2.out.size hW.size)))
    have HRP : Hid (∀ W, Below w2.heap.size w2 W → Calls Tryd.prog 9 #[.string ⟨(patchText P).toArray⟩] W (PatchPost (patchText P) W)) := Lib.hid (fun W hW => readPatch2_any ⟨(patchText P).toArray⟩ W (by rw [mk_size]; omega) ((E.out.on (HB2.out.trans (hW.mono HB2.out.size))).more (Nat.le_trans HB2.out.size hW.size)))
    generalize statText S = st at *
    generalize patchText P = pt at *
    clear hok hFP hFQ hst hl1 hl8 hp1 hp16 hb
    go_wp2_with (fail)
    refine (HST.out).mono ?_
    rintro e w3 ⟨rfl, hb3⟩
    have HB3 := Lib.hid hb3
    clear hb3
    go_wp2_with (fail)
    refine (HPT.out w3 HB3.out).mono ?_
    rintro e w4 ⟨rfl, hb4⟩
    have HB4 := Lib.hid (HB3.out.trans (hb4.mono HB3.out.size))
    clear hb4
    go_wp2_with (fail)
    refine (HRS.out w4 HB4.out).mono ?_
    rintro e w5 ⟨v5, rfl, hO5, hb5⟩
    rw [HSO.out] at hO5 ⊢
    have HO5 : Hid (OwnL artCells S w4.heap.size w5 v5) := Lib.hid hO5
    have HB5 := Lib.hid (HB4.out.trans (hb5.mono HB4.out.size))
    obtain ⟨T5, t5, rfl, _⟩ := hO5
    clear hb5
    simp only [Option.isSome_some, Option.getD_some]
    go_wp2_with (fail)
    refine (HRP.out w5 HB5.out).mono ?_
    rintro e w6 ⟨v6, rfl, hO6, hb6⟩
    rw [HPO.out] at hO6 ⊢
    have HO6 : Hid (OwnL editCells P w5.heap.size w6 v6) := Lib.hid hO6
    have HB6 := Lib.hid (HB5.out.trans (hb6.mono HB5.out.size))
    have HO56 := Lib.hid (HO5.out.on hb6)
    obtain ⟨T6, t6, rfl, _⟩ := hO6
    clear hb6
    simp only [Option.isSome_some, Option.getD_some]
    go_wp2_with (fail)
    refine (sameArts_any S S w6 _ _ (HO56.out.slR (size := 2) (fun _ => rfl)) ((HT2.out.on HB6.out).slR (size := 2) (fun _ => rfl))).mono ?_
    rintro e w7 ⟨r7, rfl, hr7, hb7⟩
    obtain rfl := hr7.2 rfl
    have HB7 := Lib.hid (HB6.out.trans (hb7.mono HB6.out.size))
    have HO67 := Lib.hid (HO6.out.on hb7)
    clear hb7 hr7
    go_wp2_with (fail)
    refine (sameEdits_any P P w7 _ _ (HO67.out.slR (size := 4) (fun _ => rfl)) ((HP2.out.on HB7.out).slR (size := 4) (fun _ => rfl))).mono ?_
    rintro e w8 ⟨r8, rfl, hr8, hb8⟩
    obtain rfl := hr8.2 rfl
    have HB8 := Lib.hid (HB7.out.trans (hb8.mono HB7.out.size))
    clear hb8 hr8
    go_wp2
    go_ret
    exact ⟨rfl, HB2.out.trans (HB8.out.mono HB2.out.size)⟩
  · have HL := Lib.hid (long_yes A1 n1 c1 A2 n2 c2 w hl)
    clear hl
    go_enter Tryd.func3, Tryd.ntmps3
    go_wp2_with (fail)
    refine (HL.out).mono ?_
    rintro e w1 ⟨rfl, m1, rfl⟩
    go_wp2
    go_ret
    exact ⟨rfl, below_drewN (Below.refl w.heap.size w) m1⟩
end Go.Proofs.YtmgdodgofpapgaaDoor
