/- The count, walked: the reference's. The count, walked: the program's. The count of a motion, walked: the reference's and the program's. FnExactCountOf, walked. -/
import Derived.Test.YtnandbammmcncaaGreatYC
namespace Go.Proofs.YtnandbammmcncaaGreat
open Go.RowKit Go.Lib

def BehC (W w' : World) : Prop := Below W.heap.size W w'
theorem BehC.go {W a b : World} (h2 : Below a.heap.size a b) (h1 : BehC W a) : BehC W b := Below.trans h1 (Below.mono h2 (Below.size h1))
theorem BehC.draw {W a : World} (h1 : BehC W a) : BehC W a.drew := Below.drew h1
theorem map_getD {C : List Int} {s : Nat} (h : s < C.length) : (C.map (Value.int .i64))[s]? = some (.int .i64 (C.getD s 0)) := by
  rw [List.getElem?_map, List.getD_eq_getElem?_getD, List.getElem?_eq_getElem h]
  rfl
theorem Touch.cellAt {F : Nat → Prop} {w w' : World} (h : Touch F w w') {b o : Nat} {v : Value} (hc : w.cell? ⟨b, o, none⟩ = some v) (hF : ¬ F b) : w'.cell? ⟨b, o, none⟩ = some v :=
  (World.cell?_of_block (a := ⟨b, o, none⟩) (h.block b (World.block_lt_of_cell? w _ hc) hF)).trans hc
theorem NumO.at {w : World} {base g cap k : Nat} {L : List Int} {z : Int} (h : NumO w base g cap L) (hk : L[k]? = some z) : w.cell? ⟨g, k, none⟩ = some (.int .i64 z) := by
  obtain ⟨b, off, e, _, hc⟩ := ints_get h.ints hk
  injection e with e
  injection e with e1 e2
  rw [← e1, ← e2, Nat.zero_add] at hc
  exact hc
theorem bump_row {vs E : List Int} {k : Nat} {e : Int} {w : World} {g s : Nat} (hE : E[k]? = some e) (hs : slotOf vs e = s) (h : Row w g ((countL vs (E.take k)).map (Value.int .i64))) :
    Row (w.setCell ⟨g, s, none⟩ (.int .i64 ((countL vs (E.take k)).getD s 0 + 1))) g ((countL vs (E.take (k + 1))).map (Value.int .i64)) := by
  rw [countL_take vs hE, hs]
  unfold bump
  rw [List.map_set]
  exact h.set s _ (by rw [List.length_map, countL_len, ← hs]; exact slotOf_lt vs e)
def CountPost (a : Asm) (vs : List Int) (w : World) (e : Ending) (w' : World) : Prop :=
  ∃ g, e = .returned (.slice (some ⟨g, 0, none⟩) 4 4) ∧ OwnL intCells (countM a vs) w.heap.size w' (.slice (some ⟨g, 0, none⟩) 4 4) ∧ Below w.heap.size w w'
theorem count_own {a : Asm} {vs : List Int} {base g : Nat} {w : World} (hb : base ≤ g) (hg : g < w.heap.size) (h : Row w g ((countM a vs).map (Value.int .i64))) : OwnL intCells (countM a vs) base w (.slice (some ⟨g, 0, none⟩) 4 4) :=
  ⟨some ⟨g, 0, none⟩, 4, by rw [countM_len], by rw [countM_len]; exact Nat.le_refl _, by decide, fun _ => ⟨g, rfl, hb, hg, by rw [flat_ints]; exact h⟩⟩

theorem cnt0 (vs : List Int) (E : List Int) : costL (fun _ => 0) 4 = (countL vs (E.take 0)).map (Value.int .i64) := rfl
set_option maxRecDepth 100000 in
set_option maxHeartbeats 8000000 in
theorem count1_any (a : Asm) (At : Option Addr) (ct : Nat) (vs : List Int) (b o : Nat) (Av : Option Addr) (cv : Nat) (w : World) (k1 : w.cell? ⟨b, o + 1, none⟩ = some (.int .i64 a.rule)) (k2 : w.cell? ⟨b, o + 2, none⟩ = some (.slice At a.trust.length ct)) (hT : RowsR w w.heap.size (.slice At a.trust.length ct) a.trust) (hV : Ints w w.heap.size (.slice Av vs.length cv) vs) (hl : vs.length = a.trust.length) (hok : AsmOk a) :
    Calls Tryz.prog 70 #[.pointer (some ⟨b, o, none⟩), .slice Av vs.length cv] w (CountPost a vs w) := by
  obtain ⟨i0, hi, hz0, hz1, hz2⟩ := info_parts Tryz.infoI
  obtain ⟨W, hmk0, hrow, hgs, hbW⟩ := make_zero (P := Tryz.prog) w 29 2 i0 Tryz.underlying29 hi hz0 hz1 4 (by rw [hz2]; decide) (by decide)
  have hmk : (Instr.makeSlice 29 (.int .i64 4) (.int .i64 4)).run Tryz.prog w = .ok (.slice (some ⟨w.heap.size, 0, none⟩) 4 4) W := hmk0
  have HR0 := Lib.hid hrow
  have hvk := hok.vois hl
  have HVK := Lib.hid hvk
  have HVO := Lib.hid (fun W' (h : BehC W W') => voices1_any a At ct vs b o Av cv W' ((hbW.trans (Below.mono h hbW.size)).cell (p := ⟨b, o + 2, none⟩) (World.block_lt_of_cell? w _ k2) |>.trans k2) (hT.on (hbW.trans (Below.mono h hbW.size)) (hbW.trans (Below.mono h hbW.size)).size) (SlR.on hV (Pl.stays _) (hbW.trans (Below.mono h hbW.size)) (hbW.trans (Below.mono h hbW.size)).size) hl (by have := hok.n12; omega) (fun l hl => Nat.le_trans (hok.t4 l hl) (by omega)))
  have HK := Lib.hid (fun W' (h : BehC W W') => ((hbW.trans (Below.mono h hbW.size)).cell (p := ⟨b, o + 1, none⟩) (World.block_lt_of_cell? w _ k1)).trans k1)
  have HSE := Lib.hid (fun (W' : World) (v : Value) (hv : Vois W' W'.heap.size v (voices vs a.trust)) => settle1_any (voices vs a.trust) a.rule v W' hv hvk)
  unfold VoiPost at HVO
  unfold SettlePost at HSE
  have HV := Lib.hid hV
  have HL := Lib.hid hl
  have HBW := Lib.hid hbW
  have hn12 := hok.n12
  unfold CountPost
  clear hmk0 hrow hvk k1 k2 hT hV hl hi hz0 hz1 hz2 hok
  go_enter Tryz.func70, Tryz.ntmps70
  go_wp2_with (fail)
  have hS0 : BehC W W := Below.refl _ _
  have c1 := HK.out W hS0
  go_region_held3 (fun w' => w'.cell? ⟨b, o + 1, none⟩ = some (.int .i64 a.rule) ∧ BehC W w')
    (first | exact ⟨HK.out _ hS0, hS0⟩ | exact ⟨HK.out _ hS0.draw, hS0.draw⟩ | exact ⟨HK.out _ (BehC.go (by assumption) (And.right (by assumption))), BehC.go (by assumption) (And.right (by assumption))⟩ | exact ⟨HK.out _ (BehC.go (by assumption) (by assumption)), BehC.go (by assumption) (by assumption)⟩)
    (first
      | (go_at_call 51; refine Calls.mono (HVO.out _ (by first | assumption | exact And.right (by assumption))) ?_; rintro e w3 ⟨A3, c3, L3, rfl, hm3, hT3, hb3⟩; have hS3 := BehC.go hb3 (by first | assumption | exact And.right (by assumption)))
      | (go_at_call 50; refine Calls.mono (HSE.out w3 _ (hm3 ▸ hT3.vois)) ?_; rintro e w4 ⟨g, cap, rfl, hel, hei, hen, hb4⟩))
  all_goals
    have hS4 : BehC W w4 := BehC.go hb4 hS3
    have HB4 := Lib.hid (HBW.out.trans (Below.mono hS4 HBW.out.size))
    have hR4 := HR0.out.below hS4 hgs
    rw [cnt0 vs (endsL (voices vs a.trust) a.rule)] at hR4
    have HR4 := Lib.hid hR4
    have hgl := hen.row.lt g rfl
    have hw3 : W.heap.size ≤ w3.heap.size := Below.size hS3
    have hgg : ¬ g = w.heap.size := by omega
    have HNO := Lib.hid hen
    have HEN := Lib.hid hei
    rw [voices_len HL.out] at hel ⊢
    have hlen12 := hel
    have HCM : Hid (countM a vs = countL vs (endsL (voices vs a.trust) a.rule)) := Lib.hid rfl
    have hS4s : w.heap.size < w4.heap.size := Nat.lt_of_lt_of_le hgs (Below.size hS4)
    clear hR4 hen hei hb4 hm3 hT3 hb3 hS3 hS4 hw3 hgs
    generalize endsL (voices vs a.trust) a.rule = E at *
    rw [← hel]
    clear c1 hS0
    go_wp2
    go_loopw [7, 28, 39, 53] (fun i _ _ _ wr => ∃ k : Nat, k ≤ E.length ∧ i = .int .i64 (k : Int) ∧ Row wr w.heap.size ((countL vs (E.take k)).map (Value.int .i64)) ∧ Touch (fun c => c = w.heap.size) w4 wr) (fun i _ _ _ _ => E.length - (RowKit.intOf i).toNat)
    case atStart => exact ⟨0, Nat.zero_le _, rfl, HR4.out, Touch.refl _ _⟩
    case round =>
      obtain ⟨k, hk, rfl, hrw, ht⟩ := hrel
      have HRW := Lib.hid hrw
      have HT := Lib.hid ht
      clear hrw ht
      by_cases hlt : k < E.length
      · have hek := HEN.out k _ (List.getElem?_eq_getElem hlt)
        have HE := Lib.hid (List.getElem?_eq_getElem hlt)
        have x1 := HT.out.cellAt (HNO.out.at HE.out) hgg
        rcases isEnd_range hek with he | ⟨j, he, hj⟩
        · have HSL : Hid (slotOf vs E[k] = 3) := Lib.hid (by unfold slotOf; rw [if_pos (by omega)])
          rw [he] at x1
          clear hek he
          skip
          have hlc : 3 < (countL vs (E.take k)).length := by rw [countL_len]; decide
          have x5 := HRW.out.cell 3 _ (map_getD hlc)
          have f5 := HRW.out.free 3 (by rw [List.length_map]; exact hlc)
          have hzb := countL_bound vs (E.take k) 3
          have hzk : (E.take k).length ≤ k := by rw [List.length_take]; exact Nat.min_le_left _ _
          have HN := Lib.hid (bump_row HE.out HSL.out HRW.out)
          have HT9 := Lib.hid (HT.out.setCell (p := ⟨w.heap.size, 3, none⟩) rfl (.int .i64 ((countL vs (E.take k)).getD 3 0 + 1)))
          generalize (countL vs (E.take k)).getD 3 0 = z at *
          go_wp2
          go_roundw
          case rel => exact ⟨k + 1, by omega, by go_num, HN.out, HT9.out⟩
          case measure => simp [RowKit.intOf]; omega
        · rw [voices_len HL.out, ← HL.out] at hj
          obtain ⟨bv, ov, rfl, hbv, d0⟩ := ints_get HV.out (List.getElem?_eq_getElem hj)
          have x2 := HT.out.cellAt ((HB4.out.cell (p := ⟨bv, ov + j, none⟩) hbv).trans d0) (show ¬ bv = w.heap.size by omega)
          have hneg : ¬ (j : Int) < 0 := by omega
          have hji : (j : Int) < (vs.length : Int) := by omega
          have hgd : vs.getD (j : Int).toNat 0 = vs[j] := by simp [List.getD, hj]
          have hsl : slotOf vs E[k] = if vs[j] = 2 then 0 else if vs[j] = 1 then 1 else 2 := by
            unfold slotOf
            rw [he, if_neg hneg, hgd]
          rw [he] at x1
          clear hek he d0 hgd
          generalize vs[j] = y at *
          by_cases h2 : y = 2
          · subst h2
            have HSL : Hid (slotOf vs E[k] = 0) := Lib.hid (by rw [hsl]; rfl)
            clear hsl
            skip
            have hlc : 0 < (countL vs (E.take k)).length := by rw [countL_len]; decide
            have x5 := HRW.out.cell 0 _ (map_getD hlc)
            have f5 := HRW.out.free 0 (by rw [List.length_map]; exact hlc)
            have hzb := countL_bound vs (E.take k) 0
            have hzk : (E.take k).length ≤ k := by rw [List.length_take]; exact Nat.min_le_left _ _
            have HN := Lib.hid (bump_row HE.out HSL.out HRW.out)
            have HT9 := Lib.hid (HT.out.setCell (p := ⟨w.heap.size, 0, none⟩) rfl (.int .i64 ((countL vs (E.take k)).getD 0 0 + 1)))
            generalize (countL vs (E.take k)).getD 0 0 = z at *
            go_wp2
            go_roundw
            case rel => exact ⟨k + 1, by omega, by go_num, HN.out, HT9.out⟩
            case measure => simp [RowKit.intOf]; omega
          · rw [if_neg h2] at hsl
            have q2 : (y == 2) = false := by simpa using h2
            by_cases h1 : y = 1
            · subst h1
              have HSL : Hid (slotOf vs E[k] = 1) := Lib.hid (by rw [hsl]; rfl)
              clear hsl h2
              skip
              have hlc : 1 < (countL vs (E.take k)).length := by rw [countL_len]; decide
              have x5 := HRW.out.cell 1 _ (map_getD hlc)
              have f5 := HRW.out.free 1 (by rw [List.length_map]; exact hlc)
              have hzb := countL_bound vs (E.take k) 1
              have hzk : (E.take k).length ≤ k := by rw [List.length_take]; exact Nat.min_le_left _ _
              have HN := Lib.hid (bump_row HE.out HSL.out HRW.out)
              have HT9 := Lib.hid (HT.out.setCell (p := ⟨w.heap.size, 1, none⟩) rfl (.int .i64 ((countL vs (E.take k)).getD 1 0 + 1)))
              generalize (countL vs (E.take k)).getD 1 0 = z at *
              go_wp2
              go_roundw
              case rel => exact ⟨k + 1, by omega, by go_num, HN.out, HT9.out⟩
              case measure => simp [RowKit.intOf]; omega
            · rw [if_neg h1] at hsl
              have q1 : (y == 1) = false := by simpa using h1
              have HSL := Lib.hid hsl
              clear hsl h1 h2
              skip
              have hlc : 2 < (countL vs (E.take k)).length := by rw [countL_len]; decide
              have x5 := HRW.out.cell 2 _ (map_getD hlc)
              have f5 := HRW.out.free 2 (by rw [List.length_map]; exact hlc)
              have hzb := countL_bound vs (E.take k) 2
              have hzk : (E.take k).length ≤ k := by rw [List.length_take]; exact Nat.min_le_left _ _
              have HN := Lib.hid (bump_row HE.out HSL.out HRW.out)
              have HT9 := Lib.hid (HT.out.setCell (p := ⟨w.heap.size, 2, none⟩) rfl (.int .i64 ((countL vs (E.take k)).getD 2 0 + 1)))
              generalize (countL vs (E.take k)).getD 2 0 = z at *
              go_wp2
              go_roundw
              case rel => exact ⟨k + 1, by omega, by go_num, HN.out, HT9.out⟩
              case measure => simp [RowKit.intOf]; omega
      · have hge : ¬ (k : Int) < (E.length : Int) := by omega
        have HFN : Hid (Row wr w.heap.size ((countM a vs).map (Value.int .i64))) := Lib.hid (by
          rw [HCM.out]
          have := HRW.out
          rwa [List.take_of_length_le (by omega)] at this)
        have HBF := Lib.hid (HB4.out.trans (HT.out.below HB4.out.size (fun b hb => by rw [hb]; exact Nat.le_refl _)))
        have hwl : w.heap.size < wr.heap.size := Nat.lt_of_lt_of_le hS4s HT.out.size
        go_wp2
        go_ret
        exact ⟨w.heap.size, rfl, count_own (Nat.le_refl _) hwl HFN.out, HBF.out⟩
end Go.Proofs.YtnandbammmcncaaGreat

namespace Go.Proofs.YtnandbammmcncaaGreat
open Go.RowKit Go.Lib

set_option maxRecDepth 100000 in
set_option maxHeartbeats 8000000 in
theorem count2_any (a : Asm) (At : Option Addr) (ct : Nat) (Ab : Option Addr) (cb : Nat) (Ac : Option Addr) (cc : Nat) (Am : Option Addr) (cm : Nat) (vs : List Int) (Av : Option Addr) (cv : Nat) (w : World) (hT : RowsR w w.heap.size (.slice At a.trust.length ct) a.trust) (hV : Ints w w.heap.size (.slice Av vs.length cv) vs) (hl : vs.length = a.trust.length) (hok : AsmOk a) :
    Calls Tryz.prog 71 #[.agg #[.int .i64 a.day, .int .i64 a.rule, .slice At a.trust.length ct, .slice Ab a.base.length cb, .slice Ac a.acts.length cc, .slice Am a.mots.length cm], .slice Av vs.length cv] w (CountPost a vs w) := by
  obtain ⟨i0, hi, hz0, hz1, hz2⟩ := info_parts Tryz.infoI
  obtain ⟨U, hU⟩ : ∃ U : World, U = w.alloc (.cells #[.int .i64 a.day, .int .i64 a.rule, .slice At a.trust.length ct, .slice Ab a.base.length cb, .slice Ac a.acts.length cc, .slice Am a.mots.length cm] 36) := ⟨_, rfl⟩
  have bU : Below w.heap.size w U := by rw [hU]; exact (Below.refl _ _).alloc (Nat.le_refl _) _
  have a1 : Row U w.heap.size [.int .i64 a.day, .int .i64 a.rule, .slice At a.trust.length ct, .slice Ab a.base.length cb, .slice Ac a.acts.length cc, .slice Am a.mots.length cm] := by rw [hU]; exact Row.new w _ _
  have sU : U.heap.size = w.heap.size + 1 := by rw [hU]; simp
  obtain ⟨W, hmk0, hrow, hgs, hbW⟩ := make_zero (P := Tryz.prog) U 29 2 i0 Tryz.underlying29 hi hz0 hz1 4 (by rw [hz2]; decide) (by decide)
  have hmk : (Instr.makeSlice 29 (.int .i64 4) (.int .i64 4)).run Tryz.prog (w.alloc (.cells #[.int .i64 a.day, .int .i64 a.rule, .slice At a.trust.length ct, .slice Ab a.base.length cb, .slice Ac a.acts.length cc, .slice Am a.mots.length cm] 36)) = .ok (.slice (some ⟨w.heap.size + 1, 0, none⟩) 4 4) W := by rw [← hU, ← sU]; exact hmk0
  have hbUW : Below w.heap.size w W := bU.trans (hbW.mono bU.size)
  rw [sU] at hrow hgs
  have HR0 := Lib.hid hrow
  have hvk := hok.vois hl
  have HVO := Lib.hid (fun W' (h : BehC W W') => voices2_any a At ct Ab cb Ac cc Am cm vs Av cv W' (hT.on (hbUW.trans (Below.mono h hbUW.size)) (hbUW.trans (Below.mono h hbUW.size)).size) (SlR.on hV (Pl.stays _) (hbUW.trans (Below.mono h hbUW.size)) (hbUW.trans (Below.mono h hbUW.size)).size) hl (by have := hok.n12; omega) (fun l hl => Nat.le_trans (hok.t4 l hl) (by omega)))
  have HK := Lib.hid (fun W' (h : BehC W W') => (a1.below (hbW.trans (Below.mono h hbW.size)) (by omega) : Row W' w.heap.size _))
  have HSE := Lib.hid (fun (W' : World) (v : Value) (hv : Vois W' W'.heap.size v (voices vs a.trust)) => settle2_any (voices vs a.trust) a.rule v W' hok.rule.1 hok.rule.2 hv hvk)
  unfold VoiPost at HVO
  unfold Settle2Post at HSE
  have HV := Lib.hid hV
  have HL := Lib.hid hl
  have HBW := Lib.hid hbUW
  have hn12 := hok.n12
  unfold CountPost
  clear hmk0 hrow hvk hT hV hl hi hz0 hz1 hz2 hok a1 bU hbW hbUW sU hU
  go_enter Tryz.func71, Tryz.ntmps71
  go_wp2_with (fail)
  have hS0 : BehC W W := Below.refl _ _
  have HKEEP : Hid (∀ w', BehC W w' → w'.cell? ⟨w.heap.size, 0, none⟩ = some (.int .i64 a.day) ∧ w'.cell? ⟨w.heap.size, 1, none⟩ = some (.int .i64 a.rule) ∧ w'.cell? ⟨w.heap.size, 2, none⟩ = some (.slice At a.trust.length ct) ∧ w'.cell? ⟨w.heap.size, 3, none⟩ = some (.slice Ab a.base.length cb) ∧ w'.cell? ⟨w.heap.size, 4, none⟩ = some (.slice Ac a.acts.length cc) ∧ w'.cell? ⟨w.heap.size, 5, none⟩ = some (.slice Am a.mots.length cm) ∧ BehC W w') := Lib.hid (fun w' h => ⟨(HK.out w' h).cell 0 _ rfl, (HK.out w' h).cell 1 _ rfl, (HK.out w' h).cell 2 _ rfl, (HK.out w' h).cell 3 _ rfl, (HK.out w' h).cell 4 _ rfl, (HK.out w' h).cell 5 _ rfl, h⟩)
  have HBEL : Hid (∀ w', w'.cell? ⟨w.heap.size, 0, none⟩ = some (.int .i64 a.day) ∧ w'.cell? ⟨w.heap.size, 1, none⟩ = some (.int .i64 a.rule) ∧ w'.cell? ⟨w.heap.size, 2, none⟩ = some (.slice At a.trust.length ct) ∧ w'.cell? ⟨w.heap.size, 3, none⟩ = some (.slice Ab a.base.length cb) ∧ w'.cell? ⟨w.heap.size, 4, none⟩ = some (.slice Ac a.acts.length cc) ∧ w'.cell? ⟨w.heap.size, 5, none⟩ = some (.slice Am a.mots.length cm) ∧ BehC W w' → BehC W w') := Lib.hid (fun w' h => h.2.2.2.2.2.2)
  obtain ⟨c0, c1, c2, c3, c4, c5, -⟩ := HKEEP.out W hS0
  go_region_held3 (fun w' => w'.cell? ⟨w.heap.size, 0, none⟩ = some (.int .i64 a.day) ∧ w'.cell? ⟨w.heap.size, 1, none⟩ = some (.int .i64 a.rule) ∧ w'.cell? ⟨w.heap.size, 2, none⟩ = some (.slice At a.trust.length ct) ∧ w'.cell? ⟨w.heap.size, 3, none⟩ = some (.slice Ab a.base.length cb) ∧ w'.cell? ⟨w.heap.size, 4, none⟩ = some (.slice Ac a.acts.length cc) ∧ w'.cell? ⟨w.heap.size, 5, none⟩ = some (.slice Am a.mots.length cm) ∧ BehC W w')
    (first | exact HKEEP.out _ hS0 | exact HKEEP.out _ hS0.draw | exact HKEEP.out _ (BehC.go (by assumption) (HBEL.out _ (by assumption))) | exact HKEEP.out _ (BehC.go (by assumption) (by assumption)))
    (first
      | (go_at_call 59; refine Calls.mono (HVO.out _ (HBEL.out _ (by assumption))) ?_; rintro e w3 ⟨A3, q3, L3, rfl, hm3, hT3, hb3⟩; have hS3 := BehC.go hb3 (HBEL.out _ (by assumption)))
      | (go_at_call 58; refine Calls.mono (HSE.out w3 _ (hm3 ▸ hT3.vois)) ?_; rintro e w4 ⟨g, cap, rfl, hel, hei, hen, hb4⟩))
  all_goals
    have hS4 : BehC W w4 := BehC.go hb4 hS3
    have HB4 := Lib.hid (HBW.out.trans (Below.mono hS4 HBW.out.size))
    have hR4 := HR0.out.below hS4 hgs
    rw [cnt0 vs (endsL (voices vs a.trust) a.rule)] at hR4
    have HR4 := Lib.hid hR4
    have hgl := hen.row.lt g rfl
    have hw3 : W.heap.size ≤ w3.heap.size := Below.size hS3
    have hgg : ¬ g = w.heap.size + 1 := by omega
    have HNO := Lib.hid hen
    have HEN := Lib.hid hei
    rw [voices_len HL.out] at hel ⊢
    have hlen12 := hel
    have HCM : Hid (countM a vs = countL vs (endsL (voices vs a.trust) a.rule)) := Lib.hid rfl
    have hS4s : w.heap.size + 1 < w4.heap.size := Nat.lt_of_lt_of_le hgs (Below.size hS4)
    clear hR4 hen hei hb4 hm3 hT3 hb3 hS3 hS4 hw3 hgs
    generalize endsL (voices vs a.trust) a.rule = E at *
    rw [← hel]
    clear c0 c1 c2 c3 c4 c5 hS0
    go_wp2
    go_loopw [9, 22, 31, 39, 50] (fun _ i _ _ _ wr => ∃ k : Nat, k ≤ E.length ∧ i = .int .i64 (k : Int) ∧ Row wr (w.heap.size + 1) ((countL vs (E.take k)).map (Value.int .i64)) ∧ Touch (fun c => c = w.heap.size + 1) w4 wr) (fun _ i _ _ _ _ => E.length - (RowKit.intOf i).toNat)
    case atStart => exact ⟨0, Nat.zero_le _, rfl, HR4.out, Touch.refl _ _⟩
    case round =>
      obtain ⟨k, hk, rfl, hrw, ht⟩ := hrel
      have HRW := Lib.hid hrw
      have HT := Lib.hid ht
      clear hrw ht
      by_cases hlt : k < E.length
      · have hek := HEN.out k _ (List.getElem?_eq_getElem hlt)
        have HE := Lib.hid (List.getElem?_eq_getElem hlt)
        have x1 := HT.out.cellAt (HNO.out.at HE.out) hgg
        rcases isEnd_range hek with he | ⟨j, he, hj⟩
        · have HSL : Hid (slotOf vs E[k] = 3) := Lib.hid (by unfold slotOf; rw [if_pos (by omega)])
          rw [he] at x1
          clear hek he
          skip
          have hlc : 3 < (countL vs (E.take k)).length := by rw [countL_len]; decide
          have x5 := HRW.out.cell 3 _ (map_getD hlc)
          have f5 := HRW.out.free 3 (by rw [List.length_map]; exact hlc)
          have hzb := countL_bound vs (E.take k) 3
          have hzk : (E.take k).length ≤ k := by rw [List.length_take]; exact Nat.min_le_left _ _
          have HN := Lib.hid (bump_row HE.out HSL.out HRW.out)
          have HT9 := Lib.hid (HT.out.setCell (p := ⟨w.heap.size + 1, 3, none⟩) rfl (.int .i64 ((countL vs (E.take k)).getD 3 0 + 1)))
          generalize (countL vs (E.take k)).getD 3 0 = z at *
          go_wp2
          go_roundw
          case rel => exact ⟨k + 1, by omega, by go_num, HN.out, HT9.out⟩
          case measure => simp [RowKit.intOf]; omega
        · rw [voices_len HL.out, ← HL.out] at hj
          obtain ⟨bv, ov, rfl, hbv, d0⟩ := ints_get HV.out (List.getElem?_eq_getElem hj)
          have x2 := HT.out.cellAt ((HB4.out.cell (p := ⟨bv, ov + j, none⟩) hbv).trans d0) (show ¬ bv = w.heap.size + 1 by omega)
          have hneg : ¬ (j : Int) < 0 := by omega
          have hji : (j : Int) < (vs.length : Int) := by omega
          have hgd : vs.getD (j : Int).toNat 0 = vs[j] := by simp [List.getD, hj]
          have hsl : slotOf vs E[k] = if vs[j] = 2 then 0 else if vs[j] = 1 then 1 else 2 := by
            unfold slotOf
            rw [he, if_neg hneg, hgd]
          rw [he] at x1
          clear hek he d0 hgd
          generalize vs[j] = y at *
          by_cases h2 : y = 2
          · subst h2
            have HSL : Hid (slotOf vs E[k] = 0) := Lib.hid (by rw [hsl]; rfl)
            clear hsl
            skip
            have hlc : 0 < (countL vs (E.take k)).length := by rw [countL_len]; decide
            have x5 := HRW.out.cell 0 _ (map_getD hlc)
            have f5 := HRW.out.free 0 (by rw [List.length_map]; exact hlc)
            have hzb := countL_bound vs (E.take k) 0
            have hzk : (E.take k).length ≤ k := by rw [List.length_take]; exact Nat.min_le_left _ _
            have HN := Lib.hid (bump_row HE.out HSL.out HRW.out)
            have HT9 := Lib.hid (HT.out.setCell (p := ⟨w.heap.size + 1, 0, none⟩) rfl (.int .i64 ((countL vs (E.take k)).getD 0 0 + 1)))
            generalize (countL vs (E.take k)).getD 0 0 = z at *
            go_wp2
            go_roundw
            case rel => exact ⟨k + 1, by omega, by go_num, HN.out, HT9.out⟩
            case measure => simp [RowKit.intOf]; omega
          · rw [if_neg h2] at hsl
            have q2 : (y == 2) = false := by simpa using h2
            by_cases h1 : y = 1
            · subst h1
              have HSL : Hid (slotOf vs E[k] = 1) := Lib.hid (by rw [hsl]; rfl)
              clear hsl h2
              skip
              have hlc : 1 < (countL vs (E.take k)).length := by rw [countL_len]; decide
              have x5 := HRW.out.cell 1 _ (map_getD hlc)
              have f5 := HRW.out.free 1 (by rw [List.length_map]; exact hlc)
              have hzb := countL_bound vs (E.take k) 1
              have hzk : (E.take k).length ≤ k := by rw [List.length_take]; exact Nat.min_le_left _ _
              have HN := Lib.hid (bump_row HE.out HSL.out HRW.out)
              have HT9 := Lib.hid (HT.out.setCell (p := ⟨w.heap.size + 1, 1, none⟩) rfl (.int .i64 ((countL vs (E.take k)).getD 1 0 + 1)))
              generalize (countL vs (E.take k)).getD 1 0 = z at *
              go_wp2
              go_roundw
              case rel => exact ⟨k + 1, by omega, by go_num, HN.out, HT9.out⟩
              case measure => simp [RowKit.intOf]; omega
            · rw [if_neg h1] at hsl
              have q1 : (y == 1) = false := by simpa using h1
              have HSL := Lib.hid hsl
              clear hsl h1 h2
              skip
              have hlc : 2 < (countL vs (E.take k)).length := by rw [countL_len]; decide
              have x5 := HRW.out.cell 2 _ (map_getD hlc)
              have f5 := HRW.out.free 2 (by rw [List.length_map]; exact hlc)
              have hzb := countL_bound vs (E.take k) 2
              have hzk : (E.take k).length ≤ k := by rw [List.length_take]; exact Nat.min_le_left _ _
              have HN := Lib.hid (bump_row HE.out HSL.out HRW.out)
              have HT9 := Lib.hid (HT.out.setCell (p := ⟨w.heap.size + 1, 2, none⟩) rfl (.int .i64 ((countL vs (E.take k)).getD 2 0 + 1)))
              generalize (countL vs (E.take k)).getD 2 0 = z at *
              go_wp2
              go_roundw
              case rel => exact ⟨k + 1, by omega, by go_num, HN.out, HT9.out⟩
              case measure => simp [RowKit.intOf]; omega
      · have hge : ¬ (k : Int) < (E.length : Int) := by omega
        have HFN : Hid (Row wr (w.heap.size + 1) ((countM a vs).map (Value.int .i64))) := Lib.hid (by
          rw [HCM.out]
          have := HRW.out
          rwa [List.take_of_length_le (by omega)] at this)
        have HBF := Lib.hid (HB4.out.trans (HT.out.below HB4.out.size (fun b hb => by rw [hb]; exact Nat.le_succ _)))
        have hwl : w.heap.size + 1 < wr.heap.size := Nat.lt_of_lt_of_le hS4s HT.out.size
        go_wp2
        go_ret
        exact ⟨w.heap.size + 1, rfl, count_own (Nat.le_succ _) hwl HFN.out, HBF.out⟩
end Go.Proofs.YtnandbammmcncaaGreat

namespace Go.Proofs.YtnandbammmcncaaGreat
open Go.RowKit Go.Lib

set_option maxRecDepth 100000 in
set_option maxHeartbeats 4000000 in
theorem countOf1_any (a : Asm) (x : VAsm) (t : ByteArray) (w : World) (h : AsmR w w.heap.size x a) (hs : AsmSz a) : Calls Tryz.prog 22 #[asmV a x, .string t] w (ResP (intK (countOf a t)).own (knownB a t) w) := by
  obtain ⟨At, ct, Ab, cb, Ac, cc, Am, cm, rfl⟩ := h.slices
  unfold asmV
  obtain ⟨W, hW⟩ : ∃ W : World, W = w.alloc (.cells #[.int .i64 a.day, .int .i64 a.rule, .slice At a.trust.length ct, .slice Ab a.base.length cb, .slice Ac a.acts.length cc, .slice Am a.mots.length cm] 36) := ⟨_, rfl⟩
  have bW : Below w.heap.size w W := by rw [hW]; exact (Below.refl _ _).alloc (Nat.le_refl _) _
  have a1 : Row W w.heap.size [.int .i64 a.day, .int .i64 a.rule, .slice At a.trust.length ct, .slice Ab a.base.length cb, .slice Ac a.acts.length cc, .slice Am a.mots.length cm] := by rw [hW]; exact Row.new w _ _
  have z0 := fun y : Aft W => y.cell (a1.cell 0 _ rfl)
  have z1 := fun y : Aft W => y.cell (a1.cell 1 _ rfl)
  have z2 := fun y : Aft W => y.cell (a1.cell 2 _ rfl)
  have z3 := fun y : Aft W => y.cell (a1.cell 3 _ rfl)
  have z4 := fun y : Aft W => y.cell (a1.cell 4 _ rfl)
  have z5 := fun y : Aft W => y.cell (a1.cell 5 _ rfl)
  have hRW := h.on bW bW.size
  have HR := Lib.hid (fun y : Aft W => h.on (aft_done bW y) (aft_done bW y).size)
  have HGM : Hid (0 < a.mots.length → ∃ b off, Am = some ⟨b, off, none⟩ ∧ b < W.heap.size ∧ ∀ (k : Nat) (m : Mot), a.mots[k]? = some m → ∃ A1 c1 A2 c2, MotP W W.heap.size b (off + k * 8) m A1 c1 A2 c2) := Lib.hid (by
    obtain ⟨A, c, hv, _, _, h⟩ := mots_at hRW.m
    have hv : Value.slice Am a.mots.length cm = .slice A a.mots.length c := hv
    injection hv with e1 e2 e3
    rw [e1]
    exact h)
  have HW := Lib.hid hW
  have HROW := Lib.hid a1
  have sW : w.heap.size < W.heap.size := by rw [hW]; simp
  obtain ⟨x0, hx0⟩ : ∃ y : Aft W, y.val = W := ⟨⟨W, Below.refl _ _⟩, rfl⟩
  have HX0 := Lib.hid hx0
  have HOK := Lib.hid (fun y : Aft W => ok1_any a ⟨.slice At a.trust.length ct, .slice Ab a.base.length cb, .slice Ac a.acts.length cc, .slice Am a.mots.length cm⟩ w.heap.size 0 y.val (z0 y) (z1 y) (z2 y) (z3 y) (z4 y) (z5 y) (HR.out y) hs)
  have HFI := Lib.hid (fun y : Aft W => find1_anyT a ⟨.slice At a.trust.length ct, .slice Ab a.base.length cb, .slice Ac a.acts.length cc, .slice Am a.mots.length cm⟩ t w.heap.size 0 y.val (by rw [Nat.zero_add]; exact z5 y) (HR.out y).m)
  clear h hW a1 hx0 hRW hs
  cases hv : okAsm a with
  | false =>
    have hkb := known_bad (t := t) hv
    have HN := Lib.hid (countOf_no hkb)
    rw [hv] at HOK
    rw [hkb]
    clear hv hkb
    go_enter Tryz.func22, Tryz.ntmps22
    go_wp2_with (fail)
    rw [← HW.out, ← HX0.out]
    refine (aft_b (HOK.out x0)).mono ?_
    rintro e _ ⟨rfl, x1, rfl⟩
    go_wp2
    go_ret2
    exact ⟨_, rfl, by show OwnL intCells (countOf a t) _ _ _; rw [HN.out]; exact OwnL.nil _ _ _, aft_done bW x1⟩
  | true =>
    rw [hv] at HOK
    cases hk : knownB a t with
    | false =>
      have hn := known_not hk hv
      have HN := Lib.hid (countOf_no hk)
      generalize findT a.mots t = n at *
      clear hk hv
      go_enter Tryz.func22, Tryz.ntmps22
      go_wp2_with (fail)
      rw [← HW.out, ← HX0.out]
      refine (aft_b (HOK.out x0)).mono ?_
      rintro e _ ⟨rfl, x1, rfl⟩
      go_wp2_with (fail)
      refine (aft_b (HFI.out x1)).mono ?_
      rintro e _ ⟨rfl, x2, rfl⟩
      go_wp2
      go_ret2
      exact ⟨_, rfl, by show OwnL intCells (countOf a t) _ _ _; rw [HN.out]; exact OwnL.nil _ _ _, aft_done bW x2⟩
    | true =>
      obtain ⟨_, k, hfk, hkl, hkm⟩ := known_at hk
      have hok := okAsm_ok hv
      have HY := Lib.hid (countOf_yes hk)
      have hvl := hok.votes hkm
      have hn12 := hok.n12
      have HT4 := Lib.hid hok.t4
      obtain ⟨b2, off, rfl, hb2, hcell⟩ := HGM.out (by omega)
      obtain ⟨A1, c1, A2, c2, hP⟩ := hcell k _ hkm
      have t6 := fun y : Aft W => y.cell hP.k6
      have HI := Lib.hid (fun y : Aft W => (hP.on y.ok y.ok.size hb2).ints)
      rw [hfk] at HFI
      have hnk : ¬ (k : Int) < 0 := by omega
      have hk0 : (0 : Int) ≤ (k : Int) := by omega
      have hki : (k : Int) < (a.mots.length : Int) := by omega
      generalize motOf a t = m at *
      have HVO := Lib.hid (fun y : Aft W => count1_any a At ct m.votes w.heap.size 0 A2 c2 y.val (by rw [Nat.zero_add]; exact z1 y) (by rw [Nat.zero_add]; exact z2 y) (HR.out y).t (HI.out y) hvl hok)
      unfold CountPost at HVO
      have HVL := Lib.hid hvl
      clear hk hv hfk hkm hcell hP hvl
      go_enter Tryz.func22, Tryz.ntmps22
      go_wp2_with (fail)
      rw [← HW.out, ← HX0.out]
      refine (aft_b (HOK.out x0)).mono ?_
      rintro e _ ⟨rfl, x1, rfl⟩
      go_wp2_with (fail)
      refine (aft_b (HFI.out x1)).mono ?_
      rintro e _ ⟨rfl, x2, rfl⟩
      go_wp2_with (fail)
      refine (HVO.out x2).mono ?_
      rintro e w3 ⟨g3, rfl, hT, hb3⟩
      have HT := Lib.hid (hT.less (Nat.le_trans bW.size x2.ok.size))
      have hbb := (aft_done bW x2).trans (hb3.mono (aft_done bW x2).size)
      clear hT hb3
      go_wp2
      go_ret2
      exact ⟨_, rfl, by show OwnL intCells (countOf a t) _ _ _; rw [HY.out]; exact HT.out, hbb⟩
set_option maxRecDepth 100000 in
set_option maxHeartbeats 8000000 in
theorem countOf2_any (a : Asm) (x : VAsm) (t : ByteArray) (w : World) (h : AsmR w w.heap.size x a) (hs : AsmSz a) : Calls Tryz.prog 23 #[asmV a x, .string t] w (ResP (intK (countOf a t)).own (knownB a t) w) := by
  obtain ⟨At, ct, Ab, cb, Ac, cc, Am, cm, rfl⟩ := h.slices
  unfold asmV
  obtain ⟨W, hW⟩ : ∃ W : World, W = w.alloc (.cells #[.int .i64 a.day, .int .i64 a.rule, .slice At a.trust.length ct, .slice Ab a.base.length cb, .slice Ac a.acts.length cc, .slice Am a.mots.length cm] 36) := ⟨_, rfl⟩
  have bW : Below w.heap.size w W := by rw [hW]; exact (Below.refl _ _).alloc (Nat.le_refl _) _
  have a1 : Row W w.heap.size [.int .i64 a.day, .int .i64 a.rule, .slice At a.trust.length ct, .slice Ab a.base.length cb, .slice Ac a.acts.length cc, .slice Am a.mots.length cm] := by rw [hW]; exact Row.new w _ _
  have z0 := fun y : Aft W => y.cell (a1.cell 0 _ rfl)
  have z1 := fun y : Aft W => y.cell (a1.cell 1 _ rfl)
  have z2 := fun y : Aft W => y.cell (a1.cell 2 _ rfl)
  have z3 := fun y : Aft W => y.cell (a1.cell 3 _ rfl)
  have z4 := fun y : Aft W => y.cell (a1.cell 4 _ rfl)
  have z5 := fun y : Aft W => y.cell (a1.cell 5 _ rfl)
  have hRW := h.on bW bW.size
  have HR := Lib.hid (fun y : Aft W => h.on (aft_done bW y) (aft_done bW y).size)
  have HGM : Hid (0 < a.mots.length → ∃ b off, Am = some ⟨b, off, none⟩ ∧ b < W.heap.size ∧ ∀ (k : Nat) (m : Mot), a.mots[k]? = some m → ∃ A1 c1 A2 c2, MotP W W.heap.size b (off + k * 8) m A1 c1 A2 c2) := Lib.hid (by
    obtain ⟨A, c, hv, _, _, h⟩ := mots_at hRW.m
    have hv : Value.slice Am a.mots.length cm = .slice A a.mots.length c := hv
    injection hv with e1 e2 e3
    rw [e1]
    exact h)
  have HW := Lib.hid hW
  have HROW := Lib.hid a1
  have sW : w.heap.size < W.heap.size := by rw [hW]; simp
  obtain ⟨x0, hx0⟩ : ∃ y : Aft W, y.val = W := ⟨⟨W, Below.refl _ _⟩, rfl⟩
  have HX0 := Lib.hid hx0
  have HKN := Lib.hid (fun y : Aft W => known2_any a At ct Ab cb Ac cc Am cm t y.val (HR.out y) hs)
  clear h hW a1 hx0 hRW hs
  cases hk : knownB a t with
  | false =>
    have HN := Lib.hid (countOf_no hk)
    rw [hk] at HKN
    clear hk
    go_enter Tryz.func23, Tryz.ntmps23
    go_wp2_with (fail)
    rw [← HW.out, ← HX0.out]
    refine (aft_b (HKN.out x0)).mono ?_
    rintro e _ ⟨rfl, x1, rfl⟩
    go_wp2
    go_ret2
    exact ⟨_, rfl, by show OwnL intCells (countOf a t) _ _ _; rw [HN.out]; exact OwnL.nil _ _ _, aft_done bW x1⟩
  | true =>
    rw [hk] at HKN
    obtain ⟨hv, k, hfk, hkl, hkm⟩ := known_at hk
    have hok := okAsm_ok hv
    have HY := Lib.hid (countOf_yes hk)
    have hvl := hok.votes hkm
    have hn12 := hok.n12
    have HT4 := Lib.hid hok.t4
    obtain ⟨b2, off, rfl, hb2, hcell⟩ := HGM.out (by omega)
    obtain ⟨A1, c1, A2, c2, hP⟩ := hcell k _ hkm
    have HK6 := Lib.hid (fun y : Aft W => y.cell hP.k6)
    have HI := Lib.hid (fun y : Aft W => (hP.on y.ok y.ok.size hb2).ints)
    rw [hfk] at HKN
    have hk0 : (0 : Int) ≤ (k : Int) := by omega
    have hki : (k : Int) < (a.mots.length : Int) := by omega
    generalize motOf a t = m at *
    have HVO := Lib.hid (fun W' (hb : Below W.heap.size W W') => count2_any a At ct Ab cb Ac cc (some ⟨b2, off, none⟩) cm m.votes A2 c2 W' (HR.out ⟨W', hb⟩).t (HI.out ⟨W', hb⟩) hvl hok)
    unfold CountPost at HVO
    have HVL := Lib.hid hvl
    clear hk hv hfk hkm hcell hP hvl
    go_enter Tryz.func23, Tryz.ntmps23
    go_wp2_with (fail)
    rw [← HW.out, ← HX0.out]
    refine (aft_b (HKN.out x0)).mono ?_
    rintro e _ ⟨rfl, x1, rfl⟩
    have HKEEP : Hid (∀ w', Below W.heap.size W w' → w'.cell? ⟨w.heap.size, 0, none⟩ = some (.int .i64 a.day) ∧ w'.cell? ⟨w.heap.size, 1, none⟩ = some (.int .i64 a.rule) ∧ w'.cell? ⟨w.heap.size, 2, none⟩ = some (.slice At a.trust.length ct) ∧ w'.cell? ⟨w.heap.size, 3, none⟩ = some (.slice Ab a.base.length cb) ∧ w'.cell? ⟨w.heap.size, 4, none⟩ = some (.slice Ac a.acts.length cc) ∧ w'.cell? ⟨w.heap.size, 5, none⟩ = some (.slice (some ⟨b2, off, none⟩) a.mots.length cm) ∧ w'.cell? ⟨b2, off + k * 8 + 6, none⟩ = some (.slice A2 m.votes.length c2) ∧ Below W.heap.size W w') := Lib.hid (fun X hX => ⟨(HROW.out.below hX sW).cell 0 _ rfl, (HROW.out.below hX sW).cell 1 _ rfl, (HROW.out.below hX sW).cell 2 _ rfl, (HROW.out.below hX sW).cell 3 _ rfl, (HROW.out.below hX sW).cell 4 _ rfl, (HROW.out.below hX sW).cell 5 _ rfl, HK6.out ⟨X, hX⟩, hX⟩)
    have HBEL : Hid (∀ w', w'.cell? ⟨w.heap.size, 0, none⟩ = some (.int .i64 a.day) ∧ w'.cell? ⟨w.heap.size, 1, none⟩ = some (.int .i64 a.rule) ∧ w'.cell? ⟨w.heap.size, 2, none⟩ = some (.slice At a.trust.length ct) ∧ w'.cell? ⟨w.heap.size, 3, none⟩ = some (.slice Ab a.base.length cb) ∧ w'.cell? ⟨w.heap.size, 4, none⟩ = some (.slice Ac a.acts.length cc) ∧ w'.cell? ⟨w.heap.size, 5, none⟩ = some (.slice (some ⟨b2, off, none⟩) a.mots.length cm) ∧ w'.cell? ⟨b2, off + k * 8 + 6, none⟩ = some (.slice A2 m.votes.length c2) ∧ Below W.heap.size W w' → Below W.heap.size W w') := Lib.hid (fun X hX => hX.2.2.2.2.2.2.2)
    have bx := x1.ok
    obtain ⟨U, hU⟩ : ∃ U, U = x1.val := ⟨_, rfl⟩
    rw [← hU] at bx ⊢
    have hc := HKEEP.out U bx
    obtain ⟨q0, q1, q2, q3, q4, q5, q6, -⟩ := hc
    clear hU z0 z1 z2 z3 z4 z5
    go_wp2_with (fail)
    go_region_held3 (fun w' => w'.cell? ⟨w.heap.size, 0, none⟩ = some (.int .i64 a.day) ∧ w'.cell? ⟨w.heap.size, 1, none⟩ = some (.int .i64 a.rule) ∧ w'.cell? ⟨w.heap.size, 2, none⟩ = some (.slice At a.trust.length ct) ∧ w'.cell? ⟨w.heap.size, 3, none⟩ = some (.slice Ab a.base.length cb) ∧ w'.cell? ⟨w.heap.size, 4, none⟩ = some (.slice Ac a.acts.length cc) ∧ w'.cell? ⟨w.heap.size, 5, none⟩ = some (.slice (some ⟨b2, off, none⟩) a.mots.length cm) ∧ w'.cell? ⟨b2, off + k * 8 + 6, none⟩ = some (.slice A2 m.votes.length c2) ∧ Below W.heap.size W w')
      (first | exact HKEEP.out _ bx | exact HKEEP.out _ bx.drew | exact HKEEP.out _ ((HBEL.out _ (by assumption)).trans (Below.mono (by assumption) (HBEL.out _ (by assumption)).size)))
      (first | (go_at_call 71; refine (HVO.out _ (HBEL.out _ (by assumption))).mono ?_; rintro e w3 ⟨g3, rfl, hT, hb3⟩))
    all_goals
      have hb9 : Below W.heap.size W w3 := HBEL.out _ (by assumption)
      have HT := Lib.hid (hT.less (b := w.heap.size) (by first | exact Nat.le_trans bW.size bx.drew.size | exact Nat.le_trans bW.size bx.size))
      have hbb := bW.trans (hb9.mono bW.size)
      clear hT hb3
      go_wp2
      go_ret2
      exact ⟨_, rfl, by show OwnL intCells (countOf a t) _ _ _; rw [HY.out]; exact HT.out, hbb⟩
end Go.Proofs.YtnandbammmcncaaGreat

namespace Go.Proofs.YtnandbammmcncaaGreat
open Go.RowKit Go.Lib

set_option maxRecDepth 100000 in
set_option maxHeartbeats 8000000 in
theorem lawYv_any (a : Asm) (x : VAsm) (t : ByteArray) (w : World) (h : AsmR w w.heap.size x a) (hs : AsmSz a) (ht9 : t.size ≤ maxLen) : Calls Tryz.prog 5 #[asmV a x, .string t] w (RetB (.bool true) w) := by
  unfold maxLen at ht9
  obtain ⟨At, ct, Ab, cb, Ac, cc, Am, cm, rfl⟩ := h.slices
  obtain ⟨W, hW⟩ : ∃ W : World, W = w.alloc (.cells #[.int .i64 a.day, .int .i64 a.rule, .slice At a.trust.length ct, .slice Ab a.base.length cb, .slice Ac a.acts.length cc, .slice Am a.mots.length cm] 27) := ⟨_, rfl⟩
  have bW : Below w.heap.size w W := by rw [hW]; exact (Below.refl _ _).alloc (Nat.le_refl _) _
  have a1 : Row W w.heap.size [.int .i64 a.day, .int .i64 a.rule, .slice At a.trust.length ct, .slice Ab a.base.length cb, .slice Ac a.acts.length cc, .slice Am a.mots.length cm] := by rw [hW]; exact Row.new w _ _
  have HSP := Lib.hid (fun W x (hx : AsmR W W.heap.size x a) => countOf1_any a x t W hx hs)
  have HIM := Lib.hid (fun W x (hx : AsmR W W.heap.size x a) => countOf2_any a x t W hx hs)
  have HEQ := Lib.hid (intK_eq (countOf a t))
  have HMK := Lib.hid (intK_mark (countOf a t) (countOf_len a t))
  have HHD := Lib.hid (intK_held (countOf a t) (countOf_len a t))
  have z0 := fun y : Aft W => y.cell (a1.cell 0 _ rfl)
  have z1 := fun y : Aft W => y.cell (a1.cell 1 _ rfl)
  have z2 := fun y : Aft W => y.cell (a1.cell 2 _ rfl)
  have z3 := fun y : Aft W => y.cell (a1.cell 3 _ rfl)
  have z4 := fun y : Aft W => y.cell (a1.cell 4 _ rfl)
  have z5 := fun y : Aft W => y.cell (a1.cell 5 _ rfl)
  have HROW := Lib.hid a1
  have HR := Lib.hid (fun y : Aft W => h.on (aft_done bW y) (aft_done bW y).size)
  have HS := Lib.hid hs
  have HW := Lib.hid hW
  clear h hs hW a1
  unfold ResP at HSP HIM
  generalize intK (countOf a t) = K at *
  obtain ⟨ok, hok⟩ : ∃ r, r = knownB a t := ⟨_, rfl⟩
  rw [← hok] at HSP HIM
  have hne : (ok != ok) = false := by cases ok <;> rfl
  clear hok
  unfold asmV
  by_cases ht : t.size ≤ 1048576
  case neg =>
    have h2 : (1048576 : Int) < (t.size : Int) := by omega
    go_enter Tryz.func5, Tryz.ntmps5
    go_wp2
    go_ret
    exact ⟨rfl, by rw [← HW.out]; exact bW⟩
  have h2 : ¬ (1048576 : Int) < (t.size : Int) := by omega
  go_enter Tryz.func5, Tryz.ntmps5
  go_wp2_with (fail)
  rw [← HW.out]
  obtain ⟨x0, hx0⟩ : ∃ y : Aft W, y.val = W := ⟨⟨W, Below.refl _ _⟩, rfl⟩
  rw [← hx0]
  clear hx0
  refine (szAsm_any a _ 1048576 _ (HR.out x0) HS.out (by omega) (by omega)).mono ?_
  rintro e1 w1 ⟨r, rfl, hr, hb1⟩
  obtain ⟨x1, rfl⟩ : ∃ y : Aft W, w1 = y.val := ⟨⟨w1, x0.ok.trans (hb1.mono x0.ok.size)⟩, rfl⟩
  clear hb1
  rcases hr with hr | ⟨hf, hr0, hr1⟩
  · go_wp2
    go_ret
    exact ⟨rfl, aft_done bW x1⟩
  have hrn : ¬ r < 0 := by omega
  have HF := Lib.hid hf
  clear hf
  go_wp2_with (fail)
  refine (toAsm_any a _ _ (HR.out x1) HF.out).mono ?_
  rintro e2 w2 ⟨y2, T2, C2, M2, rfl, hO2, hb2⟩
  obtain ⟨x2, rfl⟩ : ∃ y : Aft W, w2 = y.val := ⟨⟨w2, x1.ok.trans (hb2.mono x1.ok.size)⟩, rfl⟩
  have HO2 := Lib.hid hO2.r
  obtain ⟨B1, d1, B2, d2, B3, d3, B4, d4, rfl⟩ := hO2.r.slices
  clear hb2 hO2
  unfold asmV
  go_wp2_with (fail)
  refine (HSP.out _ _ HO2.out).mono ?_
  rintro e3 w3 ⟨vw, rfl, hvw, hb3⟩
  obtain ⟨x3, rfl⟩ : ∃ y : Aft W, w3 = y.val := ⟨⟨w3, x2.ok.trans (hb3.mono x2.ok.size)⟩, rfl⟩
  obtain ⟨AW, nW, cW, rfl⟩ := K.slice hvw
  have HVW := Lib.hid hvw
  clear hb3 hvw
  go_wp2_with (fail)
  refine (toAsm_any a _ _ (HR.out x3) HF.out).mono ?_
  rintro e4 w4 ⟨y4, T4, C4, M4, rfl, hO4, hb4⟩
  obtain ⟨x4, rfl⟩ : ∃ y : Aft W, w4 = y.val := ⟨⟨w4, x3.ok.trans (hb4.mono x3.ok.size)⟩, rfl⟩
  obtain ⟨D1, f1, D2, f2, D3, f3, D4, f4, rfl⟩ := hO4.r.slices
  have HB34 := Lib.hid hb4
  have HO4 := Lib.hid hO4
  clear hb4 hO4
  unfold asmV
  have hsz4 : w.heap.size < x4.val.heap.size := World.block_lt_of_cell? x4.val ⟨w.heap.size, 0, none⟩ (z0 x4)
  go_wp2_with (fail)
  obtain ⟨V, hV⟩ : ∃ V : World, V = x4.val.alloc (.cells #[.int .i64 a.day, .int .i64 a.rule, .slice D1 a.trust.length f1, .slice D2 a.base.length f2, .slice D3 a.acts.length f3, .slice D4 a.mots.length f4] 36) := ⟨_, rfl⟩
  have bV : Below x4.val.heap.size x4.val V := by rw [hV]; exact (Below.refl _ _).alloc (Nat.le_refl _) _
  have sV : x4.val.heap.size < V.heap.size := by rw [hV]; simp
  have r4 : Row V x4.val.heap.size [.int .i64 a.day, .int .i64 a.rule, .slice D1 a.trust.length f1, .slice D2 a.base.length f2, .slice D3 a.acts.length f3, .slice D4 a.mots.length f4] := by rw [hV]; exact Row.new x4.val _ _
  have b3V : Below x3.val.heap.size x3.val V := HB34.out.trans (bV.mono HB34.out.size)
  have bWV : Below W.heap.size W V := x3.ok.trans (b3V.mono x3.ok.size)
  have HROWV := Lib.hid (HROW.out.below bWV (by have : w.heap.size < W.heap.size := World.block_lt_of_cell? W ⟨w.heap.size, 0, none⟩ (HROW.out.cell 0 _ rfl); exact this))
  have HR4 := Lib.hid r4
  have HO := Lib.hid (HO4.out.below bV)
  have HB3V := Lib.hid b3V
  have HFTL : Hid (∀ b, asmFoot ⟨.slice D1 a.trust.length f1, .slice D2 a.base.length f2, .slice D3 a.acts.length f3, .slice D4 a.mots.length f4⟩ a T4 C4 M4 b → x3.val.heap.size ≤ b ∧ b < x4.val.heap.size) := Lib.hid (fun b hb => HO4.out.lt hb)
  have HBW := Lib.hid bW
  have hw3 : w.heap.size < x3.val.heap.size := World.block_lt_of_cell? x3.val ⟨w.heap.size, 0, none⟩ (z0 x3)
  have h34 : x3.val.heap.size ≤ x4.val.heap.size := HB34.out.size
  have HRA := Lib.hid (fun X (hX : Below x3.val.heap.size x3.val X) => HR.out ⟨X, x3.ok.trans (hX.mono x3.ok.size)⟩)
  have HFINB := Lib.hid (fun X (hX : Below x3.val.heap.size x3.val X) => bW.trans ((x3.ok.trans (hX.mono x3.ok.size)).mono bW.size))
  rw [← hV]
  clear hV r4 z0 z1 z2 z3 z4 z5 bWV b3V bV HO4 HB34
  refine (HIM.out V _ HO.out.r).mono ?_
  rintro e5 U ⟨vg, rfl, hvg, bU⟩
  obtain ⟨AG, nG, cG, rfl⟩ := K.slice hvg
  have HVG := Lib.hid hvg
  have HBU := Lib.hid bU
  have HB3U := Lib.hid (HB3V.out.trans (bU.mono HB3V.out.size))
  have HVWU := Lib.hid (K.below HVW.out HB3U.out)
  clear hvg bU
  go_wp2_with (fail)
  refine (HEQ.out U _ _ _ _ HVG.out HVWU.out).mono ?_
  rintro e6 U2 ⟨rfl, bU2⟩
  have HBU2 := Lib.hid (HBU.out.trans (bU2.mono HBU.out.size))
  have HVG2 := Lib.hid (K.below HVG.out bU2)
  clear bU2
  have HKEEP : Hid (∀ w', Below U2.heap.size U2 w' → (fun w' => w'.cell? ⟨x4.val.heap.size, 0, none⟩ = some (.int .i64 a.day) ∧ w'.cell? ⟨x4.val.heap.size, 1, none⟩ = some (.int .i64 a.rule) ∧ w'.cell? ⟨x4.val.heap.size, 2, none⟩ = some (.slice D1 a.trust.length f1) ∧ w'.cell? ⟨x4.val.heap.size, 3, none⟩ = some (.slice D2 a.base.length f2) ∧ w'.cell? ⟨x4.val.heap.size, 4, none⟩ = some (.slice D3 a.acts.length f3) ∧ w'.cell? ⟨x4.val.heap.size, 5, none⟩ = some (.slice D4 a.mots.length f4) ∧ w'.cell? ⟨w.heap.size, 0, none⟩ = some (.int .i64 a.day) ∧ w'.cell? ⟨w.heap.size, 1, none⟩ = some (.int .i64 a.rule) ∧ w'.cell? ⟨w.heap.size, 2, none⟩ = some (.slice At a.trust.length ct) ∧ w'.cell? ⟨w.heap.size, 3, none⟩ = some (.slice Ab a.base.length cb) ∧ w'.cell? ⟨w.heap.size, 4, none⟩ = some (.slice Ac a.acts.length cc) ∧ w'.cell? ⟨w.heap.size, 5, none⟩ = some (.slice Am a.mots.length cm) ∧ Below U2.heap.size U2 w') w') := Lib.hid (fun X hX => by
    have h1 := HR4.out.below (HBU2.out.trans (hX.mono HBU2.out.size)) sV
    have h2 := HROWV.out.below (HBU2.out.trans (hX.mono HBU2.out.size)) (by omega)
    exact ⟨h1.cell 0 _ rfl, h1.cell 1 _ rfl, h1.cell 2 _ rfl, h1.cell 3 _ rfl, h1.cell 4 _ rfl, h1.cell 5 _ rfl, h2.cell 0 _ rfl, h2.cell 1 _ rfl, h2.cell 2 _ rfl, h2.cell 3 _ rfl, h2.cell 4 _ rfl, h2.cell 5 _ rfl, hX⟩)
  have HBEL : Hid (∀ w', (fun w' => w'.cell? ⟨x4.val.heap.size, 0, none⟩ = some (.int .i64 a.day) ∧ w'.cell? ⟨x4.val.heap.size, 1, none⟩ = some (.int .i64 a.rule) ∧ w'.cell? ⟨x4.val.heap.size, 2, none⟩ = some (.slice D1 a.trust.length f1) ∧ w'.cell? ⟨x4.val.heap.size, 3, none⟩ = some (.slice D2 a.base.length f2) ∧ w'.cell? ⟨x4.val.heap.size, 4, none⟩ = some (.slice D3 a.acts.length f3) ∧ w'.cell? ⟨x4.val.heap.size, 5, none⟩ = some (.slice D4 a.mots.length f4) ∧ w'.cell? ⟨w.heap.size, 0, none⟩ = some (.int .i64 a.day) ∧ w'.cell? ⟨w.heap.size, 1, none⟩ = some (.int .i64 a.rule) ∧ w'.cell? ⟨w.heap.size, 2, none⟩ = some (.slice At a.trust.length ct) ∧ w'.cell? ⟨w.heap.size, 3, none⟩ = some (.slice Ab a.base.length cb) ∧ w'.cell? ⟨w.heap.size, 4, none⟩ = some (.slice Ac a.acts.length cc) ∧ w'.cell? ⟨w.heap.size, 5, none⟩ = some (.slice Am a.mots.length cm) ∧ Below U2.heap.size U2 w') w' → Below U2.heap.size U2 w') := Lib.hid (fun X hX => hX.2.2.2.2.2.2.2.2.2.2.2.2)
  have HB3U2 := Lib.hid (HB3V.out.trans (HBU2.out.mono HB3V.out.size))
  have HR2 := Lib.hid (fun X (hX : Below U2.heap.size U2 X) => HRA.out X (HB3U2.out.trans (hX.mono HB3U2.out.size)))
  have HX2 := Lib.hid (fun X (hX : Below U2.heap.size U2 X) => (HO.out.below (HBU2.out.trans (hX.mono HBU2.out.size))).r)
  have bU2 : Below U2.heap.size U2 U2 := Below.refl _ _
  go_wp2_with (fail)
  go_region_held3 (fun w' => w'.cell? ⟨x4.val.heap.size, 0, none⟩ = some (.int .i64 a.day) ∧ w'.cell? ⟨x4.val.heap.size, 1, none⟩ = some (.int .i64 a.rule) ∧ w'.cell? ⟨x4.val.heap.size, 2, none⟩ = some (.slice D1 a.trust.length f1) ∧ w'.cell? ⟨x4.val.heap.size, 3, none⟩ = some (.slice D2 a.base.length f2) ∧ w'.cell? ⟨x4.val.heap.size, 4, none⟩ = some (.slice D3 a.acts.length f3) ∧ w'.cell? ⟨x4.val.heap.size, 5, none⟩ = some (.slice D4 a.mots.length f4) ∧ w'.cell? ⟨w.heap.size, 0, none⟩ = some (.int .i64 a.day) ∧ w'.cell? ⟨w.heap.size, 1, none⟩ = some (.int .i64 a.rule) ∧ w'.cell? ⟨w.heap.size, 2, none⟩ = some (.slice At a.trust.length ct) ∧ w'.cell? ⟨w.heap.size, 3, none⟩ = some (.slice Ab a.base.length cb) ∧ w'.cell? ⟨w.heap.size, 4, none⟩ = some (.slice Ac a.acts.length cc) ∧ w'.cell? ⟨w.heap.size, 5, none⟩ = some (.slice Am a.mots.length cm) ∧ Below U2.heap.size U2 w')
    (first | exact HKEEP.out _ bU2 | exact HKEEP.out _ bU2.drew | exact HKEEP.out _ ((HBEL.out _ (by assumption)).trans (Below.mono (by assumption) (HBEL.out _ (by assumption)).size)))
    (first | (go_at_call 13; refine (toAsm_any a _ _ (HR2.out _ (HBEL.out _ (by assumption))) HF.out).mono ?_; rintro e6 w6 ⟨y6, T6, C6, M6, rfl, hO6, hb6⟩; have hR6 := hO6.r; obtain ⟨E1, l1, E2, l2, E3, l3, E4, l4, rfl⟩ := hO6.r.slices; clear hO6; unfold asmV) | (go_at_call 16; refine (eqAsm_any a _ _ _ (HX2.out _ (HBEL.out _ (by assumption))) hR6).mono ?_; rintro e7 w7 ⟨rfl, hb7⟩))
  all_goals
    have hB7 : Below U2.heap.size U2 w7 := HBEL.out _ (by assumption)
    have hS7 := HKEEP.out _ hB7
    obtain ⟨c0, c1, c2, c3, c4, c5, -⟩ := hS7
    have HBV7 := Lib.hid (HBU2.out.trans (hB7.mono HBU2.out.size))
    have HO7 := Lib.hid (HO.out.below HBV7.out)
    have HVG7 := Lib.hid (K.below HVG2.out hB7)
    have HB37 := Lib.hid (HB3V.out.trans (HBV7.out.mono HB3V.out.size))
    have h37 := HB37.out.size
    have hTF := HF.out.trees HO7.out.tm HO7.out.cm HO7.out.mm
    clear hB7 hb7 hb6 hR6
    go_wp2_with (fail)
    refine (markAsm_any a ⟨.slice D1 a.trust.length f1, .slice D2 a.base.length f2, .slice D3 a.acts.length f3, .slice D4 a.mots.length f4⟩ T4 C4 M4 _ 1 w7 HO7.out hTF (by omega) (by omega)).mono ?_
    rintro e8 X ⟨rfl, -, tX⟩
    have hkn : ¬ ((eAsm 1 a T4 C4 M4 : Nat) : Int) < 0 := by omega
    have HVGX := Lib.hid (K.touch HVG7.out tX (fun c hf => by have q2 := HFTL.out c hf; omega))
    have HB3X := Lib.hid (HB37.out.trans (tX.below h37 (fun b hb => (HFTL.out b hb).1)))
    have hXs := tX.size
    generalize eAsm 1 a T4 C4 M4 = kk at *
    clear tX c0 c1 c2 c3 c4 c5 hTF
    go_wp2_with (fail)
    refine (HEQ.out X _ _ _ _ HVGX.out (K.below HVW.out HB3X.out)).mono ?_
    rintro e9 X1 ⟨rfl, bX1⟩
    have HVG1 := Lib.hid (K.below HVGX.out bX1)
    have HB31 := Lib.hid (HB3X.out.trans (bX1.mono HB3X.out.size))
    have hX1s := bX1.size
    clear bX1
    go_wp2_with (fail)
    refine (HMK.out X1 _ _ HVG1.out).mono ?_
    rintro e10 X2 ⟨rfl, hmk, tM⟩
    have hnn : ¬ ((K.n : Nat) : Int) < 0 := by omega
    have hnz : (((K.n : Nat) : Int) != ((K.n : Nat) : Int)) = false := by simp
    have HB32 := Lib.hid (HB31.out.trans (tM.below HB31.out.size (fun b hb => by have q1 : V.heap.size ≤ b := hb; omega)))
    have HMK2 := Lib.hid hmk
    clear tM hmk
    go_wp2_with (fail)
    refine (HHD.out X2 _ _ HMK2.out).mono ?_
    rintro e11 X3 ⟨rfl, bX3⟩
    have HMK3 := Lib.hid (K.mtouch HMK2.out bX3)
    have HB33 := Lib.hid (HB32.out.trans (bX3.mono HB32.out.size))
    have r3 := HROW.out.below (x3.ok.trans (HB33.out.mono x3.ok.size)) (by have : w.heap.size < W.heap.size := World.block_lt_of_cell? W ⟨w.heap.size, 0, none⟩ (HROW.out.cell 0 _ rfl); exact this)
    have p0 := r3.cell 0 _ rfl
    have p1 := r3.cell 1 _ rfl
    have p2 := r3.cell 2 _ rfl
    have p3 := r3.cell 3 _ rfl
    have p4 := r3.cell 4 _ rfl
    have p5 := r3.cell 5 _ rfl
    clear bX3 r3
    go_wp2_with (fail)
    refine (toAsm_any a _ X3 (HRA.out X3 HB33.out) HF.out).mono ?_
    rintro e12 X4 ⟨y9, T9, C9, M9, rfl, hO9, bX4⟩
    obtain ⟨G1, j1, G2, j2, G3, j3, G4, j4, rfl⟩ := hO9.r.slices
    have HO9 := Lib.hid hO9.r
    have HMK4 := Lib.hid (K.mtouch HMK3.out bX4)
    have HB34' := Lib.hid (HB33.out.trans (bX4.mono HB33.out.size))
    clear bX4 hO9 p0 p1 p2 p3 p4 p5
    unfold asmV
    go_wp2_with (fail)
    refine (HIM.out X4 _ HO9.out).mono ?_
    rintro e13 X5 ⟨vh, rfl, hvh, bX5⟩
    obtain ⟨AH, nH, cH, rfl⟩ := K.slice hvh
    have HVH := Lib.hid hvh
    have HMK5 := Lib.hid (K.mtouch HMK4.out bX5)
    have HB35 := Lib.hid (HB34'.out.trans (bX5.mono HB34'.out.size))
    clear bX5 hvh
    go_wp2_with (fail)
    refine (HEQ.out X5 _ _ _ _ HVH.out (K.below HVW.out HB35.out)).mono ?_
    rintro e14 X6 ⟨rfl, bX6⟩
    have HMK6 := Lib.hid (K.mtouch HMK5.out bX6)
    have HB36 := Lib.hid (HB35.out.trans (bX6.mono HB35.out.size))
    clear bX6
    go_wp2_with (fail)
    refine (HHD.out X6 _ _ HMK6.out).mono ?_
    rintro e15 X7 ⟨rfl, bX7⟩
    have HFIN := Lib.hid (HFINB.out X7 (HB36.out.trans (bX7.mono HB36.out.size)))
    clear bX7
    go_wp2
    go_ret
    exact ⟨rfl, HFIN.out⟩
end Go.Proofs.YtnandbammmcncaaGreat
