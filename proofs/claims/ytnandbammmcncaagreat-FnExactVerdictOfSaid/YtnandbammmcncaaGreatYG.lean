/- The count, walked: the reference's. The count, walked: the program's. -/
import Derived.Test.YtnandbammmcncaaGreatYC
namespace Go.Proofs.YtnandbammmcncaaGreat
open Go.RowKit Go.Lib

def BehC (W w' : World) : Prop := Below W.heap.size W w'
theorem BehC.go {W a b : World} (h2 : Below a.heap.size a b) (h1 : BehC W a) : BehC W b := Below.trans h1 (Below.mono h2 (Below.size h1))
theorem BehC.draw {W a : World} (h1 : BehC W a) : BehC W a.drew := Below.drew h1
theorem map_getD {C : List Int} {s : Nat} (h : s < C.length) : (C.map (Value.int .i64))[s]? = some (.int .i64 (C.getD s 0)) := by
  rw [List.getElem?_map, List.getD_eq_getElem?_getD, List.getElem?_eq_getElem h]
  rfl
theorem Touch.cellAt {F : Nat → Prop} {w w' : World} (h : Touch F w w') {b o : Nat} {v : Value} (hc : w.cell? ⟨b, o, none⟩ = some v) (hF : ¬ F b) : w'.cell? ⟨b, o, none⟩ = some v :=
  (World.cell?_of_block (a := ⟨b, o, none⟩) (h.block b (World.block_lt_of_cell? w _ hc) hF)).trans hc
theorem NumO.at {w : World} {base g cap k : Nat} {L : List Int} {z : Int} (h : NumO w base g cap L) (hk : L[k]? = some z) : w.cell? ⟨g, k, none⟩ = some (.int .i64 z) := by
  obtain ⟨b, off, e, _, hc⟩ := ints_get h.ints hk
  injection e with e
  injection e with e1 e2
  rw [← e1, ← e2, Nat.zero_add] at hc
  exact hc
theorem bump_row {vs E : List Int} {k : Nat} {e : Int} {w : World} {g s : Nat} (hE : E[k]? = some e) (hs : slotOf vs e = s) (h : Row w g ((countL vs (E.take k)).map (Value.int .i64))) :
    Row (w.setCell ⟨g, s, none⟩ (.int .i64 ((countL vs (E.take k)).getD s 0 + 1))) g ((countL vs (E.take (k + 1))).map (Value.int .i64)) := by
  rw [countL_take vs hE, hs]
  unfold bump
  rw [List.map_set]
  exact h.set s _ (by rw [List.length_map, countL_len, ← hs]; exact slotOf_lt vs e)
def CountPost (a : Asm) (vs : List Int) (w : World) (e : Ending) (w' : World) : Prop :=
  ∃ g, e = .returned (.slice (some ⟨g, 0, none⟩) 4 4) ∧ OwnL intCells (countM a vs) w.heap.size w' (.slice (some ⟨g, 0, none⟩) 4 4) ∧ Below w.heap.size w w'
theorem count_own {a : Asm} {vs : List Int} {base g : Nat} {w : World} (hb : base ≤ g) (hg : g < w.heap.size) (h : Row w g ((countM a vs).map (Value.int .i64))) : OwnL intCells (countM a vs) base w (.slice (some ⟨g, 0, none⟩) 4 4) :=
  ⟨some ⟨g, 0, none⟩, 4, by rw [countM_len], by rw [countM_len]; exact Nat.le_refl _, by decide, fun _ => ⟨g, rfl, hb, hg, by rw [flat_ints]; exact h⟩⟩

theorem cnt0 (vs : List Int) (E : List Int) : costL (fun _ => 0) 4 = (countL vs (E.take 0)).map (Value.int .i64) := rfl
set_option maxRecDepth 100000 in
set_option maxHeartbeats 8000000 in
theorem count1_any (a : Asm) (At : Option Addr) (ct : Nat) (vs : List Int) (b o : Nat) (Av : Option Addr) (cv : Nat) (w : World) (k1 : w.cell? ⟨b, o + 1, none⟩ = some (.int .i64 a.rule)) (k2 : w.cell? ⟨b, o + 2, none⟩ = some (.slice At a.trust.length ct)) (hT : RowsR w w.heap.size (.slice At a.trust.length ct) a.trust) (hV : Ints w w.heap.size (.slice Av vs.length cv) vs) (hl : vs.length = a.trust.length) (hok : AsmOk a) :
    Calls Tryz.prog 70 #[.pointer (some ⟨b, o, none⟩), .slice Av vs.length cv] w (CountPost a vs w) := by
  obtain ⟨i0, hi, hz0, hz1, hz2⟩ := info_parts Tryz.infoI
  obtain ⟨W, hmk0, hrow, hgs, hbW⟩ := make_zero (P := Tryz.prog) w 29 2 i0 Tryz.underlying29 hi hz0 hz1 4 (by rw [hz2]; decide) (by decide)
  have hmk : (Instr.makeSlice 29 (.int .i64 4) (.int .i64 4)).run Tryz.prog w = .ok (.slice (some ⟨w.heap.size, 0, none⟩) 4 4) W := hmk0
  have HR0 := Lib.hid hrow
  have hvk := hok.vois hl
  have HVK := Lib.hid hvk
  have HVO := Lib.hid (fun W' (h : BehC W W') => voices1_any a At ct vs b o Av cv W' ((hbW.trans (Below.mono h hbW.size)).cell (p := ⟨b, o + 2, none⟩) (World.block_lt_of_cell? w _ k2) |>.trans k2) (hT.on (hbW.trans (Below.mono h hbW.size)) (hbW.trans (Below.mono h hbW.size)).size) (SlR.on hV (Pl.stays _) (hbW.trans (Below.mono h hbW.size)) (hbW.trans (Below.mono h hbW.size)).size) hl (by have := hok.n12; omega) (fun l hl => Nat.le_trans (hok.t4 l hl) (by omega)))
  have HK := Lib.hid (fun W' (h : BehC W W') => ((hbW.trans (Below.mono h hbW.size)).cell (p := ⟨b, o + 1, none⟩) (World.block_lt_of_cell? w _ k1)).trans k1)
  have HSE := Lib.hid (fun (W' : World) (v : Value) (hv : Vois W' W'.heap.size v (voices vs a.trust)) => settle1_any (voices vs a.trust) a.rule v W' hv hvk)
  unfold VoiPost at HVO
  unfold SettlePost at HSE
  have HV := Lib.hid hV
  have HL := Lib.hid hl
  have HBW := Lib.hid hbW
  have hn12 := hok.n12
  unfold CountPost
  clear hmk0 hrow hvk k1 k2 hT hV hl hi hz0 hz1 hz2 hok
  go_enter Tryz.func70, Tryz.ntmps70
  go_wp2_with (fail)
  have hS0 : BehC W W := Below.refl _ _
  have c1 := HK.out W hS0
  go_region_held3 (fun w' => w'.cell? ⟨b, o + 1, none⟩ = some (.int .i64 a.rule) ∧ BehC W w')
    (first | exact ⟨HK.out _ hS0, hS0⟩ | exact ⟨HK.out _ hS0.draw, hS0.draw⟩ | exact ⟨HK.out _ (BehC.go (by assumption) (And.right (by assumption))), BehC.go (by assumption) (And.right (by assumption))⟩ | exact ⟨HK.out _ (BehC.go (by assumption) (by assumption)), BehC.go (by assumption) (by assumption)⟩)
    (first
      | (go_at_call 51; refine Calls.mono (HVO.out _ (by first | assumption | exact And.right (by assumption))) ?_; rintro e w3 ⟨A3, c3, L3, rfl, hm3, hT3, hb3⟩; have hS3 := BehC.go hb3 (by first | assumption | exact And.right (by assumption)))
      | (go_at_call 50; refine Calls.mono (HSE.out w3 _ (hm3 ▸ hT3.vois)) ?_; rintro e w4 ⟨g, cap, rfl, hel, hei, hen, hb4⟩))
  all_goals
    have hS4 : BehC W w4 := BehC.go hb4 hS3
    have HB4 := Lib.hid (HBW.out.trans (Below.mono hS4 HBW.out.size))
    have hR4 := HR0.out.below hS4 hgs
    rw [cnt0 vs (endsL (voices vs a.trust) a.rule)] at hR4
    have HR4 := Lib.hid hR4
    have hgl := hen.row.lt g rfl
    have hw3 : W.heap.size ≤ w3.heap.size := Below.size hS3
    have hgg : ¬ g = w.heap.size := by omega
    have HNO := Lib.hid hen
    have HEN := Lib.hid hei
    rw [voices_len HL.out] at hel ⊢
    have hlen12 := hel
    have HCM : Hid (countM a vs = countL vs (endsL (voices vs a.trust) a.rule)) := Lib.hid rfl
    have hS4s : w.heap.size < w4.heap.size := Nat.lt_of_lt_of_le hgs (Below.size hS4)
    clear hR4 hen hei hb4 hm3 hT3 hb3 hS3 hS4 hw3 hgs
    generalize endsL (voices vs a.trust) a.rule = E at *
    rw [← hel]
    clear c1 hS0
    go_wp2
    go_loopw [7, 28, 39, 53] (fun i _ _ _ wr => ∃ k : Nat, k ≤ E.length ∧ i = .int .i64 (k : Int) ∧ Row wr w.heap.size ((countL vs (E.take k)).map (Value.int .i64)) ∧ Touch (fun c => c = w.heap.size) w4 wr) (fun i _ _ _ _ => E.length - (RowKit.intOf i).toNat)
    case atStart => exact ⟨0, Nat.zero_le _, rfl, HR4.out, Touch.refl _ _⟩
    case round =>
      obtain ⟨k, hk, rfl, hrw, ht⟩ := hrel
      have HRW := Lib.hid hrw
      have HT := Lib.hid ht
      clear hrw ht
      by_cases hlt : k < E.length
      · have hek := HEN.out k _ (List.getElem?_eq_getElem hlt)
        have HE := Lib.hid (List.getElem?_eq_getElem hlt)
        have x1 := HT.out.cellAt (HNO.out.at HE.out) hgg
        rcases isEnd_range hek with he | ⟨j, he, hj⟩
        · have HSL : Hid (slotOf vs E[k] = 3) := Lib.hid (by unfold slotOf; rw [if_pos (by omega)])
          rw [he] at x1
          clear hek he
          skip
          have hlc : 3 < (countL vs (E.take k)).length := by rw [countL_len]; decide
          have x5 := HRW.out.cell 3 _ (map_getD hlc)
          have f5 := HRW.out.free 3 (by rw [List.length_map]; exact hlc)
          have hzb := countL_bound vs (E.take k) 3
          have hzk : (E.take k).length ≤ k := by rw [List.length_take]; exact Nat.min_le_left _ _
          have HN := Lib.hid (bump_row HE.out HSL.out HRW.out)
          have HT9 := Lib.hid (HT.out.setCell (p := ⟨w.heap.size, 3, none⟩) rfl (.int .i64 ((countL vs (E.take k)).getD 3 0 + 1)))
          generalize (countL vs (E.take k)).getD 3 0 = z at *
          go_wp2
          go_roundw
          case rel => exact ⟨k + 1, by omega, by go_num, HN.out, HT9.out⟩
          case measure => simp [RowKit.intOf]; omega
        · rw [voices_len HL.out, ← HL.out] at hj
          obtain ⟨bv, ov, rfl, hbv, d0⟩ := ints_get HV.out (List.getElem?_eq_getElem hj)
          have x2 := HT.out.cellAt ((HB4.out.cell (p := ⟨bv, ov + j, none⟩) hbv).trans d0) (show ¬ bv = w.heap.size by omega)
          have hneg : ¬ (j : Int) < 0 := by omega
          have hji : (j : Int) < (vs.length : Int) := by omega
          have hgd : vs.getD (j : Int).toNat 0 = vs[j] := by simp [List.getD, hj]
          have hsl : slotOf vs E[k] = if vs[j] = 2 then 0 else if vs[j] = 1 then 1 else 2 := by
            unfold slotOf
            rw [he, if_neg hneg, hgd]
          rw [he] at x1
          clear hek he d0 hgd
          generalize vs[j] = y at *
          by_cases h2 : y = 2
          · subst h2
            have HSL : Hid (slotOf vs E[k] = 0) := Lib.hid (by rw [hsl]; rfl)
            clear hsl
            skip
            have hlc : 0 < (countL vs (E.take k)).length := by rw [countL_len]; decide
            have x5 := HRW.out.cell 0 _ (map_getD hlc)
            have f5 := HRW.out.free 0 (by rw [List.length_map]; exact hlc)
            have hzb := countL_bound vs (E.take k) 0
            have hzk : (E.take k).length ≤ k := by rw [List.length_take]; exact Nat.min_le_left _ _
            have HN := Lib.hid (bump_row HE.out HSL.out HRW.out)
            have HT9 := Lib.hid (HT.out.setCell (p := ⟨w.heap.size, 0, none⟩) rfl (.int .i64 ((countL vs (E.take k)).getD 0 0 + 1)))
            generalize (countL vs (E.take k)).getD 0 0 = z at *
            go_wp2
            go_roundw
            case rel => exact ⟨k + 1, by omega, by go_num, HN.out, HT9.out⟩
            case measure => simp [RowKit.intOf]; omega
          · rw [if_neg h2] at hsl
            have q2 : (y == 2) = false := by simpa using h2
            by_cases h1 : y = 1
            · subst h1
              have HSL : Hid (slotOf vs E[k] = 1) := Lib.hid (by rw [hsl]; rfl)
              clear hsl h2
              skip
              have hlc : 1 < (countL vs (E.take k)).length := by rw [countL_len]; decide
              have x5 := HRW.out.cell 1 _ (map_getD hlc)
              have f5 := HRW.out.free 1 (by rw [List.length_map]; exact hlc)
              have hzb := countL_bound vs (E.take k) 1
              have hzk : (E.take k).length ≤ k := by rw [List.length_take]; exact Nat.min_le_left _ _
              have HN := Lib.hid (bump_row HE.out HSL.out HRW.out)
              have HT9 := Lib.hid (HT.out.setCell (p := ⟨w.heap.size, 1, none⟩) rfl (.int .i64 ((countL vs (E.take k)).getD 1 0 + 1)))
              generalize (countL vs (E.take k)).getD 1 0 = z at *
              go_wp2
              go_roundw
              case rel => exact ⟨k + 1, by omega, by go_num, HN.out, HT9.out⟩
              case measure => simp [RowKit.intOf]; omega
            · rw [if_neg h1] at hsl
              have q1 : (y == 1) = false := by simpa using h1
              have HSL := Lib.hid hsl
              clear hsl h1 h2
              skip
              have hlc : 2 < (countL vs (E.take k)).length := by rw [countL_len]; decide
              have x5 := HRW.out.cell 2 _ (map_getD hlc)
              have f5 := HRW.out.free 2 (by rw [List.length_map]; exact hlc)
              have hzb := countL_bound vs (E.take k) 2
              have hzk : (E.take k).length ≤ k := by rw [List.length_take]; exact Nat.min_le_left _ _
              have HN := Lib.hid (bump_row HE.out HSL.out HRW.out)
              have HT9 := Lib.hid (HT.out.setCell (p := ⟨w.heap.size, 2, none⟩) rfl (.int .i64 ((countL vs (E.take k)).getD 2 0 + 1)))
              generalize (countL vs (E.take k)).getD 2 0 = z at *
              go_wp2
              go_roundw
              case rel => exact ⟨k + 1, by omega, by go_num, HN.out, HT9.out⟩
              case measure => simp [RowKit.intOf]; omega
      · have hge : ¬ (k : Int) < (E.length : Int) := by omega
        have HFN : Hid (Row wr w.heap.size ((countM a vs).map (Value.int .i64))) := Lib.hid (by
          rw [HCM.out]
          have := HRW.out
          rwa [List.take_of_length_le (by omega)] at this)
        have HBF := Lib.hid (HB4.out.trans (HT.out.below HB4.out.size (fun b hb => by rw [hb]; exact Nat.le_refl _)))
        have hwl : w.heap.size < wr.heap.size := Nat.lt_of_lt_of_le hS4s HT.out.size
        go_wp2
        go_ret
        exact ⟨w.heap.size, rfl, count_own (Nat.le_refl _) hwl HFN.out, HBF.out⟩
end Go.Proofs.YtnandbammmcncaaGreat

namespace Go.Proofs.YtnandbammmcncaaGreat
open Go.RowKit Go.Lib

set_option maxRecDepth 100000 in
set_option maxHeartbeats 8000000 in
theorem count2_any (a : Asm) (At : Option Addr) (ct : Nat) (Ab : Option Addr) (cb : Nat) (Ac : Option Addr) (cc : Nat) (Am : Option Addr) (cm : Nat) (vs : List Int) (Av : Option Addr) (cv : Nat) (w : World) (hT : RowsR w w.heap.size (.slice At a.trust.length ct) a.trust) (hV : Ints w w.heap.size (.slice Av vs.length cv) vs) (hl : vs.length = a.trust.length) (hok : AsmOk a) :
    Calls Tryz.prog 71 #[.agg #[.int .i64 a.day, .int .i64 a.rule, .slice At a.trust.length ct, .slice Ab a.base.length cb, .slice Ac a.acts.length cc, .slice Am a.mots.length cm], .slice Av vs.length cv] w (CountPost a vs w) := by
  obtain ⟨i0, hi, hz0, hz1, hz2⟩ := info_parts Tryz.infoI
  obtain ⟨U, hU⟩ : ∃ U : World, U = w.alloc (.cells #[.int .i64 a.day, .int .i64 a.rule, .slice At a.trust.length ct, .slice Ab a.base.length cb, .slice Ac a.acts.length cc, .slice Am a.mots.length cm] 36) := ⟨_, rfl⟩
  have bU : Below w.heap.size w U := by rw [hU]; exact (Below.refl _ _).alloc (Nat.le_refl _) _
  have a1 : Row U w.heap.size [.int .i64 a.day, .int .i64 a.rule, .slice At a.trust.length ct, .slice Ab a.base.length cb, .slice Ac a.acts.length cc, .slice Am a.mots.length cm] := by rw [hU]; exact Row.new w _ _
  have sU : U.heap.size = w.heap.size + 1 := by rw [hU]; simp
  obtain ⟨W, hmk0, hrow, hgs, hbW⟩ := make_zero (P := Tryz.prog) U 29 2 i0 Tryz.underlying29 hi hz0 hz1 4 (by rw [hz2]; decide) (by decide)
  have hmk : (Instr.makeSlice 29 (.int .i64 4) (.int .i64 4)).run Tryz.prog (w.alloc (.cells #[.int .i64 a.day, .int .i64 a.rule, .slice At a.trust.length ct, .slice Ab a.base.length cb, .slice Ac a.acts.length cc, .slice Am a.mots.length cm] 36)) = .ok (.slice (some ⟨w.heap.size + 1, 0, none⟩) 4 4) W := by rw [← hU, ← sU]; exact hmk0
  have hbUW : Below w.heap.size w W := bU.trans (hbW.mono bU.size)
  rw [sU] at hrow hgs
  have HR0 := Lib.hid hrow
  have hvk := hok.vois hl
  have HVO := Lib.hid (fun W' (h : BehC W W') => voices2_any a At ct Ab cb Ac cc Am cm vs Av cv W' (hT.on (hbUW.trans (Below.mono h hbUW.size)) (hbUW.trans (Below.mono h hbUW.size)).size) (SlR.on hV (Pl.stays _) (hbUW.trans (Below.mono h hbUW.size)) (hbUW.trans (Below.mono h hbUW.size)).size) hl (by have := hok.n12; omega) (fun l hl => Nat.le_trans (hok.t4 l hl) (by omega)))
  have HK := Lib.hid (fun W' (h : BehC W W') => (a1.below (hbW.trans (Below.mono h hbW.size)) (by omega) : Row W' w.heap.size _))
  have HSE := Lib.hid (fun (W' : World) (v : Value) (hv : Vois W' W'.heap.size v (voices vs a.trust)) => settle2_any (voices vs a.trust) a.rule v W' hok.rule.1 hok.rule.2 hv hvk)
  unfold VoiPost at HVO
  unfold Settle2Post at HSE
  have HV := Lib.hid hV
  have HL := Lib.hid hl
  have HBW := Lib.hid hbUW
  have hn12 := hok.n12
  unfold CountPost
  clear hmk0 hrow hvk hT hV hl hi hz0 hz1 hz2 hok a1 bU hbW hbUW sU hU
  go_enter Tryz.func71, Tryz.ntmps71
  go_wp2_with (fail)
  have hS0 : BehC W W := Below.refl _ _
  have HKEEP : Hid (∀ w', BehC W w' → w'.cell? ⟨w.heap.size, 0, none⟩ = some (.int .i64 a.day) ∧ w'.cell? ⟨w.heap.size, 1, none⟩ = some (.int .i64 a.rule) ∧ w'.cell? ⟨w.heap.size, 2, none⟩ = some (.slice At a.trust.length ct) ∧ w'.cell? ⟨w.heap.size, 3, none⟩ = some (.slice Ab a.base.length cb) ∧ w'.cell? ⟨w.heap.size, 4, none⟩ = some (.slice Ac a.acts.length cc) ∧ w'.cell? ⟨w.heap.size, 5, none⟩ = some (.slice Am a.mots.length cm) ∧ BehC W w') := Lib.hid (fun w' h => ⟨(HK.out w' h).cell 0 _ rfl, (HK.out w' h).cell 1 _ rfl, (HK.out w' h).cell 2 _ rfl, (HK.out w' h).cell 3 _ rfl, (HK.out w' h).cell 4 _ rfl, (HK.out w' h).cell 5 _ rfl, h⟩)
  have HBEL : Hid (∀ w', w'.cell? ⟨w.heap.size, 0, none⟩ = some (.int .i64 a.day) ∧ w'.cell? ⟨w.heap.size, 1, none⟩ = some (.int .i64 a.rule) ∧ w'.cell? ⟨w.heap.size, 2, none⟩ = some (.slice At a.trust.length ct) ∧ w'.cell? ⟨w.heap.size, 3, none⟩ = some (.slice Ab a.base.length cb) ∧ w'.cell? ⟨w.heap.size, 4, none⟩ = some (.slice Ac a.acts.length cc) ∧ w'.cell? ⟨w.heap.size, 5, none⟩ = some (.slice Am a.mots.length cm) ∧ BehC W w' → BehC W w') := Lib.hid (fun w' h => h.2.2.2.2.2.2)
  obtain ⟨c0, c1, c2, c3, c4, c5, -⟩ := HKEEP.out W hS0
  go_region_held3 (fun w' => w'.cell? ⟨w.heap.size, 0, none⟩ = some (.int .i64 a.day) ∧ w'.cell? ⟨w.heap.size, 1, none⟩ = some (.int .i64 a.rule) ∧ w'.cell? ⟨w.heap.size, 2, none⟩ = some (.slice At a.trust.length ct) ∧ w'.cell? ⟨w.heap.size, 3, none⟩ = some (.slice Ab a.base.length cb) ∧ w'.cell? ⟨w.heap.size, 4, none⟩ = some (.slice Ac a.acts.length cc) ∧ w'.cell? ⟨w.heap.size, 5, none⟩ = some (.slice Am a.mots.length cm) ∧ BehC W w')
    (first | exact HKEEP.out _ hS0 | exact HKEEP.out _ hS0.draw | exact HKEEP.out _ (BehC.go (by assumption) (HBEL.out _ (by assumption))) | exact HKEEP.out _ (BehC.go (by assumption) (by assumption)))
    (first
      | (go_at_call 59; refine Calls.mono (HVO.out _ (HBEL.out _ (by assumption))) ?_; rintro e w3 ⟨A3, q3, L3, rfl, hm3, hT3, hb3⟩; have hS3 := BehC.go hb3 (HBEL.out _ (by assumption)))
      | (go_at_call 58; refine Calls.mono (HSE.out w3 _ (hm3 ▸ hT3.vois)) ?_; rintro e w4 ⟨g, cap, rfl, hel, hei, hen, hb4⟩))
  all_goals
    have hS4 : BehC W w4 := BehC.go hb4 hS3
    have HB4 := Lib.hid (HBW.out.trans (Below.mono hS4 HBW.out.size))
    have hR4 := HR0.out.below hS4 hgs
    rw [cnt0 vs (endsL (voices vs a.trust) a.rule)] at hR4
    have HR4 := Lib.hid hR4
    have hgl := hen.row.lt g rfl
    have hw3 : W.heap.size ≤ w3.heap.size := Below.size hS3
    have hgg : ¬ g = w.heap.size + 1 := by omega
    have HNO := Lib.hid hen
    have HEN := Lib.hid hei
    rw [voices_len HL.out] at hel ⊢
    have hlen12 := hel
    have HCM : Hid (countM a vs = countL vs (endsL (voices vs a.trust) a.rule)) := Lib.hid rfl
    have hS4s : w.heap.size + 1 < w4.heap.size := Nat.lt_of_lt_of_le hgs (Below.size hS4)
    clear hR4 hen hei hb4 hm3 hT3 hb3 hS3 hS4 hw3 hgs
    generalize endsL (voices vs a.trust) a.rule = E at *
    rw [← hel]
    clear c0 c1 c2 c3 c4 c5 hS0
    go_wp2
    go_loopw [9, 22, 31, 39, 50] (fun _ i _ _ _ wr => ∃ k : Nat, k ≤ E.length ∧ i = .int .i64 (k : Int) ∧ Row wr (w.heap.size + 1) ((countL vs (E.take k)).map (Value.int .i64)) ∧ Touch (fun c => c = w.heap.size + 1) w4 wr) (fun _ i _ _ _ _ => E.length - (RowKit.intOf i).toNat)
    case atStart => exact ⟨0, Nat.zero_le _, rfl, HR4.out, Touch.refl _ _⟩
    case round =>
      obtain ⟨k, hk, rfl, hrw, ht⟩ := hrel
      have HRW := Lib.hid hrw
      have HT := Lib.hid ht
      clear hrw ht
      by_cases hlt : k < E.length
      · have hek := HEN.out k _ (List.getElem?_eq_getElem hlt)
        have HE := Lib.hid (List.getElem?_eq_getElem hlt)
        have x1 := HT.out.cellAt (HNO.out.at HE.out) hgg
        rcases isEnd_range hek with he | ⟨j, he, hj⟩
        · have HSL : Hid (slotOf vs E[k] = 3) := Lib.hid (by unfold slotOf; rw [if_pos (by omega)])
          rw [he] at x1
          clear hek he
          skip
          have hlc : 3 < (countL vs (E.take k)).length := by rw [countL_len]; decide
          have x5 := HRW.out.cell 3 _ (map_getD hlc)
          have f5 := HRW.out.free 3 (by rw [List.length_map]; exact hlc)
          have hzb := countL_bound vs (E.take k) 3
          have hzk : (E.take k).length ≤ k := by rw [List.length_take]; exact Nat.min_le_left _ _
          have HN := Lib.hid (bump_row HE.out HSL.out HRW.out)
          have HT9 := Lib.hid (HT.out.setCell (p := ⟨w.heap.size + 1, 3, none⟩) rfl (.int .i64 ((countL vs (E.take k)).getD 3 0 + 1)))
          generalize (countL vs (E.take k)).getD 3 0 = z at *
          go_wp2
          go_roundw
          case rel => exact ⟨k + 1, by omega, by go_num, HN.out, HT9.out⟩
          case measure => simp [RowKit.intOf]; omega
        · rw [voices_len HL.out, ← HL.out] at hj
          obtain ⟨bv, ov, rfl, hbv, d0⟩ := ints_get HV.out (List.getElem?_eq_getElem hj)
          have x2 := HT.out.cellAt ((HB4.out.cell (p := ⟨bv, ov + j, none⟩) hbv).trans d0) (show ¬ bv = w.heap.size + 1 by omega)
          have hneg : ¬ (j : Int) < 0 := by omega
          have hji : (j : Int) < (vs.length : Int) := by omega
          have hgd : vs.getD (j : Int).toNat 0 = vs[j] := by simp [List.getD, hj]
          have hsl : slotOf vs E[k] = if vs[j] = 2 then 0 else if vs[j] = 1 then 1 else 2 := by
            unfold slotOf
            rw [he, if_neg hneg, hgd]
          rw [he] at x1
          clear hek he d0 hgd
          generalize vs[j] = y at *
          by_cases h2 : y = 2
          · subst h2
            have HSL : Hid (slotOf vs E[k] = 0) := Lib.hid (by rw [hsl]; rfl)
            clear hsl
            skip
            have hlc : 0 < (countL vs (E.take k)).length := by rw [countL_len]; decide
            have x5 := HRW.out.cell 0 _ (map_getD hlc)
            have f5 := HRW.out.free 0 (by rw [List.length_map]; exact hlc)
            have hzb := countL_bound vs (E.take k) 0
            have hzk : (E.take k).length ≤ k := by rw [List.length_take]; exact Nat.min_le_left _ _
            have HN := Lib.hid (bump_row HE.out HSL.out HRW.out)
            have HT9 := Lib.hid (HT.out.setCell (p := ⟨w.heap.size + 1, 0, none⟩) rfl (.int .i64 ((countL vs (E.take k)).getD 0 0 + 1)))
            generalize (countL vs (E.take k)).getD 0 0 = z at *
            go_wp2
            go_roundw
            case rel => exact ⟨k + 1, by omega, by go_num, HN.out, HT9.out⟩
            case measure => simp [RowKit.intOf]; omega
          · rw [if_neg h2] at hsl
            have q2 : (y == 2) = false := by simpa using h2
            by_cases h1 : y = 1
            · subst h1
              have HSL : Hid (slotOf vs E[k] = 1) := Lib.hid (by rw [hsl]; rfl)
              clear hsl h2
              skip
              have hlc : 1 < (countL vs (E.take k)).length := by rw [countL_len]; decide
              have x5 := HRW.out.cell 1 _ (map_getD hlc)
              have f5 := HRW.out.free 1 (by rw [List.length_map]; exact hlc)
              have hzb := countL_bound vs (E.take k) 1
              have hzk : (E.take k).length ≤ k := by rw [List.length_take]; exact Nat.min_le_left _ _
              have HN := Lib.hid (bump_row HE.out HSL.out HRW.out)
              have HT9 := Lib.hid (HT.out.setCell (p := ⟨w.heap.size + 1, 1, none⟩) rfl (.int .i64 ((countL vs (E.take k)).getD 1 0 + 1)))
              generalize (countL vs (E.take k)).getD 1 0 = z at *
              go_wp2
              go_roundw
              case rel => exact ⟨k + 1, by omega, by go_num, HN.out, HT9.out⟩
              case measure => simp [RowKit.intOf]; omega
            · rw [if_neg h1] at hsl
              have q1 : (y == 1) = false := by simpa using h1
              have HSL := Lib.hid hsl
              clear hsl h1 h2
              skip
              have hlc : 2 < (countL vs (E.take k)).length := by rw [countL_len]; decide
              have x5 := HRW.out.cell 2 _ (map_getD hlc)
              have f5 := HRW.out.free 2 (by rw [List.length_map]; exact hlc)
              have hzb := countL_bound vs (E.take k) 2
              have hzk : (E.take k).length ≤ k := by rw [List.length_take]; exact Nat.min_le_left _ _
              have HN := Lib.hid (bump_row HE.out HSL.out HRW.out)
              have HT9 := Lib.hid (HT.out.setCell (p := ⟨w.heap.size + 1, 2, none⟩) rfl (.int .i64 ((countL vs (E.take k)).getD 2 0 + 1)))
              generalize (countL vs (E.take k)).getD 2 0 = z at *
              go_wp2
              go_roundw
              case rel => exact ⟨k + 1, by omega, by go_num, HN.out, HT9.out⟩
              case measure => simp [RowKit.intOf]; omega
      · have hge : ¬ (k : Int) < (E.length : Int) := by omega
        have HFN : Hid (Row wr (w.heap.size + 1) ((countM a vs).map (Value.int .i64))) := Lib.hid (by
          rw [HCM.out]
          have := HRW.out
          rwa [List.take_of_length_le (by omega)] at this)
        have HBF := Lib.hid (HB4.out.trans (HT.out.below HB4.out.size (fun b hb => by rw [hb]; exact Nat.le_succ _)))
        have hwl : w.heap.size + 1 < wr.heap.size := Nat.lt_of_lt_of_le hS4s HT.out.size
        go_wp2
        go_ret
        exact ⟨w.heap.size + 1, rfl, count_own (Nat.le_succ _) hwl HFN.out, HBF.out⟩
end Go.Proofs.YtnandbammmcncaaGreat
