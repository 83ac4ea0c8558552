/- The statute of a day, the program's, walked. A patch applied, the reference's, walked. The statute of a day, the reference's, walked. A patch drawn, with room behind it, walked: the reference's. Patches drawn that may be none, walked: the reference's. A base and acts that are being drawn: what is held. A base and acts drawn, walked: the reference's. Valid acts drawn, walked: the reference's. The days on which acts begin or end, before they are sorted: the program's; put to their place: the reference's. Sorted lists compacted; the sort and the compaction at int64, by the library's contracts. The days on which acts begin or end, walked: the program's. Statutes between turns: plain. The intervals of broken days, walked: the program's. Statutes compared, the broken and the changed days, walked: the program's. The changed days, walked: the program's. A number chosen by a byte, a number in a list, walked: the laws'. Edits that fit a statute, walked: the reference's. A statute and two patches drawn that fit it, walked: the reference's. What patches merge to, as plain laws. No program is walked here. What is too long for a law, walked; what a slice of bytes that came in is. FnMerged, walked. FnDays, walked. A number put to its place, and the turns, walked: the reference's. The turns, walked: the reference's. -/
import Derived.Test.YtnandbammmcncaaGreatQC
import Derived.Maps.AppendAt
import Derived.Test.YtnandbammmcncaaGreatShelfT
import Derived.OwnWalk
import Derived.Test.YtnandbammmcncaaGreatQB
import Derived.ProofKit
import Derived.OpenShut
import Derived.Below
namespace Go.Proofs.YtnandbammmcncaaGreat
open Go.RowKit Go.Lib

theorem apply_step {R T : List Art} {P : List Edit} (hR : okStat R = true) (hP : okPatch P = true) (h : applyO R P = some T) : okStat T = true := (applyO_ok (GoodA.of hR) hP h).1
set_option maxRecDepth 100000 in
set_option maxHeartbeats 4000000 in
theorem textOn2_any (S : List Art) (ls : List Acta) (day : Int) (w : World) (vs va : Value) (hS : Arts w w.heap.size vs S) (hA : Acts w w.heap.size va ls) (hok : okStat S = true) (hp : okActs ls = true) :
    Calls Tryz.prog 171 #[vs, va, .int .i64 day] w (OnPost S ls day w) := by
  have hl8 := okActs_len hp
  have hS8 := okStat_len hok
  have bW := (Below.refl w.heap.size w).alloc (Nat.le_refl _) (.cells #[] 141)
  have HS0 := Lib.hid (SlR.on hS (Pl.stays _) bW bW.size)
  have HA := Lib.hid (fun w' (hb : Below w.heap.size w w') => hA.on hb hb.size)
  have HOK := Lib.hid hok
  have HP := Lib.hid hp
  have HB0 := Lib.hid bW
  have hown0 : (w.alloc (.cells #[] 141)).ownsRow w.heap.size 141 2 (.slice (some ⟨w.heap.size, 0, none⟩) 0 0) 0 [] := by simpa using World.ownsRow_made w #[] 0 (Nat.le_refl _) (Nat.zero_le _) rfl
  have HOWN0 := Lib.hid hown0
  obtain ⟨A, c, rfl, hc, hm, hel⟩ := acts_at hA
  have HEL := Lib.hid hel
  obtain ⟨T, tc, rfl, _⟩ := hS
  obtain ⟨i0, hi, hz0, hz1, hz2⟩ := info_parts Tryz.infoA
  clear hel hok hp bW hown0 hA
  go_enter Tryz.func171, Tryz.ntmps171
  go_wp2_with (at_builtin; refine wpList_append_slR artCells rfl _ _ 32 rfl w.heap.size 141 i0 (.agg #[.int .i64 0, .string ⟨#[]⟩]) 2 24 Tryz.underlying32 hi hz0 hz1 hz2 rfl (by decide) _ _ _ rfl HOWN0.out _ S _ rfl HS0.out (fun _ => rfl) (fun y u hu => art_one hu) ?c3 ?c4 HB0.out.size ?_)
  case c3 => unfold maxLen; omega
  case c4 => omega
  intro o1 w1 hown1 hgrow1 hnn1
  have HO1 : Hid (OwnL artCells S w.heap.size w1 o1) := Lib.hid (OwnL.of_own artCells (size := 2) (fun _ => rfl) (by simpa using hown1))
  have HB1 : Hid (Below w.heap.size w w1) := Lib.hid (HB0.out.grown hgrow1 HB0.out.size (fun j hj => (HOWN0.out.lt j hj).1))
  have HF := Lib.hid (force2_any ls day w1 _ (HA.out w1 HB1.out) (by omega))
  obtain ⟨A1, c1, rfl, _⟩ := HO1.out
  clear hown1 hgrow1 hnn1
  go_wp2_with (fail)
  refine (HF.out).mono ?_
  rintro e w2 ⟨v2, rfl, hO2, hb2⟩
  have HB2 : Hid (Below w.heap.size w w2) := Lib.hid (HB1.out.trans (hb2.mono HB1.out.size))
  have HO2 : Hid (OwnL artCells S w.heap.size w2 (.slice A1 S.length c1)) := Lib.hid (HO1.out.on hb2)
  have HFL : Hid (∀ w' : World, Below w2.heap.size w2 w' → SlR (Pl intCells) 1 w' w'.heap.size v2 (forceI ls day)) := Lib.hid (fun w' hb => (hO2.on hb).slR (size := 1) (fun _ => rfl))
  have hfl : (forceI ls day).length ≤ ls.length := forceK_len ls day ls.length
  obtain ⟨A2, c2, rfl, _⟩ := hO2
  clear hb2 HF
  go_wp2
  go_loopw [8, 9, 11, 19] (fun o k _ i wr => ∃ (k : Nat) (R : List Art), i = .int .i64 (k : Int) ∧ k ≤ (forceI ls day).length ∧ onK S ls day k = some R ∧ OwnL artCells R w.heap.size wr o ∧ okStat R = true ∧ Below w2.heap.size w2 wr) (fun _ _ _ i _ => (forceI ls day).length - (RowKit.intOf i).toNat)
  case atStart => exact ⟨0, S, rfl, Nat.zero_le _, rfl, HO2.out, HOK.out, Below.refl _ _⟩
  case round =>
    obtain ⟨k, R, rfl, hk, hon, hown, hokR, hb⟩ := hrel
    have HB := Lib.hid hb
    have HON := Lib.hid hon
    have HOKR := Lib.hid hokR
    have HOWN := Lib.hid hown
    obtain ⟨A3, c3, rfl, _⟩ := hown
    clear hon hokR
    by_cases hlt : k < (forceI ls day).length
    · obtain ⟨A', c', hv, _, _, hel2⟩ := HFL.out wr hb
      injection hv with hv1 hv2 hv3
      subst hv1 hv3
      obtain ⟨b2, off2, rfl, hb2lt, hcell2⟩ := hel2 (by omega)
      have hget2 : (forceI ls day)[k]? = some (forceI ls day)[k] := List.getElem?_eq_getElem hlt
      obtain ⟨us, _, hp, hcc⟩ := hcell2 k _ hget2
      have hp : us = intCells (forceI ls day)[k] := hp
      subst hp
      have x9 : wr.cell? ⟨b2, off2 + k, none⟩ = some (.int .i64 (forceI ls day)[k]) := by have := hcc 0 _ rfl; simpa using this
      obtain ⟨j, hj, hjl⟩ := forceI_at hget2
      rw [hj] at x9 hget2
      obtain ⟨b, off, rfl, hblt, hcell⟩ := HEL.out (by omega)
      have hget : ls[j]? = some ls[j] := List.getElem?_eq_getElem hjl
      obtain ⟨pv, _, _, d2, hE⟩ := hcell j _ hget
      have hbw := HB2.out.trans (hb.mono HB2.out.size)
      have x2 := (hbw.cell (p := ⟨b, off + j * 3 + 2, none⟩) hblt).trans d2
      have hE2 : Edits wr wr.heap.size pv ls[j].pat := SlR.on hE (Pl.stays _) hbw hbw.size
      have HAC := Lib.hid (okActa_iff.1 (okActs_at HP.out hget)).pat
      have HST : Hid (onK S ls day (k + 1) = applyO R ls[j].pat) := Lib.hid (by rw [onK_succ hget2, HON.out, stepO_at R hget])
      have HAP := Lib.hid (applied_any R ls[j].pat wr _ _ (HOWN.out.slR (size := 2) (fun _ => rfl)) hE2 HOKR.out HAC.out)
      have HNX := Lib.hid (fun T => apply_step (T := T) HOKR.out HAC.out)
      generalize ls[j].pat = P at *
      obtain ⟨pA, pc, rfl, _⟩ := hE2
      clear hel2 hcell2 hget2 hcc hj hcell hget d2 hE hb hv2 hbw
      go_wp2_with (fail)
      refine (HAP.out).mono ?_
      rintro e w3 ⟨v3, rfl, hO3, ⟨A4, n4, c4, rfl⟩, hb3⟩
      have HB3 := Lib.hid (HB.out.trans (hb3.mono HB.out.size))
      cases hr : applyO R P with
      | none =>
        have HNO : Hid (onO S ls day = none) := Lib.hid (onK_none (HST.out.trans hr))
        clear hr hO3 hb3
        go_wp2
        go_ret2
        exact ⟨_, by rw [HNO.out]; rfl, (fun R h => by rw [HNO.out] at h; cases h), ⟨_, _, _, rfl⟩, HB2.out.trans (HB3.out.mono HB2.out.size)⟩
      | some T =>
        have HT := Lib.hid ((hO3 T hr).less (HB2.out.trans (HB.out.mono HB2.out.size)).size)
        have HON2 : Hid (onK S ls day (k + 1) = some T) := Lib.hid (HST.out.trans hr)
        have HOK2 := Lib.hid (HNX.out T hr)
        clear hr hO3 hb3
        go_wp2
        go_roundw
        case rel => exact ⟨k + 1, T, by go_num, by omega, HON2.out, HT.out, HOK2.out, HB3.out⟩
        case measure => simp [RowKit.intOf]; omega
    · have hge : ¬ (k : Int) < ((forceI ls day).length : Int) := by omega
      have HFIN : Hid (onO S ls day = some R) := Lib.hid (by rw [← onK_all (k := k) (by omega)]; exact HON.out)
      clear hlt hb
      go_wp2
      go_ret2
      exact ⟨_, by rw [HFIN.out]; rfl, (fun T h => by rw [HFIN.out] at h; injection h with h; subst h; exact ⟨HOWN.out, HOKR.out⟩), ⟨_, _, _, rfl⟩, HB2.out.trans (HB.out.mono HB2.out.size)⟩

end Go.Proofs.YtnandbammmcncaaGreat

namespace Go.Proofs.YtnandbammmcncaaGreat
open Go.RowKit Go.Lib

def applyK (S : List Art) (P : List Edit) (n : Nat) : List Art :=
  (List.range n).filterMap (fun j : Nat => if (target S P ((j : Int) + 1)).toList = [] then none else some ⟨(j : Int) + 1, target S P ((j : Int) + 1)⟩)
theorem applyK_no {S : List Art} {P : List Edit} {n : Nat} (h : (target S P ((n : Int) + 1)).toList = []) : applyK S P (n + 1) = applyK S P n := by
  unfold applyK
  rw [List.range_succ, List.filterMap_append]
  simp [h]
theorem applyK_yes {S : List Art} {P : List Edit} {n : Nat} (h : (target S P ((n : Int) + 1)).toList ≠ []) : applyK S P (n + 1) = applyK S P n ++ [⟨(n : Int) + 1, target S P ((n : Int) + 1)⟩] := by
  unfold applyK
  rw [List.range_succ, List.filterMap_append]
  simp [h]
theorem applyK_len (S : List Art) (P : List Edit) (n : Nat) : (applyK S P n).length ≤ n := by
  unfold applyK
  exact Nat.le_trans (List.length_filterMap_le _ _) (by simp)
def fitAt (S : List Art) (P : List Edit) (i : Int) : Prop := (editOf P i).kind ≠ 0 → (findA S i).toList = (editOf P i).old.toList
theorem fitAt_bad {S : List Art} {P : List Edit} {i : Int} (h1 : (editOf P i).kind ≠ 0) (h2 : (findA S i).toList ≠ (editOf P i).old.toList) : applyO S P = none := by
  apply applyO_no
  rw [Bool.eq_false_iff]
  intro hf
  rcases editOf_cases P i with ⟨hm, hi⟩ | ⟨hn, _⟩
  · have := fits_iff.1 hf _ hm
    rw [hi] at this
    exact h2 (by rw [this])
  · rw [hn] at h1
    exact h1 rfl
theorem fit_all {S : List Art} {P : List Edit} (hP : okPatch P = true) (h : ∀ j : Nat, j < 99 → fitAt S P ((j : Int) + 1)) : fits S P = true := by
  obtain ⟨ha, hr, _⟩ := (okPatch_iff P).1 hP
  rw [fits_iff]
  intro e he
  obtain ⟨h1, h2, hk⟩ := okEdit_kinds (ha e he)
  have hee : editOf P e.id = e := editOf_mem hr he
  have := h (e.id - 1).toNat (by omega)
  have e1 : (((e.id - 1).toNat : Nat) : Int) + 1 = e.id := by omega
  rw [e1] at this
  have := this (by rw [hee]; omega)
  rw [hee] at this
  rw [← mk_toList (findA S e.id), this, mk_toList]

set_option maxRecDepth 100000 in
set_option maxHeartbeats 4000000 in
theorem apply1_any (S : List Art) (P : List Edit) (w : World) (vs vp : Value) (hS : Arts w w.heap.size vs S) (hE : Edits w w.heap.size vp P) (hp : okPatch P = true) :
    Calls Tryz.prog 176 #[vs, vp] w (AppPost S P w) := by
  have HS := Lib.hid (fun w' (hb : Below w.heap.size w w') (q : Int) => find1_any S q w' vs (SlR.on hS (Pl.stays _) hb hb.size))
  have HE := Lib.hid (fun w' (hb : Below w.heap.size w w') (q : Int) => editOf1_any P q w' vp (SlR.on hE (Pl.stays _) hb hb.size))
  have HP := Lib.hid hp
  have bW := (Below.refl w.heap.size w).alloc (Nat.le_refl _) (.cells #[] 141)
  have HB0 := Lib.hid bW
  have hown0 : (w.alloc (.cells #[] 141)).ownsRow w.heap.size 141 2 (.slice (some ⟨w.heap.size, 0, none⟩) 0 0) 0 [] := by simpa using World.ownsRow_made w #[] 0 (Nat.le_refl _) (Nat.zero_le _) rfl
  have HOWN0 := Lib.hid hown0
  obtain ⟨A, c, rfl, _⟩ := hS
  obtain ⟨A2, c2, rfl, _⟩ := hE
  obtain ⟨i0, hi, hz0, hz1, hz2⟩ := info_parts Tryz.infoA
  clear hp bW hown0
  go_enter Tryz.func176, Tryz.ntmps176
  go_wp2
  go_loopw [6, 7] (fun o i wr => ∃ (j : Nat), i = .int .i64 ((j : Int) + 1) ∧ j ≤ 99 ∧ wr.ownsRow w.heap.size 141 2 o (applyK S P j).length ((applyK S P j).flatMap artCells) ∧ o ≠ .slice none 0 0 ∧ (∀ m : Nat, m < j → fitAt S P ((m : Int) + 1)) ∧ Below w.heap.size w wr) (fun _ i _ => 100 - (RowKit.intOf i).toNat)
  case atStart => exact ⟨0, rfl, Nat.zero_le _, HOWN0.out, by simp, (fun m h => absurd h (Nat.not_lt_zero _)), HB0.out⟩
  case round =>
    obtain ⟨j, rfl, hj, hown, hnn, hfit, hb⟩ := hrel
    obtain ⟨g, cap, rfl, hdc, hcm⟩ := own_some hown hnn
    unfold maxLen at hcm
    have HOWN := Lib.hid hown
    have HFIT0 := Lib.hid hfit
    have HB := Lib.hid hb
    have hkl := applyK_len S P j
    clear hown hnn hfit hb
    by_cases hlt : j < 99
    · have hc : (j : Int) + 1 ≤ 99 := by omega
      have HF := Lib.hid (HS.out wr HB.out ((j : Int) + 1))
      have HT : Hid (target S P ((j : Int) + 1) = if (editOf P ((j : Int) + 1)).kind = 0 then findA S ((j : Int) + 1) else (editOf P ((j : Int) + 1)).new) := Lib.hid rfl
      have HNO := Lib.hid (fun h => applyK_no (S := S) (P := P) (n := j) h)
      have HYES := Lib.hid (fun h => applyK_yes (S := S) (P := P) (n := j) h)
      have HBAD := Lib.hid (fun h1 h2 => fitAt_bad (S := S) (P := P) (i := (j : Int) + 1) h1 h2)
      have HFA : Hid (fitAt S P ((j : Int) + 1) ↔ ((editOf P ((j : Int) + 1)).kind ≠ 0 → (findA S ((j : Int) + 1)).toList = (editOf P ((j : Int) + 1)).old.toList)) := Lib.hid Iff.rfl
      have HFIT : Hid (fitAt S P ((j : Int) + 1) → ∀ m : Nat, m < j + 1 → fitAt S P ((m : Int) + 1)) := Lib.hid (fun h m hm => by
        by_cases e : m = j
        · rw [e]; exact h
        · exact HFIT0.out m (by omega))
      go_wp2_with (fail)
      refine (HF.out).mono ?_
      rintro e' w1 ⟨rfl, m, rfl⟩
      have HB1 := Lib.hid (below_drewN HB.out m)
      have HED := Lib.hid (HE.out _ HB1.out ((j : Int) + 1))
      have HOWN1 := Lib.hid (own_below HOWN.out (below_drewN (Below.refl wr.heap.size wr) m))
      generalize findA S ((j : Int) + 1) = F at *
      generalize editOf P ((j : Int) + 1) = e at *
      generalize applyK S P j = Z at *
      clear HF
      go_wp2_with (fail)
      refine (HED.out).mono ?_
      rintro e' w2 ⟨rfl, hb2⟩
      have HB2 := Lib.hid (HB1.out.trans (hb2.mono HB1.out.size))
      have HOWN2 := Lib.hid (own_below HOWN1.out hb2)
      clear HED hb2
      unfold editV
      by_cases hk0 : e.kind = 0
      · have e0 : (e.kind == 0) = true := by simp [hk0]
        replace HFIT := Lib.hid (HFIT.out (HFA.out.2 (fun h => absurd hk0 h)))
        have hT := HT.out
        rw [if_pos hk0] at hT
        rw [hT] at HNO HYES
        clear hk0 HBAD
        by_cases hn : F.toList = []
        · have en : (F.toList == []) = true := by simp [hn]
          replace HNO := Lib.hid (HNO.out hn)
          clear HYES hn
          go_wp2
          go_roundw
          case rel => exact ⟨j + 1, by go_num, by omega, by rw [HNO.out]; exact HOWN2.out.alloc _, by simp, HFIT.out, HB2.out.alloc HB2.out.size _⟩
          case measure => simp [RowKit.intOf]; omega
        · have en : (F.toList == []) = false := by simp [hn]
          replace HYES := Lib.hid (HYES.out hn)
          clear HNO hn
          have hg2 := (HOWN2.out.lt g rfl).2
          go_wp2_with (at_builtin; refine wpList_append_own _ rfl _ _ 32 rfl w.heap.size 141 i0 (.agg #[.int .i64 0, .string ⟨#[]⟩]) 2 24 Tryz.underlying32 hi hz0 hz1 hz2 rfl (by decide) _ _ _ rfl ((HOWN2.out.alloc _).alloc _) ⟨w2.heap.size + 1, 0, none⟩ 1 1 (artCells ⟨(j : Int) + 1, F⟩) rfl rfl (fun j u hj => new_at2 hj) (fun u hu => art_one hu) ?c3 ?c4 (base_le (base_le HB2.out.size)) ?_)
          case c3 => unfold maxLen; omega
          case c4 => omega
          · intro v' w9 hown' hgrow hiff
            have hnn' : v' ≠ .slice none 0 0 := by simpa using hiff
            have hb9 := ((HB2.out.alloc HB2.out.size (.cells #[.int .i64 e.kind, .int .i64 e.id, .string e.old, .string e.new] 162)).alloc (base_le HB2.out.size) (.cells #[.int .i64 ((j : Int) + 1), .string F] 141)).grown hgrow (base_le (base_le HB2.out.size)) (fun j hj => (HOWN2.out.lt j hj).1)
            clear hgrow hiff
            go_wp2
            go_roundw
            case rel => exact ⟨j + 1, by go_num, by omega, by rw [HYES.out, List.flatMap_append, List.length_append]; simpa using hown', hnn', HFIT.out, hb9⟩
            case measure => simp [RowKit.intOf]; omega
      · have e0 : (e.kind == 0) = false := by simp [hk0]
        by_cases hf : F.toList = e.old.toList
        · have ef : (F.toList == e.old.toList) = true := by simp [hf]
          replace HFIT := Lib.hid (HFIT.out (HFA.out.2 (fun _ => hf)))
          have hT := HT.out
          rw [if_neg hk0] at hT
          rw [hT] at HNO HYES
          clear hk0 HBAD hf
          by_cases hn : e.new.toList = []
          · have en : (e.new.toList == []) = true := by simp [hn]
            replace HNO := Lib.hid (HNO.out hn)
            clear HYES hn
            go_wp2
            go_roundw
            case rel => exact ⟨j + 1, by go_num, by omega, by rw [HNO.out]; exact HOWN2.out.alloc _, by simp, HFIT.out, HB2.out.alloc HB2.out.size _⟩
            case measure => simp [RowKit.intOf]; omega
          · have en : (e.new.toList == []) = false := by simp [hn]
            replace HYES := Lib.hid (HYES.out hn)
            clear HNO hn
            have hg2 := (HOWN2.out.lt g rfl).2
            go_wp2_with (at_builtin; refine wpList_append_own _ rfl _ _ 32 rfl w.heap.size 141 i0 (.agg #[.int .i64 0, .string ⟨#[]⟩]) 2 24 Tryz.underlying32 hi hz0 hz1 hz2 rfl (by decide) _ _ _ rfl ((HOWN2.out.alloc _).alloc _) ⟨w2.heap.size + 1, 0, none⟩ 1 1 (artCells ⟨(j : Int) + 1, e.new⟩) rfl rfl (fun j u hj => new_at2 hj) (fun u hu => art_one hu) ?c3 ?c4 (base_le (base_le HB2.out.size)) ?_)
            case c3 => unfold maxLen; omega
            case c4 => omega
            · intro v' w9 hown' hgrow hiff
              have hnn' : v' ≠ .slice none 0 0 := by simpa using hiff
              have hb9 := ((HB2.out.alloc HB2.out.size (.cells #[.int .i64 e.kind, .int .i64 e.id, .string e.old, .string e.new] 162)).alloc (base_le HB2.out.size) (.cells #[.int .i64 ((j : Int) + 1), .string e.new] 141)).grown hgrow (base_le (base_le HB2.out.size)) (fun j hj => (HOWN2.out.lt j hj).1)
              clear hgrow hiff
              go_wp2
              go_roundw
              case rel => exact ⟨j + 1, by go_num, by omega, by rw [HYES.out, List.flatMap_append, List.length_append]; simpa using hown', hnn', HFIT.out, hb9⟩
              case measure => simp [RowKit.intOf]; omega
        · have ef : (F.toList == e.old.toList) = false := by simp [hf]
          replace HBAD := Lib.hid (HBAD.out hk0 hf)
          clear hk0 hf
          go_wp2
          go_ret2
          exact ⟨_, by rw [HBAD.out]; rfl, (fun R h => by rw [HBAD.out] at h; cases h), ⟨_, _, _, rfl⟩, HB2.out.alloc HB2.out.size _⟩
    · have hc : ¬ (j : Int) + 1 ≤ 99 := by omega
      have HFS := Lib.hid (fit_all HP.out (fun m hm => HFIT0.out m (by omega)))
      have HAL : Hid (applyK S P j = applyL S P) := Lib.hid (by rw [show j = 99 from by omega]; rfl)
      have HOL := Lib.hid (OwnL.of_own artCells (size := 2) (fun _ => rfl) HOWN.out)
      have HAO : Hid (applyO S P = if (applyK S P j).length ≤ 8 then some (applyK S P j) else none) := Lib.hid (by
        rw [HAL.out]
        unfold applyO
        rw [HFS.out]
        simp)
      generalize applyK S P j = Z at *
      clear hlt
      by_cases h8 : Z.length ≤ 8
      · have e8 : decide ((Z.length : Int) ≤ 8) = true := by simp; omega
        have HS : Hid (applyO S P = some Z) := Lib.hid (by rw [HAO.out, if_pos h8])
        clear h8
        go_wp2
        go_ret2
        exact ⟨.slice (some ⟨g, 0, none⟩) Z.length cap, by rw [HS.out]; simp, (fun R h => by rw [HS.out] at h; injection h with h; subst h; exact HOL.out), ⟨_, _, _, rfl⟩, HB.out⟩
      · have e8 : decide ((Z.length : Int) ≤ 8) = false := by simp; omega
        have HS : Hid (applyO S P = none) := Lib.hid (by rw [HAO.out, if_neg h8])
        clear h8
        go_wp2
        go_ret2
        exact ⟨.slice (some ⟨g, 0, none⟩) Z.length cap, by rw [HS.out]; simp, (fun R h => by rw [HS.out] at h; cases h), ⟨_, _, _, rfl⟩, HB.out⟩
end Go.Proofs.YtnandbammmcncaaGreat

namespace Go.Proofs.YtnandbammmcncaaGreat
open Go.RowKit Go.Lib

set_option maxRecDepth 100000 in
set_option maxHeartbeats 4000000 in
theorem on1_any (S : List Art) (ls : List Acta) (day : Int) (w : World) (vs va : Value) (hS : Arts w w.heap.size vs S) (hA : Acts w w.heap.size va ls) (hok : okStat S = true) (hp : okActs ls = true) :
    Calls Tryz.prog 155 #[vs, va, .int .i64 day] w (OnPost S ls day w) := by
  have hl8 := okActs_len hp
  have hS8 := okStat_len hok
  have bW := (Below.refl w.heap.size w).alloc (Nat.le_refl _) (.cells #[] 141)
  have HS0 := Lib.hid (SlR.on hS (Pl.stays _) bW bW.size)
  have HA := Lib.hid (fun w' (hb : Below w.heap.size w w') => hA.on hb hb.size)
  have HOK := Lib.hid hok
  have HP := Lib.hid hp
  have HB0 := Lib.hid bW
  have hown0 : (w.alloc (.cells #[] 141)).ownsRow w.heap.size 141 2 (.slice (some ⟨w.heap.size, 0, none⟩) 0 0) 0 [] := by simpa using World.ownsRow_made w #[] 0 (Nat.le_refl _) (Nat.zero_le _) rfl
  have HOWN0 := Lib.hid hown0
  obtain ⟨A, c, rfl, hc, hm, hel⟩ := acts_at hA
  have HEL := Lib.hid hel
  obtain ⟨T, tc, rfl, _⟩ := hS
  obtain ⟨i0, hi, hz0, hz1, hz2⟩ := info_parts Tryz.infoA
  clear hel hok hp bW hown0 hA
  go_enter Tryz.func155, Tryz.ntmps155
  go_wp2_with (at_builtin; refine wpList_append_slR artCells rfl _ _ 32 rfl w.heap.size 141 i0 (.agg #[.int .i64 0, .string ⟨#[]⟩]) 2 24 Tryz.underlying32 hi hz0 hz1 hz2 rfl (by decide) _ _ _ rfl HOWN0.out _ S _ rfl HS0.out (fun _ => rfl) (fun y u hu => art_one hu) ?c3 ?c4 HB0.out.size ?_)
  case c3 => unfold maxLen; omega
  case c4 => omega
  intro o1 w1 hown1 hgrow1 hnn1
  have HO1 : Hid (OwnL artCells S w.heap.size w1 o1) := Lib.hid (OwnL.of_own artCells (size := 2) (fun _ => rfl) (by simpa using hown1))
  have HB1 : Hid (Below w.heap.size w w1) := Lib.hid (HB0.out.grown hgrow1 HB0.out.size (fun j hj => (HOWN0.out.lt j hj).1))
  have HF := Lib.hid (force1_any ls day w1 _ (HA.out w1 HB1.out) (by omega))
  obtain ⟨A1, c1, rfl, _⟩ := HO1.out
  clear hown1 hgrow1 hnn1
  go_wp2_with (fail)
  refine (HF.out).mono ?_
  rintro e w2 ⟨v2, rfl, hO2, hb2⟩
  have HB2 : Hid (Below w.heap.size w w2) := Lib.hid (HB1.out.trans (hb2.mono HB1.out.size))
  have HO2 : Hid (OwnL artCells S w.heap.size w2 (.slice A1 S.length c1)) := Lib.hid (HO1.out.on hb2)
  have HFL : Hid (∀ w' : World, Below w2.heap.size w2 w' → SlR (Pl intCells) 1 w' w'.heap.size v2 (forceI ls day)) := Lib.hid (fun w' hb => (hO2.on hb).slR (size := 1) (fun _ => rfl))
  have hfl : (forceI ls day).length ≤ ls.length := forceK_len ls day ls.length
  obtain ⟨A2, c2, rfl, _⟩ := hO2
  clear hb2 HF
  go_wp2
  go_loopw [8, 10] (fun o i wr => ∃ (k : Nat) (R : List Art), i = .int .i64 (k : Int) ∧ k ≤ (forceI ls day).length ∧ onK S ls day k = some R ∧ OwnL artCells R w.heap.size wr o ∧ okStat R = true ∧ Below w2.heap.size w2 wr) (fun _ i _ => (forceI ls day).length - (RowKit.intOf i).toNat)
  case atStart => exact ⟨0, S, rfl, Nat.zero_le _, rfl, HO2.out, HOK.out, Below.refl _ _⟩
  case round =>
    obtain ⟨k, R, rfl, hk, hon, hown, hokR, hb⟩ := hrel
    have HB := Lib.hid hb
    have HON := Lib.hid hon
    have HOKR := Lib.hid hokR
    have HOWN := Lib.hid hown
    obtain ⟨A3, c3, rfl, _⟩ := hown
    clear hon hokR
    by_cases hlt : k < (forceI ls day).length
    · obtain ⟨A', c', hv, _, _, hel2⟩ := HFL.out wr hb
      injection hv with hv1 hv2 hv3
      subst hv1 hv3
      obtain ⟨b2, off2, rfl, hb2lt, hcell2⟩ := hel2 (by omega)
      have hget2 : (forceI ls day)[k]? = some (forceI ls day)[k] := List.getElem?_eq_getElem hlt
      obtain ⟨us, _, hp, hcc⟩ := hcell2 k _ hget2
      have hp : us = intCells (forceI ls day)[k] := hp
      subst hp
      have x9 : wr.cell? ⟨b2, off2 + k, none⟩ = some (.int .i64 (forceI ls day)[k]) := by have := hcc 0 _ rfl; simpa using this
      obtain ⟨j, hj, hjl⟩ := forceI_at hget2
      rw [hj] at x9 hget2
      obtain ⟨b, off, rfl, hblt, hcell⟩ := HEL.out (by omega)
      have hget : ls[j]? = some ls[j] := List.getElem?_eq_getElem hjl
      obtain ⟨pv, _, _, d2, hE⟩ := hcell j _ hget
      have hbw := HB2.out.trans (hb.mono HB2.out.size)
      have x2 := (hbw.cell (p := ⟨b, off + j * 3 + 2, none⟩) hblt).trans d2
      have hE2 : Edits wr wr.heap.size pv ls[j].pat := SlR.on hE (Pl.stays _) hbw hbw.size
      have HAC := Lib.hid (okActa_iff.1 (okActs_at HP.out hget)).pat
      have HST : Hid (onK S ls day (k + 1) = applyO R ls[j].pat) := Lib.hid (by rw [onK_succ hget2, HON.out, stepO_at R hget])
      have HAP := Lib.hid (apply1_any R ls[j].pat wr _ _ (HOWN.out.slR (size := 2) (fun _ => rfl)) hE2 HAC.out)
      have HNX := Lib.hid (fun T => apply_step (T := T) HOKR.out HAC.out)
      generalize ls[j].pat = P at *
      obtain ⟨pA, pc, rfl, _⟩ := hE2
      clear hel2 hcell2 hget2 hcc hj hcell hget d2 hE hb hv2 hbw
      go_wp2_with (fail)
      refine (HAP.out).mono ?_
      rintro e w3 ⟨v3, rfl, hO3, ⟨A4, n4, c4, rfl⟩, hb3⟩
      have HB3 := Lib.hid (HB.out.trans (hb3.mono HB.out.size))
      cases hr : applyO R P with
      | none =>
        have HNO : Hid (onO S ls day = none) := Lib.hid (onK_none (HST.out.trans hr))
        clear hr hO3 hb3
        go_wp2
        go_ret2
        exact ⟨_, by rw [HNO.out]; rfl, (fun R h => by rw [HNO.out] at h; cases h), ⟨_, _, _, rfl⟩, HB2.out.trans (HB3.out.mono HB2.out.size)⟩
      | some T =>
        have HT := Lib.hid ((hO3 T hr).less (HB2.out.trans (HB.out.mono HB2.out.size)).size)
        have HON2 : Hid (onK S ls day (k + 1) = some T) := Lib.hid (HST.out.trans hr)
        have HOK2 := Lib.hid (HNX.out T hr)
        clear hr hO3 hb3
        go_wp2
        go_roundw
        case rel => exact ⟨k + 1, T, by go_num, by omega, HON2.out, HT.out, HOK2.out, HB3.out⟩
        case measure => simp [RowKit.intOf]; omega
    · have hge : ¬ (k : Int) < ((forceI ls day).length : Int) := by omega
      have HFIN : Hid (onO S ls day = some R) := Lib.hid (by rw [← onK_all (k := k) (by omega)]; exact HON.out)
      clear hlt hb
      go_wp2
      go_ret2
      exact ⟨_, by rw [HFIN.out]; rfl, (fun T h => by rw [HFIN.out] at h; injection h with h; subst h; exact ⟨HOWN.out, HOKR.out⟩), ⟨_, _, _, rfl⟩, HB2.out.trans (HB.out.mono HB2.out.size)⟩
end Go.Proofs.YtnandbammmcncaaGreat

namespace Go.Proofs.YtnandbammmcncaaGreat
open Go.RowKit Go.Lib

end Go.Proofs.YtnandbammmcncaaGreat

namespace Go.Proofs.YtnandbammmcncaaGreat
open Go.RowKit Go.Lib

end Go.Proofs.YtnandbammmcncaaGreat

namespace Go.Proofs.YtnandbammmcncaaGreat
open Go.RowKit Go.Lib

theorem OwnL.apart {α : Type} {f : α → List Value} {xs : List α} {base b : Nat} {w w' : World} {v : Value} (h : OwnL f xs base w v) (ho : Only b w w') (hne : xs ≠ [] → v.ownBlock ≠ some b) : OwnL f xs base w' v := by
  obtain ⟨A, c, rfl, h1, h2, h3⟩ := h
  refine ⟨A, c, rfl, h1, h2, fun h0 => ?_⟩
  obtain ⟨g, rfl, hg, hlt, hr⟩ := h3 h0
  exact ⟨g, rfl, hg, Nat.lt_of_lt_of_le hlt ho.size, hr.only hlt (fun e => hne h0 (by rw [← e]; rfl)) ho⟩
theorem OwnL.blk {α : Type} {f : α → List Value} {xs : List α} {base : Nat} {w : World} {v : Value} (h : OwnL f xs base w v) (h0 : xs ≠ []) : ∃ g, v.ownBlock = some g ∧ base ≤ g ∧ g < w.heap.size := by
  obtain ⟨A, c, rfl, h1, h2, h3⟩ := h
  obtain ⟨g, rfl, hg, hlt, _⟩ := h3 h0
  exact ⟨g, rfl, hg, hlt⟩
structure DrawSt (base : Nat) (w : World) (S T : List Art) (vs vt : Value) (g cap : Nat) (L : List VAct) : Prop where
  s : OwnL artCells S base w vs
  sn : S ≠ [] → vs.ownBlock ≠ some g
  t : OwnL artCells T base w vt
  tn : T ≠ [] → vt.ownBlock ≠ some g
  row : w.ownsRow base 144 3 (.slice (some ⟨g, 0, none⟩) L.length cap) L.length (L.flatMap vCells)
  pats : ∀ x ∈ L, OwnL editCells x.a.pat base w x.v ∧ (x.a.pat ≠ [] → x.v.ownBlock ≠ some g) ∧ SizesOk x.a.pat
theorem DrawSt.only {base b : Nat} {w w' : World} {S T : List Art} {vs vt : Value} {g cap : Nat} {L : List VAct} (h : DrawSt base w S T vs vt g cap L) (hb : b < base) (ho : Only b w w') : DrawSt base w' S T vs vt g cap L :=
  ⟨h.s.only hb ho, h.sn, h.t.only hb ho, h.tn, own_only h.row hb ho, fun x hx => ⟨(h.pats x hx).1.only hb ho, (h.pats x hx).2⟩⟩
theorem DrawSt.push {base : Nat} {w w' : World} {S T : List Art} {vs vt : Value} {g cap g' cap' : Nat} {L : List VAct} {x : VAct} (h : DrawSt base w S T vs vt g cap L) (hg : w.grownBy w' (some g))
    (hor : g' = g ∨ g' = w.heap.size) (hrow : w'.ownsRow base 144 3 (.slice (some ⟨g', 0, none⟩) (L.length + 1) cap') (L.length + 1) (L.flatMap vCells ++ vCells x))
    (hx : OwnL editCells x.a.pat base w x.v) (hxn : x.a.pat ≠ [] → x.v.ownBlock ≠ some g) (hxs : SizesOk x.a.pat) : DrawSt base w' S T vs vt g' cap' (L ++ [x]) := by
  have hne : ∀ {α : Type} {f : α → List Value} {xs : List α} {v : Value}, OwnL f xs base w v → (xs ≠ [] → v.ownBlock ≠ some g) → xs ≠ [] → v.ownBlock ≠ some g' := fun ho hn h0 e => by
    rcases hor with e' | e'
    · rw [e'] at e; exact hn h0 e
    · obtain ⟨k, hk, _, hlt⟩ := ho.blk h0
      rw [hk] at e
      injection e with e
      omega
  refine ⟨h.s.apart hg h.sn, hne h.s h.sn, h.t.apart hg h.tn, hne h.t h.tn, by simpa using hrow, fun y hy => ?_⟩
  rcases List.mem_append.1 hy with hy | hy
  · obtain ⟨p1, p2, p3⟩ := h.pats y hy
    exact ⟨p1.apart hg p2, hne p1 p2, p3⟩
  · rw [List.mem_singleton.1 hy]
    exact ⟨hx.apart hg hxn, hne hx hxn, hxs⟩
theorem DrawSt.acts {base : Nat} {w : World} {S T : List Art} {vs vt : Value} {g cap : Nat} {L : List VAct} (h : DrawSt base w S T vs vt g cap L) : Acts w w.heap.size (.slice (some ⟨g, 0, none⟩) L.length cap) (L.map (·.a)) :=
  ⟨L, rfl, SlR.of_own vCells (size := 3) (fun _ => rfl) h.row, fun x hx => (h.pats x hx).1.slR (size := 4) (fun _ => rfl)⟩
theorem own_cell {w : World} {base g n cap size : Nat} {e : TypeId} {xs : List Value} (h : w.ownsRow base e size (.slice (some ⟨g, 0, none⟩) n cap) n xs) {j : Nat} {u : Value} (hj : xs[j]? = some u) : w.cell? ⟨g, j, none⟩ = some u ∧ w.frozen? ⟨g, j, none⟩ = false := by
  obtain ⟨T, hB, _⟩ := blk_of_own h
  have hlt := (List.getElem?_eq_some_iff.1 hj).1
  refine ⟨?_, hB.free (by rw [List.length_append]; omega)⟩
  rw [hB.cell, List.getElem?_append_left hlt, hj]
theorem own_store {w : World} {base g n cap size : Nat} {e : TypeId} {xs : List Value} (h : w.ownsRow base e size (.slice (some ⟨g, 0, none⟩) n cap) n xs) (j : Nat) (hj : j < xs.length) (u : Value) (hu : u.oneCell' = true) :
    (w.setCell ⟨g, j, none⟩ u).ownsRow base e size (.slice (some ⟨g, 0, none⟩) n cap) n (xs.set j u) := by
  obtain ⟨T, hB, hC, hnc, hcm, hbg, hxl⟩ := blk_of_own h
  have hs := hB.set Tryz.prog j [u] (by rw [List.length_append, List.length_singleton]; omega) (fun v hv => by rw [List.mem_singleton] at hv; subst hv; exact hu)
  have e1 : splice (xs ++ T) j [u] = xs.set j u ++ T := by
    unfold splice
    rw [List.take_append_of_le_length (by omega), List.length_singleton, List.drop_append_of_le_length (by omega), List.set_eq_take_append_cons_drop, if_pos hj]
    simp
  rw [e1] at hs
  have hl2 : (xs.set j u).length = n * size := by rw [List.length_set]; exact hxl
  exact own_of_blk hs (by rw [List.length_append, hl2, ← hxl, ← List.length_append]; exact hC) (by rw [List.take_left' hl2]) hl2 hnc hcm hbg
theorem mem_set {α : Type} {L : List α} {i : Nat} {y x : α} (h : x ∈ L.set i y) : x = y ∨ x ∈ L := (List.mem_or_eq_of_mem_set h).symm
/-- One cell of one act is set. -/
theorem DrawSt.put {base : Nat} {w : World} {S T : List Art} {vs vt : Value} {g cap : Nat} {L : List VAct} (h : DrawSt base w S T vs vt g cap L) (j i : Nat) (u : Value) (hu : u.oneCell' = true) (y : VAct) (hj : j < L.length * 3) (he : (L.flatMap vCells).set j u = (L.set i y).flatMap vCells)
    (hy : OwnL editCells y.a.pat base w y.v) (hyn : y.a.pat ≠ [] → y.v.ownBlock ≠ some g) (hys : SizesOk y.a.pat) : DrawSt base (w.setCell ⟨g, j, none⟩ u) S T vs vt g cap (L.set i y) := by
  have hg : Only g w (w.setCell ⟨g, j, none⟩ u) := only_setCell (only_refl g w) (.inl rfl) u
  have hl : (L.flatMap vCells).length = L.length * 3 := flat_len (k := 3) vCells (fun _ => rfl) L
  have hr := own_store h.row j (by omega) u hu
  refine ⟨h.s.apart hg h.sn, h.sn, h.t.apart hg h.tn, h.tn, by rw [List.length_set, ← he]; exact hr, fun x hx => ?_⟩
  rcases mem_set hx with rfl | hx
  · exact ⟨hy.apart hg hyn, hyn, hys⟩
  · obtain ⟨p1, p2, p3⟩ := h.pats x hx
    exact ⟨p1.apart hg p2, p2, p3⟩
end Go.Proofs.YtnandbammmcncaaGreat

namespace Go.Proofs.YtnandbammmcncaaGreat
open Go.RowKit Go.Lib

theorem Tryz.infoAct : (Tryz.prog.info? 144).map (fun i => (i.zero, i.size, i.bytes)) = some (some (.agg #[.int .i64 0, .int .i64 0, .slice none 0 0]), 3, 40) := by kernel_rfl
theorem vact_one {x : VAct} {A : Option Addr} {n c : Nat} (hv : x.v = .slice A n c) {u : Value} (h : u ∈ vCells x) : u.oneCell' = true := by
  unfold vCells at h
  rcases List.mem_cons.1 h with rfl | h
  · rfl
  · rcases List.mem_cons.1 h with rfl | h
    · rfl
    · rw [List.mem_singleton] at h
      subst h
      rw [hv]
      rfl
def lenV : Value → Nat
  | .slice _ n _ => n
  | _ => 0
def ActsDraw (b : Nat) (w : World) (e : Ending) (w' : World) : Prop :=
  ∃ v1 v2 S ls, e = .returned (.tuple #[v1, v2]) ∧ OwnL artCells S w.heap.size w' v1 ∧ okStat S = true ∧ Acts w' w'.heap.size v2 ls ∧ ActsSz ls ∧ Only b w w'

end Go.Proofs.YtnandbammmcncaaGreat

namespace Go.Proofs.YtnandbammmcncaaGreat
open Go.RowKit Go.Lib

def ActsPost (w : World) (e : Ending) (w' : World) : Prop :=
  ∃ v1 v2 S ls, e = .returned (.tuple #[v1, v2]) ∧ OwnL artCells S w.heap.size w' v1 ∧ okStat S = true ∧ Acts w' w'.heap.size v2 ls ∧ okActs ls = true ∧ Below w.heap.size w w'
end Go.Proofs.YtnandbammmcncaaGreat

namespace Go.Proofs.YtnandbammmcncaaGreat
open Go.RowKit Go.Lib

def inD (d : Int) : Bool := inB d 0 999
def turnsK (ls : List Acta) (k : Nat) : List Int := 0 :: (ls.take k).flatMap (fun a => [a.beg, a.fin].filter inD)
theorem turnsK_succ {ls : List Acta} {k : Nat} (h : k < ls.length) : turnsK ls (k + 1) = turnsK ls k ++ [ls[k].beg, ls[k].fin].filter inD := by
  unfold turnsK
  rw [List.take_succ_eq_append_getElem h, List.flatMap_append]
  simp
theorem turnsK_len (ls : List Acta) (k : Nat) : (turnsK ls k).length ≤ 1 + 2 * k := by
  induction k with
  | zero => simp [turnsK]
  | succ k ih =>
    by_cases h : k < ls.length
    · rw [turnsK_succ h, List.length_append]
      have := List.length_filter_le inD [ls[k].beg, ls[k].fin]
      simp at this
      omega
    · have e1 : ls.take (k + 1) = ls := List.take_of_length_le (by omega)
      have e2 : ls.take k = ls := List.take_of_length_le (by omega)
      unfold turnsK at *
      rw [e1]
      rw [e2] at ih
      omega
/-- The days on which acts begin or end, and the day 0. -/
def Turn (ls : List Acta) (d : Int) : Prop := d = 0 ∨ (0 ≤ d ∧ d ≤ 999 ∧ ∃ a ∈ ls, d = a.beg ∨ d = a.fin)
theorem turnsK_mem {ls : List Acta} {d : Int} : d ∈ turnsK ls ls.length ↔ Turn ls d := by
  unfold turnsK Turn
  rw [List.take_length, List.mem_cons, List.mem_flatMap]
  refine or_congr Iff.rfl ⟨?_, ?_⟩
  · rintro ⟨a, ha, hd⟩
    obtain ⟨h1, h2⟩ := List.mem_filter.1 hd
    unfold inD at h2
    rw [inB_iff] at h2
    exact ⟨h2.1, h2.2, a, ha, by simpa using h1⟩
  · rintro ⟨h1, h2, a, ha, hd⟩
    exact ⟨a, ha, List.mem_filter.2 ⟨by simpa using hd, by unfold inD; rw [inB_iff]; exact ⟨h1, h2⟩⟩⟩

theorem day2_val (n : Int) (w : World) (r : Bool) (h : inD n = r) : Calls Tryz.prog 133 #[.int .i64 n] w (RetQ (.bool r) w) := h ▸ day2_any n w
theorem day1_val (n : Int) (w : World) (r : Bool) (h : inD n = r) : Calls Tryz.prog 104 #[.int .i64 n] w (RetQ (.bool r) w) := h ▸ day1_any n w

def PutPost (L : List Int) (n : Int) (w : World) (e : Ending) (w' : World) : Prop :=
  ∃ v M, e = .returned v ∧ OwnL intCells M w.heap.size w' v ∧ (∀ x, x ∈ M ↔ x = n ∨ x ∈ L) ∧ M.length ≤ L.length + 1 ∧ Below w.heap.size w w'
/-- A list on its way: k are through, n is in it or not yet. -/
structure Putting (L : List Int) (n : Int) (k : Nat) (d : Bool) (M : List Int) : Prop where
  mem : ∀ x, x ∈ M ↔ (d = true ∧ x = n) ∨ x ∈ L.take k
  len : M.length ≤ k + (if d then 1 else 0)
theorem take_mem {L : List Int} {k : Nat} (hk : k < L.length) (x : Int) : x ∈ L.take (k + 1) ↔ x ∈ L.take k ∨ x = L[k] := by
  rw [List.take_succ_eq_append_getElem hk, List.mem_append, List.mem_singleton]
theorem Putting.start (L : List Int) (n : Int) : Putting L n 0 false [] := ⟨by simp, by simp⟩
theorem Putting.keep {L M : List Int} {n : Int} {k : Nat} {d : Bool} (h : Putting L n k d M) (hk : k < L.length) : Putting L n (k + 1) d (M ++ [L[k]]) := ⟨fun x => by
  rw [take_mem hk, List.mem_append, List.mem_singleton, h.mem x, or_assoc], by rw [List.length_append, List.length_singleton]; have := h.len; omega⟩
theorem Putting.hit {L M : List Int} {n : Int} {k : Nat} (h : Putting L n k false M) (hk : k < L.length) (e : L[k] = n) : Putting L n (k + 1) true (M ++ [L[k]]) := ⟨fun x => by
  rw [take_mem hk, List.mem_append, List.mem_singleton, h.mem x, e]
  by_cases h1 : x = n <;> by_cases h2 : x ∈ L.take k <;> simp only [h1, h2, or_true, or_false, false_or, and_true, and_false, reduceCtorEq], by rw [List.length_append, List.length_singleton]; have := h.len; simp at this ⊢; omega⟩
theorem Putting.add {L M : List Int} {n : Int} {k : Nat} (h : Putting L n k false M) (hk : k < L.length) : Putting L n (k + 1) true ((M ++ [n]) ++ [L[k]]) := ⟨fun x => by
  rw [take_mem hk, List.mem_append, List.mem_append, List.mem_singleton, List.mem_singleton, h.mem x]
  generalize L[k] = y
  by_cases h1 : x = n <;> by_cases h2 : x ∈ L.take k <;> by_cases h3 : x = y <;> simp only [h1, h2, h3, true_and, false_and, or_true, true_or, or_false, false_or, and_true, and_false, reduceCtorEq], by simp; have := h.len; simp at this; omega⟩
theorem Putting.done {L M : List Int} {n : Int} (h : Putting L n L.length true M) : (∀ x, x ∈ M ↔ x = n ∨ x ∈ L) ∧ M.length ≤ L.length + 1 := ⟨fun x => by
  rw [h.mem x, List.take_length]
  simp, by have := h.len; simp at this; omega⟩
theorem Putting.last {L M : List Int} {n : Int} (h : Putting L n L.length false M) : (∀ x, x ∈ M ++ [n] ↔ x = n ∨ x ∈ L) ∧ (M ++ [n]).length ≤ L.length + 1 := ⟨fun x => by
  rw [List.mem_append, h.mem x, List.take_length]
  simp
  exact or_comm, by simp; have := h.len; simp at this; omega⟩
end Go.Proofs.YtnandbammmcncaaGreat

namespace Go.Proofs.YtnandbammmcncaaGreat
open Go.RowKit Go.Lib

theorem compact_up (zs : List Int) (hs : zs.Pairwise (· ≤ ·)) : ∀ m, m ≤ zs.length → (compactUpTo zs.toArray m).Pairwise (· < ·) ∧ ∀ x, x ∈ compactUpTo zs.toArray m ↔ x ∈ zs.take m := by
  intro m
  induction m with
  | zero => intro _; exact ⟨by simp [compactUpTo], by simp [compactUpTo]⟩
  | succ m ih =>
    intro hm
    obtain ⟨h1, h2⟩ := ih (by omega)
    have hlt : m < zs.length := by omega
    have hd : zs.toArray[m]! = zs[m] := by simp [hlt]
    have ht : ∀ x, x ∈ zs.take (m + 1) ↔ x ∈ zs.take m ∨ x = zs[m] := take_mem hlt
    have hle : ∀ x ∈ zs.take m, x ≤ zs[m] := fun x hx => by
      obtain ⟨j, hj, rfl⟩ := List.mem_iff_getElem.1 hx
      rw [List.length_take] at hj
      rw [List.getElem_take]
      exact (List.pairwise_iff_getElem.1 hs) j m (by omega) hlt (by omega)
    rw [compactUpTo_succ, hd]
    by_cases hk : keeps zs.toArray m = true
    · rw [if_pos hk]
      refine ⟨?_, fun x => by rw [List.mem_append, List.mem_singleton, h2, ht]⟩
      rw [List.pairwise_append]
      refine ⟨h1, by simp, fun x hx y hy => ?_⟩
      rw [List.mem_singleton.1 hy]
      have hx' := (h2 x).1 hx
      have h3 := hle x hx'
      rcases Nat.eq_zero_or_pos m with h0 | h0
      · subst h0; simp at hx'
      · have hp : zs.toArray[m - 1]! = zs[m - 1] := by simp [show m - 1 < zs.length by omega]
        have hne : zs[m] ≠ zs[m - 1] := by
          have := hk
          unfold keeps at this
          rw [hd, hp] at this
          simp at this
          omega
        have h4 := (List.pairwise_iff_getElem.1 hs) (m - 1) m (by omega) hlt (by omega)
        obtain ⟨j, hj, rfl⟩ := List.mem_iff_getElem.1 hx'
        rw [List.length_take] at hj
        rw [List.getElem_take]
        by_cases e : j = m - 1
        · subst e; omega
        · have h5 := (List.pairwise_iff_getElem.1 hs) j (m - 1) (by omega) (by omega) (by omega)
          omega
    · rw [if_neg hk, List.append_nil]
      refine ⟨h1, fun x => ?_⟩
      rw [h2, ht]
      constructor
      · exact .inl
      · rintro (h | rfl)
        · exact h
        · rcases Nat.eq_zero_or_pos m with h0 | h0
          · subst h0
            exfalso
            apply hk
            unfold keeps
            simp
          · have hp : zs.toArray[m - 1]! = zs[m - 1] := by simp [show m - 1 < zs.length by omega]
            have he : zs[m] = zs[m - 1] := by
              unfold keeps at hk
              rw [hd, hp] at hk
              simp at hk
              exact hk.2
            rw [he]
            exact List.mem_iff_getElem.2 ⟨m - 1, by rw [List.length_take]; omega, by rw [List.getElem_take]⟩
/-- The days in order, each once. -/
def turnsL (ls : List Acta) : List Int := compact ((turnsK ls ls.length).mergeSort (fun x y => decide (x ≤ y)))
theorem turnsL_facts (ls : List Acta) : (turnsL ls).Pairwise (· < ·) ∧ ∀ x, x ∈ turnsL ls ↔ Turn ls x := by
  have hs : ((turnsK ls ls.length).mergeSort (fun x y => decide (x ≤ y))).Pairwise (· ≤ ·) := by
    have := List.pairwise_mergeSort (le := fun x y : Int => decide (x ≤ y)) (fun a b c h1 h2 => by simp at *; omega) (fun a b => by simp; omega) (turnsK ls ls.length)
    exact this.imp (fun h => by simpa using h)
  obtain ⟨h1, h2⟩ := compact_up _ hs _ (Nat.le_refl _)
  refine ⟨h1, fun x => ?_⟩
  unfold turnsL compact
  rw [h2, List.take_length, (List.mergeSort_perm _ _).mem_iff, turnsK_mem]

theorem sort64_any (zs : List Int) (blk cap : Nat) (w : World) (hH : Go.Sort.Holds (Value.int .i64) w blk 0 zs.toArray) (hblk : blk < w.heap.size) (hsz : zs.length < 4611686018427387904) :
    Calls Tryz.prog 179 #[.slice (some ⟨blk, 0, none⟩) zs.length cap] w fun e w' =>
      e = .returned (.tuple #[]) ∧ ∃ n os, w' = Go.Sort.grow (Go.Sort.putRow (Value.int .i64) (Go.Sort.ahead w n) blk 0 (zs.mergeSort fun x y => decide (x ≤ y)).toArray) os :=
  calls_of_every_depth fun D => AnySM.slices_Sort_int_in Tryz.sort64 D blk 0 cap zs w hH hblk hsz
theorem compact64_any (zs : List Int) (blk cap : Nat) (w : World) (hH : Go.Sort.Holds (Value.int .i64) w blk 0 zs.toArray) (hsz : zs.length ≤ 9223372036854775807) (hcap : zs.length ≤ cap) :
    Calls Tryz.prog 185 #[.slice (some ⟨blk, 0, none⟩) zs.length cap] w fun e w' =>
      e = .returned (.slice (some ⟨blk, 0, none⟩) (compact zs).length cap) ∧ ∃ q, w' = Go.Sort.putRow (Value.int .i64) (Go.Sort.ahead w q) blk 0 (compact zs ++ List.replicate (zs.length - (compact zs).length) 0).toArray :=
  AnyG.slices_Compact_int Tryz.compact64 blk 0 cap zs w hH hsz hcap
end Go.Proofs.YtnandbammmcncaaGreat

namespace Go.Proofs.YtnandbammmcncaaGreat
open Go.RowKit Go.Lib

theorem int_flat : ∀ L : List Int, L.flatMap intCells = L.map (fun x => Value.int .i64 x)
  | [] => rfl
  | x :: L => by rw [List.flatMap_cons, List.map_cons, int_flat L]; rfl
theorem holds_own {w : World} {base g cap : Nat} {L : List Int} (h : w.ownsRow base 2 1 (.slice (some ⟨g, 0, none⟩) L.length cap) L.length (L.flatMap intCells)) : Go.Sort.Holds (Value.int .i64) w g 0 L.toArray := by
  intro j hj
  have hj' : j < L.length := by simpa using hj
  have := own_cell h (j := j) (u := .int .i64 L[j]) (by rw [int_flat, List.getElem?_map, List.getElem?_eq_getElem hj']; rfl)
  have e : L.toArray[j]! = L[j] := by simp [hj']
  rw [Nat.zero_add, e]
  exact this
theorem only_sorted {w : World} {g : Nat} (L : List Int) (n : Nat) : Only g w (Go.Sort.putRow (Value.int .i64) (Go.Sort.ahead w n) g 0 L.toArray) := by
  refine ⟨rfl, rfl, rfl, Nat.le_of_eq (by rw [Go.Sort.size_putRow]; rfl), fun i hi hne => ?_⟩
  unfold Go.Sort.putRow Go.Sort.mapBlock
  have hgi : g ≠ i := fun e => hne (by rw [e])
  show (w.heap.modify g _)[i]? = _
  rw [Array.getElem?_modify, if_neg hgi]
theorem only_grow {w w' : World} {g : Nat} (h : Only g w w') (os : Array Obj) : Only g w (Go.Sort.grow w' os) :=
  ⟨h.os, h.tape, h.output, by rw [Go.Sort.size_grow]; have := h.size; omega, fun i hi hne => (Go.Sort.heap_grow_old w' os (Nat.lt_of_lt_of_le hi h.size)).trans (h.block i hi hne)⟩
theorem holds_row {w : World} {g : Nat} {L T : List Int} (h : Go.Sort.Holds (Value.int .i64) w g 0 (L ++ T).toArray) : Row w g (L.flatMap intCells) := by
  have hl : (L.flatMap intCells).length = L.length := by rw [int_flat, List.length_map]
  refine ⟨fun j u hj => ?_, fun j hj => ?_⟩
  · rw [int_flat, List.getElem?_map] at hj
    cases hx : L[j]? with
    | none => rw [hx] at hj; cases hj
    | some x =>
      rw [hx] at hj
      injection hj with hj
      subst hj
      obtain ⟨hlt, hxe⟩ := List.getElem?_eq_some_iff.1 hx
      have := (h j (by simp; omega)).1
      rw [Nat.zero_add] at this
      rw [this]
      simp [List.getElem?_append_left hlt, hlt, hxe]
  · have := (h j (by simp; omega)).2
    rwa [Nat.zero_add] at this

set_option maxRecDepth 100000 in
set_option maxHeartbeats 4000000 in
theorem turns2_any (ls : List Acta) (w : World) (v : Value) (h : Acts w w.heap.size v ls) (hl : ls.length ≤ 1000) :
    Calls Tryz.prog 170 #[v] w (RetOwn intCells (turnsL ls) w) := by
  obtain ⟨A, c, rfl, hc, hm, hel⟩ := acts_at h
  have HEL := Lib.hid hel
  clear hel h
  obtain ⟨i0, hi, hz0, hz1, hz2⟩ := info_parts Tryz.infoI
  have hown0 : (w.alloc (.cells #[.int .i64 0] 2)).ownsRow w.heap.size 2 1 (.slice (some ⟨w.heap.size, 0, none⟩) 1 1) 1 [.int .i64 0] := own_of_blk (C := [.int .i64 0]) (heap_alloc_new w _) rfl rfl rfl (Nat.le_refl _) (by unfold maxLen; decide) (Nat.le_refl _)
  have HOWN0 := Lib.hid hown0
  have HB0 : Hid (Below w.heap.size w (w.alloc (.cells #[.int .i64 0] 2))) := Lib.hid ((Below.refl _ _).alloc (Nat.le_refl _) _)
  unfold RetOwn
  clear hown0
  go_enter Tryz.func170, Tryz.ntmps170
  go_wp2
  go_loopw [3, 11] (fun o i wr => ∃ (k g cap : Nat), i = .int .i64 (k : Int) ∧ k ≤ ls.length ∧ o = .slice (some ⟨g, 0, none⟩) (turnsK ls k).length cap ∧ wr.ownsRow w.heap.size 2 1 (.slice (some ⟨g, 0, none⟩) (turnsK ls k).length cap) (turnsK ls k).length ((turnsK ls k).flatMap intCells) ∧ Below w.heap.size w wr) (fun _ i _ => ls.length - (RowKit.intOf i).toNat)
  case atStart => exact ⟨0, w.heap.size, 1, rfl, Nat.zero_le _, rfl, HOWN0.out, HB0.out⟩
  case round =>
    obtain ⟨k, g, cap, rfl, hk, rfl, hown, hb⟩ := hrel
    have HOWN := Lib.hid hown
    have HB := Lib.hid hb
    have hfl := turnsK_len ls k
    clear hown
    by_cases hlt : k < ls.length
    · obtain ⟨b, off, rfl, hblt, hcell⟩ := HEL.out (by omega)
      have hget : ls[k]? = some ls[k] := List.getElem?_eq_getElem hlt
      obtain ⟨pv, c0, c1, c2, hE⟩ := hcell k _ hget
      obtain ⟨pA, pc, rfl, _⟩ := hE
      have x0 := (hb.cell (p := ⟨b, off + k * 3, none⟩) hblt).trans c0
      have x1 := (hb.cell (p := ⟨b, off + k * 3 + 1, none⟩) hblt).trans c1
      have x2 := (hb.cell (p := ⟨b, off + k * 3 + 2, none⟩) hblt).trans c2
      have HT := Lib.hid (turnsK_succ hlt)
      generalize turnsK ls k = Z at *
      clear hcell c0 c1 c2 hget hb
      generalize ls[k] = a at *
      have hg := HOWN.out.lt g rfl
      have HOWN1 := Lib.hid ((HOWN.out.alloc (.cells #[.int .i64 a.beg, .int .i64 a.fin, .slice pA a.pat.length pc] 144)).alloc (.cells #[.int .i64 a.beg, .int .i64 a.fin] 2))
      have HB1 := Lib.hid ((HB.out.alloc HB.out.size (.cells #[.int .i64 a.beg, .int .i64 a.fin, .slice pA a.pat.length pc] 144)).alloc (base_le HB.out.size) (.cells #[.int .i64 a.beg, .int .i64 a.fin] 2))
      have hgs0 : g ≠ wr.heap.size + 1 := by omega
      have HC0 : Hid (((wr.alloc (.cells #[.int .i64 a.beg, .int .i64 a.fin, .slice pA a.pat.length pc] 144)).alloc (.cells #[.int .i64 a.beg, .int .i64 a.fin] 2)).cell? ⟨wr.heap.size + 1, 0, none⟩ = some (.int .i64 a.beg)) := Lib.hid (by simp)
      have HC1 : Hid (((wr.alloc (.cells #[.int .i64 a.beg, .int .i64 a.fin, .slice pA a.pat.length pc] 144)).alloc (.cells #[.int .i64 a.beg, .int .i64 a.fin] 2)).cell? ⟨wr.heap.size + 1, 1, none⟩ = some (.int .i64 a.fin)) := Lib.hid (by simp)
      go_wp2
      generalize wr.heap.size + 1 = gs at *
      go_loopw [3, 21] (fun o i wr => ∃ (j g cap : Nat), i = .int .i64 (j : Int) ∧ j ≤ 2 ∧ o = .slice (some ⟨g, 0, none⟩) (Z ++ ([a.beg, a.fin].take j).filter inD).length cap ∧ wr.ownsRow w.heap.size 2 1 (.slice (some ⟨g, 0, none⟩) (Z ++ ([a.beg, a.fin].take j).filter inD).length cap) (Z ++ ([a.beg, a.fin].take j).filter inD).length ((Z ++ ([a.beg, a.fin].take j).filter inD).flatMap intCells) ∧ wr.cell? ⟨gs, 0, none⟩ = some (.int .i64 a.beg) ∧ wr.cell? ⟨gs, 1, none⟩ = some (.int .i64 a.fin) ∧ g ≠ gs ∧ Below w.heap.size w wr) (fun _ i _ => 2 - (RowKit.intOf i).toNat)
      case atStart => exact ⟨0, g, cap, rfl, by omega, by simp, by simpa using HOWN1.out, HC0.out, HC1.out, hgs0, HB1.out⟩
      case round =>
        obtain ⟨j, g, cap, rfl, hj, rfl, hown, hc0, hc1, hgs, hb⟩ := hrel
        replace HOWN := Lib.hid hown
        replace HB := Lib.hid hb
        replace HC0 := Lib.hid hc0
        replace HC1 := Lib.hid hc1
        have hXl := List.length_filter_le inD ([a.beg, a.fin].take j)
        rw [List.length_take] at hXl
        simp only [List.length_cons, List.length_nil] at hXl
        clear hown hb
        by_cases hj2 : j < 2
        · have hj2' : (j : Int) < 2 := by omega
          obtain ⟨d, hd, x9⟩ : ∃ d, [a.beg, a.fin][j]? = some d ∧ wr.cell? ⟨gs, j, none⟩ = some (.int .i64 d) := by
            rcases (show j = 0 ∨ j = 1 by omega) with rfl | rfl
            · exact ⟨_, rfl, hc0⟩
            · exact ⟨_, rfl, hc1⟩
          have ht : [a.beg, a.fin].take (j + 1) = [a.beg, a.fin].take j ++ [d] := by
            obtain ⟨q1, q2⟩ := List.getElem?_eq_some_iff.1 hd
            rw [List.take_succ_eq_append_getElem q1, q2]
          have HTK := Lib.hid ht
          have HD := Lib.hid (day2_val d wr)
          generalize [a.beg, a.fin].take j = J at *
          have hXl' : (Z ++ J.filter inD).length ≤ 2010 := by rw [List.length_append]; omega
          clear hd ht hc0 hc1
          cases hin : inD d with
          | false =>
            replace HD := Lib.hid (HD.out false hin)
            have HX : Hid (Z ++ ([a.beg, a.fin].take (j + 1)).filter inD = Z ++ J.filter inD) := Lib.hid (by rw [HTK.out, List.filter_append]; simp [hin])
            clear hin
            go_wp2_with (fail)
            refine (HD.out).mono ?_
            rintro e w1 ⟨rfl, q, rfl⟩
            go_wp2
            go_roundw
            case rel => exact ⟨j + 1, g, cap, by go_num, by omega, by rw [HX.out]; simp, by rw [HX.out]; exact own_below HOWN.out (below_drewN (Below.refl wr.heap.size wr) q), HC0.out, HC1.out, hgs, below_drewN HB.out q⟩
            case measure => simp [RowKit.intOf] <;> omega
          | true =>
            replace HD := Lib.hid (HD.out true hin)
            have HX : Hid (Z ++ ([a.beg, a.fin].take (j + 1)).filter inD = (Z ++ J.filter inD) ++ [d]) := Lib.hid (by rw [HTK.out, List.filter_append]; simp [hin])
            generalize Z ++ J.filter inD = X at *
            clear hin
            go_wp2_with (fail)
            refine (HD.out).mono ?_
            rintro e w1 ⟨rfl, q, rfl⟩
            have HOWN2 := Lib.hid (own_below HOWN.out (below_drewN (Below.refl wr.heap.size wr) q))
            have HB2 := Lib.hid (below_drewN HB.out q)
            have HC0' : Hid ((wr.drewN q).cell? ⟨gs, 0, none⟩ = some (.int .i64 a.beg)) := Lib.hid HC0.out
            have HC1' : Hid ((wr.drewN q).cell? ⟨gs, 1, none⟩ = some (.int .i64 a.fin)) := Lib.hid HC1.out
            generalize wr.drewN q = w2 at *
            go_wp2_with (at_builtin; refine wpList_append_own_at _ rfl _ _ 29 rfl w.heap.size 2 i0 (.int .i64 0) 1 8 Tryz.underlying29 hi hz0 hz1 hz2 rfl (by decide) _ _ _ rfl (HOWN2.out.alloc _) ⟨w2.heap.size, 0, none⟩ 1 1 (intCells d) rfl rfl (cell_one_new _ _ _) (fun u hu => int_one' _ hu) ?c3 ?c4 (base_le HB2.out.size) ?_)
            case c3 => unfold maxLen; omega
            case c4 => omega
            intro v' w9 hown' hgrow hiff hor
            obtain ⟨g', cap', rfl, hdc', hcm'⟩ := own_some hown' hiff
            have hl0 := World.block_lt_of_cell? w2 ⟨gs, 0, none⟩ HC0'.out
            have hgs' : g' ≠ gs := by
              rcases hor with h | h <;> injection h with h
              · exact fun e => hgs (by rw [← e]; exact h.symm)
              · intro e
                have h : g' = w2.heap.size + 1 := h
                have hl0 : gs < w2.heap.size := hl0
                omega
            have hbk : w9.heap[gs]? = w2.heap[gs]? := (hgrow.block gs (by simp; exact Nat.lt_succ_of_lt hl0) (fun e => by injection e with e; exact hgs e.symm)).trans (((Below.refl w2.heap.size w2).alloc (Nat.le_refl _) (.cells #[.int .i64 d] 2)).block gs hl0)
            have HC09 := Lib.hid ((World.cell?_of_block (a := ⟨gs, 0, none⟩) hbk).trans HC0'.out)
            have HC19 := Lib.hid ((World.cell?_of_block (a := ⟨gs, 1, none⟩) hbk).trans HC1'.out)
            have HB9 := Lib.hid ((HB2.out.alloc HB2.out.size (.cells #[.int .i64 d] 2)).grown hgrow (base_le HB2.out.size) (fun j hj => (HOWN2.out.lt j hj).1))
            clear hgrow hiff hor hbk
            go_wp2
            go_roundw
            case rel => exact ⟨j + 1, g', cap', by go_num, by omega, by rw [HX.out, List.length_append, List.length_singleton], by rw [HX.out, flat_snoc, List.length_append]; exact hown', HC09.out, HC19.out, hgs', HB9.out⟩
            case measure => simp [RowKit.intOf] <;> omega
        · have hge : ¬ (j : Int) < 2 := by omega
          have HZ : Hid (turnsK ls (k + 1) = Z ++ ([a.beg, a.fin].take j).filter inD) := Lib.hid (by rw [HT.out, List.take_of_length_le (by simp; omega)])
          clear hj2 hc0 hc1
          go_wp2
          go_roundw
          case rel => exact ⟨k + 1, g, cap, by go_num, by omega, by rw [HZ.out], by rw [HZ.out]; exact HOWN.out, HB.out⟩
          case measure => simp [RowKit.intOf] <;> omega
    · have hge : ¬ (k : Int) < (ls.length : Int) := by omega
      have hk' : k = ls.length := by omega
      subst hk'
      clear hlt
      have hg := HOWN.out.lt g rfl
      have HH := Lib.hid (holds_own HOWN.out)
      have hcap : (turnsK ls ls.length).length ≤ cap := by obtain ⟨_, _, _, h1, _⟩ := blk_of_own HOWN.out; exact h1
      have hcm : cap ≤ maxLen := by obtain ⟨_, _, _, _, h1, _⟩ := blk_of_own HOWN.out; exact h1
      have HTL : Hid (turnsL ls = compact ((turnsK ls ls.length).mergeSort (fun x y => decide (x ≤ y)))) := Lib.hid rfl
      generalize turnsK ls ls.length = Z at *
      go_wp2_with (fail)
      refine (sort64_any Z g cap wr HH.out hg.2 (by omega)).mono ?_
      rintro e w1 ⟨rfl, q, os, rfl⟩
      obtain ⟨S, hS⟩ : ∃ S, S = Z.mergeSort (fun x y => decide (x ≤ y)) := ⟨_, rfl⟩
      have hlen : S.length = Z.length := by rw [hS, List.length_mergeSort]
      rw [← hS] at HTL ⊢
      have hsz : S.toArray.size = Z.toArray.size := by simp [hlen]
      have hH1 : Go.Sort.Holds (Value.int .i64) (Go.Sort.grow (Go.Sort.putRow (Value.int .i64) (Go.Sort.ahead wr q) g 0 S.toArray) os) g 0 S.toArray :=
        Go.Sort.holds_grow _ _ _ _ _ _ (by rw [Go.Sort.size_putRow]; exact hg.2) (Go.Sort.holds_putRow _ (Go.Sort.ahead wr q) g 0 Z.toArray S.toArray HH.out hsz)
      have hO1 := only_grow (only_sorted (w := wr) (g := g) S q) os
      generalize Go.Sort.grow (Go.Sort.putRow (Value.int .i64) (Go.Sort.ahead wr q) g 0 S.toArray) os = w1 at hH1 hO1 ⊢
      have HC := compact64_any S g cap w1 hH1 (by omega) (by omega)
      rw [hlen] at HC
      have hg1 : g < w1.heap.size := Nat.lt_of_lt_of_le hg.2 hO1.size
      have HCC := Lib.hid HC
      have HO1 := Lib.hid hO1
      have HH1 := Lib.hid hH1
      have hcl : (compact S).length ≤ S.length := by unfold compact compactUpTo; rw [List.length_map]; exact Nat.le_trans (List.length_filter_le _ _) (by simp)
      clear hS HC hO1 hH1 hsz
      go_wp2_with (fail)
      refine (HCC.out).mono ?_
      rintro e w2 ⟨rfl, q2, rfl⟩
      have hsz2 : (compact S ++ List.replicate (Z.length - (compact S).length) (0 : Int)).toArray.size = S.toArray.size := by simp; omega
      have hH2 := Go.Sort.holds_putRow (Value.int .i64) (Go.Sort.ahead w1 q2) g 0 S.toArray (compact S ++ List.replicate (Z.length - (compact S).length) (0 : Int)).toArray HH1.out hsz2
      have hO2 := only_sorted (w := w1) (g := g) (compact S ++ List.replicate (Z.length - (compact S).length) (0 : Int)) q2
      generalize Go.Sort.putRow (Value.int .i64) (Go.Sort.ahead w1 q2) g 0 (compact S ++ List.replicate (Z.length - (compact S).length) (0 : Int)).toArray = w2 at hH2 hO2 ⊢
      have HR := Lib.hid (holds_row hH2)
      have HB2 := Lib.hid (HB.out.trans ((only_below HO1.out hg.1 HB.out.size).trans (only_below hO2 hg.1 (by have := HO1.out.size; have := HB.out.size; omega))))
      have hg2 : g < w2.heap.size := Nat.lt_of_lt_of_le hg1 hO2.size
      clear hH2 hO2 hsz2
      go_wp2
      go_ret
      exact ⟨_, rfl, by rw [HTL.out]; exact ⟨_, cap, rfl, by omega, hcm, fun _ => ⟨g, rfl, hg.1, hg2, HR.out⟩⟩, HB2.out⟩
end Go.Proofs.YtnandbammmcncaaGreat

namespace Go.Proofs.YtnandbammmcncaaGreat
open Go.RowKit Go.Lib

theorem force_congr {ls : List Acta} {d d' : Int} (h : ∀ a ∈ ls, inF d a = inF d' a) : forceI ls d = forceI ls d' := by
  unfold forceI
  congr 1
  apply List.filter_congr
  intro k hk
  have hk := List.mem_range.1 hk
  rw [List.getElem?_eq_getElem hk]
  exact h _ (List.getElem_mem hk)
theorem on_congr {S : List Art} {ls : List Acta} {d d' : Int} (h : ∀ a ∈ ls, inF d a = inF d' a) : onO S ls d = onO S ls d' := by
  unfold onO
  rw [force_congr h]
/-- No act begins or ends behind t and not behind d. -/
theorem on_still {S : List Art} {ls : List Acta} {t d : Int} (hok : okActs ls = true) (ht : 0 ≤ t) (htd : t ≤ d) (hd : d ≤ 999) (h : ∀ x, Turn ls x → x ≤ t ∨ d < x) : onO S ls d = onO S ls t := by
  apply on_congr
  intro a ha
  obtain ⟨k, hk⟩ := List.getElem?_of_mem ha
  have ho := okActa_iff.1 (okActs_at hok hk)
  have o1 := ho.b0; have o2 := ho.b1; have o3 := ho.f0; have o4 := ho.f1
  have hb : a.beg ≤ d → a.beg ≤ t := fun hb => by
    rcases h a.beg (.inr ⟨o1, by omega, a, ha, .inl rfl⟩) with h | h <;> omega
  have hf : a.fin ≤ d → a.fin ≤ t := fun hb => by
    rcases h a.fin (.inr ⟨o3, by omega, a, ha, .inr rfl⟩) with h | h <;> omega
  unfold inF
  have e1 : decide (a.beg ≤ d) = decide (a.beg ≤ t) := by rw [decide_eq_decide]; exact ⟨hb, fun h => by omega⟩
  have e2 : decide (d < a.fin) = decide (t < a.fin) := by rw [decide_eq_decide]; exact ⟨fun h => by omega, fun h => by have := hf; omega⟩
  rw [e1, e2]
/-- The turn at a place, and the last day of its interval. -/
def lastAt (T : List Int) (i : Nat) : Int := if i + 1 < T.length then (T[i + 1]?.getD 0) - 1 else 999
theorem turn_bound {ls : List Acta} {x : Int} (h : Turn ls x) : 0 ≤ x ∧ x ≤ 999 := by
  rcases h with rfl | ⟨h1, h2, _⟩ <;> omega
theorem turns_first (ls : List Acta) : (turnsL ls)[0]? = some 0 := by
  obtain ⟨h1, h2⟩ := turnsL_facts ls
  have h0 : (0 : Int) ∈ turnsL ls := (h2 0).2 (.inl rfl)
  obtain ⟨j, hj, hz⟩ := List.mem_iff_getElem.1 h0
  rcases Nat.eq_zero_or_pos j with e | e
  · subst e
    rw [List.getElem?_eq_getElem hj, hz]
  · exfalso
    have := (List.pairwise_iff_getElem.1 h1) 0 j (by omega) hj e
    have h3 := (turn_bound ((h2 _).1 (List.getElem_mem (by omega : 0 < (turnsL ls).length)))).1
    omega
theorem turns_gap {ls : List Acta} {i : Nat} (hi : i < (turnsL ls).length) : (turnsL ls)[i] ≤ lastAt (turnsL ls) i ∧ lastAt (turnsL ls) i ≤ 999 ∧ 0 ≤ (turnsL ls)[i] ∧ ∀ x, Turn ls x → x ≤ (turnsL ls)[i] ∨ lastAt (turnsL ls) i < x := by
  obtain ⟨h1, h2⟩ := turnsL_facts ls
  have hb := turn_bound ((h2 _).1 (List.getElem_mem hi))
  unfold lastAt
  by_cases hn : i + 1 < (turnsL ls).length
  · rw [if_pos hn, List.getElem?_eq_getElem hn, Option.getD_some]
    have hlt := (List.pairwise_iff_getElem.1 h1) i (i + 1) hi hn (by omega)
    have hb2 := turn_bound ((h2 _).1 (List.getElem_mem hn))
    refine ⟨by omega, by omega, hb.1, fun x hx => ?_⟩
    obtain ⟨j, hj, rfl⟩ := List.mem_iff_getElem.1 ((h2 x).2 hx)
    by_cases hji : j ≤ i
    · by_cases e : j = i
      · subst e; left; omega
      · have := (List.pairwise_iff_getElem.1 h1) j i hj hi (by omega)
        left; omega
    · by_cases e : j = i + 1
      · subst e; right; omega
      · have := (List.pairwise_iff_getElem.1 h1) (i + 1) j hn hj (by omega)
        right; omega
  · rw [if_neg hn]
    refine ⟨hb.2, by omega, hb.1, fun x hx => ?_⟩
    obtain ⟨j, hj, rfl⟩ := List.mem_iff_getElem.1 ((h2 x).2 hx)
    by_cases e : j = i
    · subst e; left; omega
    · have := (List.pairwise_iff_getElem.1 h1) j i hj hi (by omega)
      left; omega
/-- The bound to which the intervals are known. -/
def boundAt (T : List Int) (i : Nat) : Int := if i < T.length then T[i]?.getD 0 else 1000
theorem bound_last {T : List Int} {i : Nat} : boundAt T (i + 1) = lastAt T i + 1 := by
  unfold boundAt lastAt
  split <;> omega
structure Cover (S : List Art) (ls : List Acta) (i : Nat) (R : List (Int × Int)) : Prop where
  ok : ∀ r ∈ R, 0 ≤ r.1 ∧ r.1 ≤ r.2 ∧ r.2 < boundAt (turnsL ls) i
  all : ∀ d, 0 ≤ d → d < boundAt (turnsL ls) i → ((∃ r ∈ R, r.1 ≤ d ∧ d ≤ r.2) ↔ onO S ls d = none)
theorem Cover.start (S : List Art) (ls : List Acta) : Cover S ls 0 [] := by
  refine ⟨(fun r hr => by cases hr), fun d h0 h1 => ?_⟩
  exfalso
  have h := turns_first ls
  have hl := (List.getElem?_eq_some_iff.1 h).1
  unfold boundAt at h1
  rw [if_pos hl, h] at h1
  simp at h1
  omega
theorem Cover.skip {S : List Art} {ls : List Acta} {i : Nat} {R : List (Int × Int)} (h : Cover S ls i R) (hok : okActs ls = true) (hi : i < (turnsL ls).length) (ho : (onO S ls (turnsL ls)[i]).isSome = true) : Cover S ls (i + 1) R := by
  obtain ⟨g1, g2, g3, g4⟩ := turns_gap hi
  have hb : boundAt (turnsL ls) i = (turnsL ls)[i] := by unfold boundAt; rw [if_pos hi, List.getElem?_eq_getElem hi]; rfl
  refine ⟨fun r hr => ?_, fun d h0 h1 => ?_⟩
  · have := h.ok r hr
    rw [bound_last]
    rw [hb] at this
    omega
  · rw [bound_last] at h1
    by_cases hd : d < (turnsL ls)[i]
    · exact h.all d h0 (by rw [hb]; exact hd)
    · rw [on_still (S := S) hok g3 (by omega) (by omega) (fun x hx => by rcases g4 x hx with h | h <;> omega)]
      constructor
      · rintro ⟨r, hr, h3, h4⟩
        have := h.ok r hr
        rw [hb] at this
        omega
      · intro e
        rw [e] at ho
        cases ho
theorem Cover.add {S : List Art} {ls : List Acta} {i : Nat} {R : List (Int × Int)} (h : Cover S ls i R) (hok : okActs ls = true) (hi : i < (turnsL ls).length) (ho : (onO S ls (turnsL ls)[i]).isSome = false) : Cover S ls (i + 1) (R ++ [((turnsL ls)[i], lastAt (turnsL ls) i)]) := by
  obtain ⟨g1, g2, g3, g4⟩ := turns_gap hi
  have hb : boundAt (turnsL ls) i = (turnsL ls)[i] := by unfold boundAt; rw [if_pos hi, List.getElem?_eq_getElem hi]; rfl
  refine ⟨fun r hr => ?_, fun d h0 h1 => ?_⟩
  · rw [bound_last]
    rcases List.mem_append.1 hr with hr | hr
    · have := h.ok r hr
      rw [hb] at this
      omega
    · rw [List.mem_singleton.1 hr]
      exact ⟨g3, g1, by omega⟩
  · rw [bound_last] at h1
    by_cases hd : d < (turnsL ls)[i]
    · rw [← h.all d h0 (by rw [hb]; exact hd)]
      constructor
      · rintro ⟨r, hr, h3, h4⟩
        rcases List.mem_append.1 hr with hr | hr
        · exact ⟨r, hr, h3, h4⟩
        · rw [List.mem_singleton.1 hr] at h3
          have h3 : (turnsL ls)[i] ≤ d := h3
          omega
      · rintro ⟨r, hr, h3⟩
        exact ⟨r, List.mem_append_left _ hr, h3⟩
    · rw [on_still (S := S) hok g3 (by omega) (by omega) (fun x hx => by rcases g4 x hx with h | h <;> omega)]
      constructor
      · intro _
        cases e : onO S ls (turnsL ls)[i] with
        | none => rfl
        | some x => rw [e] at ho; cases ho
      · intro _
        exact ⟨_, List.mem_append_right _ (List.mem_singleton.2 rfl), by show (turnsL ls)[i] ≤ d; omega, by show d ≤ lastAt (turnsL ls) i; omega⟩
/-- Two intervals that touch are one. -/
theorem Cover.join {S : List Art} {ls : List Acta} {i : Nat} {R : List (Int × Int)} {x y z : Int} (h : Cover S ls i (R ++ [(x, y)] ++ [(y + 1, z)])) : Cover S ls i (R ++ [(x, z)]) := by
  have hx := h.ok (x, y) (by simp)
  have hy := h.ok (y + 1, z) (by simp)
  simp only at hx hy
  refine ⟨fun r hr => ?_, fun d h0 h1 => ?_⟩
  · rcases List.mem_append.1 hr with hr | hr
    · exact h.ok r (by simp [hr])
    · rw [List.mem_singleton.1 hr]
      exact ⟨hx.1, by show x ≤ z; omega, hy.2.2⟩
  · rw [← h.all d h0 h1]
    constructor
    · rintro ⟨r, hr, h3, h4⟩
      rcases List.mem_append.1 hr with hr | hr
      · exact ⟨r, by simp [hr], h3, h4⟩
      · rw [List.mem_singleton.1 hr] at h3 h4
        have h3 : x ≤ d := h3
        have h4 : d ≤ z := h4
        by_cases hd : d ≤ y
        · exact ⟨(x, y), by simp, h3, hd⟩
        · exact ⟨(y + 1, z), by simp, by show y + 1 ≤ d; omega, h4⟩
    · rintro ⟨r, hr, h3, h4⟩
      rw [List.append_assoc, List.mem_append] at hr
      rcases hr with hr | hr
      · exact ⟨r, by simp [hr], h3, h4⟩
      · refine ⟨(x, z), by simp, ?_⟩
        simp at hr
        rcases hr with rfl | rfl
        · exact ⟨h3, by show d ≤ z; have h4 : d ≤ y := h4; omega⟩
        · exact ⟨by show x ≤ d; have h3 : y + 1 ≤ d := h3; omega, h4⟩
end Go.Proofs.YtnandbammmcncaaGreat

namespace Go.Proofs.YtnandbammmcncaaGreat
open Go.RowKit Go.Lib

structure BRow where
  lo : Int
  hi : Int
  h : Nat
def bCells (x : BRow) : List Value := [.slice (some ⟨x.h, 0, none⟩) 2 2]
def bPair (x : BRow) : Int × Int := (x.lo, x.hi)
structure Rows (base : Nat) (w : World) (g cap : Nat) (L : List BRow) : Prop where
  row : w.ownsRow base 29 1 (.slice (some ⟨g, 0, none⟩) L.length cap) L.length (L.flatMap bCells)
  each : ∀ x ∈ L, Row w x.h [.int .i64 x.lo, .int .i64 x.hi] ∧ base ≤ x.h ∧ x.h < w.heap.size ∧ x.h ≠ g
  ord : L.Pairwise (fun a b => a.h < b.h)
theorem Rows.below {base : Nat} {w w' : World} {g cap : Nat} {L : List BRow} (h : Rows base w g cap L) (hb : Below w.heap.size w w') : Rows base w' g cap L :=
  ⟨own_below h.row hb, fun x hx => by
    obtain ⟨h1, h2, h3, h4⟩ := h.each x hx
    exact ⟨h1.below hb h3, h2, Nat.lt_of_lt_of_le h3 hb.size, h4⟩, h.ord⟩
theorem Rows.push {base : Nat} {W w' : World} {g cap g' cap' : Nat} {L : List BRow} {x : BRow} (h : Rows base W g cap L) (hg : W.grownBy w' (some g)) (hor : g' = g ∨ g' = W.heap.size)
    (hrow : w'.ownsRow base 29 1 (.slice (some ⟨g', 0, none⟩) (L.length + 1) cap') (L.length + 1) (L.flatMap bCells ++ bCells x))
    (hx : Row W x.h [.int .i64 x.lo, .int .i64 x.hi]) (hxb : base ≤ x.h) (hxl : x.h < W.heap.size) (hxg : x.h ≠ g) (hnew : ∀ y ∈ L, y.h < x.h) : Rows base w' g' cap' (L ++ [x]) := by
  have hone : ∀ y : BRow, Row W y.h [.int .i64 y.lo, .int .i64 y.hi] → y.h < W.heap.size → y.h ≠ g → Row w' y.h [.int .i64 y.lo, .int .i64 y.hi] ∧ y.h < w'.heap.size ∧ y.h ≠ g' := fun y h1 h2 h3 =>
    ⟨h1.only h2 h3 hg, Nat.lt_of_lt_of_le h2 hg.size, by rcases hor with e | e <;> omega⟩
  refine ⟨by simpa using hrow, fun y hy => ?_, ?_⟩
  · rcases List.mem_append.1 hy with hy | hy
    · obtain ⟨h1, h2, h3, h4⟩ := h.each y hy
      obtain ⟨q1, q2, q3⟩ := hone y h1 h3 h4
      exact ⟨q1, h2, q2, q3⟩
    · rw [List.mem_singleton.1 hy]
      obtain ⟨q1, q2, q3⟩ := hone x hx hxl hxg
      exact ⟨q1, hxb, q2, q3⟩
  · rw [List.pairwise_append]
    exact ⟨h.ord, by simp, fun a ha b hb => by rw [List.mem_singleton.1 hb]; exact hnew a ha⟩
theorem Rows.turn {base : Nat} {w : World} {g cap : Nat} {L : List BRow} {x : BRow} (h : Rows base w g cap (L ++ [x])) (n : Int) : Rows base (w.setCell ⟨x.h, 1, none⟩ (.int .i64 n)) g cap (L ++ [⟨x.lo, n, x.h⟩]) := by
  obtain ⟨x1, x2, x3, x4⟩ := h.each x (by simp)
  have hO : Only x.h w (w.setCell ⟨x.h, 1, none⟩ (.int .i64 n)) := only_setCell (only_refl _ _) (.inl rfl) _
  have hr := h.row.kept hO (.inr (fun e => by injection e with e; exact x4 e.symm))
  refine ⟨by simpa [bCells] using hr, fun y hy => ?_, ?_⟩
  · rcases List.mem_append.1 hy with hy | hy
    · obtain ⟨h1, h2, h3, h4⟩ := h.each y (List.mem_append_left _ hy)
      have hlt := (List.pairwise_append.1 h.ord).2.2 y hy x (by simp)
      exact ⟨h1.only h3 (by omega) hO, h2, Nat.lt_of_lt_of_le h3 hO.size, h4⟩
    · rw [List.mem_singleton.1 hy]
      exact ⟨x1.set 1 _ (by simp), x2, Nat.lt_of_lt_of_le x3 hO.size, x4⟩
  · have := h.ord
    rw [List.pairwise_append] at this ⊢
    refine ⟨this.1, by simp, fun a ha b hb => ?_⟩
    rw [List.mem_singleton.1 hb]
    exact this.2.2 a ha x (by simp)
def BrokenPost (S : List Art) (ls : List Acta) (w : World) (e : Ending) (w' : World) : Prop :=
  ∃ g cap L, e = .returned (.slice (some ⟨g, 0, none⟩) L.length cap) ∧ Rows w.heap.size w' g cap L ∧ L.length ≤ 1000 ∧ Cover S ls (turnsL ls).length (L.map bPair) ∧ Below w.heap.size w w'
theorem bcell_one {x : BRow} {u : Value} (h : u ∈ bCells x) : u.oneCell' = true := by
  unfold bCells at h
  rw [List.mem_singleton] at h
  subst h
  rfl
theorem Tryz.infoRow : (Tryz.prog.info? 29).map (fun i => (i.zero, i.size, i.bytes)) = some (some (.slice none 0 0), 1, 24) := by kernel_rfl
theorem turnsL_len {ls : List Acta} (h : okActs ls = true) : (turnsL ls).length ≤ 17 := by
  have h8 := okActs_len h
  have h1 := turnsK_len ls ls.length
  have h2 : (turnsL ls).length ≤ ((turnsK ls ls.length).mergeSort (fun x y => decide (x ≤ y))).length := by
    unfold turnsL compact compactUpTo
    rw [List.length_map]
    exact Nat.le_trans (List.length_filter_le _ _) (by simp)
  rw [List.length_mergeSort] at h2
  omega

set_option maxRecDepth 100000 in
set_option maxHeartbeats 8000000 in
theorem broken2_any (S : List Art) (ls : List Acta) (w : World) (vs va : Value) (hS : Arts w w.heap.size vs S) (hA : Acts w w.heap.size va ls) (hok : okStat S = true) (hp : okActs ls = true) :
    Calls Tryz.prog 140 #[vs, va] w (BrokenPost S ls w) := by
  have hl8 := okActs_len hp
  have hT17 := turnsL_len hp
  have HP := Lib.hid hp
  have HB0 : Hid (Below w.heap.size w (w.alloc (.cells #[] 29))) := Lib.hid ((Below.refl _ _).alloc (Nat.le_refl _) _)
  have HT := Lib.hid (turns2_any ls (w.alloc (.cells #[] 29)) va (hA.on HB0.out HB0.out.size) (by omega))
  have HONA := Lib.hid (fun (d : Int) w' (hb : Below w.heap.size w w') => textOn2_any S ls d w' vs va (SlR.on hS (Pl.stays _) hb hb.size) (hA.on hb hb.size) hok hp)
  have hown0 : (w.alloc (.cells #[] 29)).ownsRow w.heap.size 29 1 (.slice (some ⟨w.heap.size, 0, none⟩) 0 0) 0 [] := by simpa using World.ownsRow_made w #[] 0 (Nat.le_refl _) (Nat.zero_le _) rfl
  have HRW0 : Hid (Rows w.heap.size (w.alloc (.cells #[] 29)) w.heap.size 0 []) := Lib.hid ⟨hown0, (fun x hx => by cases hx), List.Pairwise.nil⟩
  obtain ⟨A, c, rfl, _⟩ := hS
  obtain ⟨A2, c2, rfl, _⟩ := acts_at hA
  obtain ⟨i0, hi, hz0, hz1, hz2⟩ := info_parts Tryz.infoRow
  clear hown0 hA hok hp
  go_enter Tryz.func140, Tryz.ntmps140
  go_wp2_with (fail)
  refine (HT.out).mono ?_
  rintro e w1 ⟨vT, rfl, hO1, hb1⟩
  have HRW1 := Lib.hid (HRW0.out.below hb1)
  have HB1 := Lib.hid (HB0.out.trans (hb1.mono HB0.out.size))
  have htf := turns_first ls
  have htl := (List.getElem?_eq_some_iff.1 htf).1
  obtain ⟨AT, cT, rfl, _, hcm, h3⟩ := hO1
  obtain ⟨gT, rfl, hgT0, hgT, hrT⟩ := h3 (fun e => by rw [e] at htl; cases htl)
  have HRT1 := Lib.hid hrT
  clear hb1 h3 hrT htf
  go_wp2
  go_loopw [5, 18] (fun o i wr => ∃ (k g cap : Nat) (L : List BRow), i = .int .i64 (k : Int) ∧ k ≤ (turnsL ls).length ∧ o = .slice (some ⟨g, 0, none⟩) L.length cap ∧ L.length ≤ k ∧ Rows w.heap.size wr g cap L ∧ Cover S ls k (L.map bPair) ∧ Row wr gT ((turnsL ls).flatMap intCells) ∧ gT < wr.heap.size ∧ gT ≠ g ∧ (∀ x ∈ L, gT < x.h) ∧ Below w.heap.size w wr) (fun _ i _ => (turnsL ls).length - (RowKit.intOf i).toNat)
  case atStart => exact ⟨0, w.heap.size, 0, [], rfl, Nat.zero_le _, rfl, Nat.zero_le _, HRW1.out, Cover.start S ls, HRT1.out, hgT, (by intro e; rw [World.size_alloc] at hgT0; omega), (fun x hx => by cases hx), HB1.out⟩
  case round =>
    obtain ⟨k, g, cap, L, rfl, hk, rfl, hLk, hRW, hCV, hRT, hgT, hgTg, hgTx, hb⟩ := hrel
    have HRW := Lib.hid hRW
    have HCV := Lib.hid hCV
    have HRT := Lib.hid hRT
    have HB := Lib.hid hb
    clear hRW hCV hRT hb
    by_cases hlt : k < (turnsL ls).length
    · have x9 : wr.cell? ⟨gT, k, none⟩ = some (.int .i64 (turnsL ls)[k]) := HRT.out.cell k _ (by rw [int_flat, List.getElem?_map, List.getElem?_eq_getElem hlt]; rfl)
      obtain ⟨q1, q2, q3, _⟩ := turns_gap hlt
      have HON := Lib.hid (HONA.out (turnsL ls)[k] wr HB.out)
      have HSK := Lib.hid (fun h => HCV.out.skip HP.out hlt h)
      have HAD := Lib.hid (fun h => HCV.out.add HP.out hlt h)
      by_cases hn : k + 1 < (turnsL ls).length
      · have hn' : (k : Int) + 1 < ((turnsL ls).length : Int) := by omega
        have hla : lastAt (turnsL ls) k = (turnsL ls)[k + 1] - 1 := by unfold lastAt; rw [if_pos hn, List.getElem?_eq_getElem hn]; rfl
        have x8 : wr.cell? ⟨gT, k + 1, none⟩ = some (.int .i64 (lastAt (turnsL ls) k + 1)) := by
          rw [hla]
          have := HRT.out.cell (k + 1) (.int .i64 (turnsL ls)[k + 1]) (by rw [int_flat, List.getElem?_map, List.getElem?_eq_getElem hn]; rfl)
          rw [this]
          congr 2
          omega
        clear hla
        generalize lastAt (turnsL ls) k = la at *
        generalize (turnsL ls)[k] = d at *
        go_wp2_with (fail)
        refine (HON.out).mono ?_
        rintro e w3 ⟨v3, rfl, _, ⟨A3, n3, c3, rfl⟩, hb3⟩
        have HR3 := Lib.hid (HRW.out.below hb3)
        have HB3 := Lib.hid (HB.out.trans (hb3.mono HB.out.size))
        have HRT3 := Lib.hid (HRT.out.below hb3 hgT)
        have hgT3 : gT < w3.heap.size := Nat.lt_of_lt_of_le hgT hb3.size
        clear hb3
        cases hon : (onO S ls d).isSome with
        | true =>
          have HC := Lib.hid (HSK.out hon)
          clear hon
          go_wp2
          go_roundw
          case rel => exact ⟨k + 1, g, cap, L, by go_num, by omega, rfl, by omega, HR3.out, HC.out, HRT3.out, hgT3, hgTg, hgTx, HB3.out⟩
          case measure => simp [RowKit.intOf] <;> omega
        | false =>
          replace HAD := Lib.hid (HAD.out hon)
          have HOW := Lib.hid HR3.out.row
          clear hon HON HSK
          rcases List.eq_nil_or_concat L with hL | ⟨L', x, hL⟩
          · generalize hgl : L.length = n at *
            have hn0 : n = 0 := by rw [← hgl, hL]; rfl
            subst hn0
            clear hL
            have hWz : ((w3.alloc (.cells #[.int .i64 d, .int .i64 (la)] 2)).alloc (.cells #[.slice (some ⟨w3.heap.size, 0, none⟩) 2 2] 29)).heap.size = w3.heap.size + 2 := by simp
            have hWB : Below w3.heap.size w3 ((w3.alloc (.cells #[.int .i64 d, .int .i64 (la)] 2)).alloc (.cells #[.slice (some ⟨w3.heap.size, 0, none⟩) 2 2] 29)) := ((Below.refl _ _).alloc (Nat.le_refl _) _).alloc (by simp) _
            have hWR := (Row.new w3 #[.int .i64 d, .int .i64 (la)] 2).below ((Below.refl _ _).alloc (Nat.le_refl _) (.cells #[.slice (some ⟨w3.heap.size, 0, none⟩) 2 2] 29)) (by simp)
            have HWR := Lib.hid hWR
            have HWB := Lib.hid hWB
            have HWO := Lib.hid ((HOW.out.alloc (.cells #[.int .i64 d, .int .i64 (la)] 2)).alloc (.cells #[.slice (some ⟨w3.heap.size, 0, none⟩) 2 2] 29))
            clear hWR hWB
            have hg3 := HR3.out.row.lt g rfl
            go_wp2_with (at_builtin; refine wpList_append_own_at _ rfl _ _ 22 rfl w.heap.size 29 i0 (.slice none 0 0) 1 24 Tryz.underlying22 hi hz0 hz1 hz2 rfl (by decide) _ _ _ rfl HWO.out ⟨w3.heap.size + 1, 0, none⟩ 1 1 (bCells ⟨d, la, w3.heap.size⟩) rfl rfl (fun j u hj => new_at2 hj) (fun u hu => bcell_one hu) ?c3 ?c4 (base_le (base_le HB3.out.size)) ?_)
            case c3 => unfold maxLen; omega
            case c4 => omega
            intro v' w9 hown' hgrow hiff hor
            obtain ⟨g', cap', rfl, hdc', hcm'⟩ := own_some hown' (by simpa using hiff)
            have hor' : g' = g ∨ g' = w3.heap.size + 2 := by
              rcases hor with h | h <;> injection h with h
              · exact .inl h
              · first | exact .inr h | exact .inr (by rw [hWz] at h; exact h)
            have HP9 := Lib.hid (Rows.push (x := ⟨d, la, w3.heap.size⟩) (HR3.out.below HWB.out) hgrow (by rw [hWz]; exact hor') (by rw [hgl]; exact hown') HWR.out HB3.out.size (by rw [hWz]; show w3.heap.size < w3.heap.size + 2; omega) (by show w3.heap.size ≠ g; omega) (fun y hy => (HR3.out.each y hy).2.2.1))
            have HRT9 := Lib.hid ((HRT3.out.below HWB.out hgT3).only (by rw [hWz]; omega) hgTg hgrow)
            have HB9 := Lib.hid ((HB3.out.trans (HWB.out.mono HB3.out.size)).grown hgrow (by rw [hWz]; have := HB3.out.size; omega) (fun j hj => by have := HOW.out.lt j hj; exact this.1))
            have hgT9 : gT < w9.heap.size := by have := hgrow.size; rw [hWz] at this; omega
            clear hown' hgrow hiff hor
            go_wp2
            go_roundw
            case rel => exact ⟨k + 1, g', cap', L ++ [⟨d, la, w3.heap.size⟩], by go_num, by omega, by rw [List.length_append, List.length_singleton, hgl], by rw [List.length_append, List.length_singleton, hgl]; omega, HP9.out, by rw [List.map_append]; exact HAD.out, HRT9.out, hgT9, by rcases hor' with e | e <;> omega, (fun y hy => by
              rcases List.mem_append.1 hy with hy | hy
              · exact hgTx y hy
              · rw [List.mem_singleton.1 hy]; exact hgT3), HB9.out⟩
            case measure => simp [RowKit.intOf] <;> omega
          · rw [List.concat_eq_append] at hL
            obtain ⟨e1, e2⟩ := own_cell HR3.out.row (j := L'.length) (u := .slice (some ⟨x.h, 0, none⟩) 2 2) (by rw [hL, List.flatMap_append, List.getElem?_append_right (by rw [flat_len (k := 1) bCells (fun _ => rfl)]; omega), flat_len (k := 1) bCells (fun _ => rfl)]; simp [bCells])
            have e3 := (HR3.out.each x (by rw [hL]; simp)).1.cell 1 _ rfl
            have e4 := (HR3.out.each x (by rw [hL]; simp)).1.free 1 (by simp)
            have HL := Lib.hid hL
            generalize hgl : L.length = n at *
            obtain ⟨m, hm⟩ : ∃ m, m = L'.length := ⟨_, rfl⟩
            rw [← hm] at e1 e2
            have hnm : n = m + 1 := by rw [← hgl, hL, hm]; simp
            subst hnm
            have HM := Lib.hid hm
            clear hL hm
            by_cases hxd : x.hi = d - 1
            · have exd : (x.hi == d - 1) = true := by simp [hxd]
              have HT3 := Lib.hid (Rows.turn (x := x) (by rw [← HL.out]; exact HR3.out) (la))
              have HJ : Hid (Cover S ls (k + 1) ((L' ++ [(⟨x.lo, la, x.h⟩ : BRow)]).map bPair)) := Lib.hid (by
                have := HAD.out
                rw [HL.out, List.map_append] at this
                rw [List.map_append]
                exact Cover.join (y := x.hi) (by rw [show x.hi + 1 = d by omega]; exact this))
              have hxb := (HR3.out.each x (by rw [HL.out]; simp))
              have HB4 := Lib.hid (HB3.out.setCell (p := ⟨x.h, 1, none⟩) hxb.2.1 (.int .i64 (la)))
              have HRT4 := Lib.hid (HRT3.out.far (p := ⟨x.h, 1, none⟩) (.int .i64 (la)) (by have := hgTx x (by rw [HL.out]; simp); show x.h ≠ gT; omega))
              clear hxd
              go_wp2
              go_roundw
              case rel => exact ⟨k + 1, g, cap, L' ++ [⟨x.lo, la, x.h⟩], by go_num, by omega, by simp [HM.out], by have := HM.out; simp; omega, HT3.out, HJ.out, HRT4.out, by simpa using hgT3, hgTg, (fun y hy => by
                rcases List.mem_append.1 hy with hy | hy
                · exact hgTx y (by rw [HL.out]; exact List.mem_append_left _ hy)
                · rw [List.mem_singleton.1 hy]; exact hgTx x (by rw [HL.out]; simp)), HB4.out⟩
              case measure => simp [RowKit.intOf] <;> omega
            · have exd : (x.hi == d - 1) = false := by rw [beq_eq_false_iff_ne]; exact hxd
              clear hxd
              have hWz : ((w3.alloc (.cells #[.int .i64 d, .int .i64 (la)] 2)).alloc (.cells #[.slice (some ⟨w3.heap.size, 0, none⟩) 2 2] 29)).heap.size = w3.heap.size + 2 := by simp
              have hWB : Below w3.heap.size w3 ((w3.alloc (.cells #[.int .i64 d, .int .i64 (la)] 2)).alloc (.cells #[.slice (some ⟨w3.heap.size, 0, none⟩) 2 2] 29)) := ((Below.refl _ _).alloc (Nat.le_refl _) _).alloc (by simp) _
              have hWR := (Row.new w3 #[.int .i64 d, .int .i64 (la)] 2).below ((Below.refl _ _).alloc (Nat.le_refl _) (.cells #[.slice (some ⟨w3.heap.size, 0, none⟩) 2 2] 29)) (by simp)
              have HWR := Lib.hid hWR
              have HWB := Lib.hid hWB
              have HWO := Lib.hid ((HOW.out.alloc (.cells #[.int .i64 d, .int .i64 (la)] 2)).alloc (.cells #[.slice (some ⟨w3.heap.size, 0, none⟩) 2 2] 29))
              clear hWR hWB
              have hg3 := HR3.out.row.lt g rfl
              go_wp2_with (at_builtin; refine wpList_append_own_at _ rfl _ _ 22 rfl w.heap.size 29 i0 (.slice none 0 0) 1 24 Tryz.underlying22 hi hz0 hz1 hz2 rfl (by decide) _ _ _ rfl HWO.out ⟨w3.heap.size + 1, 0, none⟩ 1 1 (bCells ⟨d, la, w3.heap.size⟩) rfl rfl (fun j u hj => new_at2 hj) (fun u hu => bcell_one hu) ?c3 ?c4 (base_le (base_le HB3.out.size)) ?_)
              case c3 => unfold maxLen; omega
              case c4 => omega
              intro v' w9 hown' hgrow hiff hor
              obtain ⟨g', cap', rfl, hdc', hcm'⟩ := own_some hown' (by simpa using hiff)
              have hor' : g' = g ∨ g' = w3.heap.size + 2 := by
                rcases hor with h | h <;> injection h with h
                · exact .inl h
                · first | exact .inr h | exact .inr (by rw [hWz] at h; exact h)
              have HP9 := Lib.hid (Rows.push (x := ⟨d, la, w3.heap.size⟩) (HR3.out.below HWB.out) hgrow (by rw [hWz]; exact hor') (by rw [hgl]; exact hown') HWR.out HB3.out.size (by rw [hWz]; show w3.heap.size < w3.heap.size + 2; omega) (by show w3.heap.size ≠ g; omega) (fun y hy => (HR3.out.each y hy).2.2.1))
              have HRT9 := Lib.hid ((HRT3.out.below HWB.out hgT3).only (by rw [hWz]; omega) hgTg hgrow)
              have HB9 := Lib.hid ((HB3.out.trans (HWB.out.mono HB3.out.size)).grown hgrow (by rw [hWz]; have := HB3.out.size; omega) (fun j hj => by have := HOW.out.lt j hj; exact this.1))
              have hgT9 : gT < w9.heap.size := by have := hgrow.size; rw [hWz] at this; omega
              clear hown' hgrow hiff hor
              go_wp2
              go_roundw
              case rel => exact ⟨k + 1, g', cap', L ++ [⟨d, la, w3.heap.size⟩], by go_num, by omega, by rw [List.length_append, List.length_singleton, hgl], by rw [List.length_append, List.length_singleton, hgl]; omega, HP9.out, by rw [List.map_append]; exact HAD.out, HRT9.out, hgT9, by rcases hor' with e | e <;> omega, (fun y hy => by
                rcases List.mem_append.1 hy with hy | hy
                · exact hgTx y hy
                · rw [List.mem_singleton.1 hy]; exact hgT3), HB9.out⟩
              case measure => simp [RowKit.intOf] <;> omega
      · have hn' : ¬ (k : Int) + 1 < ((turnsL ls).length : Int) := by omega
        have hla : lastAt (turnsL ls) k = 999 := by unfold lastAt; rw [if_neg hn]
        rw [hla] at HAD q1
        clear q2 hla
        generalize (turnsL ls)[k] = d at *
        go_wp2_with (fail)
        refine (HON.out).mono ?_
        rintro e w3 ⟨v3, rfl, _, ⟨A3, n3, c3, rfl⟩, hb3⟩
        have HR3 := Lib.hid (HRW.out.below hb3)
        have HB3 := Lib.hid (HB.out.trans (hb3.mono HB.out.size))
        have HRT3 := Lib.hid (HRT.out.below hb3 hgT)
        have hgT3 : gT < w3.heap.size := Nat.lt_of_lt_of_le hgT hb3.size
        clear hb3
        cases hon : (onO S ls d).isSome with
        | true =>
          have HC := Lib.hid (HSK.out hon)
          clear hon
          go_wp2
          go_roundw
          case rel => exact ⟨k + 1, g, cap, L, by go_num, by omega, rfl, by omega, HR3.out, HC.out, HRT3.out, hgT3, hgTg, hgTx, HB3.out⟩
          case measure => simp [RowKit.intOf] <;> omega
        | false =>
          replace HAD := Lib.hid (HAD.out hon)
          have HOW := Lib.hid HR3.out.row
          clear hon HON HSK
          rcases List.eq_nil_or_concat L with hL | ⟨L', x, hL⟩
          · generalize hgl : L.length = n at *
            have hn0 : n = 0 := by rw [← hgl, hL]; rfl
            subst hn0
            clear hL
            have hWz : ((w3.alloc (.cells #[.int .i64 d, .int .i64 (999)] 2)).alloc (.cells #[.slice (some ⟨w3.heap.size, 0, none⟩) 2 2] 29)).heap.size = w3.heap.size + 2 := by simp
            have hWB : Below w3.heap.size w3 ((w3.alloc (.cells #[.int .i64 d, .int .i64 (999)] 2)).alloc (.cells #[.slice (some ⟨w3.heap.size, 0, none⟩) 2 2] 29)) := ((Below.refl _ _).alloc (Nat.le_refl _) _).alloc (by simp) _
            have hWR := (Row.new w3 #[.int .i64 d, .int .i64 (999)] 2).below ((Below.refl _ _).alloc (Nat.le_refl _) (.cells #[.slice (some ⟨w3.heap.size, 0, none⟩) 2 2] 29)) (by simp)
            have HWR := Lib.hid hWR
            have HWB := Lib.hid hWB
            have HWO := Lib.hid ((HOW.out.alloc (.cells #[.int .i64 d, .int .i64 (999)] 2)).alloc (.cells #[.slice (some ⟨w3.heap.size, 0, none⟩) 2 2] 29))
            clear hWR hWB
            have hg3 := HR3.out.row.lt g rfl
            go_wp2_with (at_builtin; refine wpList_append_own_at _ rfl _ _ 22 rfl w.heap.size 29 i0 (.slice none 0 0) 1 24 Tryz.underlying22 hi hz0 hz1 hz2 rfl (by decide) _ _ _ rfl HWO.out ⟨w3.heap.size + 1, 0, none⟩ 1 1 (bCells ⟨d, 999, w3.heap.size⟩) rfl rfl (fun j u hj => new_at2 hj) (fun u hu => bcell_one hu) ?c3 ?c4 (base_le (base_le HB3.out.size)) ?_)
            case c3 => unfold maxLen; omega
            case c4 => omega
            intro v' w9 hown' hgrow hiff hor
            obtain ⟨g', cap', rfl, hdc', hcm'⟩ := own_some hown' (by simpa using hiff)
            have hor' : g' = g ∨ g' = w3.heap.size + 2 := by
              rcases hor with h | h <;> injection h with h
              · exact .inl h
              · first | exact .inr h | exact .inr (by rw [hWz] at h; exact h)
            have HP9 := Lib.hid (Rows.push (x := ⟨d, 999, w3.heap.size⟩) (HR3.out.below HWB.out) hgrow (by rw [hWz]; exact hor') (by rw [hgl]; exact hown') HWR.out HB3.out.size (by rw [hWz]; show w3.heap.size < w3.heap.size + 2; omega) (by show w3.heap.size ≠ g; omega) (fun y hy => (HR3.out.each y hy).2.2.1))
            have HRT9 := Lib.hid ((HRT3.out.below HWB.out hgT3).only (by rw [hWz]; omega) hgTg hgrow)
            have HB9 := Lib.hid ((HB3.out.trans (HWB.out.mono HB3.out.size)).grown hgrow (by rw [hWz]; have := HB3.out.size; omega) (fun j hj => by have := HOW.out.lt j hj; exact this.1))
            have hgT9 : gT < w9.heap.size := by have := hgrow.size; rw [hWz] at this; omega
            clear hown' hgrow hiff hor
            go_wp2
            go_roundw
            case rel => exact ⟨k + 1, g', cap', L ++ [⟨d, 999, w3.heap.size⟩], by go_num, by omega, by rw [List.length_append, List.length_singleton, hgl], by rw [List.length_append, List.length_singleton, hgl]; omega, HP9.out, by rw [List.map_append]; exact HAD.out, HRT9.out, hgT9, by rcases hor' with e | e <;> omega, (fun y hy => by
              rcases List.mem_append.1 hy with hy | hy
              · exact hgTx y hy
              · rw [List.mem_singleton.1 hy]; exact hgT3), HB9.out⟩
            case measure => simp [RowKit.intOf] <;> omega
          · rw [List.concat_eq_append] at hL
            obtain ⟨e1, e2⟩ := own_cell HR3.out.row (j := L'.length) (u := .slice (some ⟨x.h, 0, none⟩) 2 2) (by rw [hL, List.flatMap_append, List.getElem?_append_right (by rw [flat_len (k := 1) bCells (fun _ => rfl)]; omega), flat_len (k := 1) bCells (fun _ => rfl)]; simp [bCells])
            have e3 := (HR3.out.each x (by rw [hL]; simp)).1.cell 1 _ rfl
            have e4 := (HR3.out.each x (by rw [hL]; simp)).1.free 1 (by simp)
            have HL := Lib.hid hL
            generalize hgl : L.length = n at *
            obtain ⟨m, hm⟩ : ∃ m, m = L'.length := ⟨_, rfl⟩
            rw [← hm] at e1 e2
            have hnm : n = m + 1 := by rw [← hgl, hL, hm]; simp
            subst hnm
            have HM := Lib.hid hm
            clear hL hm
            by_cases hxd : x.hi = d - 1
            · have exd : (x.hi == d - 1) = true := by simp [hxd]
              have HT3 := Lib.hid (Rows.turn (x := x) (by rw [← HL.out]; exact HR3.out) (999))
              have HJ : Hid (Cover S ls (k + 1) ((L' ++ [(⟨x.lo, 999, x.h⟩ : BRow)]).map bPair)) := Lib.hid (by
                have := HAD.out
                rw [HL.out, List.map_append] at this
                rw [List.map_append]
                exact Cover.join (y := x.hi) (by rw [show x.hi + 1 = d by omega]; exact this))
              have hxb := (HR3.out.each x (by rw [HL.out]; simp))
              have HB4 := Lib.hid (HB3.out.setCell (p := ⟨x.h, 1, none⟩) hxb.2.1 (.int .i64 (999)))
              have HRT4 := Lib.hid (HRT3.out.far (p := ⟨x.h, 1, none⟩) (.int .i64 (999)) (by have := hgTx x (by rw [HL.out]; simp); show x.h ≠ gT; omega))
              clear hxd
              go_wp2
              go_roundw
              case rel => exact ⟨k + 1, g, cap, L' ++ [⟨x.lo, 999, x.h⟩], by go_num, by omega, by simp [HM.out], by have := HM.out; simp; omega, HT3.out, HJ.out, HRT4.out, by simpa using hgT3, hgTg, (fun y hy => by
                rcases List.mem_append.1 hy with hy | hy
                · exact hgTx y (by rw [HL.out]; exact List.mem_append_left _ hy)
                · rw [List.mem_singleton.1 hy]; exact hgTx x (by rw [HL.out]; simp)), HB4.out⟩
              case measure => simp [RowKit.intOf] <;> omega
            · have exd : (x.hi == d - 1) = false := by rw [beq_eq_false_iff_ne]; exact hxd
              clear hxd
              have hWz : ((w3.alloc (.cells #[.int .i64 d, .int .i64 (999)] 2)).alloc (.cells #[.slice (some ⟨w3.heap.size, 0, none⟩) 2 2] 29)).heap.size = w3.heap.size + 2 := by simp
              have hWB : Below w3.heap.size w3 ((w3.alloc (.cells #[.int .i64 d, .int .i64 (999)] 2)).alloc (.cells #[.slice (some ⟨w3.heap.size, 0, none⟩) 2 2] 29)) := ((Below.refl _ _).alloc (Nat.le_refl _) _).alloc (by simp) _
              have hWR := (Row.new w3 #[.int .i64 d, .int .i64 (999)] 2).below ((Below.refl _ _).alloc (Nat.le_refl _) (.cells #[.slice (some ⟨w3.heap.size, 0, none⟩) 2 2] 29)) (by simp)
              have HWR := Lib.hid hWR
              have HWB := Lib.hid hWB
              have HWO := Lib.hid ((HOW.out.alloc (.cells #[.int .i64 d, .int .i64 (999)] 2)).alloc (.cells #[.slice (some ⟨w3.heap.size, 0, none⟩) 2 2] 29))
              clear hWR hWB
              have hg3 := HR3.out.row.lt g rfl
              go_wp2_with (at_builtin; refine wpList_append_own_at _ rfl _ _ 22 rfl w.heap.size 29 i0 (.slice none 0 0) 1 24 Tryz.underlying22 hi hz0 hz1 hz2 rfl (by decide) _ _ _ rfl HWO.out ⟨w3.heap.size + 1, 0, none⟩ 1 1 (bCells ⟨d, 999, w3.heap.size⟩) rfl rfl (fun j u hj => new_at2 hj) (fun u hu => bcell_one hu) ?c3 ?c4 (base_le (base_le HB3.out.size)) ?_)
              case c3 => unfold maxLen; omega
              case c4 => omega
              intro v' w9 hown' hgrow hiff hor
              obtain ⟨g', cap', rfl, hdc', hcm'⟩ := own_some hown' (by simpa using hiff)
              have hor' : g' = g ∨ g' = w3.heap.size + 2 := by
                rcases hor with h | h <;> injection h with h
                · exact .inl h
                · first | exact .inr h | exact .inr (by rw [hWz] at h; exact h)
              have HP9 := Lib.hid (Rows.push (x := ⟨d, 999, w3.heap.size⟩) (HR3.out.below HWB.out) hgrow (by rw [hWz]; exact hor') (by rw [hgl]; exact hown') HWR.out HB3.out.size (by rw [hWz]; show w3.heap.size < w3.heap.size + 2; omega) (by show w3.heap.size ≠ g; omega) (fun y hy => (HR3.out.each y hy).2.2.1))
              have HRT9 := Lib.hid ((HRT3.out.below HWB.out hgT3).only (by rw [hWz]; omega) hgTg hgrow)
              have HB9 := Lib.hid ((HB3.out.trans (HWB.out.mono HB3.out.size)).grown hgrow (by rw [hWz]; have := HB3.out.size; omega) (fun j hj => by have := HOW.out.lt j hj; exact this.1))
              have hgT9 : gT < w9.heap.size := by have := hgrow.size; rw [hWz] at this; omega
              clear hown' hgrow hiff hor
              go_wp2
              go_roundw
              case rel => exact ⟨k + 1, g', cap', L ++ [⟨d, 999, w3.heap.size⟩], by go_num, by omega, by rw [List.length_append, List.length_singleton, hgl], by rw [List.length_append, List.length_singleton, hgl]; omega, HP9.out, by rw [List.map_append]; exact HAD.out, HRT9.out, hgT9, by rcases hor' with e | e <;> omega, (fun y hy => by
                rcases List.mem_append.1 hy with hy | hy
                · exact hgTx y hy
                · rw [List.mem_singleton.1 hy]; exact hgT3), HB9.out⟩
              case measure => simp [RowKit.intOf] <;> omega
    · have hge : ¬ (k : Int) < ((turnsL ls).length : Int) := by omega
      have hk' : k = (turnsL ls).length := by omega
      subst hk'
      clear hlt
      go_wp2
      go_ret
      exact ⟨g, cap, L, rfl, HRW.out, by omega, HCV.out, HB.out⟩
end Go.Proofs.YtnandbammmcncaaGreat

namespace Go.Proofs.YtnandbammmcncaaGreat
open Go.RowKit Go.Lib

def BrokenDaysPost (S : List Art) (ls : List Acta) (w : World) (e : Ending) (w' : World) : Prop :=
  ∃ g cap L, e = .returned (.tuple #[.slice (some ⟨g, 0, none⟩) L.length cap, .bool true]) ∧ Rows w.heap.size w' g cap L ∧ L.length ≤ 1000 ∧ Cover S ls (turnsL ls).length (L.map bPair) ∧ Below w.heap.size w w'
theorem Rows.less {base b : Nat} {w : World} {g cap : Nat} {L : List BRow} (h : Rows base w g cap L) (hb : b ≤ base) : Rows b w g cap L := by
  obtain ⟨T, hB, hC, hnc, hcm, hbg, hxl⟩ := blk_of_own h.row
  exact ⟨own_of_blk hB hC (by rw [List.take_left' hxl]) hxl hnc hcm (by omega), fun x hx => by
    obtain ⟨h1, h2, h3, h4⟩ := h.each x hx
    exact ⟨h1, by omega, h3, h4⟩, h.ord⟩
end Go.Proofs.YtnandbammmcncaaGreat

namespace Go.Proofs.YtnandbammmcncaaGreat
open Go.RowKit Go.Lib

def AllDays (S : List Art) (ls : List Acta) : Prop := ∀ d, 0 ≤ d → d ≤ 999 → onO S ls d ≠ none
theorem bound_end (T : List Int) : boundAt T T.length = 1000 := by unfold boundAt; rw [if_neg (Nat.lt_irrefl _)]
theorem Cover.none {S : List Art} {ls : List Acta} {R : List (Int × Int)} (h : Cover S ls (turnsL ls).length R) : R = [] ↔ AllDays S ls := by
  constructor
  · rintro rfl d h0 h1 e
    obtain ⟨r, hr, _⟩ := (h.all d h0 (by rw [bound_end]; omega)).2 e
    cases hr
  · intro hg
    cases R with
    | nil => rfl
    | cons r R =>
      exfalso
      have h1 := h.ok r List.mem_cons_self
      rw [bound_end] at h1
      exact hg r.1 h1.1 (by omega) ((h.all r.1 h1.1 (by rw [bound_end]; omega)).1 ⟨r, List.mem_cons_self, Int.le_refl _, h1.2.1⟩)
/-- The changed ones of the first k turns behind the first. -/
def Changed (S : List Art) (ls : List Acta) (k : Nat) (D : List Int) : Prop := D.length ≤ k ∧ ∀ d, d ∈ D ↔ d ∈ ((turnsL ls).drop 1).take k ∧ onO S ls (d - 1) ≠ onO S ls d
theorem Changed.start (S : List Art) (ls : List Acta) : Changed S ls 0 [] := ⟨Nat.le_refl _, fun d => by simp⟩
theorem Changed.no {S : List Art} {ls : List Acta} {k : Nat} {D : List Int} {x : Int} (h : Changed S ls k D) (hx : ((turnsL ls).drop 1)[k]? = some x) (e : onO S ls (x - 1) = onO S ls x) : Changed S ls (k + 1) D := by
  obtain ⟨h1, h2⟩ := List.getElem?_eq_some_iff.1 hx
  refine ⟨by have := h.1; omega, fun d => ?_⟩
  rw [take_mem h1, h2, h.2 d]
  constructor
  · rintro ⟨a, b⟩; exact ⟨.inl a, b⟩
  · rintro ⟨a | a, b⟩
    · exact ⟨a, b⟩
    · rw [a] at b; exact absurd e b
theorem Changed.yes {S : List Art} {ls : List Acta} {k : Nat} {D : List Int} {x : Int} (h : Changed S ls k D) (hx : ((turnsL ls).drop 1)[k]? = some x) (e : onO S ls (x - 1) ≠ onO S ls x) : Changed S ls (k + 1) (D ++ [x]) := by
  obtain ⟨h1, h2⟩ := List.getElem?_eq_some_iff.1 hx
  refine ⟨by have := h.1; simp; omega, fun d => ?_⟩
  rw [take_mem h1, h2, List.mem_append, List.mem_singleton, h.2 d]
  constructor
  · rintro (⟨a, b⟩ | a)
    · exact ⟨.inl a, b⟩
    · rw [a]; exact ⟨.inr rfl, e⟩
  · rintro ⟨a | a, b⟩
    · exact .inl ⟨a, b⟩
    · exact .inr a
def ChangePost (S : List Art) (ls : List Acta) (w : World) (e : Ending) (w' : World) : Prop :=
  ((¬ AllDays S ls ∧ e = .returned (.tuple #[.slice none 0 0, .bool false])) ∨
    (AllDays S ls ∧ ∃ v D, e = .returned (.tuple #[v, .bool true]) ∧ OwnL intCells D w.heap.size w' v ∧ Changed S ls ((turnsL ls).length - 1) D)) ∧ Below w.heap.size w w'
end Go.Proofs.YtnandbammmcncaaGreat

namespace Go.Proofs.YtnandbammmcncaaGreat
open Go.RowKit Go.Lib

def AtPost (m : Int) (w : World) (e : Ending) (w' : World) : Prop := ∃ x : Int, 0 ≤ x ∧ x < m ∧ e = .returned (.int .i64 x) ∧ ∃ k, w' = w.drewN k
end Go.Proofs.YtnandbammmcncaaGreat

namespace Go.Proofs.YtnandbammmcncaaGreat
open Go.RowKit Go.Lib

/-- The edits that fit, as long as there is room. -/
def fitF (es : List Art) : Nat → List Edit → List Edit
  | _, [] => []
  | n, e :: r => if (findA es e.id).toList ≠ e.old.toList ∨ (e.kind = 1 ∧ 8 ≤ n) then fitF es n r else e :: fitF es (if e.kind = 1 then n + 1 else n) r
theorem fitF_sub (es : List Art) : ∀ (P : List Edit) (n : Nat), (fitF es n P).Sublist P
  | [], _ => List.Sublist.refl _
  | e :: r, n => by
    rw [fitF]
    split
    · exact (fitF_sub es r n).cons _
    · exact (fitF_sub es r _).cons_cons _
theorem fitF_old (es : List Art) : ∀ (P : List Edit) (n : Nat), ∀ e ∈ fitF es n P, (findA es e.id).toList = e.old.toList
  | [], _, e, h => by cases h
  | a :: r, n, e, h => by
    rw [fitF] at h
    split at h
    · exact fitF_old es r n e h
    · rename_i hc
      rcases List.mem_cons.1 h with rfl | h
      · exact Classical.byContradiction fun hne => hc (.inl hne)
      · exact fitF_old es r _ e h
theorem fitF_room (es : List Art) : ∀ (P : List Edit) (n : Nat), n ≤ 8 → n + ((fitF es n P).filter (fun e => decide (e.kind = 1))).length ≤ 8
  | [], n, h => by simpa [fitF] using h
  | a :: r, n, h => by
    rw [fitF]
    split
    · exact fitF_room es r n h
    · rename_i hc
      by_cases hk : a.kind = 1
      · have hn : n < 8 := by
          rcases Nat.lt_or_ge n 8 with h8 | h8
          · exact h8
          · exact absurd (.inr ⟨hk, h8⟩) hc
        have := fitF_room es r (n + 1) (by omega)
        rw [if_pos hk, List.filter_cons, if_pos (by simp [hk]), List.length_cons]
        omega
      · have := fitF_room es r n h
        rw [if_neg hk, List.filter_cons, if_neg (by simp [hk])]
        exact this
theorem sub_ok {P Q : List Edit} (h : okPatch P = true) (hs : Q.Sublist P) : okPatch Q = true := by
  rw [okPatch_iff] at *
  exact ⟨fun a ha => h.1 a (hs.subset ha), h.2.1.sublist hs, Nat.le_trans hs.length_le h.2.2⟩

end Go.Proofs.YtnandbammmcncaaGreat

namespace Go.Proofs.YtnandbammmcncaaGreat
open Go.RowKit Go.Lib

/-- A patch that fits a statute. -/
structure Fits (S : List Art) (P : List Edit) : Prop where
  ok : okPatch P = true
  old : ∀ e ∈ P, (findA S e.id).toList = e.old.toList
  room : S.length + (P.filter (fun e => decide (e.kind = 1))).length ≤ 8
theorem Fits.of {S : List Art} {P : List Edit} (h : okPatch P = true) (h8 : S.length ≤ 8) : Fits S (fitF S S.length P) :=
  ⟨sub_ok h (fitF_sub S P _), fitF_old S P _, fitF_room S P _ h8⟩
def mixE (P : List Edit) (e : Edit) : Edit := if (editOf P e.id).kind = 0 then e else editOf P e.id
def StatutePost (w : World) (e : Ending) (w' : World) : Prop :=
  ∃ v1 v2 v3 S P Q, e = .returned (.tuple #[v1, v2, v3]) ∧ OwnL artCells S w.heap.size w' v1 ∧ OwnL editCells P w.heap.size w' v2 ∧ OwnL editCells Q w.heap.size w' v3 ∧ okStat S = true ∧ Fits S P ∧ Fits S Q ∧ Below w.heap.size w w'

end Go.Proofs.YtnandbammmcncaaGreat

namespace Go.Proofs.YtnandbammmcncaaGreat
open Go.RowKit Go.Lib

theorem riseE_ext : ∀ {a b : List Edit}, RiseE a → RiseE b → (∀ e, e ∈ a ↔ e ∈ b) → a = b
  | [], [], _, _, _ => rfl
  | [], y :: b, _, _, h => absurd ((h y).2 List.mem_cons_self) (by simp)
  | x :: a, [], _, _, h => absurd ((h x).1 List.mem_cons_self) (by simp)
  | x :: a, y :: b, ha, hb, h => by
    obtain ⟨ha1, ha2⟩ := List.pairwise_cons.1 ha
    obtain ⟨hb1, hb2⟩ := List.pairwise_cons.1 hb
    have hxy : x = y := by
      rcases List.mem_cons.1 ((h x).1 List.mem_cons_self) with e | hx
      · exact e
      · rcases List.mem_cons.1 ((h y).2 List.mem_cons_self) with e | hy
        · exact e.symm
        · have := hb1 x hx
          have := ha1 y hy
          omega
    subst hxy
    rw [riseE_ext ha2 hb2 (fun i => by
      constructor
      · intro hi
        rcases List.mem_cons.1 ((h i).1 (List.mem_cons_of_mem _ hi)) with e | h'
        · subst e; exact absurd (ha1 i hi) (by omega)
        · exact h'
      · intro hi
        rcases List.mem_cons.1 ((h i).2 (List.mem_cons_of_mem _ hi)) with e | h'
        · subst e; exact absurd (hb1 i hi) (by omega)
        · exact h')]
theorem filter_two {α : Type} (p : α → Bool) (l : List α) : l.length = (l.filter p).length + (l.filter (fun x => !p x)).length := by
  induction l with
  | nil => rfl
  | cons x r ih =>
    rw [List.filter_cons, List.filter_cons]
    cases h : p x
    · simp
      omega
    · simp
      omega
theorem rest_len {P Q : List Edit} (hP : RiseE P) (hQ : RiseE Q) : P.length + (restL P Q).length = Q.length + (restL Q P).length := by
  have h1 : P.filter (fun e => memB Q e) = Q.filter (fun e => memB P e) := riseE_ext (hP.sublist List.filter_sublist) (hQ.sublist List.filter_sublist) (fun e => by
    rw [List.mem_filter, List.mem_filter, memB_iff, memB_iff]
    exact ⟨fun h => ⟨h.2, h.1⟩, fun h => ⟨h.2, h.1⟩⟩)
  have h2 := filter_two (fun e => memB Q e) P
  have h3 := filter_two (fun e => memB P e) Q
  rw [h1] at h2
  have e1 : restL P Q = Q.filter (fun e => !memB P e) := rfl
  have e2 : restL Q P = P.filter (fun e => !memB Q e) := rfl
  rw [e1, e2]
  omega
theorem Merged.symm {P Q R : List Edit} (h : Merged P Q R) (hP : RiseE P) (hQ : RiseE Q) : Merged Q P R := ⟨h.rise, fun e => by rw [h.mem]; exact Or.comm, by rw [h.len, rest_len hP hQ]⟩
theorem Merged.uniq {P Q R T : List Edit} (h : Merged P Q R) (k : Merged P Q T) : R = T := riseE_ext h.rise k.rise (fun e => by rw [h.mem, k.mem])
theorem Merged.ok {P Q R : List Edit} (h : Merged P Q R) (hP : okPatch P = true) (hQ : okPatch Q = true) (h16 : P.length + (restL P Q).length ≤ 16) : okPatch R = true := by
  rw [okPatch_iff]
  refine ⟨fun e he => ?_, h.rise, by rw [h.len]; exact h16⟩
  rcases (h.mem e).1 he with hm | hm
  · exact ((okPatch_iff P).1 hP).1 e hm
  · exact ((okPatch_iff Q).1 hQ).1 e hm
end Go.Proofs.YtnandbammmcncaaGreat

namespace Go.Proofs.YtnandbammmcncaaGreat
open Go.RowKit

end Go.Proofs.YtnandbammmcncaaGreat
namespace Go.Proofs.YtnandbammmcncaaGreat
open Go.ChangeShapes Go.WideShapes Go.ChangeAt Go.RowKit
end Go.Proofs.YtnandbammmcncaaGreat

namespace Go.Proofs.YtnandbammmcncaaGreat
open Go.RowKit Go.Lib

end Go.Proofs.YtnandbammmcncaaGreat

namespace Go.Proofs.YtnandbammmcncaaGreat
open Go.RowKit Go.Lib

def inR (d : Int) (x : BRow) : Bool := decide (x.lo ≤ d) && decide (d ≤ x.hi)
theorem some_all {S : List Art} {ls : List Acta} {d : Int} (h : AllDays S ls) (h0 : 0 ≤ d) (h1 : d ≤ 999) : (onO S ls d).isSome = true := by
  cases e : onO S ls d with
  | none => exact absurd e (h d h0 h1)
  | some R => rfl
theorem BytesAt.on {w w' : World} {B B' : Nat} {A : Option Addr} {n : Nat} (h : BytesAt w B A n) (hb : Below B w w') (hB : B ≤ B') : BytesAt w' B' A n := ⟨h.1, fun h0 => by
  obtain ⟨b, off, rfl, hlt, hc⟩ := h.2 h0
  exact ⟨b, off, rfl, by omega, fun i hi => by
    obtain ⟨x, hx, hc'⟩ := hc i hi
    exact ⟨x, hx, (hb.cell (p := ⟨b, off + i, none⟩) hlt).trans hc'⟩⟩⟩

end Go.Proofs.YtnandbammmcncaaGreat

namespace Go.Proofs.YtnandbammmcncaaGreat
open Go.RowKit Go.Lib

set_option maxRecDepth 100000 in
set_option maxHeartbeats 4000000 in
theorem put_any (L : List Int) (n : Int) (w : World) (v : Value) (h : SlR (Pl intCells) 1 w w.heap.size v L) (hl : L.length ≤ 1000) :
    Calls Tryz.prog 174 #[v, .int .i64 n] w (PutPost L n w) := by
  obtain ⟨A, c, rfl, hc, hm, hel⟩ := h
  unfold maxLen at hm
  have HEL := Lib.hid hel
  obtain ⟨i0, hi, hz0, hz1, hz2⟩ := info_parts Tryz.infoI
  have hown0 : (w.alloc (.cells #[] 2)).ownsRow w.heap.size 2 1 (.slice (some ⟨w.heap.size, 0, none⟩) 0 0) 0 [] := by simpa using World.ownsRow_made w #[] 0 (Nat.le_refl _) (Nat.zero_le _) rfl
  have HOWN0 := Lib.hid hown0
  have HB0 : Hid (Below w.heap.size w (w.alloc (.cells #[] 2))) := Lib.hid ((Below.refl _ _).alloc (Nat.le_refl _) _)
  clear hel hown0
  go_enter Tryz.func174, Tryz.ntmps174
  go_wp2
  go_loopw [5, 6, 7] (fun o d i wr => ∃ (k : Nat) (b : Bool) (M : List Int), i = .int .i64 (k : Int) ∧ d = .bool b ∧ k ≤ L.length ∧ wr.ownsRow w.heap.size 2 1 o M.length (M.flatMap intCells) ∧ o ≠ .slice none 0 0 ∧ Putting L n k b M ∧ Below w.heap.size w wr) (fun _ _ i _ => L.length - (RowKit.intOf i).toNat)
  case atStart => exact ⟨0, false, [], rfl, rfl, Nat.zero_le _, HOWN0.out, by simp, Putting.start L n, HB0.out⟩
  case round =>
    obtain ⟨k, b, M, rfl, rfl, hk, hown, hnn, hP, hb⟩ := hrel
    obtain ⟨g, cap, rfl, hdc, hcm⟩ := own_some hown hnn
    unfold maxLen at hcm
    have HOWN := Lib.hid hown
    have HB := Lib.hid hb
    have HP := Lib.hid hP
    have hML : M.length ≤ k + 1 := by have := hP.len; split at this <;> omega
    clear hown hnn hP
    by_cases hlt : k < L.length
    · obtain ⟨bb, off, rfl, hblt, hcell⟩ := HEL.out (by omega)
      have hget : L[k]? = some L[k] := List.getElem?_eq_getElem hlt
      obtain ⟨us, _, hp, hcc⟩ := hcell k _ hget
      have hp : us = intCells L[k] := hp
      subst hp
      have hc0 : w.cell? ⟨bb, off + k, none⟩ = some (.int .i64 L[k]) := by have := hcc 0 _ rfl; simpa using this
      have x0 := (hb.cell (p := ⟨bb, off + k, none⟩) hblt).trans hc0
      have HC0 := Lib.hid hc0
      clear hc0
      have HK := Lib.hid (HP.out.keep hlt)
      clear hcell hget hcc hb
      cases b with
      | true =>
        generalize L[k] = y at *
        go_wp2_with (at_builtin; refine wpList_append_own _ rfl _ _ 29 rfl w.heap.size 2 i0 (.int .i64 0) 1 8 Tryz.underlying29 hi hz0 hz1 hz2 rfl (by decide) _ _ _ rfl (HOWN.out.alloc _) ⟨wr.heap.size, 0, none⟩ 1 1 (intCells y) rfl rfl (cell_one_new _ _ _) (fun u hu => int_one' _ hu) ?c3 ?c4 (base_le HB.out.size) ?_)
        case c3 => unfold maxLen; omega
        case c4 => omega
        intro v' w9 hown' hgrow hiff
        have hnn' : v' ≠ .slice none 0 0 := by simpa using hiff
        have HB9 := Lib.hid ((HB.out.alloc HB.out.size (.cells #[.int .i64 y] 2)).grown hgrow (base_le HB.out.size) (fun j hj => (HOWN.out.lt j hj).1))
        clear hgrow hiff
        go_wp2
        go_roundw
        case rel => exact ⟨k + 1, true, _, by go_num, rfl, by omega, by rw [flat_snoc, List.length_append]; exact hown', hnn', HK.out, HB9.out⟩
        case measure => simp [RowKit.intOf]; omega
      | false =>
        have HH := Lib.hid (fun e => HP.out.hit hlt e)
        have HA := Lib.hid (HP.out.add hlt)
        generalize L[k] = y at *
        by_cases hge : n ≤ y
        · by_cases hgt : n < y
          · go_wp2_with (at_builtin; refine wpList_append_own _ rfl _ _ 29 rfl w.heap.size 2 i0 (.int .i64 0) 1 8 Tryz.underlying29 hi hz0 hz1 hz2 rfl (by decide) _ _ _ rfl (HOWN.out.alloc _) ⟨wr.heap.size, 0, none⟩ 1 1 (intCells n) rfl rfl (cell_one_new _ _ _) (fun u hu => int_one' _ hu) ?c3 ?c4 (base_le HB.out.size) ?_)
            case c3 => unfold maxLen; omega
            case c4 => omega
            intro v' w8 hown' hgrow hiff
            have hnn' : v' ≠ .slice none 0 0 := by simpa using hiff
            have HB8 := Lib.hid ((HB.out.alloc HB.out.size (.cells #[.int .i64 n] 2)).grown hgrow (base_le HB.out.size) (fun j hj => (HOWN.out.lt j hj).1))
            clear hgrow hiff
            obtain ⟨g', cap', rfl, hdc', hcm'⟩ := own_some hown' hnn'
            have HOWN8 := Lib.hid hown'
            have x8 := (HB8.out.cell (p := ⟨bb, off + k, none⟩) hblt).trans HC0.out
            replace HOWN8 : Hid (w8.ownsRow w.heap.size 2 1 (.slice (some ⟨g', 0, none⟩) (M ++ [n]).length cap') (M ++ [n]).length ((M ++ [n]).flatMap intCells)) := Lib.hid (by rw [flat_snoc, List.length_append]; exact hown')
            have hl8 : (M ++ [n]).length = M.length + 1 := by simp
            clear hown' hnn' x0
            rw [← hl8]
            generalize M ++ [n] = M8 at *
            unfold maxLen at hcm'
            go_wp2_with (at_builtin; refine wpList_append_own _ rfl _ _ 29 rfl w.heap.size 2 i0 (.int .i64 0) 1 8 Tryz.underlying29 hi hz0 hz1 hz2 rfl (by decide) _ _ _ rfl (HOWN8.out.alloc _) ⟨w8.heap.size, 0, none⟩ 1 1 (intCells y) rfl rfl (cell_one_new _ _ _) (fun u hu => int_one' _ hu) ?c3 ?c4 (base_le HB8.out.size) ?_)
            case c3 => unfold maxLen; omega
            case c4 => omega
            intro v' w9 hown' hgrow hiff
            have hnn' : v' ≠ .slice none 0 0 := by simpa using hiff
            have HB9 := Lib.hid ((HB8.out.alloc HB8.out.size (.cells #[.int .i64 y] 2)).grown hgrow (base_le HB8.out.size) (fun j hj => (HOWN8.out.lt j hj).1))
            clear hgrow hiff
            go_wp2
            go_roundw
            case rel => exact ⟨k + 1, true, _, by go_num, rfl, by omega, by rw [flat_snoc, List.length_append, hl8]; exact hown', hnn', HA.out, HB9.out⟩
            case measure => simp [RowKit.intOf]; omega
          · have hyn : y = n := by omega
            have HHH := Lib.hid (HH.out hyn)
            subst hyn
            go_wp2_with (at_builtin; refine wpList_append_own _ rfl _ _ 29 rfl w.heap.size 2 i0 (.int .i64 0) 1 8 Tryz.underlying29 hi hz0 hz1 hz2 rfl (by decide) _ _ _ rfl (HOWN.out.alloc _) ⟨wr.heap.size, 0, none⟩ 1 1 (intCells y) rfl rfl (cell_one_new _ _ _) (fun u hu => int_one' _ hu) ?c3 ?c4 (base_le HB.out.size) ?_)
            case c3 => unfold maxLen; omega
            case c4 => omega
            intro v' w9 hown' hgrow hiff
            have hnn' : v' ≠ .slice none 0 0 := by simpa using hiff
            have HB9 := Lib.hid ((HB.out.alloc HB.out.size (.cells #[.int .i64 y] 2)).grown hgrow (base_le HB.out.size) (fun j hj => (HOWN.out.lt j hj).1))
            clear hgrow hiff
            go_wp2
            go_roundw
            case rel => exact ⟨k + 1, true, _, by go_num, rfl, by omega, by rw [flat_snoc, List.length_append]; exact hown', hnn', HHH.out, HB9.out⟩
            case measure => simp [RowKit.intOf]; omega
        · go_wp2_with (at_builtin; refine wpList_append_own _ rfl _ _ 29 rfl w.heap.size 2 i0 (.int .i64 0) 1 8 Tryz.underlying29 hi hz0 hz1 hz2 rfl (by decide) _ _ _ rfl (HOWN.out.alloc _) ⟨wr.heap.size, 0, none⟩ 1 1 (intCells y) rfl rfl (cell_one_new _ _ _) (fun u hu => int_one' _ hu) ?c3 ?c4 (base_le HB.out.size) ?_)
          case c3 => unfold maxLen; omega
          case c4 => omega
          intro v' w9 hown' hgrow hiff
          have hnn' : v' ≠ .slice none 0 0 := by simpa using hiff
          have HB9 := Lib.hid ((HB.out.alloc HB.out.size (.cells #[.int .i64 y] 2)).grown hgrow (base_le HB.out.size) (fun j hj => (HOWN.out.lt j hj).1))
          clear hgrow hiff
          go_wp2
          go_roundw
          case rel => exact ⟨k + 1, false, _, by go_num, rfl, by omega, by rw [flat_snoc, List.length_append]; exact hown', hnn', HK.out, HB9.out⟩
          case measure => simp [RowKit.intOf]; omega
    · have hge : ¬ (k : Int) < (L.length : Int) := by omega
      have hk' : k = L.length := by omega
      rw [hk'] at HP
      clear hk' hlt
      cases b with
      | true =>
        have HD := Lib.hid HP.out.done
        have HOL : Hid (OwnL intCells M w.heap.size wr (.slice (some ⟨g, 0, none⟩) M.length cap)) := Lib.hid (OwnL.of_own intCells (size := 1) (fun _ => rfl) HOWN.out)
        go_wp2
        go_ret
        exact ⟨_, M, rfl, HOL.out, HD.out.1, HD.out.2, hb⟩
      | false =>
        have HD := Lib.hid HP.out.last
        go_wp2_with (at_builtin; refine wpList_append_own _ rfl _ _ 29 rfl w.heap.size 2 i0 (.int .i64 0) 1 8 Tryz.underlying29 hi hz0 hz1 hz2 rfl (by decide) _ _ _ rfl (HOWN.out.alloc _) ⟨wr.heap.size, 0, none⟩ 1 1 (intCells n) rfl rfl (cell_one_new _ _ _) (fun u hu => int_one' _ hu) ?c3 ?c4 (base_le HB.out.size) ?_)
        case c3 => unfold maxLen; omega
        case c4 => omega
        intro v' w9 hown' hgrow hiff
        have hnn' : v' ≠ .slice none 0 0 := by simpa using hiff
        have HB9 := Lib.hid ((HB.out.alloc HB.out.size (.cells #[.int .i64 n] 2)).grown hgrow (base_le HB.out.size) (fun j hj => (HOWN.out.lt j hj).1))
        clear hgrow hiff
        have HOL : Hid (OwnL intCells (M ++ [n]) w.heap.size w9 v') := Lib.hid (OwnL.of_own intCells (size := 1) (fun _ => rfl) (by rw [flat_snoc, List.length_append]; exact hown'))
        obtain ⟨q1, q2, rfl, _⟩ := HOL.out
        clear hown' hnn'
        go_wp2
        go_ret
        exact ⟨_, M ++ [n], rfl, HOL.out, HD.out.1, HD.out.2, HB9.out⟩
end Go.Proofs.YtnandbammmcncaaGreat

namespace Go.Proofs.YtnandbammmcncaaGreat
open Go.RowKit Go.Lib

theorem turnsK_step {ls : List Acta} {k : Nat} (h : k < ls.length) (x : Int) : x ∈ turnsK ls (k + 1) ↔ x ∈ turnsK ls k ∨ (inD ls[k].beg = true ∧ x = ls[k].beg) ∨ (inD ls[k].fin = true ∧ x = ls[k].fin) := by
  rw [turnsK_succ h, List.mem_append, List.mem_filter]
  simp only [List.mem_cons, List.not_mem_nil, or_false]
  constructor
  · rintro (h | ⟨rfl | rfl, h⟩)
    · exact .inl h
    · exact .inr (.inl ⟨h, rfl⟩)
    · exact .inr (.inr ⟨h, rfl⟩)
  · rintro (h | ⟨h, rfl⟩ | ⟨h, rfl⟩)
    · exact .inl h
    · exact .inr ⟨.inl rfl, h⟩
    · exact .inr ⟨.inr rfl, h⟩
def TurnsPost (ls : List Acta) (w : World) (e : Ending) (w' : World) : Prop :=
  ∃ v M, e = .returned v ∧ OwnL intCells M w.heap.size w' v ∧ (∀ x, x ∈ M ↔ Turn ls x) ∧ M.length ≤ 1 + 2 * ls.length ∧ Below w.heap.size w w'

set_option maxRecDepth 100000 in
set_option maxHeartbeats 4000000 in
theorem turns1_any (ls : List Acta) (w : World) (v : Value) (h : Acts w w.heap.size v ls) (hl : ls.length ≤ 400) :
    Calls Tryz.prog 154 #[v] w (TurnsPost ls w) := by
  obtain ⟨A, c, rfl, hc, hm, hel⟩ := acts_at h
  have HEL := Lib.hid hel
  clear hel h
  have HO0 : Hid (OwnL intCells [0] w.heap.size (w.alloc (.cells #[.int .i64 0] 2)) (.slice (some ⟨w.heap.size, 0, none⟩) 1 1)) := Lib.hid ⟨_, 1, rfl, Nat.le_refl _, by unfold maxLen; decide, fun _ => ⟨_, rfl, Nat.le_refl _, by simp, Row.new w #[.int .i64 0] 2⟩⟩
  have HB0 : Hid (Below w.heap.size w (w.alloc (.cells #[.int .i64 0] 2))) := Lib.hid ((Below.refl _ _).alloc (Nat.le_refl _) _)
  go_enter Tryz.func154, Tryz.ntmps154
  go_wp2
  go_loopw [3, 4] (fun o i wr => ∃ (k : Nat) (M : List Int), i = .int .i64 (k : Int) ∧ k ≤ ls.length ∧ OwnL intCells M w.heap.size wr o ∧ (∀ x, x ∈ M ↔ x ∈ turnsK ls k) ∧ M.length ≤ 1 + 2 * k ∧ Below w.heap.size w wr) (fun _ i _ => ls.length - (RowKit.intOf i).toNat)
  case atStart => exact ⟨0, [0], rfl, Nat.zero_le _, HO0.out, (fun x => by simp [turnsK]), by simp, HB0.out⟩
  case round =>
    obtain ⟨k, M, rfl, hk, hO, hM, hMl, hb⟩ := hrel
    have HO := Lib.hid hO
    have HB := Lib.hid hb
    obtain ⟨p1, p2, rfl, _⟩ := hO
    by_cases hlt : k < ls.length
    · obtain ⟨b, off, rfl, hblt, hcell⟩ := HEL.out (by omega)
      have hget : ls[k]? = some ls[k] := List.getElem?_eq_getElem hlt
      obtain ⟨pv, c0, c1, _, _⟩ := hcell k _ hget
      have x0 := (hb.cell (p := ⟨b, off + k * 3, none⟩) hblt).trans c0
      have HC0 := Lib.hid c0
      have HC1 := Lib.hid c1
      have HT := Lib.hid (fun x => (turnsK_step hlt x).trans (or_congr (hM x).symm Iff.rfl))
      clear hcell c0 c1 hget hb hM
      generalize ls[k] = a at *
      have HD := Lib.hid (day1_val a.beg wr (inD a.beg) rfl)
      cases hin : inD a.beg with
      | false =>
        rw [hin] at HD HT
        clear hin
        go_wp2_with (fail)
        refine (HD.out).mono ?_
        rintro e _ ⟨rfl, q4, rfl⟩
        have HB4 := Lib.hid (below_drewN HB.out q4)
        have HO4 := Lib.hid (HO.out.on (below_drewN (Below.refl wr.heap.size wr) q4))
        generalize wr.drewN q4 = w4 at *
        have x5 := (HB4.out.cell (p := ⟨b, off + k * 3 + 1, none⟩) hblt).trans HC1.out
        have HD5 := Lib.hid (day1_val a.fin w4 (inD a.fin) rfl)
        cases hin2 : inD a.fin with
        | false =>
          rw [hin2] at HD5 HT
          clear hin2
          go_wp2_with (fail)
          refine (HD5.out).mono ?_
          rintro e _ ⟨rfl, q5, rfl⟩
          have HB6 := Lib.hid (below_drewN HB4.out q5)
          have HO6 := Lib.hid (HO4.out.on (below_drewN (Below.refl w4.heap.size w4) q5))
          generalize w4.drewN q5 = w6 at *
          go_wp2
          go_roundw
          case rel => exact ⟨k + 1, M, by go_num, by omega, HO6.out, (fun x => by rw [HT.out x]; simp), by omega, HB6.out⟩
          case measure => simp [RowKit.intOf]; omega
        | true =>
          rw [hin2] at HD5 HT
          clear hin2
          go_wp2_with (fail)
          refine (HD5.out).mono ?_
          rintro e _ ⟨rfl, q5, rfl⟩
          have HB6 := Lib.hid (below_drewN HB4.out q5)
          have HO6 := Lib.hid (HO4.out.on (below_drewN (Below.refl w4.heap.size w4) q5))
          generalize w4.drewN q5 = w6 at *
          have x6 := (HB6.out.cell (p := ⟨b, off + k * 3 + 1, none⟩) hblt).trans HC1.out
          go_wp2_with (fail)
          refine (put_any M a.fin w6 _ (HO6.out.slR (size := 1) (fun _ => rfl)) (by omega)).mono ?_
          rintro e w7 ⟨v', N7, rfl, hO, hm, hl, hb'⟩
          have HO7 := Lib.hid (hO.less HB6.out.size)
          have HB7 := Lib.hid (HB6.out.trans (hb'.mono HB6.out.size))
          have HM7 := Lib.hid hm
          obtain ⟨p1, p2, rfl, _⟩ := hO
          clear hm hb'
          go_wp2
          go_roundw
          case rel => exact ⟨k + 1, N7, by go_num, by omega, HO7.out, (fun x => by rw [HT.out x, HM7.out x]; (simp; exact or_comm)), by omega, HB7.out⟩
          case measure => simp [RowKit.intOf]; omega
      | true =>
        rw [hin] at HD HT
        clear hin
        go_wp2_with (fail)
        refine (HD.out).mono ?_
        rintro e _ ⟨rfl, q3, rfl⟩
        have HB3 := Lib.hid (below_drewN HB.out q3)
        have HO3 := Lib.hid (HO.out.on (below_drewN (Below.refl wr.heap.size wr) q3))
        generalize wr.drewN q3 = w3 at *
        have x3 := (HB3.out.cell (p := ⟨b, off + k * 3, none⟩) hblt).trans HC0.out
        go_wp2_with (fail)
        refine (put_any M a.beg w3 _ (HO3.out.slR (size := 1) (fun _ => rfl)) (by omega)).mono ?_
        rintro e w4 ⟨v', N4, rfl, hO, hm, hl, hb'⟩
        have HO4 := Lib.hid (hO.less HB3.out.size)
        have HB4 := Lib.hid (HB3.out.trans (hb'.mono HB3.out.size))
        have HM4 := Lib.hid hm
        obtain ⟨p1, p2, rfl, _⟩ := hO
        clear hm hb'
        have x5 := (HB4.out.cell (p := ⟨b, off + k * 3 + 1, none⟩) hblt).trans HC1.out
        have HD5 := Lib.hid (day1_val a.fin w4 (inD a.fin) rfl)
        cases hin2 : inD a.fin with
        | false =>
          rw [hin2] at HD5 HT
          clear hin2
          go_wp2_with (fail)
          refine (HD5.out).mono ?_
          rintro e _ ⟨rfl, q5, rfl⟩
          have HB6 := Lib.hid (below_drewN HB4.out q5)
          have HO6 := Lib.hid (HO4.out.on (below_drewN (Below.refl w4.heap.size w4) q5))
          generalize w4.drewN q5 = w6 at *
          go_wp2
          go_roundw
          case rel => exact ⟨k + 1, N4, by go_num, by omega, HO6.out, (fun x => by rw [HT.out x]; (rw [HM4.out x]; simp; exact or_comm)), by omega, HB6.out⟩
          case measure => simp [RowKit.intOf]; omega
        | true =>
          rw [hin2] at HD5 HT
          clear hin2
          go_wp2_with (fail)
          refine (HD5.out).mono ?_
          rintro e _ ⟨rfl, q5, rfl⟩
          have HB6 := Lib.hid (below_drewN HB4.out q5)
          have HO6 := Lib.hid (HO4.out.on (below_drewN (Below.refl w4.heap.size w4) q5))
          generalize w4.drewN q5 = w6 at *
          have x6 := (HB6.out.cell (p := ⟨b, off + k * 3 + 1, none⟩) hblt).trans HC1.out
          go_wp2_with (fail)
          refine (put_any N4 a.fin w6 _ (HO6.out.slR (size := 1) (fun _ => rfl)) (by omega)).mono ?_
          rintro e w7 ⟨v', N7, rfl, hO, hm, hl, hb'⟩
          have HO7 := Lib.hid (hO.less HB6.out.size)
          have HB7 := Lib.hid (HB6.out.trans (hb'.mono HB6.out.size))
          have HM7 := Lib.hid hm
          obtain ⟨p1, p2, rfl, _⟩ := hO
          clear hm hb'
          go_wp2
          go_roundw
          case rel => exact ⟨k + 1, N7, by go_num, by omega, HO7.out, (fun x => by rw [HT.out x, HM7.out x]; (rw [HM4.out x]; simp; by_cases z1 : x = a.beg <;> by_cases z2 : x = a.fin <;> by_cases z3 : x ∈ M <;> simp [z1, z2, z3])), by omega, HB7.out⟩
          case measure => simp [RowKit.intOf]; omega
    · have hge : ¬ (k : Int) < (ls.length : Int) := by omega
      have hk' : k = ls.length := by omega
      have HTT : Hid (∀ x, x ∈ M ↔ Turn ls x) := Lib.hid (fun x => by rw [hM x, hk', turnsK_mem])
      clear hk' hM hlt
      go_wp2
      go_ret
      exact ⟨_, M, rfl, HO.out, HTT.out, by omega, hb⟩
end Go.Proofs.YtnandbammmcncaaGreat
