/- A number put to its place, and the turns, walked: the reference's. The turns, walked: the reference's. The intervals of broken days, walked: the reference's; known is only when there are none. Acts of which one is ended, acts without one: plain. append as a step of a region that draws its order. Acts copied with patches of their own, walked: the reference's and the program's. An act ended, walked: the reference's and the program's. FnEnded, walked. -/
import Derived.Test.YtmgdodgofpapgaaPU
import Derived.Maps.AppendAt
import Derived.Deep.RegionHeld3
namespace Go.Proofs.Ytmgdodgofpapgaa
open Go.RowKit Go.Lib

set_option maxRecDepth 100000 in
set_option maxHeartbeats 4000000 in
theorem put_any (L : List Int) (n : Int) (w : World) (v : Value) (h : SlR (Pl intCells) 1 w w.heap.size v L) (hl : L.length ≤ 1000) :
    Calls Try.prog 98 #[v, .int .i64 n] w (PutPost L n w) := by
  obtain ⟨A, c, rfl, hc, hm, hel⟩ := h
  unfold maxLen at hm
  have HEL := Lib.hid hel
  obtain ⟨i0, hi, hz0, hz1, hz2⟩ := info_parts Try.infoI
  have hown0 : (w.alloc (.cells #[] 2)).ownsRow w.heap.size 2 1 (.slice (some ⟨w.heap.size, 0, none⟩) 0 0) 0 [] := by simpa using World.ownsRow_made w #[] 0 (Nat.le_refl _) (Nat.zero_le _) rfl
  have HOWN0 := Lib.hid hown0
  have HB0 : Hid (Below w.heap.size w (w.alloc (.cells #[] 2))) := Lib.hid ((Below.refl _ _).alloc (Nat.le_refl _) _)
  clear hel hown0
  go_enter Try.func98, Try.ntmps98
  go_wp2
  go_loopw [5, 6, 7] (fun o d i wr => ∃ (k : Nat) (b : Bool) (M : List Int), i = .int .i64 (k : Int) ∧ d = .bool b ∧ k ≤ L.length ∧ wr.ownsRow w.heap.size 2 1 o M.length (M.flatMap intCells) ∧ o ≠ .slice none 0 0 ∧ Putting L n k b M ∧ Below w.heap.size w wr) (fun _ _ i _ => L.length - (RowKit.intOf i).toNat)
  case atStart => exact ⟨0, false, [], rfl, rfl, Nat.zero_le _, HOWN0.out, by simp, Putting.start L n, HB0.out⟩
  case round =>
    obtain ⟨k, b, M, rfl, rfl, hk, hown, hnn, hP, hb⟩ := hrel
    obtain ⟨g, cap, rfl, hdc, hcm⟩ := own_some hown hnn
    unfold maxLen at hcm
    have HOWN := Lib.hid hown
    have HB := Lib.hid hb
    have HP := Lib.hid hP
    have hML : M.length ≤ k + 1 := by have := hP.len; split at this <;> omega
    clear hown hnn hP
    by_cases hlt : k < L.length
    · obtain ⟨bb, off, rfl, hblt, hcell⟩ := HEL.out (by omega)
      have hget : L[k]? = some L[k] := List.getElem?_eq_getElem hlt
      obtain ⟨us, _, hp, hcc⟩ := hcell k _ hget
      have hp : us = intCells L[k] := hp
      subst hp
      have hc0 : w.cell? ⟨bb, off + k, none⟩ = some (.int .i64 L[k]) := by have := hcc 0 _ rfl; simpa using this
      have x0 := (hb.cell (p := ⟨bb, off + k, none⟩) hblt).trans hc0
      have HC0 := Lib.hid hc0
      clear hc0
      have HK := Lib.hid (HP.out.keep hlt)
      clear hcell hget hcc hb
      cases b with
      | true =>
        generalize L[k] = y at *
        go_wp2_with (at_builtin; refine wpList_append_own _ rfl _ _ 28 rfl w.heap.size 2 i0 (.int .i64 0) 1 8 Try.underlying28 hi hz0 hz1 hz2 rfl (by decide) _ _ _ rfl (HOWN.out.alloc _) ⟨wr.heap.size, 0, none⟩ 1 1 (intCells y) rfl rfl (cell_one_new _ _ _) (fun u hu => int_one' _ hu) ?c3 ?c4 (base_le HB.out.size) ?_)
        case c3 => unfold maxLen; omega
        case c4 => omega
        intro v' w9 hown' hgrow hiff
        have hnn' : v' ≠ .slice none 0 0 := by simpa using hiff
        have HB9 := Lib.hid ((HB.out.alloc HB.out.size (.cells #[.int .i64 y] 2)).grown hgrow (base_le HB.out.size) (fun j hj => (HOWN.out.lt j hj).1))
        clear hgrow hiff
        go_wp2
        go_roundw
        case rel => exact ⟨k + 1, true, _, by go_num, rfl, by omega, by rw [flat_snoc, List.length_append]; exact hown', hnn', HK.out, HB9.out⟩
        case measure => simp [RowKit.intOf]; omega
      | false =>
        have HH := Lib.hid (fun e => HP.out.hit hlt e)
        have HA := Lib.hid (HP.out.add hlt)
        generalize L[k] = y at *
        by_cases hge : n ≤ y
        · by_cases hgt : n < y
          · go_wp2_with (at_builtin; refine wpList_append_own _ rfl _ _ 28 rfl w.heap.size 2 i0 (.int .i64 0) 1 8 Try.underlying28 hi hz0 hz1 hz2 rfl (by decide) _ _ _ rfl (HOWN.out.alloc _) ⟨wr.heap.size, 0, none⟩ 1 1 (intCells n) rfl rfl (cell_one_new _ _ _) (fun u hu => int_one' _ hu) ?c3 ?c4 (base_le HB.out.size) ?_)
            case c3 => unfold maxLen; omega
            case c4 => omega
            intro v' w8 hown' hgrow hiff
            have hnn' : v' ≠ .slice none 0 0 := by simpa using hiff
            have HB8 := Lib.hid ((HB.out.alloc HB.out.size (.cells #[.int .i64 n] 2)).grown hgrow (base_le HB.out.size) (fun j hj => (HOWN.out.lt j hj).1))
            clear hgrow hiff
            obtain ⟨g', cap', rfl, hdc', hcm'⟩ := own_some hown' hnn'
            have HOWN8 := Lib.hid hown'
            have x8 := (HB8.out.cell (p := ⟨bb, off + k, none⟩) hblt).trans HC0.out
            replace HOWN8 : Hid (w8.ownsRow w.heap.size 2 1 (.slice (some ⟨g', 0, none⟩) (M ++ [n]).length cap') (M ++ [n]).length ((M ++ [n]).flatMap intCells)) := Lib.hid (by rw [flat_snoc, List.length_append]; exact hown')
            have hl8 : (M ++ [n]).length = M.length + 1 := by simp
            clear hown' hnn' x0
            rw [← hl8]
            generalize M ++ [n] = M8 at *
            unfold maxLen at hcm'
            go_wp2_with (at_builtin; refine wpList_append_own _ rfl _ _ 28 rfl w.heap.size 2 i0 (.int .i64 0) 1 8 Try.underlying28 hi hz0 hz1 hz2 rfl (by decide) _ _ _ rfl (HOWN8.out.alloc _) ⟨w8.heap.size, 0, none⟩ 1 1 (intCells y) rfl rfl (cell_one_new _ _ _) (fun u hu => int_one' _ hu) ?c3 ?c4 (base_le HB8.out.size) ?_)
            case c3 => unfold maxLen; omega
            case c4 => omega
            intro v' w9 hown' hgrow hiff
            have hnn' : v' ≠ .slice none 0 0 := by simpa using hiff
            have HB9 := Lib.hid ((HB8.out.alloc HB8.out.size (.cells #[.int .i64 y] 2)).grown hgrow (base_le HB8.out.size) (fun j hj => (HOWN8.out.lt j hj).1))
            clear hgrow hiff
            go_wp2
            go_roundw
            case rel => exact ⟨k + 1, true, _, by go_num, rfl, by omega, by rw [flat_snoc, List.length_append, hl8]; exact hown', hnn', HA.out, HB9.out⟩
            case measure => simp [RowKit.intOf]; omega
          · have hyn : y = n := by omega
            have HHH := Lib.hid (HH.out hyn)
            subst hyn
            go_wp2_with (at_builtin; refine wpList_append_own _ rfl _ _ 28 rfl w.heap.size 2 i0 (.int .i64 0) 1 8 Try.underlying28 hi hz0 hz1 hz2 rfl (by decide) _ _ _ rfl (HOWN.out.alloc _) ⟨wr.heap.size, 0, none⟩ 1 1 (intCells y) rfl rfl (cell_one_new _ _ _) (fun u hu => int_one' _ hu) ?c3 ?c4 (base_le HB.out.size) ?_)
            case c3 => unfold maxLen; omega
            case c4 => omega
            intro v' w9 hown' hgrow hiff
            have hnn' : v' ≠ .slice none 0 0 := by simpa using hiff
            have HB9 := Lib.hid ((HB.out.alloc HB.out.size (.cells #[.int .i64 y] 2)).grown hgrow (base_le HB.out.size) (fun j hj => (HOWN.out.lt j hj).1))
            clear hgrow hiff
            go_wp2
            go_roundw
            case rel => exact ⟨k + 1, true, _, by go_num, rfl, by omega, by rw [flat_snoc, List.length_append]; exact hown', hnn', HHH.out, HB9.out⟩
            case measure => simp [RowKit.intOf]; omega
        · go_wp2_with (at_builtin; refine wpList_append_own _ rfl _ _ 28 rfl w.heap.size 2 i0 (.int .i64 0) 1 8 Try.underlying28 hi hz0 hz1 hz2 rfl (by decide) _ _ _ rfl (HOWN.out.alloc _) ⟨wr.heap.size, 0, none⟩ 1 1 (intCells y) rfl rfl (cell_one_new _ _ _) (fun u hu => int_one' _ hu) ?c3 ?c4 (base_le HB.out.size) ?_)
          case c3 => unfold maxLen; omega
          case c4 => omega
          intro v' w9 hown' hgrow hiff
          have hnn' : v' ≠ .slice none 0 0 := by simpa using hiff
          have HB9 := Lib.hid ((HB.out.alloc HB.out.size (.cells #[.int .i64 y] 2)).grown hgrow (base_le HB.out.size) (fun j hj => (HOWN.out.lt j hj).1))
          clear hgrow hiff
          go_wp2
          go_roundw
          case rel => exact ⟨k + 1, false, _, by go_num, rfl, by omega, by rw [flat_snoc, List.length_append]; exact hown', hnn', HK.out, HB9.out⟩
          case measure => simp [RowKit.intOf]; omega
    · have hge : ¬ (k : Int) < (L.length : Int) := by omega
      have hk' : k = L.length := by omega
      rw [hk'] at HP
      clear hk' hlt
      cases b with
      | true =>
        have HD := Lib.hid HP.out.done
        have HOL : Hid (OwnL intCells M w.heap.size wr (.slice (some ⟨g, 0, none⟩) M.length cap)) := Lib.hid (OwnL.of_own intCells (size := 1) (fun _ => rfl) HOWN.out)
        go_wp2
        go_ret
        exact ⟨_, M, rfl, HOL.out, HD.out.1, HD.out.2, hb⟩
      | false =>
        have HD := Lib.hid HP.out.last
        go_wp2_with (at_builtin; refine wpList_append_own _ rfl _ _ 28 rfl w.heap.size 2 i0 (.int .i64 0) 1 8 Try.underlying28 hi hz0 hz1 hz2 rfl (by decide) _ _ _ rfl (HOWN.out.alloc _) ⟨wr.heap.size, 0, none⟩ 1 1 (intCells n) rfl rfl (cell_one_new _ _ _) (fun u hu => int_one' _ hu) ?c3 ?c4 (base_le HB.out.size) ?_)
        case c3 => unfold maxLen; omega
        case c4 => omega
        intro v' w9 hown' hgrow hiff
        have hnn' : v' ≠ .slice none 0 0 := by simpa using hiff
        have HB9 := Lib.hid ((HB.out.alloc HB.out.size (.cells #[.int .i64 n] 2)).grown hgrow (base_le HB.out.size) (fun j hj => (HOWN.out.lt j hj).1))
        clear hgrow hiff
        have HOL : Hid (OwnL intCells (M ++ [n]) w.heap.size w9 v') := Lib.hid (OwnL.of_own intCells (size := 1) (fun _ => rfl) (by rw [flat_snoc, List.length_append]; exact hown'))
        obtain ⟨q1, q2, rfl, _⟩ := HOL.out
        clear hown' hnn'
        go_wp2
        go_ret
        exact ⟨_, M ++ [n], rfl, HOL.out, HD.out.1, HD.out.2, HB9.out⟩
end Go.Proofs.Ytmgdodgofpapgaa

namespace Go.Proofs.Ytmgdodgofpapgaa
open Go.RowKit Go.Lib

theorem turnsK_step {ls : List Acta} {k : Nat} (h : k < ls.length) (x : Int) : x ∈ turnsK ls (k + 1) ↔ x ∈ turnsK ls k ∨ (inD ls[k].beg = true ∧ x = ls[k].beg) ∨ (inD ls[k].fin = true ∧ x = ls[k].fin) := by
  rw [turnsK_succ h, List.mem_append, List.mem_filter]
  simp only [List.mem_cons, List.not_mem_nil, or_false]
  constructor
  · rintro (h | ⟨rfl | rfl, h⟩)
    · exact .inl h
    · exact .inr (.inl ⟨h, rfl⟩)
    · exact .inr (.inr ⟨h, rfl⟩)
  · rintro (h | ⟨h, rfl⟩ | ⟨h, rfl⟩)
    · exact .inl h
    · exact .inr ⟨.inl rfl, h⟩
    · exact .inr ⟨.inr rfl, h⟩
def TurnsPost (ls : List Acta) (w : World) (e : Ending) (w' : World) : Prop :=
  ∃ v M, e = .returned v ∧ OwnL intCells M w.heap.size w' v ∧ (∀ x, x ∈ M ↔ Turn ls x) ∧ M.length ≤ 1 + 2 * ls.length ∧ Below w.heap.size w w'

set_option maxRecDepth 100000 in
set_option maxHeartbeats 4000000 in
theorem turns1_any (ls : List Acta) (w : World) (v : Value) (h : Acts w w.heap.size v ls) (hl : ls.length ≤ 400) :
    Calls Try.prog 77 #[v] w (TurnsPost ls w) := by
  obtain ⟨A, c, rfl, hc, hm, hel⟩ := acts_at h
  have HEL := Lib.hid hel
  clear hel h
  have HO0 : Hid (OwnL intCells [0] w.heap.size (w.alloc (.cells #[.int .i64 0] 2)) (.slice (some ⟨w.heap.size, 0, none⟩) 1 1)) := Lib.hid ⟨_, 1, rfl, Nat.le_refl _, by unfold maxLen; decide, fun _ => ⟨_, rfl, Nat.le_refl _, by simp, Row.new w #[.int .i64 0] 2⟩⟩
  have HB0 : Hid (Below w.heap.size w (w.alloc (.cells #[.int .i64 0] 2))) := Lib.hid ((Below.refl _ _).alloc (Nat.le_refl _) _)
  go_enter Try.func77, Try.ntmps77
  go_wp2
  go_loopw [3, 4] (fun o i wr => ∃ (k : Nat) (M : List Int), i = .int .i64 (k : Int) ∧ k ≤ ls.length ∧ OwnL intCells M w.heap.size wr o ∧ (∀ x, x ∈ M ↔ x ∈ turnsK ls k) ∧ M.length ≤ 1 + 2 * k ∧ Below w.heap.size w wr) (fun _ i _ => ls.length - (RowKit.intOf i).toNat)
  case atStart => exact ⟨0, [0], rfl, Nat.zero_le _, HO0.out, (fun x => by simp [turnsK]), by simp, HB0.out⟩
  case round =>
    obtain ⟨k, M, rfl, hk, hO, hM, hMl, hb⟩ := hrel
    have HO := Lib.hid hO
    have HB := Lib.hid hb
    obtain ⟨p1, p2, rfl, _⟩ := hO
    by_cases hlt : k < ls.length
    · obtain ⟨b, off, rfl, hblt, hcell⟩ := HEL.out (by omega)
      have hget : ls[k]? = some ls[k] := List.getElem?_eq_getElem hlt
      obtain ⟨pv, c0, c1, _, _⟩ := hcell k _ hget
      have x0 := (hb.cell (p := ⟨b, off + k * 3, none⟩) hblt).trans c0
      have HC0 := Lib.hid c0
      have HC1 := Lib.hid c1
      have HT := Lib.hid (fun x => (turnsK_step hlt x).trans (or_congr (hM x).symm Iff.rfl))
      clear hcell c0 c1 hget hb hM
      generalize ls[k] = a at *
      have HD := Lib.hid (day1_val a.beg wr (inD a.beg) rfl)
      cases hin : inD a.beg with
      | false =>
        rw [hin] at HD HT
        clear hin
        go_wp2_with (fail)
        refine (HD.out).mono ?_
        rintro e _ ⟨rfl, q4, rfl⟩
        have HB4 := Lib.hid (below_drewN HB.out q4)
        have HO4 := Lib.hid (HO.out.on (below_drewN (Below.refl wr.heap.size wr) q4))
        generalize wr.drewN q4 = w4 at *
        have x5 := (HB4.out.cell (p := ⟨b, off + k * 3 + 1, none⟩) hblt).trans HC1.out
        have HD5 := Lib.hid (day1_val a.fin w4 (inD a.fin) rfl)
        cases hin2 : inD a.fin with
        | false =>
          rw [hin2] at HD5 HT
          clear hin2
          go_wp2_with (fail)
          refine (HD5.out).mono ?_
          rintro e _ ⟨rfl, q5, rfl⟩
          have HB6 := Lib.hid (below_drewN HB4.out q5)
          have HO6 := Lib.hid (HO4.out.on (below_drewN (Below.refl w4.heap.size w4) q5))
          generalize w4.drewN q5 = w6 at *
          go_wp2
          go_roundw
          case rel => exact ⟨k + 1, M, by go_num, by omega, HO6.out, (fun x => by rw [HT.out x]; simp), by omega, HB6.out⟩
          case measure => simp [RowKit.intOf]; omega
        | true =>
          rw [hin2] at HD5 HT
          clear hin2
          go_wp2_with (fail)
          refine (HD5.out).mono ?_
          rintro e _ ⟨rfl, q5, rfl⟩
          have HB6 := Lib.hid (below_drewN HB4.out q5)
          have HO6 := Lib.hid (HO4.out.on (below_drewN (Below.refl w4.heap.size w4) q5))
          generalize w4.drewN q5 = w6 at *
          have x6 := (HB6.out.cell (p := ⟨b, off + k * 3 + 1, none⟩) hblt).trans HC1.out
          go_wp2_with (fail)
          refine (put_any M a.fin w6 _ (HO6.out.slR (size := 1) (fun _ => rfl)) (by omega)).mono ?_
          rintro e w7 ⟨v', N7, rfl, hO, hm, hl, hb'⟩
          have HO7 := Lib.hid (hO.less HB6.out.size)
          have HB7 := Lib.hid (HB6.out.trans (hb'.mono HB6.out.size))
          have HM7 := Lib.hid hm
          obtain ⟨p1, p2, rfl, _⟩ := hO
          clear hm hb'
          go_wp2
          go_roundw
          case rel => exact ⟨k + 1, N7, by go_num, by omega, HO7.out, (fun x => by rw [HT.out x, HM7.out x]; (simp; exact or_comm)), by omega, HB7.out⟩
          case measure => simp [RowKit.intOf]; omega
      | true =>
        rw [hin] at HD HT
        clear hin
        go_wp2_with (fail)
        refine (HD.out).mono ?_
        rintro e _ ⟨rfl, q3, rfl⟩
        have HB3 := Lib.hid (below_drewN HB.out q3)
        have HO3 := Lib.hid (HO.out.on (below_drewN (Below.refl wr.heap.size wr) q3))
        generalize wr.drewN q3 = w3 at *
        have x3 := (HB3.out.cell (p := ⟨b, off + k * 3, none⟩) hblt).trans HC0.out
        go_wp2_with (fail)
        refine (put_any M a.beg w3 _ (HO3.out.slR (size := 1) (fun _ => rfl)) (by omega)).mono ?_
        rintro e w4 ⟨v', N4, rfl, hO, hm, hl, hb'⟩
        have HO4 := Lib.hid (hO.less HB3.out.size)
        have HB4 := Lib.hid (HB3.out.trans (hb'.mono HB3.out.size))
        have HM4 := Lib.hid hm
        obtain ⟨p1, p2, rfl, _⟩ := hO
        clear hm hb'
        have x5 := (HB4.out.cell (p := ⟨b, off + k * 3 + 1, none⟩) hblt).trans HC1.out
        have HD5 := Lib.hid (day1_val a.fin w4 (inD a.fin) rfl)
        cases hin2 : inD a.fin with
        | false =>
          rw [hin2] at HD5 HT
          clear hin2
          go_wp2_with (fail)
          refine (HD5.out).mono ?_
          rintro e _ ⟨rfl, q5, rfl⟩
          have HB6 := Lib.hid (below_drewN HB4.out q5)
          have HO6 := Lib.hid (HO4.out.on (below_drewN (Below.refl w4.heap.size w4) q5))
          generalize w4.drewN q5 = w6 at *
          go_wp2
          go_roundw
          case rel => exact ⟨k + 1, N4, by go_num, by omega, HO6.out, (fun x => by rw [HT.out x]; (rw [HM4.out x]; simp; exact or_comm)), by omega, HB6.out⟩
          case measure => simp [RowKit.intOf]; omega
        | true =>
          rw [hin2] at HD5 HT
          clear hin2
          go_wp2_with (fail)
          refine (HD5.out).mono ?_
          rintro e _ ⟨rfl, q5, rfl⟩
          have HB6 := Lib.hid (below_drewN HB4.out q5)
          have HO6 := Lib.hid (HO4.out.on (below_drewN (Below.refl w4.heap.size w4) q5))
          generalize w4.drewN q5 = w6 at *
          have x6 := (HB6.out.cell (p := ⟨b, off + k * 3 + 1, none⟩) hblt).trans HC1.out
          go_wp2_with (fail)
          refine (put_any N4 a.fin w6 _ (HO6.out.slR (size := 1) (fun _ => rfl)) (by omega)).mono ?_
          rintro e w7 ⟨v', N7, rfl, hO, hm, hl, hb'⟩
          have HO7 := Lib.hid (hO.less HB6.out.size)
          have HB7 := Lib.hid (HB6.out.trans (hb'.mono HB6.out.size))
          have HM7 := Lib.hid hm
          obtain ⟨p1, p2, rfl, _⟩ := hO
          clear hm hb'
          go_wp2
          go_roundw
          case rel => exact ⟨k + 1, N7, by go_num, by omega, HO7.out, (fun x => by rw [HT.out x, HM7.out x]; (rw [HM4.out x]; simp; by_cases z1 : x = a.beg <;> by_cases z2 : x = a.fin <;> by_cases z3 : x ∈ M <;> simp [z1, z2, z3])), by omega, HB7.out⟩
          case measure => simp [RowKit.intOf]; omega
    · have hge : ¬ (k : Int) < (ls.length : Int) := by omega
      have hk' : k = ls.length := by omega
      have HTT : Hid (∀ x, x ∈ M ↔ Turn ls x) := Lib.hid (fun x => by rw [hM x, hk', turnsK_mem])
      clear hk' hM hlt
      go_wp2
      go_ret
      exact ⟨_, M, rfl, HO.out, HTT.out, by omega, hb⟩
end Go.Proofs.Ytmgdodgofpapgaa

namespace Go.Proofs.Ytmgdodgofpapgaa
open Go.RowKit Go.Lib

def GoodTo (S : List Art) (ls : List Acta) (M : List Int) (k : Nat) : Prop := ∀ x ∈ M.take k, (onO S ls x).isSome = true
theorem GoodTo.yes {S : List Art} {ls : List Acta} {M : List Int} {k : Nat} (hk : k < M.length) (h : (onO S ls M[k]).isSome = true) : GoodTo S ls M (k + 1) ↔ GoodTo S ls M k := by
  constructor
  · exact fun H x hx => H x ((take_mem hk x).2 (.inl hx))
  · intro H x hx
    rcases (take_mem hk x).1 hx with hx | hx
    · exact H x hx
    · rw [hx]; exact h
theorem GoodTo.no {S : List Art} {ls : List Acta} {M : List Int} {k : Nat} (hk : k < M.length) (h : (onO S ls M[k]).isSome = false) : ¬ GoodTo S ls M (k + 1) := fun H => by
  have := H M[k] ((take_mem hk _).2 (.inr rfl))
  rw [h] at this
  cases this
theorem Cover.all_good {S : List Art} {ls : List Acta} (hok : okActs ls = true) (h : ∀ x, Turn ls x → (onO S ls x).isSome = true) : ∀ i, i ≤ (turnsL ls).length → Cover S ls i []
  | 0, _ => Cover.start S ls
  | i + 1, hi => (Cover.all_good hok h i (by omega)).skip hok (by omega) (h _ (((turnsL_facts ls).2 _).1 (List.getElem_mem (by omega : i < (turnsL ls).length))))
theorem all_iff {S : List Art} {ls : List Acta} (hok : okActs ls = true) : (∀ x, Turn ls x → (onO S ls x).isSome = true) ↔ AllDays S ls := by
  constructor
  · exact fun h => (Cover.all_good hok h _ (Nat.le_refl _)).none.1 rfl
  · intro h x hx
    obtain ⟨h0, h1⟩ := turn_bound hx
    exact some_all h h0 h1
def Broken1Post (S : List Art) (ls : List Acta) (w : World) (e : Ending) (w' : World) : Prop :=
  ∃ g cap n, e = .returned (.slice (some ⟨g, 0, none⟩) n cap) ∧ n ≤ 1000 ∧ (n = 0 ↔ AllDays S ls) ∧ Below w.heap.size w w'

set_option maxRecDepth 100000 in
set_option maxHeartbeats 8000000 in
theorem broken1_any (S : List Art) (ls : List Acta) (w : World) (vs va : Value) (hS : Arts w w.heap.size vs S) (hA : Acts w w.heap.size va ls) (hok : okStat S = true) (hp : okActs ls = true) :
    Calls Try.prog 51 #[vs, va] w (Broken1Post S ls w) := by
  have hl8 := okActs_len hp
  have HP := Lib.hid hp
  have HT := Lib.hid (turns1_any ls w va hA (by omega))
  have HONA := Lib.hid (fun (d : Int) w' (hb : Below w.heap.size w w') => on1_any S ls d w' vs va (SlR.on hS (Pl.stays _) hb hb.size) (hA.on hb hb.size) hok hp)
  obtain ⟨A, c, rfl, _⟩ := hS
  obtain ⟨A2, c2, rfl, _⟩ := acts_at hA
  obtain ⟨i0, hi, hz0, hz1, hz2⟩ := info_parts Try.infoRow
  clear hA hok hp
  go_enter Try.func51, Try.ntmps51
  go_wp2_with (fail)
  refine (HT.out).mono ?_
  rintro e w1 ⟨vT, M, rfl, hO1, hM, hMl, hb1⟩
  have htl : 0 < M.length := List.length_pos_of_mem ((hM 0).2 (.inl rfl))
  have HMT := Lib.hid hM
  obtain ⟨AT, cT, rfl, _, hcm, h3⟩ := hO1
  obtain ⟨gT, rfl, hgT0, hgT, hrT⟩ := h3 (fun e => by rw [e] at htl; cases htl)
  have hown0 : (w1.alloc (.cells #[] 28)).ownsRow w.heap.size 28 1 (.slice (some ⟨w1.heap.size, 0, none⟩) 0 0) 0 [] := by simpa using World.ownsRow_made (base := w.heap.size) w1 #[] 0 hb1.size (Nat.zero_le _) rfl
  have HRW1 : Hid (Rows w.heap.size (w1.alloc (.cells #[] 28)) w1.heap.size 0 []) := Lib.hid ⟨hown0, (fun x hx => by cases hx), List.Pairwise.nil⟩
  have hba : Below w1.heap.size w1 (w1.alloc (.cells #[] 28)) := (Below.refl _ _).alloc (Nat.le_refl _) _
  have HB1 := Lib.hid (hb1.trans (hba.mono hb1.size))
  have HRT1 := Lib.hid (hrT.below hba hgT)
  clear hb1 h3 hrT hM hown0 hba
  go_wp2
  go_loopw [6, 7, 8] (fun o bf i wr => ∃ (k g cap : Nat) (b : Bool) (L : List BRow), i = .int .i64 (k : Int) ∧ bf = .bool b ∧ k ≤ M.length ∧ o = .slice (some ⟨g, 0, none⟩) L.length cap ∧ L.length ≤ k ∧ Rows w.heap.size wr g cap L ∧ (b = true → L ≠ []) ∧ (L = [] ↔ GoodTo S ls M k) ∧ Row wr gT (M.flatMap intCells) ∧ gT < wr.heap.size ∧ gT ≠ g ∧ (∀ x ∈ L, gT < x.h) ∧ Below w.heap.size w wr) (fun _ _ i _ => M.length - (RowKit.intOf i).toNat)
  case atStart => exact ⟨0, w1.heap.size, 0, false, [], rfl, rfl, Nat.zero_le _, rfl, Nat.zero_le _, HRW1.out, (fun h => by cases h), ⟨fun _ x hx => by simp at hx, fun _ => rfl⟩, HRT1.out, by simp; omega, by omega, (fun x hx => by cases hx), HB1.out⟩
  case round =>
    obtain ⟨k, g, cap, b, L, rfl, rfl, hk, rfl, hLk, hRW, hbn, hG, hRT, hgT, hgTg, hgTx, hb⟩ := hrel
    have HRW := Lib.hid hRW
    have HBN := Lib.hid hbn
    have HG := Lib.hid hG
    have HRT := Lib.hid hRT
    have HB := Lib.hid hb
    clear hRW hbn hG hRT hb
    by_cases hlt : k < M.length
    · have x9 : wr.cell? ⟨gT, k, none⟩ = some (.int .i64 M[k]) := HRT.out.cell k _ (by rw [int_flat, List.getElem?_map, List.getElem?_eq_getElem hlt]; rfl)
      have HX9 : Hid (∀ W, Row W gT (M.flatMap intCells) → W.cell? ⟨gT, k, none⟩ = some (.int .i64 M[k])) := Lib.hid (fun W h => h.cell k _ (by rw [int_flat, List.getElem?_map, List.getElem?_eq_getElem hlt]; rfl))
      have q1 := turn_bound ((HMT.out _).1 (List.getElem_mem hlt))
      have HON := Lib.hid (HONA.out M[k] wr HB.out)
      have HYE := Lib.hid (fun h => GoodTo.yes (S := S) (ls := ls) hlt h)
      have HNO := Lib.hid (fun h => GoodTo.no (S := S) (ls := ls) hlt h)
      by_cases hn : k + 1 < M.length
      · have hn' : (k : Int) + 1 < (M.length : Int) := by omega
        have q2 := turn_bound ((HMT.out _).1 (List.getElem_mem hn))
        have x8 : wr.cell? ⟨gT, k + 1, none⟩ = some (.int .i64 (M[k + 1] - 1 + 1)) := by
          have := HRT.out.cell (k + 1) (.int .i64 M[k + 1]) (by rw [int_flat, List.getElem?_map, List.getElem?_eq_getElem hn]; rfl)
          rw [this]
          congr 2
          omega
        have q3 : -1 ≤ M[k + 1] - 1 := by omega
        have q4 : M[k + 1] - 1 ≤ 999 := by omega
        clear q2
        generalize M[k + 1] - 1 = la at *
        generalize M[k] = d at *
        go_wp2_with (fail)
        refine (HON.out).mono ?_
        rintro e w3 ⟨v3, rfl, _, ⟨A3, n3, c3, rfl⟩, hb3⟩
        have HR3 := Lib.hid (HRW.out.below hb3)
        have HB3 := Lib.hid (HB.out.trans (hb3.mono HB.out.size))
        have HRT3 := Lib.hid (HRT.out.below hb3 hgT)
        have hgT3 : gT < w3.heap.size := Nat.lt_of_lt_of_le hgT hb3.size
        have x10 := HX9.out w3 HRT3.out
        clear hb3
        cases hon : (onO S ls d).isSome with
        | true =>
          have HC := Lib.hid (HG.out.trans (HYE.out hon).symm)
          clear hon
          go_wp2
          go_roundw
          case rel => exact ⟨k + 1, g, cap, false, L, by go_num, rfl, by omega, rfl, by omega, HR3.out, (fun h => by cases h), HC.out, HRT3.out, hgT3, hgTg, hgTx, HB3.out⟩
          case measure => simp [RowKit.intOf] <;> omega
        | false =>
          have HNG := Lib.hid (HNO.out hon)
          have HOW := Lib.hid HR3.out.row
          clear hon HON HYE HNO
          cases b with
          | true =>
            have hne := HBN.out rfl
            rcases List.eq_nil_or_concat L with hL | ⟨L', x, hL⟩
            · exact absurd hL hne
            · clear hne
              rw [List.concat_eq_append] at hL
              obtain ⟨e1, e2⟩ := own_cell HR3.out.row (j := L'.length) (u := .slice (some ⟨x.h, 0, none⟩) 2 2) (by rw [hL, List.flatMap_append, List.getElem?_append_right (by rw [flat_len (k := 1) bCells (fun _ => rfl)]; omega), flat_len (k := 1) bCells (fun _ => rfl)]; simp [bCells])
              have e3 := (HR3.out.each x (by rw [hL]; simp)).1.cell 1 _ rfl
              have e4 := (HR3.out.each x (by rw [hL]; simp)).1.free 1 (by simp)
              have HL := Lib.hid hL
              generalize hgl : L.length = n at *
              obtain ⟨m, hm⟩ : ∃ m, m = L'.length := ⟨_, rfl⟩
              rw [← hm] at e1 e2
              have hnm : n = m + 1 := by rw [← hgl, hL, hm]; simp
              subst hnm
              have HM := Lib.hid hm
              clear hL hm
              have HT3 := Lib.hid (Rows.turn (x := x) (by rw [← HL.out]; exact HR3.out) (la))
              have hxb := (HR3.out.each x (by rw [HL.out]; simp))
              have HB4 := Lib.hid (HB3.out.setCell (p := ⟨x.h, 1, none⟩) hxb.2.1 (.int .i64 (la)))
              have HRT4 := Lib.hid (HRT3.out.far (p := ⟨x.h, 1, none⟩) (.int .i64 (la)) (by have := hgTx x (by rw [HL.out]; simp); show x.h ≠ gT; omega))
              go_wp2
              go_roundw
              case rel => exact ⟨k + 1, g, cap, true, L' ++ [⟨x.lo, la, x.h⟩], by go_num, rfl, by omega, by simp [HM.out], by have := HM.out; simp; omega, HT3.out, (fun _ => by simp), ⟨fun h => by simp at h, fun h => absurd h HNG.out⟩, HRT4.out, by simpa using hgT3, hgTg, (fun y hy => by
                rcases List.mem_append.1 hy with hy | hy
                · exact hgTx y (by rw [HL.out]; exact List.mem_append_left _ hy)
                · rw [List.mem_singleton.1 hy]; exact hgTx x (by rw [HL.out]; simp)), HB4.out⟩
              case measure => simp [RowKit.intOf] <;> omega
          | false =>
            generalize hgl : L.length = n at *
            have hWz : ((w3.alloc (.cells #[.int .i64 d, .int .i64 (la)] 2)).alloc (.cells #[.slice (some ⟨w3.heap.size, 0, none⟩) 2 2] 28)).heap.size = w3.heap.size + 2 := by simp
            have hWB : Below w3.heap.size w3 ((w3.alloc (.cells #[.int .i64 d, .int .i64 (la)] 2)).alloc (.cells #[.slice (some ⟨w3.heap.size, 0, none⟩) 2 2] 28)) := ((Below.refl _ _).alloc (Nat.le_refl _) _).alloc (by simp) _
            have hWR := (Row.new w3 #[.int .i64 d, .int .i64 (la)] 2).below ((Below.refl _ _).alloc (Nat.le_refl _) (.cells #[.slice (some ⟨w3.heap.size, 0, none⟩) 2 2] 28)) (by simp)
            have HWR := Lib.hid hWR
            have HWB := Lib.hid hWB
            have HWO := Lib.hid ((HOW.out.alloc (.cells #[.int .i64 d, .int .i64 (la)] 2)).alloc (.cells #[.slice (some ⟨w3.heap.size, 0, none⟩) 2 2] 28))
            clear hWR hWB
            have hg3 := HR3.out.row.lt g rfl
            go_wp2_with (at_builtin; refine wpList_append_own_at _ rfl _ _ 41 rfl w.heap.size 28 i0 (.slice none 0 0) 1 24 Try.underlying41 hi hz0 hz1 hz2 rfl (by decide) _ _ _ rfl HWO.out ⟨w3.heap.size + 1, 0, none⟩ 1 1 (bCells ⟨d, la, w3.heap.size⟩) rfl rfl (fun j u hj => new_at2 hj) (fun u hu => bcell_one hu) ?c3 ?c4 (base_le (base_le HB3.out.size)) ?_)
            case c3 => unfold maxLen; omega
            case c4 => omega
            intro v' w9 hown' hgrow hiff hor
            obtain ⟨g', cap', rfl, hdc', hcm'⟩ := own_some hown' (by simpa using hiff)
            have hor' : g' = g ∨ g' = w3.heap.size + 2 := by
              rcases hor with h | h <;> injection h with h
              · exact .inl h
              · first | exact .inr h | exact .inr (by rw [hWz] at h; exact h)
            have HP9 := Lib.hid (Rows.push (x := ⟨d, la, w3.heap.size⟩) (HR3.out.below HWB.out) hgrow (by rw [hWz]; exact hor') (by rw [hgl]; exact hown') HWR.out HB3.out.size (by rw [hWz]; show w3.heap.size < w3.heap.size + 2; omega) (by show w3.heap.size ≠ g; omega) (fun y hy => (HR3.out.each y hy).2.2.1))
            have HRT9 := Lib.hid ((HRT3.out.below HWB.out hgT3).only (by rw [hWz]; omega) hgTg hgrow)
            have HB9 := Lib.hid ((HB3.out.trans (HWB.out.mono HB3.out.size)).grown hgrow (by rw [hWz]; have := HB3.out.size; omega) (fun j hj => by have := HOW.out.lt j hj; exact this.1))
            have hgT9 : gT < w9.heap.size := by have := hgrow.size; rw [hWz] at this; omega
            clear hown' hgrow hiff hor
            go_wp2
            go_roundw
            case rel => exact ⟨k + 1, g', cap', true, L ++ [⟨d, la, w3.heap.size⟩], by go_num, rfl, by omega, by rw [List.length_append, List.length_singleton, hgl], by rw [List.length_append, List.length_singleton, hgl]; omega, HP9.out, (fun _ => by simp), ⟨fun h => by simp at h, fun h => absurd h HNG.out⟩, HRT9.out, hgT9, by rcases hor' with e | e <;> omega, (fun y hy => by
              rcases List.mem_append.1 hy with hy | hy
              · exact hgTx y hy
              · rw [List.mem_singleton.1 hy]; exact hgT3), HB9.out⟩
            case measure => simp [RowKit.intOf] <;> omega
      · have hn' : ¬ (k : Int) + 1 < (M.length : Int) := by omega
        generalize M[k] = d at *
        go_wp2_with (fail)
        refine (HON.out).mono ?_
        rintro e w3 ⟨v3, rfl, _, ⟨A3, n3, c3, rfl⟩, hb3⟩
        have HR3 := Lib.hid (HRW.out.below hb3)
        have HB3 := Lib.hid (HB.out.trans (hb3.mono HB.out.size))
        have HRT3 := Lib.hid (HRT.out.below hb3 hgT)
        have hgT3 : gT < w3.heap.size := Nat.lt_of_lt_of_le hgT hb3.size
        have x10 := HX9.out w3 HRT3.out
        clear hb3
        cases hon : (onO S ls d).isSome with
        | true =>
          have HC := Lib.hid (HG.out.trans (HYE.out hon).symm)
          clear hon
          go_wp2
          go_roundw
          case rel => exact ⟨k + 1, g, cap, false, L, by go_num, rfl, by omega, rfl, by omega, HR3.out, (fun h => by cases h), HC.out, HRT3.out, hgT3, hgTg, hgTx, HB3.out⟩
          case measure => simp [RowKit.intOf] <;> omega
        | false =>
          have HNG := Lib.hid (HNO.out hon)
          have HOW := Lib.hid HR3.out.row
          clear hon HON HYE HNO
          cases b with
          | true =>
            have hne := HBN.out rfl
            rcases List.eq_nil_or_concat L with hL | ⟨L', x, hL⟩
            · exact absurd hL hne
            · clear hne
              rw [List.concat_eq_append] at hL
              obtain ⟨e1, e2⟩ := own_cell HR3.out.row (j := L'.length) (u := .slice (some ⟨x.h, 0, none⟩) 2 2) (by rw [hL, List.flatMap_append, List.getElem?_append_right (by rw [flat_len (k := 1) bCells (fun _ => rfl)]; omega), flat_len (k := 1) bCells (fun _ => rfl)]; simp [bCells])
              have e3 := (HR3.out.each x (by rw [hL]; simp)).1.cell 1 _ rfl
              have e4 := (HR3.out.each x (by rw [hL]; simp)).1.free 1 (by simp)
              have HL := Lib.hid hL
              generalize hgl : L.length = n at *
              obtain ⟨m, hm⟩ : ∃ m, m = L'.length := ⟨_, rfl⟩
              rw [← hm] at e1 e2
              have hnm : n = m + 1 := by rw [← hgl, hL, hm]; simp
              subst hnm
              have HM := Lib.hid hm
              clear hL hm
              have HT3 := Lib.hid (Rows.turn (x := x) (by rw [← HL.out]; exact HR3.out) (999))
              have hxb := (HR3.out.each x (by rw [HL.out]; simp))
              have HB4 := Lib.hid (HB3.out.setCell (p := ⟨x.h, 1, none⟩) hxb.2.1 (.int .i64 (999)))
              have HRT4 := Lib.hid (HRT3.out.far (p := ⟨x.h, 1, none⟩) (.int .i64 (999)) (by have := hgTx x (by rw [HL.out]; simp); show x.h ≠ gT; omega))
              go_wp2
              go_roundw
              case rel => exact ⟨k + 1, g, cap, true, L' ++ [⟨x.lo, 999, x.h⟩], by go_num, rfl, by omega, by simp [HM.out], by have := HM.out; simp; omega, HT3.out, (fun _ => by simp), ⟨fun h => by simp at h, fun h => absurd h HNG.out⟩, HRT4.out, by simpa using hgT3, hgTg, (fun y hy => by
                rcases List.mem_append.1 hy with hy | hy
                · exact hgTx y (by rw [HL.out]; exact List.mem_append_left _ hy)
                · rw [List.mem_singleton.1 hy]; exact hgTx x (by rw [HL.out]; simp)), HB4.out⟩
              case measure => simp [RowKit.intOf] <;> omega
          | false =>
            generalize hgl : L.length = n at *
            have hWz : ((w3.alloc (.cells #[.int .i64 d, .int .i64 (999)] 2)).alloc (.cells #[.slice (some ⟨w3.heap.size, 0, none⟩) 2 2] 28)).heap.size = w3.heap.size + 2 := by simp
            have hWB : Below w3.heap.size w3 ((w3.alloc (.cells #[.int .i64 d, .int .i64 (999)] 2)).alloc (.cells #[.slice (some ⟨w3.heap.size, 0, none⟩) 2 2] 28)) := ((Below.refl _ _).alloc (Nat.le_refl _) _).alloc (by simp) _
            have hWR := (Row.new w3 #[.int .i64 d, .int .i64 (999)] 2).below ((Below.refl _ _).alloc (Nat.le_refl _) (.cells #[.slice (some ⟨w3.heap.size, 0, none⟩) 2 2] 28)) (by simp)
            have HWR := Lib.hid hWR
            have HWB := Lib.hid hWB
            have HWO := Lib.hid ((HOW.out.alloc (.cells #[.int .i64 d, .int .i64 (999)] 2)).alloc (.cells #[.slice (some ⟨w3.heap.size, 0, none⟩) 2 2] 28))
            clear hWR hWB
            have hg3 := HR3.out.row.lt g rfl
            go_wp2_with (at_builtin; refine wpList_append_own_at _ rfl _ _ 41 rfl w.heap.size 28 i0 (.slice none 0 0) 1 24 Try.underlying41 hi hz0 hz1 hz2 rfl (by decide) _ _ _ rfl HWO.out ⟨w3.heap.size + 1, 0, none⟩ 1 1 (bCells ⟨d, 999, w3.heap.size⟩) rfl rfl (fun j u hj => new_at2 hj) (fun u hu => bcell_one hu) ?c3 ?c4 (base_le (base_le HB3.out.size)) ?_)
            case c3 => unfold maxLen; omega
            case c4 => omega
            intro v' w9 hown' hgrow hiff hor
            obtain ⟨g', cap', rfl, hdc', hcm'⟩ := own_some hown' (by simpa using hiff)
            have hor' : g' = g ∨ g' = w3.heap.size + 2 := by
              rcases hor with h | h <;> injection h with h
              · exact .inl h
              · first | exact .inr h | exact .inr (by rw [hWz] at h; exact h)
            have HP9 := Lib.hid (Rows.push (x := ⟨d, 999, w3.heap.size⟩) (HR3.out.below HWB.out) hgrow (by rw [hWz]; exact hor') (by rw [hgl]; exact hown') HWR.out HB3.out.size (by rw [hWz]; show w3.heap.size < w3.heap.size + 2; omega) (by show w3.heap.size ≠ g; omega) (fun y hy => (HR3.out.each y hy).2.2.1))
            have HRT9 := Lib.hid ((HRT3.out.below HWB.out hgT3).only (by rw [hWz]; omega) hgTg hgrow)
            have HB9 := Lib.hid ((HB3.out.trans (HWB.out.mono HB3.out.size)).grown hgrow (by rw [hWz]; have := HB3.out.size; omega) (fun j hj => by have := HOW.out.lt j hj; exact this.1))
            have hgT9 : gT < w9.heap.size := by have := hgrow.size; rw [hWz] at this; omega
            clear hown' hgrow hiff hor
            go_wp2
            go_roundw
            case rel => exact ⟨k + 1, g', cap', true, L ++ [⟨d, 999, w3.heap.size⟩], by go_num, rfl, by omega, by rw [List.length_append, List.length_singleton, hgl], by rw [List.length_append, List.length_singleton, hgl]; omega, HP9.out, (fun _ => by simp), ⟨fun h => by simp at h, fun h => absurd h HNG.out⟩, HRT9.out, hgT9, by rcases hor' with e | e <;> omega, (fun y hy => by
              rcases List.mem_append.1 hy with hy | hy
              · exact hgTx y hy
              · rw [List.mem_singleton.1 hy]; exact hgT3), HB9.out⟩
            case measure => simp [RowKit.intOf] <;> omega
    · have hge : ¬ (k : Int) < (M.length : Int) := by omega
      have hk' : k = M.length := by omega
      have HFIN : Hid (L.length = 0 ↔ AllDays S ls) := Lib.hid (by
        rw [List.length_eq_zero_iff, HG.out, ← all_iff HP.out, hk']
        unfold GoodTo
        rw [List.take_length]
        exact ⟨fun h x hx => h x ((HMT.out x).2 hx), fun h x hx => h x ((HMT.out x).1 hx)⟩)
      clear hlt hk'
      go_wp2
      go_ret
      exact ⟨g, cap, L.length, rfl, by omega, HFIN.out, HB.out⟩
end Go.Proofs.Ytmgdodgofpapgaa

namespace Go.Proofs.Ytmgdodgofpapgaa
open Go.RowKit Go.Lib

theorem okActs_of {L : List Acta} (h1 : ∀ (k : Nat) (a : Acta), L[k]? = some a → okActa a = true) (h2 : ∀ (m : Nat) (d a : Acta), L[m]? = some d → L[m + 1]? = some a → d.beg ≤ a.beg) (h3 : L.length ≤ 8) : okActs L = true := by
  unfold okActs
  rw [Bool.and_eq_true, allLt_true]
  refine ⟨fun k hk => ?_, decide_eq_true h3⟩
  cases k with
  | zero => exact actAt_zero rfl (List.getElem?_eq_getElem hk) (h1 _ _ (List.getElem?_eq_getElem hk))
  | succ m =>
    have e1 : L[m]? = some (L[m]'(by omega)) := List.getElem?_eq_getElem (by omega)
    have e2 : L[m + 1]? = some L[m + 1] := List.getElem?_eq_getElem hk
    rw [actAt_succ e1 e2 (h1 _ _ e2)]
    exact decide_eq_true (h2 m _ _ e1 e2)
/-- The act k ends on a day. -/
def endA (a : Acta) (day : Int) : Acta := ⟨a.beg, day, a.pat⟩
def endL (ls : List Acta) (k : Nat) (a : Acta) (day : Int) : List Acta := ls.set k (endA a day)
theorem okActs_end {ls : List Acta} {k : Nat} {a : Acta} {day : Int} (hok : okActs ls = true) (hk : ls[k]? = some a) (h1 : a.beg < day) (h2 : day < a.fin) : okActs (endL ls k a day) = true := by
  have ha := okActa_iff.1 (okActs_at hok hk)
  have hlt := (List.getElem?_eq_some_iff.1 hk).1
  have hb : ∀ (j : Nat) (x : Acta), (endL ls k a day)[j]? = some x → ∃ y, ls[j]? = some y ∧ x.beg = y.beg := fun j x hx => by
    unfold endL at hx
    by_cases e : k = j
    · subst e
      rw [List.getElem?_set_self hlt] at hx
      injection hx with hx
      exact ⟨a, hk, by rw [← hx]; rfl⟩
    · rw [List.getElem?_set_ne e] at hx
      exact ⟨x, hx, rfl⟩
  refine okActs_of (fun j x hx => ?_) (fun m x y hx hy => ?_) (by unfold endL; rw [List.length_set]; exact okActs_len hok)
  · unfold endL at hx
    by_cases e : k = j
    · subst e
      rw [List.getElem?_set_self hlt] at hx
      injection hx with hx
      rw [← hx, okActa_iff]
      exact ⟨ha.b0, ha.b1, by show 0 ≤ day; have := ha.b0; omega, by show day ≤ 1000; have := ha.f1; omega, h1, ha.pat⟩
    · rw [List.getElem?_set_ne e] at hx
      exact okActs_at hok hx
  · obtain ⟨u, hu, e1⟩ := hb m x hx
    obtain ⟨v, hv, e2⟩ := hb (m + 1) y hy
    rw [e1, e2]
    exact okActs_step hok hu hv
def restL' (ls : List Acta) (k : Nat) : List Acta := ls.take k ++ ls.drop (k + 1)
theorem rest_at {ls : List Acta} {k j : Nat} : (restL' ls k)[j]? = if j < k then ls[j]? else ls[j + 1]? := by
  unfold restL'
  rw [← List.eraseIdx_eq_take_drop_succ, List.getElem?_eraseIdx]
theorem okActs_rest {ls : List Acta} (k : Nat) (hok : okActs ls = true) : okActs (restL' ls k) = true := by
  refine okActs_of (fun j x hx => ?_) (fun m x y hx hy => ?_) ?_
  · rw [rest_at] at hx
    split at hx
    · exact okActs_at hok hx
    · exact okActs_at hok hx
  · rw [rest_at] at hx hy
    by_cases h1 : m + 1 < k
    · rw [if_pos h1] at hy
      rw [if_pos (by omega)] at hx
      exact okActs_step hok hx hy
    · rw [if_neg h1] at hy
      by_cases h2 : m < k
      · rw [if_pos h2] at hx
        have hl := (List.getElem?_eq_some_iff.1 hy).1
        have hz : ls[m + 1]? = some (ls[m + 1]'(by omega)) := List.getElem?_eq_getElem (by omega)
        have q1 := okActs_step hok hx hz
        have q2 := okActs_step hok hz hy
        omega
      · rw [if_neg h2] at hx
        exact okActs_step hok hx hy
  · have := okActs_len hok
    unfold restL'
    rw [List.length_append, List.length_take, List.length_drop]
    omega
/-- One act's step. -/
def stepA (o : Option (List Art)) (a : Acta) : Option (List Art) := o.bind (fun S => applyO S a.pat)
theorem onK_filter (ls : List Acta) (day : Int) (o : Option (List Art)) : ∀ k, k ≤ ls.length → (forceK ls day k).foldl (stepO ls) o = ((ls.take k).filter (inF day)).foldl stepA o
  | 0, _ => by simp [forceK]
  | k + 1, hk => by
    have hget : ls[k]? = some ls[k] := List.getElem?_eq_getElem (by omega)
    have ih := onK_filter ls day o k (by omega)
    rw [List.take_succ_eq_append_getElem (by omega), List.filter_append]
    cases h : inF day ls[k] with
    | true =>
      rw [forceK_yes hget h, List.foldl_append, List.foldl_append, ih]
      simp [h, stepO, stepA, hget]
    | false =>
      rw [forceK_no hget h, ih]
      simp [h]
theorem on_filter (S : List Art) (ls : List Acta) (day : Int) : onO S ls day = (ls.filter (inF day)).foldl stepA (some S) := by
  have h := onK_filter ls day (some S) ls.length (Nat.le_refl _)
  rw [List.take_length] at h
  exact h
theorem acts_split {ls : List Acta} {k : Nat} {a : Acta} (hk : ls[k]? = some a) : ls = ls.take k ++ a :: ls.drop (k + 1) := by
  obtain ⟨h1, h2⟩ := List.getElem?_eq_some_iff.1 hk
  rw [← h2, ← List.drop_eq_getElem_cons h1, List.take_append_drop]
theorem end_split {ls : List Acta} {k : Nat} {a : Acta} (day : Int) (hk : ls[k]? = some a) : endL ls k a day = ls.take k ++ endA a day :: ls.drop (k + 1) := by
  obtain ⟨h1, h2⟩ := List.getElem?_eq_some_iff.1 hk
  unfold endL
  rw [List.set_eq_take_append_cons_drop, if_pos h1]
/-- The days before the end stay. -/
theorem on_before {S : List Art} {ls : List Acta} {k : Nat} {a : Acta} {day d : Int} (hk : ls[k]? = some a) (hd : d < day) (hf : day < a.fin) : onO S (endL ls k a day) d = onO S ls d := by
  rw [on_filter, on_filter, end_split day hk]
  conv => rhs; rw [acts_split hk]
  have hin : inF d (endA a day) = inF d a := by
    unfold inF endA
    have e1 : decide (d < day) = true := decide_eq_true hd
    have e2 : decide (d < a.fin) = true := decide_eq_true (by omega)
    simp only [e1, e2]
  rw [List.filter_append, List.filter_append, List.foldl_append, List.foldl_append, List.filter_cons, List.filter_cons, hin]
  cases inF d a with
  | true => rfl
  | false => rfl
/-- From the end on: the acts without this one. -/
theorem on_behind {S : List Art} {ls : List Acta} {k : Nat} {a : Acta} {day d : Int} (hk : ls[k]? = some a) (hd : day ≤ d) : onO S (endL ls k a day) d = onO S (restL' ls k) d := by
  rw [on_filter, on_filter, end_split day hk]
  unfold restL'
  have hin : inF d (endA a day) = false := by
    unfold inF endA
    have e1 : decide (d < day) = false := decide_eq_false (by omega)
    simp only [e1, Bool.and_false]
  rw [List.filter_append, List.filter_append, List.filter_cons, hin]
  rfl
theorem on_nil (S : List Art) (d : Int) : onO S [] d = some S := by
  rw [on_filter]
  rfl
/-- When an act can be ended on a day. -/
def EndOk (S : List Art) (ls : List Acta) (k : Nat) (a : Acta) (day : Int) : Prop := inD day = true ∧ a.beg < day ∧ day < a.fin ∧ AllDays S (endL ls k a day)
end Go.Proofs.Ytmgdodgofpapgaa

namespace Go.Proofs.Ytmgdodgofpapgaa
open Go.RowKit Go.Lib

section
variable {P : Program} {w : World}
/-- append of whatever slice is read as a list, to a row of the call's own. -/
theorem wp_append_slR {α : Type} (f : α → List Value) {o : Oper} {a : Act} {K : Act → World → Prop} {Q : Exit → Act → World → Prop} (s x : Operand) (t : TypeId)
    (ho : o.op = .call { callee := .builtin .append, args := #[s, x], argTypes := #[t, t] })
    (base : Nat) (e : TypeId) (i : TypeInfo) (z : Value) (size bytes : Nat) (ht : P.underlying t = some (.slice e)) (hi : P.info? e = some i) (hz : i.zero = some z)
    (hsize : i.size = size) (hby : i.bytes = bytes) (hzs : z.cells.size = size) (hsz : 0 < size)
    (v : Value) (n : Nat) (ys : List Value) (hs : a.eval s = v) (hown : w.ownsRow base e size v n ys)
    (vs : Value) (xs : List α) (B : Nat) (hx : a.eval x = vs) (hSl : SlR (Pl f) size w B vs xs) (hf : ∀ y, (f y).length = size) (h1 : ∀ y, ∀ u ∈ f y, u.oneCell' = true)
    (h63 : n + xs.length ≤ maxLen) (hbytes : (n + xs.length) * bytes ≤ 140737488355328) (hbase : base ≤ w.heap.size)
    (h : ∀ v' w', w'.ownsRow base e size v' (n + xs.length) (ys ++ xs.flatMap f) → w.grownBy w' v.ownBlock → (v ≠ .slice none 0 0 → v' ≠ .slice none 0 0) → K (a.put o.dst v') w') : o.wp P a w K Q := by
  obtain ⟨A, c, rfl, hc, hm, hel⟩ := hSl
  have hsome : ∀ ad : Addr, A = some ad → (∀ j u, (xs.flatMap f)[j]? = some u → w.cell? (ad.add j) = some u) → o.wp P a w K Q := fun ad hA hcells => by
    subst hA
    obtain ⟨v', w', hr, g1, g2, g3, _⟩ := run_append_own_at (P := P) w base t o.type e i z size bytes ht hi hz hsize hby hzs hsz v n ys hown ad xs.length c (xs.flatMap f) (flat_len f hf xs) hcells (flat_one f (fun y u hu => h1 y u hu) xs) h63 hbytes hbase
    unfold Oper.wp execOp
    simp only [ho, resolve, invoke, builtin, Sem.run_bind, Sem.run_pure, Result.andThen_ok, List.map_toArray, List.map_cons, List.map_nil, hs, hx, hr]
    exact h v' w' g1 g2 (fun hv hv' => hv (g3.1 hv').1)
  by_cases h0 : xs = []
  · subst h0
    cases A with
    | some ad => exact hsome ad rfl (fun j u hj => by simp at hj)
    | none =>
      have hrun : (Builtin.append_ #[t, t] o.type #[v, .slice none 0 c]).run P w = .ok v w := by
        rcases hown.2 with ⟨rfl, rfl⟩ | ⟨g, cap, cur, rfl, _, _, hnc, _⟩
        · simp [Builtin.append_, run_underlying ht, sizeOf, typeInfo, hi, Builtin.lenOf, Builtin.firstCells]
        · simp [Builtin.append_, run_underlying ht, sizeOf, typeInfo, hi, Builtin.lenOf, Builtin.firstCells, hnc, storeCells]
      unfold Oper.wp
      have hx' : a.eval x = .slice none 0 c := hx
      simp [execOp, ho, resolve, invoke, builtin, hs, hx', hrun, Result.andThen]
      exact (h v w (by simpa using hown) ⟨rfl, rfl, rfl, Nat.le_refl _, fun _ _ _ => rfl⟩ (fun hv => hv))
  · obtain ⟨b, off, hA, hb, hcell⟩ := hel (List.length_pos_iff.2 h0)
    refine hsome ⟨b, off, none⟩ hA (fun j u hj => ?_)
    have hjl : j < xs.length * size := by rw [← flat_len f hf xs]; exact (List.getElem?_eq_some_iff.1 hj).1
    have hq : j / size < xs.length := Nat.div_lt_of_lt_mul (by rw [Nat.mul_comm]; exact hjl)
    obtain ⟨us, hl, hp, hcl⟩ := hcell (j / size) xs[j / size] (List.getElem?_eq_getElem hq)
    have hp : us = f xs[j / size] := hp
    subst hp
    have hmod : j % size < size := Nat.mod_lt _ hsz
    have hu : (f xs[j / size])[j % size]? = some u := by
      have hjj : j = (j / size) * size + j % size := by rw [Nat.mul_comm]; exact (Nat.div_add_mod j size).symm
      have hfa : ∀ (L : List α) (q r : Nat) (hq : q < L.length), r < size → (L.flatMap f)[q * size + r]? = (f L[q])[r]? := by
        intro L
        induction L with
        | nil => intro q r hq; cases hq
        | cons y L ih =>
          intro q r hq hr
          rw [List.flatMap_cons]
          cases q with
          | zero => rw [Nat.zero_mul, Nat.zero_add, List.getElem?_append_left (by rw [hf]; exact hr)]; rfl
          | succ q =>
            rw [List.getElem?_append_right (by rw [hf, Nat.succ_mul]; omega), hf, Nat.succ_mul, show q * size + size + r - size = q * size + r by omega]
            exact ih q r (by simpa using hq) hr
      rw [← hfa xs (j / size) (j % size) hq hmod, ← hjj]
      exact hj
    have := hcl (j % size) u hu
    have hjj : (j / size) * size + j % size = j := by rw [Nat.mul_comm]; exact Nat.div_add_mod j size
    rw [Nat.add_assoc, hjj] at this
    rw [Addr.add_lit]
    exact this
/-- The same as one step of a region that draws its order. -/
theorem step_append_slR {α : Type} (f : α → List Value) {ops : Array Oper} {o : Oper} {a : Act} {K : Act → World → Prop} {Q : Exit → Act → World → Prop} {E : Prop} (hgd : o.guard = none) (s x : Operand) (t : TypeId)
    (ho : o.op = .call { callee := .builtin .append, args := #[s, x], argTypes := #[t, t] })
    (base : Nat) (e : TypeId) (i : TypeInfo) (z : Value) (size bytes : Nat) (ht : P.underlying t = some (.slice e)) (hi : P.info? e = some i) (hz : i.zero = some z)
    (hsize : i.size = size) (hby : i.bytes = bytes) (hzs : z.cells.size = size) (hsz : 0 < size)
    (v : Value) (n : Nat) (ys : List Value) (hs : a.eval s = v) (hown : w.ownsRow base e size v n ys)
    (vs : Value) (xs : List α) (B : Nat) (hx : a.eval x = vs) (hSl : SlR (Pl f) size w B vs xs) (hf : ∀ y, (f y).length = size) (h1 : ∀ y, ∀ u ∈ f y, u.oneCell' = true)
    (h63 : n + xs.length ≤ maxLen) (hbytes : (n + xs.length) * bytes ≤ 140737488355328) (hbase : base ≤ w.heap.size)
    (h : ∀ v' w', w'.ownsRow base e size v' (n + xs.length) (ys ++ xs.flatMap f) → w.grownBy w' v.ownBlock → (v ≠ .slice none 0 0 → v' ≠ .slice none 0 0) → K (a.put o.dst v') w') :
    if Region.wanted o (yielded ops a.tmps) = true then Oper.wp P o a w K Q else E := by
  have hw : Region.wanted o (yielded ops a.tmps) = true := by simp [Region.wanted, hgd]
  rw [if_pos hw]
  exact wp_append_slR f s x t ho base e i z size bytes ht hi hz hsize hby hzs hsz v n ys hs hown vs xs B hx hSl hf h1 h63 hbytes hbase h
/-- append onto a row of the call's own, and where the new slice lies: as one step of a region that draws its order. -/
theorem step_append_own_at {ops : Array Oper} {o : Oper} {a : Act} {K : Act → World → Prop} {Q : Exit → Act → World → Prop} {E : Prop} (hgd : o.guard = none) (s x : Operand) (t : TypeId)
    (ho : o.op = .call { callee := .builtin .append, args := #[s, x], argTypes := #[t, t] })
    (base : Nat) (e : TypeId) (i : TypeInfo) (z : Value) (size bytes : Nat) (ht : P.underlying t = some (.slice e)) (hi : P.info? e = some i) (hz : i.zero = some z)
    (hsize : i.size = size) (hby : i.bytes = bytes) (hzs : z.cells.size = size) (hsz : 0 < size)
    (v : Value) (n : Nat) (xs : List Value) (hs : a.eval s = v) (hown : w.ownsRow base e size v n xs)
    (ad : Addr) (m c : Nat) (news : List Value) (hx : a.eval x = .slice (some ad) m c) (hl : news.length = m * size) (hnews : ∀ j u, news[j]? = some u → w.cell? (ad.add j) = some u) (h1 : ∀ u ∈ news, u.oneCell' = true)
    (h63 : n + m ≤ maxLen) (hbytes : (n + m) * bytes ≤ 140737488355328) (hbase : base ≤ w.heap.size)
    (h : ∀ v' w', w'.ownsRow base e size v' (n + m) (xs ++ news) → w.grownBy w' v.ownBlock → (v' = .slice none 0 0 ↔ v = .slice none 0 0 ∧ m = 0) → (v'.ownBlock = v.ownBlock ∨ v'.ownBlock = some w.heap.size) → K (a.put o.dst v') w') :
    if Region.wanted o (yielded ops a.tmps) = true then Oper.wp P o a w K Q else E := by
  have hw : Region.wanted o (yielded ops a.tmps) = true := by simp [Region.wanted, hgd]
  rw [if_pos hw]
  obtain ⟨v', w', hr, h2, h3, h4, h5⟩ := run_append_own_at (P := P) w base t o.type e i z size bytes ht hi hz hsize hby hzs hsz v n xs hown ad m c news hl hnews h1 h63 hbytes hbase
  unfold Oper.wp execOp
  simp only [ho, resolve, invoke, builtin, Sem.run_bind, Sem.run_pure, Result.andThen_ok, List.map_toArray, List.map_cons, List.map_nil, hs, hx, hr]
  exact h v' w' h2 h3 h4 h5
end
end Go.Proofs.Ytmgdodgofpapgaa

namespace Go.Proofs.Ytmgdodgofpapgaa
open Go.RowKit Go.Lib

theorem DrawSt.below {base : Nat} {w w' : World} {S T : List Art} {vs vt : Value} {g cap : Nat} {L : List VAct} (h : DrawSt base w S T vs vt g cap L) (hb : Below w.heap.size w w') : DrawSt base w' S T vs vt g cap L :=
  ⟨h.s.on hb, h.sn, h.t.on hb, h.tn, own_below h.row hb, fun x hx => ⟨(h.pats x hx).1.on hb, (h.pats x hx).2⟩⟩
/-- Acts of the call's own. -/
def ActsSt (base : Nat) (w : World) (g cap : Nat) (L : List VAct) : Prop := DrawSt base w [] [] (.slice none 0 0) (.slice none 0 0) g cap L
theorem own_none (base : Nat) (w : World) : OwnL artCells [] base w (.slice none 0 0) := ⟨none, 0, rfl, Nat.le_refl _, Nat.zero_le _, fun h => absurd rfl h⟩
def CopyPost (ls : List Acta) (w : World) (e : Ending) (w' : World) : Prop :=
  ∃ g cap L, e = .returned (.slice (some ⟨g, 0, none⟩) L.length cap) ∧ L.map (·.a) = ls ∧ ActsSt w.heap.size w' g cap L ∧ Below w.heap.size w w'

theorem keepA {w w' : World} {p0 p1 p2 : Addr} {v0 v1 v2 : Value} (h : w.cell? p0 = some v0 ∧ w.cell? p1 = some v1 ∧ w.cell? p2 = some v2) (hb : Below w.heap.size w w') : w'.cell? p0 = some v0 ∧ w'.cell? p1 = some v1 ∧ w'.cell? p2 = some v2 :=
  ⟨(hb.cell (World.block_lt_of_cell? w _ h.1)).trans h.1, (hb.cell (World.block_lt_of_cell? w _ h.2.1)).trans h.2.1, (hb.cell (World.block_lt_of_cell? w _ h.2.2)).trans h.2.2⟩
theorem keepA' {B : Nat} {w w' : World} {p0 p1 p2 : Addr} {v0 v1 v2 : Value} (h : w.cell? p0 = some v0 ∧ w.cell? p1 = some v1 ∧ w.cell? p2 = some v2) (hb : Below B w w') (hB : w.heap.size = B) : w'.cell? p0 = some v0 ∧ w'.cell? p1 = some v1 ∧ w'.cell? p2 = some v2 :=
  keepA h (hB ▸ hb)
theorem keepG {w w' : World} {p0 p1 p2 : Addr} {g : Nat} {v0 v1 v2 : Value} (h : w.cell? p0 = some v0 ∧ w.cell? p1 = some v1 ∧ w.cell? p2 = some v2) (hg : w.grownBy w' (some g)) (h0 : p0.block ≠ g) (h1 : p1.block ≠ g) (h2 : p2.block ≠ g) : w'.cell? p0 = some v0 ∧ w'.cell? p1 = some v1 ∧ w'.cell? p2 = some v2 :=
  ⟨hg.cell h.1 (fun e => h0 (by injection e)), hg.cell h.2.1 (fun e => h1 (by injection e)), hg.cell h.2.2 (fun e => h2 (by injection e))⟩

set_option maxRecDepth 100000 in
set_option maxHeartbeats 4000000 in
theorem own1_any (ls : List Acta) (w : World) (v : Value) (h : Acts w w.heap.size v ls) (ho : okActs ls = true) :
    Calls Try.prog 50 #[v] w (CopyPost ls w) := by
  obtain ⟨A, c, rfl, hc, hm, hel⟩ := acts_at h
  have HEL := Lib.hid hel
  have HOKA := Lib.hid ho
  have hl8 := okActs_len ho
  clear hel h ho
  obtain ⟨i0, hi, hz0, hz1', hz2⟩ := info_parts Try.infoAct
  obtain ⟨e0, hie, he0, he1, he2⟩ := info_parts Try.infoE
  have hown0 : (w.alloc (.cells #[] 49)).ownsRow w.heap.size 49 3 (.slice (some ⟨w.heap.size, 0, none⟩) 0 0) 0 [] := by simpa using World.ownsRow_made w #[] 0 (Nat.le_refl _) (Nat.zero_le _) rfl
  have HD0 : Hid (ActsSt w.heap.size (w.alloc (.cells #[] 49)) w.heap.size 0 []) := Lib.hid ⟨own_none _ _, fun h => absurd rfl h, own_none _ _, fun h => absurd rfl h, hown0, fun x hx => by cases hx⟩
  have HB0 : Hid (Below w.heap.size w (w.alloc (.cells #[] 49))) := Lib.hid ((Below.refl _ _).alloc (Nat.le_refl _) _)
  clear hown0
  go_enter Try.func50, Try.ntmps50
  go_wp2
  go_loopw [3, 4] (fun o i wr => ∃ (k g cap : Nat) (L : List VAct), i = .int .i64 (k : Int) ∧ k ≤ ls.length ∧ o = .slice (some ⟨g, 0, none⟩) L.length cap ∧ L.map (·.a) = ls.take k ∧ ActsSt w.heap.size wr g cap L ∧ Below w.heap.size w wr) (fun _ i _ => ls.length - (RowKit.intOf i).toNat)
  case atStart => exact ⟨0, w.heap.size, 0, [], rfl, Nat.zero_le _, rfl, rfl, HD0.out, HB0.out⟩
  case round =>
    obtain ⟨k, g, cap, L, rfl, hk, rfl, hLm, hD, hb⟩ := hrel
    have hLk : L.length = k := by
      have := congrArg List.length hLm
      rw [List.length_map, List.length_take] at this
      omega
    have HD := Lib.hid hD
    have HB := Lib.hid hb
    have HLM := Lib.hid hLm
    clear hLm hD
    by_cases hlt : k < ls.length
    · obtain ⟨b, off, rfl, hblt, hcell⟩ := HEL.out (by omega)
      have hget : ls[k]? = some ls[k] := List.getElem?_eq_getElem hlt
      obtain ⟨pv, c0, c1, c2, hE⟩ := hcell k _ hget
      have x0 := (hb.cell (p := ⟨b, off + k * 3, none⟩) hblt).trans c0
      have x1 := (hb.cell (p := ⟨b, off + k * 3 + 1, none⟩) hblt).trans c1
      have x2 := (hb.cell (p := ⟨b, off + k * 3 + 2, none⟩) hblt).trans c2
      have HPZ := Lib.hid (sizesOk_of (okActa_iff.1 (okActs_at HOKA.out hget)).pat)
      have HPL := okPatch_len (okActa_iff.1 (okActs_at HOKA.out hget)).pat
      have HNX : Hid (∀ x : VAct, x.a = ls[k] → (L ++ [x]).map (·.a) = ls.take (k + 1)) := Lib.hid (fun x hx => by
        rw [List.map_append, HLM.out, List.take_succ_eq_append_getElem hlt, List.map_cons, List.map_nil, hx])
      have HE : Hid (∀ W, Below w.heap.size w W → Edits W W.heap.size pv ls[k].pat) := Lib.hid (fun W h => SlR.on hE (Pl.stays _) h h.size)
      clear hcell c0 c1 c2 hget
      generalize ls[k] = a at *
      have hE2 := HE.out wr hb
      obtain ⟨pA, pc, rfl, _⟩ := hE2
      have hki : (k : Int) < (ls.length : Int) := by omega
      have hk0 : (0 : Int) ≤ (k : Int) := Int.natCast_nonneg _
      clear hE
      have HDW := HD
      have HBW := HB
      have hbg : b ≠ g := by have := (HD.out.row.lt g rfl).1; omega
      go_wp2_with (fail)
      have hWs : wr.heap.size = wr.heap.size := by simp
      have hgw : g < wr.heap.size := by have := (HDW.out.row.lt g rfl).2; rw [hWs] at this; exact this
      have hwB : w.heap.size ≤ wr.heap.size := by have := HBW.out.size; rw [hWs] at this; exact this
      have hb1 : Below wr.heap.size wr (wr.alloc (.cells #[] 59)).drew := ((Below.refl _ _).alloc (by rw [hWs]; exact Nat.le_refl _) _).drew
      have hB1s : wr.heap.size ≤ (wr.alloc (.cells #[] 59)).drew.heap.size := by rw [← hWs]; exact hb1.size
      have HB1 := Lib.hid hb1
      have hown1 : (wr.alloc (.cells #[] 59)).ownsRow wr.heap.size 59 4 (.slice (some ⟨wr.heap.size, 0, none⟩) 0 0) 0 [] := by rw [← hWs]; simpa using World.ownsRow_made wr #[] 0 (Nat.le_refl _) (Nat.zero_le _) rfl
      have HOWN1 := Lib.hid hown1.drew
      have HS1 := Lib.hid (HE.out _ (HBW.out.trans (hb1.mono hwB)))
      clear hown1 hb1
      have hgl := hLk
      try rw [hLk]
      go_region_held3 (fun w' => w'.cell? ⟨b, off + k * 3, none⟩ = some (.int .i64 a.beg) ∧ w'.cell? ⟨b, off + k * 3 + 1, none⟩ = some (.int .i64 a.fin) ∧ w'.cell? ⟨b, off + k * 3 + 2, none⟩ = some (.slice pA a.pat.length pc))
        (first | exact ⟨x0, x1, x2⟩ | exact keepA ⟨x0, x1, x2⟩ ((Below.refl _ _).drew) | exact keepA ⟨x0, x1, x2⟩ ((Below.refl _ _).alloc (Nat.le_refl _) _) | exact keepA ⟨x0, x1, x2⟩ (((Below.refl _ _).alloc (Nat.le_refl _) _).drew) | exact keepA' ⟨x0, x1, x2⟩ HB2.out hWs | exact keepA (keepA' ⟨x0, x1, x2⟩ HB2.out hWs) ((Below.refl _ _).alloc (Nat.le_refl _) _) | exact keepG (keepA (keepA' ⟨x0, x1, x2⟩ HB2.out hWs) ((Below.refl _ _).alloc (Nat.le_refl _) _)) hgrow hbg hbg hbg | go_keep)
        (first
          | (refine step_append_slR editCells (by rfl) _ _ 25 (by rfl) wr.heap.size 59 e0 (.agg #[.int .i64 0, .int .i64 0, .string ⟨#[]⟩, .string ⟨#[]⟩]) 4 48 Try.underlying25 hie he0 he1 he2 rfl (by decide) _ _ _ (by rfl) HOWN1.out _ a.pat _ (by rfl) HS1.out (fun _ => rfl) (fun y u hu => edit_one hu) (by unfold maxLen; omega) (by omega) hB1s ?_
             intro v2 w2 hown2 hgrow2 hnn2
             have HO2 : Hid (OwnL editCells a.pat wr.heap.size w2 v2) := Lib.hid (OwnL.of_own editCells (size := 4) (fun _ => rfl) (by simpa using hown2))
             have HB2 : Hid (Below wr.heap.size wr w2) := Lib.hid (HB1.out.grown hgrow2 hB1s (fun j hj => (HOWN1.out.lt j hj).1))
             have HD2 := Lib.hid (DrawSt.below HDW.out (by rw [hWs]; exact HB2.out))
             have HBW2 := Lib.hid (HBW.out.trans (HB2.out.mono hwB))
             have HPN : Hid (a.pat ≠ [] → v2.ownBlock ≠ some g) := Lib.hid (fun h0 e => by
               obtain ⟨j, hj, h1, _⟩ := HO2.out.blk h0
               rw [hj] at e
               injection e with e
               omega)
             obtain ⟨A2, c2, rfl, _⟩ := HO2.out
             have HP2 := Lib.hid (HO2.out.less hwB)
             have hba : Below w2.heap.size w2 (w2.alloc (.cells #[.int .i64 a.beg, .int .i64 a.fin, .slice A2 a.pat.length c2] 49)) := (Below.refl _ _).alloc (Nat.le_refl _) _
             have HDA := Lib.hid (DrawSt.below HD2.out hba)
             have HPA := Lib.hid (HP2.out.on hba)
             have HROW := Lib.hid (HD2.out.row.alloc (.cells #[.int .i64 a.beg, .int .i64 a.fin, .slice A2 a.pat.length c2] 49))
             rw [hgl] at HROW
             clear hown2 hgrow2 hnn2 hba)
          | (refine step_append_own_at (by rfl) _ _ 38 (by rfl) w.heap.size 49 i0 (.agg #[.int .i64 0, .int .i64 0, .slice none 0 0]) 3 40 Try.underlying38 hi hz0 hz1' hz2 rfl (by decide) _ _ _ (by rfl) HROW.out ⟨w2.heap.size, 0, none⟩ 1 1 (vCells ⟨⟨a.beg, a.fin, a.pat⟩, .slice A2 a.pat.length c2⟩) (by rfl) (by rfl) (fun j u hj => by have := (Row.new w2 (vCells ⟨⟨a.beg, a.fin, a.pat⟩, .slice A2 a.pat.length c2⟩).toArray 49).cell j u (by simpa using hj); rw [Addr.add_lit, Nat.zero_add]; exact this) (fun u hu => vact_one rfl hu) (by unfold maxLen; omega) (by omega) (base_le HBW2.out.size) ?_
             intro v' w9 hown' hgrow hiff hor
             obtain ⟨g', cap', rfl, hdc', hcm'⟩ := own_some hown' (by simpa using hiff)
             clear hiff))
      have HD9 := Lib.hid (HDA.out.push (x := ⟨⟨a.beg, a.fin, a.pat⟩, .slice A2 a.pat.length c2⟩) hgrow (by rcases hor with h | h <;> injection h with h; exact .inl h; exact .inr (by simpa using h)) (by rw [hgl]; exact hown') HPA.out HPN.out HPZ.out)
      have HB9 := Lib.hid ((HBW2.out.alloc HBW2.out.size (.cells #[.int .i64 a.beg, .int .i64 a.fin, .slice A2 a.pat.length c2] 49)).grown hgrow (base_le HBW2.out.size) (fun j hj => (HROW.out.lt j hj).1))
      clear hown' hgrow hor
      go_wp2
      go_roundw
      case rel => exact ⟨k + 1, g', cap', L ++ [(⟨⟨a.beg, a.fin, a.pat⟩, .slice A2 a.pat.length c2⟩ : VAct)], by go_num, by omega, by rw [List.length_append, List.length_singleton, hgl], HNX.out _ rfl, HD9.out, HB9.out⟩
      case measure => simp [RowKit.intOf]; omega
    · have hge : ¬ (k : Int) < (ls.length : Int) := by omega
      have hk' : k = ls.length := by omega
      have HFIN : Hid (L.map (·.a) = ls) := Lib.hid (by rw [HLM.out, hk', List.take_length])
      clear hk' hlt
      go_wp2
      go_ret
      exact ⟨g, cap, L, by rw [hLk]; rfl, HFIN.out, HD.out, hb⟩
set_option maxRecDepth 100000 in
set_option maxHeartbeats 4000000 in
theorem clone2_any (ls : List Acta) (w : World) (v : Value) (h : Acts w w.heap.size v ls) (ho : okActs ls = true) :
    Calls Try.prog 47 #[v] w (CopyPost ls w) := by
  obtain ⟨A, c, rfl, hc, hm, hel⟩ := acts_at h
  have HEL := Lib.hid hel
  have HOKA := Lib.hid ho
  have hl8 := okActs_len ho
  clear hel h ho
  obtain ⟨i0, hi, hz0, hz1', hz2⟩ := info_parts Try.infoAct
  obtain ⟨e0, hie, he0, he1, he2⟩ := info_parts Try.infoE
  have hown0 : (w.alloc (.cells #[] 49)).ownsRow w.heap.size 49 3 (.slice (some ⟨w.heap.size, 0, none⟩) 0 0) 0 [] := by simpa using World.ownsRow_made w #[] 0 (Nat.le_refl _) (Nat.zero_le _) rfl
  have HD0 : Hid (ActsSt w.heap.size (w.alloc (.cells #[] 49)) w.heap.size 0 []) := Lib.hid ⟨own_none _ _, fun h => absurd rfl h, own_none _ _, fun h => absurd rfl h, hown0, fun x hx => by cases hx⟩
  have HB0 : Hid (Below w.heap.size w (w.alloc (.cells #[] 49))) := Lib.hid ((Below.refl _ _).alloc (Nat.le_refl _) _)
  clear hown0
  go_enter Try.func47, Try.ntmps47
  go_wp2
  go_loopw [3, 9] (fun o i wr => ∃ (k g cap : Nat) (L : List VAct), i = .int .i64 (k : Int) ∧ k ≤ ls.length ∧ o = .slice (some ⟨g, 0, none⟩) L.length cap ∧ L.map (·.a) = ls.take k ∧ ActsSt w.heap.size wr g cap L ∧ Below w.heap.size w wr) (fun _ i _ => ls.length - (RowKit.intOf i).toNat)
  case atStart => exact ⟨0, w.heap.size, 0, [], rfl, Nat.zero_le _, rfl, rfl, HD0.out, HB0.out⟩
  case round =>
    obtain ⟨k, g, cap, L, rfl, hk, rfl, hLm, hD, hb⟩ := hrel
    have hLk : L.length = k := by
      have := congrArg List.length hLm
      rw [List.length_map, List.length_take] at this
      omega
    have HD := Lib.hid hD
    have HB := Lib.hid hb
    have HLM := Lib.hid hLm
    clear hLm hD
    by_cases hlt : k < ls.length
    · obtain ⟨b, off, rfl, hblt, hcell⟩ := HEL.out (by omega)
      have hget : ls[k]? = some ls[k] := List.getElem?_eq_getElem hlt
      obtain ⟨pv, c0, c1, c2, hE⟩ := hcell k _ hget
      have x0 := (hb.cell (p := ⟨b, off + k * 3, none⟩) hblt).trans c0
      have x1 := (hb.cell (p := ⟨b, off + k * 3 + 1, none⟩) hblt).trans c1
      have x2 := (hb.cell (p := ⟨b, off + k * 3 + 2, none⟩) hblt).trans c2
      have HPZ := Lib.hid (sizesOk_of (okActa_iff.1 (okActs_at HOKA.out hget)).pat)
      have HPL := okPatch_len (okActa_iff.1 (okActs_at HOKA.out hget)).pat
      have HNX : Hid (∀ x : VAct, x.a = ls[k] → (L ++ [x]).map (·.a) = ls.take (k + 1)) := Lib.hid (fun x hx => by
        rw [List.map_append, HLM.out, List.take_succ_eq_append_getElem hlt, List.map_cons, List.map_nil, hx])
      have HE : Hid (∀ W, Below w.heap.size w W → Edits W W.heap.size pv ls[k].pat) := Lib.hid (fun W h => SlR.on hE (Pl.stays _) h h.size)
      clear hcell c0 c1 c2 hget
      generalize ls[k] = a at *
      have hE2 := HE.out wr hb
      obtain ⟨pA, pc, rfl, _⟩ := hE2
      have hki : (k : Int) < (ls.length : Int) := by omega
      have hk0 : (0 : Int) ≤ (k : Int) := Int.natCast_nonneg _
      clear hE
      have hgw0 := HD.out.row.lt g rfl
      have hbA : Below wr.heap.size wr (wr.alloc (.cells #[.int .i64 a.beg, .int .i64 a.fin, .slice pA a.pat.length pc] 49)) := (Below.refl _ _).alloc (Nat.le_refl _) _
      have HDW := Lib.hid (DrawSt.below HD.out hbA)
      have HBW := Lib.hid (HB.out.trans (hbA.mono HB.out.size))
      have hbg : wr.heap.size ≠ g := by omega
      have HY := Lib.hid (Row.new wr #[.int .i64 a.beg, .int .i64 a.fin, .slice pA a.pat.length pc] 49)
      clear hbA hgw0
      go_wp2_with (fail)
      clear x0 x1 x2
      have x0 := HY.out.cell 0 _ rfl
      have x1 := HY.out.cell 1 _ rfl
      have x2 := HY.out.cell 2 _ rfl
      have hWs : (wr.alloc (.cells #[.int .i64 a.beg, .int .i64 a.fin, .slice pA a.pat.length pc] 49)).heap.size = (wr.heap.size + 1) := by simp
      have hgw : g < (wr.heap.size + 1) := by have := (HDW.out.row.lt g rfl).2; rw [hWs] at this; exact this
      have hwB : w.heap.size ≤ (wr.heap.size + 1) := by have := HBW.out.size; rw [hWs] at this; exact this
      have hb1 : Below (wr.heap.size + 1) (wr.alloc (.cells #[.int .i64 a.beg, .int .i64 a.fin, .slice pA a.pat.length pc] 49)) ((wr.alloc (.cells #[.int .i64 a.beg, .int .i64 a.fin, .slice pA a.pat.length pc] 49)).alloc (.cells #[] 59)).drew := ((Below.refl _ _).alloc (by rw [hWs]; exact Nat.le_refl _) _).drew
      have hB1s : (wr.heap.size + 1) ≤ ((wr.alloc (.cells #[.int .i64 a.beg, .int .i64 a.fin, .slice pA a.pat.length pc] 49)).alloc (.cells #[] 59)).drew.heap.size := by rw [← hWs]; exact hb1.size
      have HB1 := Lib.hid hb1
      have hown1 : ((wr.alloc (.cells #[.int .i64 a.beg, .int .i64 a.fin, .slice pA a.pat.length pc] 49)).alloc (.cells #[] 59)).ownsRow (wr.heap.size + 1) 59 4 (.slice (some ⟨(wr.heap.size + 1), 0, none⟩) 0 0) 0 [] := by rw [← hWs]; simpa using World.ownsRow_made (wr.alloc (.cells #[.int .i64 a.beg, .int .i64 a.fin, .slice pA a.pat.length pc] 49)) #[] 0 (Nat.le_refl _) (Nat.zero_le _) rfl
      have HOWN1 := Lib.hid hown1.drew
      have HS1 := Lib.hid (HE.out _ (HBW.out.trans (hb1.mono hwB)))
      clear hown1 hb1
      have hgl := hLk
      try rw [hLk]
      go_region_held3 (fun w' => w'.cell? ⟨wr.heap.size, 0, none⟩ = some (.int .i64 a.beg) ∧ w'.cell? ⟨wr.heap.size, 1, none⟩ = some (.int .i64 a.fin) ∧ w'.cell? ⟨wr.heap.size, 2, none⟩ = some (.slice pA a.pat.length pc))
        (first | exact ⟨x0, x1, x2⟩ | exact keepA ⟨x0, x1, x2⟩ ((Below.refl _ _).drew) | exact keepA ⟨x0, x1, x2⟩ ((Below.refl _ _).alloc (Nat.le_refl _) _) | exact keepA ⟨x0, x1, x2⟩ (((Below.refl _ _).alloc (Nat.le_refl _) _).drew) | exact keepA' ⟨x0, x1, x2⟩ HB2.out hWs | exact keepA (keepA' ⟨x0, x1, x2⟩ HB2.out hWs) ((Below.refl _ _).alloc (Nat.le_refl _) _) | exact keepG (keepA (keepA' ⟨x0, x1, x2⟩ HB2.out hWs) ((Below.refl _ _).alloc (Nat.le_refl _) _)) hgrow hbg hbg hbg | go_keep)
        (first
          | (refine step_append_slR editCells (by rfl) _ _ 25 (by rfl) (wr.heap.size + 1) 59 e0 (.agg #[.int .i64 0, .int .i64 0, .string ⟨#[]⟩, .string ⟨#[]⟩]) 4 48 Try.underlying25 hie he0 he1 he2 rfl (by decide) _ _ _ (by rfl) HOWN1.out _ a.pat _ (by rfl) HS1.out (fun _ => rfl) (fun y u hu => edit_one hu) (by unfold maxLen; omega) (by omega) hB1s ?_
             intro v2 w2 hown2 hgrow2 hnn2
             have HO2 : Hid (OwnL editCells a.pat (wr.heap.size + 1) w2 v2) := Lib.hid (OwnL.of_own editCells (size := 4) (fun _ => rfl) (by simpa using hown2))
             have HB2 : Hid (Below (wr.heap.size + 1) (wr.alloc (.cells #[.int .i64 a.beg, .int .i64 a.fin, .slice pA a.pat.length pc] 49)) w2) := Lib.hid (HB1.out.grown hgrow2 hB1s (fun j hj => (HOWN1.out.lt j hj).1))
             have HD2 := Lib.hid (DrawSt.below HDW.out (by rw [hWs]; exact HB2.out))
             have HBW2 := Lib.hid (HBW.out.trans (HB2.out.mono hwB))
             have HPN : Hid (a.pat ≠ [] → v2.ownBlock ≠ some g) := Lib.hid (fun h0 e => by
               obtain ⟨j, hj, h1, _⟩ := HO2.out.blk h0
               rw [hj] at e
               injection e with e
               omega)
             obtain ⟨A2, c2, rfl, _⟩ := HO2.out
             have HP2 := Lib.hid (HO2.out.less hwB)
             have hba : Below w2.heap.size w2 (w2.alloc (.cells #[.int .i64 a.beg, .int .i64 a.fin, .slice A2 a.pat.length c2] 49)) := (Below.refl _ _).alloc (Nat.le_refl _) _
             have HDA := Lib.hid (DrawSt.below HD2.out hba)
             have HPA := Lib.hid (HP2.out.on hba)
             have HROW := Lib.hid (HD2.out.row.alloc (.cells #[.int .i64 a.beg, .int .i64 a.fin, .slice A2 a.pat.length c2] 49))
             rw [hgl] at HROW
             clear hown2 hgrow2 hnn2 hba)
          | (refine step_append_own_at (by rfl) _ _ 38 (by rfl) w.heap.size 49 i0 (.agg #[.int .i64 0, .int .i64 0, .slice none 0 0]) 3 40 Try.underlying38 hi hz0 hz1' hz2 rfl (by decide) _ _ _ (by rfl) HROW.out ⟨w2.heap.size, 0, none⟩ 1 1 (vCells ⟨⟨a.beg, a.fin, a.pat⟩, .slice A2 a.pat.length c2⟩) (by rfl) (by rfl) (fun j u hj => by have := (Row.new w2 (vCells ⟨⟨a.beg, a.fin, a.pat⟩, .slice A2 a.pat.length c2⟩).toArray 49).cell j u (by simpa using hj); rw [Addr.add_lit, Nat.zero_add]; exact this) (fun u hu => vact_one rfl hu) (by unfold maxLen; omega) (by omega) (base_le HBW2.out.size) ?_
             intro v' w9 hown' hgrow hiff hor
             obtain ⟨g', cap', rfl, hdc', hcm'⟩ := own_some hown' (by simpa using hiff)
             clear hiff))
      have HD9 := Lib.hid (HDA.out.push (x := ⟨⟨a.beg, a.fin, a.pat⟩, .slice A2 a.pat.length c2⟩) hgrow (by rcases hor with h | h <;> injection h with h; exact .inl h; exact .inr (by simpa using h)) (by rw [hgl]; exact hown') HPA.out HPN.out HPZ.out)
      have HB9 := Lib.hid ((HBW2.out.alloc HBW2.out.size (.cells #[.int .i64 a.beg, .int .i64 a.fin, .slice A2 a.pat.length c2] 49)).grown hgrow (base_le HBW2.out.size) (fun j hj => (HROW.out.lt j hj).1))
      clear hown' hgrow hor
      go_wp2
      go_roundw
      case rel => exact ⟨k + 1, g', cap', L ++ [(⟨⟨a.beg, a.fin, a.pat⟩, .slice A2 a.pat.length c2⟩ : VAct)], by go_num, by omega, by rw [List.length_append, List.length_singleton, hgl], HNX.out _ rfl, HD9.out, HB9.out⟩
      case measure => simp [RowKit.intOf]; omega
    · have hge : ¬ (k : Int) < (ls.length : Int) := by omega
      have hk' : k = ls.length := by omega
      have HFIN : Hid (L.map (·.a) = ls) := Lib.hid (by rw [HLM.out, hk', List.take_length])
      clear hk' hlt
      go_wp2
      go_ret
      exact ⟨g, cap, L, by rw [hLk]; rfl, HFIN.out, HD.out, hb⟩
end Go.Proofs.Ytmgdodgofpapgaa

namespace Go.Proofs.Ytmgdodgofpapgaa
open Go.RowKit Go.Lib

def EndPost (S : List Art) (ls : List Acta) (k : Nat) (a : Acta) (day : Int) (w : World) (e : Ending) (w' : World) : Prop :=
  ∃ v r, e = .returned (.tuple #[v, .bool r]) ∧ (r = true ↔ EndOk S ls k a day) ∧ (r = true → Acts w' w'.heap.size v (endL ls k a day)) ∧ (∃ A n c, v = .slice A n c) ∧ Below w.heap.size w w'
theorem in2_val' (n a b : Int) (w : World) (r : Bool) (h : inB n a b = r) : Calls Try.prog 46 #[.int .i64 n, .int .i64 a, .int .i64 b] w (RetQ (.bool r) w) := h ▸ in2_any n a b w
theorem map_set_end {L : List VAct} {ls : List Acta} {k : Nat} {a : Acta} {x : VAct} (day : Int) (hL : L.map (·.a) = ls) (hx : L[k]? = some x) (hk : ls[k]? = some a) : x.a = a ∧ (L.set k ⟨⟨x.a.beg, day, x.a.pat⟩, x.v⟩).map (·.a) = endL ls k a day := by
  subst hL
  rw [List.getElem?_map, hx] at hk
  injection hk with hk
  refine ⟨hk, ?_⟩
  rw [List.map_set]
  unfold endL endA
  rw [← hk]

theorem broken2n_any (S : List Art) (ls : List Acta) (w : World) (vs va : Value) (hS : Arts w w.heap.size vs S) (hA : Acts w w.heap.size va ls) (hok : okStat S = true) (hp : okActs ls = true) :
    Calls Try.prog 41 #[vs, va] w (Broken1Post S ls w) :=
  (broken2_any S ls w vs va hS hA hok hp).mono fun e w' ⟨g, cap, L, h1, _, h3, h4, h5⟩ => ⟨g, cap, L.length, h1, h3, by
    have := h4.none
    rw [List.map_eq_nil_iff] at this
    rw [List.length_eq_zero_iff, this], h5⟩

set_option maxRecDepth 100000 in
set_option maxHeartbeats 8000000 in
theorem end1_any (S : List Art) (ls : List Acta) (k : Nat) (a : Acta) (day : Int) (w : World) (vs va : Value) (hS : Arts w w.heap.size vs S) (hA : Acts w w.heap.size va ls) (hok : okStat S = true) (hp : okActs ls = true) (hk : ls[k]? = some a) :
    Calls Try.prog 22 #[vs, va, .int .i64 (k : Int), .int .i64 day] w (EndPost S ls k a day w) := by
  have h1 := both1_any S ls w vs va hS hA (ActsSz.of hp) hok
  rw [hp] at h1
  have H1 := Lib.hid h1
  clear h1
  have hkl := (List.getElem?_eq_some_iff.1 hk).1
  have HA := Lib.hid (fun w' (hb : Below w.heap.size w w') => hA.on hb hb.size)
  have HS := Lib.hid (fun w' (hb : Below w.heap.size w w') => SlR.on hS (Pl.stays _) hb hb.size)
  have HOK := Lib.hid hok
  have HP := Lib.hid hp
  have HKK := Lib.hid hk
  have hki : (k : Int) < (ls.length : Int) := by omega
  have hki2 : ¬ ((ls.length : Int) ≤ (k : Int)) := by omega
  have hl8 := okActs_len hp
  have HEN := Lib.hid (fun (h1 : a.beg < day) (h2 : day < a.fin) => okActs_end hp hk h1 h2)
  obtain ⟨A2, c2, rfl, hc, hm, hel⟩ := acts_at hA
  obtain ⟨b, off, rfl, hblt, hcell⟩ := hel (by omega)
  obtain ⟨pv, c0, c1, _, _⟩ := hcell k a hk
  have HC0 := Lib.hid c0
  have HC1 := Lib.hid c1
  clear hel hcell c0 c1 hA hk hok hp
  have H4 := Lib.hid (fun W => in1_val' (k : Int) 0 ((ls.length : Int) - 1) W true (inB_true (by omega) (by omega)))
  obtain ⟨A, c, rfl, _⟩ := hS
  cases hin : inD day with
  | false =>
    have H3 := Lib.hid (fun W => day1_val day W false hin)
    have HIN := Lib.hid hin
    clear hin
    go_enter Try.func22, Try.ntmps22
    go_wp2_with (fail)
    refine (H1.out).mono ?_
    rintro e w2 ⟨rfl, hb2⟩
    have HB2 := Lib.hid hb2
    clear hb2
    go_wp2_with (fail)
    refine (H3.out w2).mono ?_
    rintro e w3 ⟨rfl, m3, rfl⟩
    have HB3 := Lib.hid (below_drewN HB2.out m3)
    go_wp2
    go_ret2
    exact ⟨_, false, rfl, ⟨fun h => (by cases h), fun h => absurd h (fun q : EndOk S ls k a day => by have := q.1; rw [HIN.out] at this; cases this)⟩, fun h => (by cases h), ⟨_, _, _, rfl⟩, HB3.out⟩
  | true =>
    have H3 := Lib.hid (fun W => day1_val day W true hin)
    have HIN := Lib.hid hin
    clear hin
    go_enter Try.func22, Try.ntmps22
    go_wp2_with (fail)
    refine (H1.out).mono ?_
    rintro e w2 ⟨rfl, hb2⟩
    have HB2 := Lib.hid hb2
    clear hb2
    go_wp2_with (fail)
    refine (H3.out w2).mono ?_
    rintro e w3 ⟨rfl, m3, rfl⟩
    have HB3 := Lib.hid (below_drewN HB2.out m3)
    generalize w2.drewN m3 = w3 at *
    go_wp2_with (fail)
    refine (H4.out w3).mono ?_
    rintro e w4 ⟨rfl, m4, rfl⟩
    have HB4 := Lib.hid (below_drewN HB3.out m4)
    generalize w3.drewN m4 = w4 at *
    have x0 := (HB4.out.cell (p := ⟨b, off + k * 3, none⟩) hblt).trans HC0.out
    have x1 := (HB4.out.cell (p := ⟨b, off + k * 3 + 1, none⟩) hblt).trans HC1.out
    by_cases h1 : a.beg < day
    · by_cases h2 : day < a.fin
      · have g1 : ¬ day ≤ a.beg := by omega
        have g2 : ¬ a.fin ≤ day := by omega
        have g3 : decide (day ≤ a.beg) = false := decide_eq_false g1
        have g4 : decide (a.fin ≤ day) = false := decide_eq_false g2
        have HEN' := Lib.hid (HEN.out h1 h2)
        have HLT := Lib.hid (And.intro h1 h2)
        clear h1 h2 HEN
        go_wp2_with (fail)
        refine (own1_any ls w4 _ (HA.out w4 HB4.out) HP.out).mono ?_
        rintro e w5 ⟨g, cap, L, rfl, hLm, hD, hb5⟩
        have HB5 := Lib.hid (HB4.out.trans (hb5.mono HB4.out.size))
        have hLl : L.length = ls.length := by rw [← hLm, List.length_map]
        obtain ⟨x, hx⟩ : ∃ x, L[k]? = some x := ⟨_, List.getElem?_eq_getElem (by omega)⟩
        obtain ⟨hxa, hset⟩ := map_set_end day hLm hx HKK.out
        obtain ⟨u1, u2⟩ := own_cell hD.row (j := k * 3 + 1) (u := .int .i64 a.fin) (by rw [← hxa]; exact flat_at vCells (size := 3) (fun _ => rfl) L k x 1 _ hx rfl (by omega))
        have hpx := hD.pats x (List.mem_of_getElem? hx)
        have HD6 := Lib.hid (hD.put (k * 3 + 1) k (.int .i64 day) rfl ⟨⟨x.a.beg, day, x.a.pat⟩, x.v⟩ (by omega) (v_set1 L k x day hx) hpx.1 hpx.2.1 hpx.2.2)
        have hgb := hD.row.lt g rfl
        have HB6 := Lib.hid (HB5.out.setCell (p := ⟨g, k * 3 + 1, none⟩) (Nat.le_trans HB4.out.size hgb.1) (.int .i64 day))
        have HACT : Hid (Acts (w5.setCell ⟨g, k * 3 + 1, none⟩ (.int .i64 day)) (w5.setCell ⟨g, k * 3 + 1, none⟩ (.int .i64 day)).heap.size (.slice (some ⟨g, 0, none⟩) ls.length cap) (endL ls k a day)) := Lib.hid (by
          have := HD6.out.acts
          rw [hset, List.length_set, hLl] at this
          exact this)
        rw [hLl]
        clear hLm hx hxa hset hpx hD hb5 HD6
        go_wp2_with (fail)
        refine (broken1_any S (endL ls k a day) _ _ _ (HS.out _ HB6.out) HACT.out HOK.out HEN'.out).mono ?_
        rintro e w7 ⟨g7, cap7, n, rfl, hn7, hz7, hb7⟩
        have HB7 := Lib.hid (HB6.out.trans (hb7.mono HB6.out.size))
        have HACT7 := Lib.hid (HACT.out.on hb7 hb7.size)
        have HZ := Lib.hid hz7
        clear hb7 hz7
        by_cases hn0 : n = 0
        · have HY := Lib.hid (HZ.out.1 hn0)
          subst hn0
          go_wp2
          go_ret2
          exact ⟨_, true, rfl, ⟨fun _ => ⟨HIN.out, HLT.out.1, HLT.out.2, HY.out⟩, fun _ => rfl⟩, fun _ => HACT7.out, ⟨_, _, _, rfl⟩, HB7.out⟩
        · have hn1 : 0 < (n : Int) := by omega
          have HNY := Lib.hid (fun h => hn0 (HZ.out.2 h))
          clear hn0
          go_wp2
          go_ret2
          exact ⟨_, false, rfl, ⟨fun h => (by cases h), fun h => absurd h (fun q : EndOk S ls k a day => HNY.out q.2.2.2)⟩, fun h => (by cases h), ⟨_, _, _, rfl⟩, HB7.out⟩
      · have g1 : ¬ day ≤ a.beg := by omega
        have g2 : a.fin ≤ day := by omega
        have g3 : decide (day ≤ a.beg) = false := decide_eq_false g1
        have g4 : decide (a.fin ≤ day) = true := decide_eq_true g2
        have HNN := Lib.hid h2
        clear h1 h2
        go_wp2
        go_ret2
        exact ⟨_, false, rfl, ⟨fun h => (by cases h), fun h => absurd h (fun q : EndOk S ls k a day => by have h5 := q.2.2.1; have h6 := HNN.out; omega)⟩, fun h => (by cases h), ⟨_, _, _, rfl⟩, HB4.out⟩
    · have g1 : day ≤ a.beg := by omega
      have g3 : decide (day ≤ a.beg) = true := decide_eq_true g1
      have HNN := Lib.hid h1
      clear h1
      go_wp2
      go_ret2
      exact ⟨_, false, rfl, ⟨fun h => (by cases h), fun h => absurd h (fun q : EndOk S ls k a day => by have h5 := q.2.1; have h6 := HNN.out; omega)⟩, fun h => (by cases h), ⟨_, _, _, rfl⟩, HB4.out⟩
set_option maxRecDepth 100000 in
set_option maxHeartbeats 8000000 in
theorem end2_any (S : List Art) (ls : List Acta) (k : Nat) (a : Acta) (day : Int) (w : World) (vs va : Value) (hS : Arts w w.heap.size vs S) (hA : Acts w w.heap.size va ls) (hok : okStat S = true) (hp : okActs ls = true) (hk : ls[k]? = some a) :
    Calls Try.prog 21 #[vs, va, .int .i64 (k : Int), .int .i64 day] w (EndPost S ls k a day w) := by
  have h1 := stat2_any S w vs hS (textsOk_of hok)
  rw [hok] at h1
  have H1 := Lib.hid h1
  have H2 := Lib.hid (fun w' (hb : Below w.heap.size w w') => acts2_any ls w' va (hA.on hb hb.size) hp)
  clear h1
  have hkl := (List.getElem?_eq_some_iff.1 hk).1
  have HA := Lib.hid (fun w' (hb : Below w.heap.size w w') => hA.on hb hb.size)
  have HS := Lib.hid (fun w' (hb : Below w.heap.size w w') => SlR.on hS (Pl.stays _) hb hb.size)
  have HOK := Lib.hid hok
  have HP := Lib.hid hp
  have HKK := Lib.hid hk
  have hki : (k : Int) < (ls.length : Int) := by omega
  have hki2 : ¬ ((ls.length : Int) ≤ (k : Int)) := by omega
  have hl8 := okActs_len hp
  have HEN := Lib.hid (fun (h1 : a.beg < day) (h2 : day < a.fin) => okActs_end hp hk h1 h2)
  obtain ⟨A2, c2, rfl, hc, hm, hel⟩ := acts_at hA
  obtain ⟨b, off, rfl, hblt, hcell⟩ := hel (by omega)
  obtain ⟨pv, c0, c1, _, _⟩ := hcell k a hk
  have HC0 := Lib.hid c0
  have HC1 := Lib.hid c1
  clear hel hcell c0 c1 hA hk hok hp
  have H4 := Lib.hid (fun W => in2_val' (k : Int) 0 ((ls.length : Int) - 1) W true (inB_true (by omega) (by omega)))
  obtain ⟨A, c, rfl, _⟩ := hS
  cases hin : inD day with
  | false =>
    have H3 := Lib.hid (fun W => day2_val day W false hin)
    have HIN := Lib.hid hin
    clear hin
    go_enter Try.func21, Try.ntmps21
    go_wp2_with (fail)
    refine (H1.out).mono ?_
    rintro e w1 ⟨rfl, hb1⟩
    have HB1 := Lib.hid hb1
    clear hb1
    go_wp2_with (fail)
    refine (H2.out w1 HB1.out).mono ?_
    rintro e w2 ⟨rfl, hb2⟩
    have HB2 := Lib.hid (HB1.out.trans (hb2.mono HB1.out.size))
    clear hb2
    go_wp2_with (fail)
    refine (H3.out w2).mono ?_
    rintro e w3 ⟨rfl, m3, rfl⟩
    have HB3 := Lib.hid (below_drewN HB2.out m3)
    go_wp2
    go_ret2
    exact ⟨_, false, rfl, ⟨fun h => (by cases h), fun h => absurd h (fun q : EndOk S ls k a day => by have := q.1; rw [HIN.out] at this; cases this)⟩, fun h => (by cases h), ⟨_, _, _, rfl⟩, HB3.out⟩
  | true =>
    have H3 := Lib.hid (fun W => day2_val day W true hin)
    have HIN := Lib.hid hin
    clear hin
    go_enter Try.func21, Try.ntmps21
    go_wp2_with (fail)
    refine (H1.out).mono ?_
    rintro e w1 ⟨rfl, hb1⟩
    have HB1 := Lib.hid hb1
    clear hb1
    go_wp2_with (fail)
    refine (H2.out w1 HB1.out).mono ?_
    rintro e w2 ⟨rfl, hb2⟩
    have HB2 := Lib.hid (HB1.out.trans (hb2.mono HB1.out.size))
    clear hb2
    go_wp2_with (fail)
    refine (H3.out w2).mono ?_
    rintro e w3 ⟨rfl, m3, rfl⟩
    have HB3 := Lib.hid (below_drewN HB2.out m3)
    generalize w2.drewN m3 = w3 at *
    go_wp2_with (fail)
    refine (H4.out w3).mono ?_
    rintro e w4 ⟨rfl, m4, rfl⟩
    have HB4 := Lib.hid (below_drewN HB3.out m4)
    generalize w3.drewN m4 = w4 at *
    have x0 := (HB4.out.cell (p := ⟨b, off + k * 3, none⟩) hblt).trans HC0.out
    have x1 := (HB4.out.cell (p := ⟨b, off + k * 3 + 1, none⟩) hblt).trans HC1.out
    by_cases h1 : a.beg < day
    · by_cases h2 : day < a.fin
      · have g1 : ¬ day ≤ a.beg := by omega
        have g2 : ¬ a.fin ≤ day := by omega
        have g3 : decide (day ≤ a.beg) = false := decide_eq_false g1
        have g4 : decide (a.fin ≤ day) = false := decide_eq_false g2
        have HEN' := Lib.hid (HEN.out h1 h2)
        have HLT := Lib.hid (And.intro h1 h2)
        clear h1 h2 HEN
        go_wp2_with (fail)
        refine (clone2_any ls w4 _ (HA.out w4 HB4.out) HP.out).mono ?_
        rintro e w5 ⟨g, cap, L, rfl, hLm, hD, hb5⟩
        have HB5 := Lib.hid (HB4.out.trans (hb5.mono HB4.out.size))
        have hLl : L.length = ls.length := by rw [← hLm, List.length_map]
        obtain ⟨x, hx⟩ : ∃ x, L[k]? = some x := ⟨_, List.getElem?_eq_getElem (by omega)⟩
        obtain ⟨hxa, hset⟩ := map_set_end day hLm hx HKK.out
        obtain ⟨u1, u2⟩ := own_cell hD.row (j := k * 3 + 1) (u := .int .i64 a.fin) (by rw [← hxa]; exact flat_at vCells (size := 3) (fun _ => rfl) L k x 1 _ hx rfl (by omega))
        have hpx := hD.pats x (List.mem_of_getElem? hx)
        have HD6 := Lib.hid (hD.put (k * 3 + 1) k (.int .i64 day) rfl ⟨⟨x.a.beg, day, x.a.pat⟩, x.v⟩ (by omega) (v_set1 L k x day hx) hpx.1 hpx.2.1 hpx.2.2)
        have hgb := hD.row.lt g rfl
        have HB6 := Lib.hid (HB5.out.setCell (p := ⟨g, k * 3 + 1, none⟩) (Nat.le_trans HB4.out.size hgb.1) (.int .i64 day))
        have HACT : Hid (Acts (w5.setCell ⟨g, k * 3 + 1, none⟩ (.int .i64 day)) (w5.setCell ⟨g, k * 3 + 1, none⟩ (.int .i64 day)).heap.size (.slice (some ⟨g, 0, none⟩) ls.length cap) (endL ls k a day)) := Lib.hid (by
          have := HD6.out.acts
          rw [hset, List.length_set, hLl] at this
          exact this)
        rw [hLl]
        clear hLm hx hxa hset hpx hD hb5 HD6
        go_wp2_with (fail)
        refine (broken2n_any S (endL ls k a day) _ _ _ (HS.out _ HB6.out) HACT.out HOK.out HEN'.out).mono ?_
        rintro e w7 ⟨g7, cap7, n, rfl, hn7, hz7, hb7⟩
        have HB7 := Lib.hid (HB6.out.trans (hb7.mono HB6.out.size))
        have HACT7 := Lib.hid (HACT.out.on hb7 hb7.size)
        have HZ := Lib.hid hz7
        clear hb7 hz7
        by_cases hn0 : n = 0
        · have HY := Lib.hid (HZ.out.1 hn0)
          subst hn0
          go_wp2
          go_ret2
          exact ⟨_, true, rfl, ⟨fun _ => ⟨HIN.out, HLT.out.1, HLT.out.2, HY.out⟩, fun _ => rfl⟩, fun _ => HACT7.out, ⟨_, _, _, rfl⟩, HB7.out⟩
        · have hn1 : 0 < (n : Int) := by omega
          have HNY := Lib.hid (fun h => hn0 (HZ.out.2 h))
          clear hn0
          go_wp2
          go_ret2
          exact ⟨_, false, rfl, ⟨fun h => (by cases h), fun h => absurd h (fun q : EndOk S ls k a day => HNY.out q.2.2.2)⟩, fun h => (by cases h), ⟨_, _, _, rfl⟩, HB7.out⟩
      · have g1 : ¬ day ≤ a.beg := by omega
        have g2 : a.fin ≤ day := by omega
        have g3 : decide (day ≤ a.beg) = false := decide_eq_false g1
        have g4 : decide (a.fin ≤ day) = true := decide_eq_true g2
        have HNN := Lib.hid h2
        clear h1 h2
        go_wp2
        go_ret2
        exact ⟨_, false, rfl, ⟨fun h => (by cases h), fun h => absurd h (fun q : EndOk S ls k a day => by have h5 := q.2.2.1; have h6 := HNN.out; omega)⟩, fun h => (by cases h), ⟨_, _, _, rfl⟩, HB4.out⟩
    · have g1 : day ≤ a.beg := by omega
      have g3 : decide (day ≤ a.beg) = true := decide_eq_true g1
      have HNN := Lib.hid h1
      clear h1
      go_wp2
      go_ret2
      exact ⟨_, false, rfl, ⟨fun h => (by cases h), fun h => absurd h (fun q : EndOk S ls k a day => by have h5 := q.2.1; have h6 := HNN.out; omega)⟩, fun h => (by cases h), ⟨_, _, _, rfl⟩, HB4.out⟩
end Go.Proofs.Ytmgdodgofpapgaa

namespace Go.Proofs.Ytmgdodgofpapgaa
open Go.RowKit Go.Lib

theorem sub_list {α : Type} {P : α → Prop} : ∀ (L : List α), (∀ x ∈ L, P x) → ∃ L' : List {x // P x}, L'.map (·.1) = L
  | [], _ => ⟨[], rfl⟩
  | x :: L, h => by
    obtain ⟨L', e⟩ := sub_list L (fun y hy => h y (List.mem_cons_of_mem _ hy))
    exact ⟨⟨x, h x List.mem_cons_self⟩ :: L', by rw [List.map_cons, e]⟩
theorem SlR.sub {α β : Type} {f : α → List Value} {g : β → α} {size : Nat} {w : World} {B : Nat} {v : Value} {L : List β} (h : SlR (Pl f) size w B v (L.map g)) : SlR (Pl (fun x => f (g x))) size w B v L := by
  obtain ⟨A, c, rfl, h1, h2, h3⟩ := h
  refine ⟨A, c, by rw [List.length_map], by simpa using h1, h2, fun h0 => ?_⟩
  obtain ⟨b, off, hA, hb, hk⟩ := h3 (by rw [List.length_map]; exact h0)
  refine ⟨b, off, hA, hb, fun k x hx => ?_⟩
  obtain ⟨us, q1, q2, q3⟩ := hk k (g x) (by rw [List.getElem?_map, hx]; rfl)
  exact ⟨us, q1, q2, q3⟩
theorem SlR.drop {α : Type} {R : World → Nat → List Value → α → Prop} {size : Nat} {w : World} {B b off n c : Nat} {xs : List α} (h : SlR R size w B (.slice (some ⟨b, off, none⟩) n c) xs) (k : Nat) (hk : k ≤ xs.length) : SlR R size w B (.slice (some ⟨b, off + k * size, none⟩) (n - k) (c - k)) (xs.drop k) := by
  obtain ⟨A', c', hv, h1, h2, h3⟩ := h
  injection hv with e1 e2 e3
  subst e2 e3
  refine ⟨_, c - k, by rw [List.length_drop], by rw [List.length_drop]; omega, by omega, fun h0 => ?_⟩
  rw [List.length_drop] at h0
  obtain ⟨b', off', hA, hb, hc⟩ := h3 (by omega)
  rw [← e1] at hA
  injection hA with hA
  injection hA with hb1 ho1 _
  subst hb1 ho1
  refine ⟨b, off + k * size, rfl, hb, fun j x hx => ?_⟩
  rw [List.getElem?_drop] at hx
  obtain ⟨us, q1, q2, q3⟩ := hc (k + j) x hx
  refine ⟨us, q1, q2, fun i u hu => ?_⟩
  rw [show off + k * size + j * size + i = off + (k + j) * size + i by rw [Nat.add_mul]; omega]
  exact q3 i u hu
set_option maxHeartbeats 1000000 in
/-- The number that is chosen is the same at every state of the draws. -/
theorem at_val (A : Option Addr) (n c i : Nat) (m : Int) (w : World) (h : BytesAt w w.heap.size A n) (hi : i ≤ 1000) (hm : 1 ≤ m) (hm2 : m ≤ 65536) :
    ∃ x : Int, 0 ≤ x ∧ x < m ∧ ∀ q, Calls Try.prog 18 #[.slice A n c, .int .i64 (i : Int), .int .i64 m] (w.drewN q) (RetQ (.int .i64 x) (w.drewN q)) := by
  by_cases h1 : m ≤ 1
  · refine ⟨0, by omega, by omega, fun q => ?_⟩
    go_enter Try.func18, Try.ntmps18
    go_wp2
    go_ret
    exact ⟨rfl, 0, rfl⟩
  · have h1' : ¬ m ≤ 1 := h1
    have h1 : 1 < m := by omega
    by_cases h2 : i < n
    · have h2' : (i : Int) < (n : Int) := by omega
      obtain ⟨b, off, rfl, hlt, hc⟩ := h.2 (by omega)
      obtain ⟨x, hx, x0⟩ := hc i h2
      have hn := h.1
      unfold maxLen at hn
      clear hc h
      refine ⟨(x : Int) % m, Int.emod_nonneg _ (by omega), Int.emod_lt_of_pos _ (by omega), fun q => ?_⟩
      have x0 : (w.drewN q).cell? ⟨b, off + i, none⟩ = some (.int .u8 x) := by simpa using x0
      generalize w.drewN q = W at *
      go_enter Try.func18, Try.ntmps18
      go_wp2
      go_ret
      exact ⟨rfl, 0, rfl⟩
    · have h2' : ¬ (i : Int) < (n : Int) := by omega
      clear h
      refine ⟨((i : Int) * 37 + 11) % m, Int.emod_nonneg _ (by omega), Int.emod_lt_of_pos _ (by omega), fun q => ?_⟩
      go_enter Try.func18, Try.ntmps18
      go_wp2
      go_ret
      exact ⟨rfl, 0, rfl⟩
/-- An act whose patch's value is a slice. -/
def VActS : Type := {x : VAct // ∃ A n c, x.v = .slice A n c}
def fS (x : VActS) : List Value := vCells x.1
theorem sub_one {x : VActS} {u : Value} (h : u ∈ fS x) : u.oneCell' = true := by
  obtain ⟨x, A, n, c, hv⟩ := x
  exact vact_one hv h
def aS (x : VActS) : Acta := x.1.a
theorem acts_sub {w : World} {B : Nat} {v : Value} {ls : List Acta} (h : Acts w B v ls) : ∃ L : List VActS, L.map aS = ls ∧ SlR (Pl fS) 3 w B v L ∧ ∀ x ∈ L, Edits w B x.1.v x.1.a.pat := by
  obtain ⟨L, h1, h2, h3⟩ := h
  obtain ⟨L', e⟩ := sub_list (P := fun x : VAct => ∃ A n c, x.v = .slice A n c) L (fun x hx => by
    obtain ⟨A, c, hv, _⟩ := h3 x hx
    exact ⟨A, _, c, hv⟩)
  subst e
  refine ⟨L', by rw [← h1, List.map_map]; rfl, SlR.sub (f := vCells) (g := fun x : VActS => x.1) h2, fun x hx => h3 x.1 (List.mem_map.2 ⟨x, hx, rfl⟩)⟩
theorem acts_own {w : World} {base : Nat} {v : Value} {L : List VActS} (h : w.ownsRow base 49 3 v L.length (L.flatMap fS)) (he : ∀ x ∈ L, Edits w w.heap.size x.1.v x.1.a.pat) : Acts w w.heap.size v (L.map aS) := by
  refine ⟨L.map (·.1), by rw [List.map_map]; rfl, SlR.of_own vCells (size := 3) (e := 49) (base := base) (fun _ => rfl) ?_, fun x hx => ?_⟩
  · rw [List.length_map, List.flatMap_map]
    exact h
  · obtain ⟨y, hy, rfl⟩ := List.mem_map.1 hx
    exact he y hy
theorem rest_map {L : List VActS} {ls : List Acta} (k : Nat) (h : L.map aS = ls) : (L.take k ++ L.drop (k + 1)).map aS = restL' ls k := by
  unfold restL'
  rw [List.map_append, List.map_take, List.map_drop, h]

set_option maxRecDepth 100000 in
set_option maxHeartbeats 8000000 in
theorem ended_any (A1 : Option Addr) (n1 c1 : Nat) (A2 : Option Addr) (n2 c2 : Nat) (w : World) (hA1 : BytesAt w w.heap.size A1 n1) (hA2 : BytesAt w w.heap.size A2 n2) :
    Calls Try.prog 5 #[.slice A1 n1 c1, .slice A2 n2 c2] w (RetB (.bool true) w) := by
  by_cases hl : n1 ≤ 1048576 ∧ n2 ≤ 1048576
  · have HL := Lib.hid (long_no A1 n1 c1 A2 n2 c2 w hl.1 hl.2)
    have HS := Lib.hid (fun m => acts_any A1 n1 c1 (w.drewN m) hA1)
    have HBW := Lib.hid hA2
    obtain ⟨i0, hi, hz0, hz1', hz2⟩ := info_parts Try.infoAct
    clear hl hA1 hA2
    go_enter Try.func5, Try.ntmps5
    go_wp2_with (fail)
    refine (HL.out).mono ?_
    rintro e w1 ⟨rfl, m1, rfl⟩
    go_wp2_with (fail)
    refine (HS.out m1).mono ?_
    rintro e w2 ⟨v1, v2, S, ls, rfl, hS, hok, hA, hoa, hb⟩
    have HB2 : Hid (Below w.heap.size w w2) := Lib.hid ((below_drewN (Below.refl w.heap.size w) m1).trans hb)
    have HOK := Lib.hid hok
    have HP := Lib.hid hoa
    have hl8 := okActs_len hoa
    have HES : Hid (∀ W, Below w2.heap.size w2 W → Arts W W.heap.size v1 S) := Lib.hid (fun W h => (hS.on h).slR (size := 2) (fun _ => rfl))
    have HEA : Hid (∀ W, Below w2.heap.size w2 W → Acts W W.heap.size v2 ls) := Lib.hid (fun W h => hA.on h h.size)
    have HBY : Hid (∀ W, Below w2.heap.size w2 W → BytesAt W W.heap.size A2 n2) := Lib.hid (fun W h => HBW.out.on (HB2.out.trans (h.mono HB2.out.size)) (Nat.le_trans HB2.out.size h.size))
    have H2 : Hid (Below w2.heap.size w2 w2) := Lib.hid (Below.refl _ _)
    obtain ⟨T1, t1, rfl, _⟩ := hS
    obtain ⟨T2, t2, rfl, hct2, hmt2, hel⟩ := acts_at hA
    unfold maxLen at hmt2
    clear hok hoa hA hb
    by_cases hl0 : ls.length = 0
    · have hls : ls = [] := List.eq_nil_of_length_eq_zero hl0
      subst hls
      have HNIL : Hid (onO S ([] : List Acta) 5 = some S) := Lib.hid (on_nil S 5)
      clear hel hl0
      go_wp2_with (fail)
      refine (TextOn2_any S ([] : List Acta) 5 w2 _ _ (HES.out w2 H2.out) (HEA.out w2 H2.out) HOK.out HP.out (inB_true (by omega) (by omega))).mono ?_
      rintro e w3 ⟨v3, rfl, hX, ⟨Av3, nv3, cv3, rfl⟩, hb'⟩
      have HX := Lib.hid hX
      have HB3 := Lib.hid (H2.out.trans (hb'.mono H2.out.size))
      have HO3 := Lib.hid (HX.out S HNIL.out).1
      have HSA := Lib.hid (sameArts_any S S w3 _ _ (HO3.out.slR (size := 2) (fun _ => rfl)) (HES.out w3 HB3.out))
      rw [HNIL.out]
      clear hX hb'
      go_wp2_with (fail)
      refine (HSA.out).mono ?_
      rintro e w12 ⟨r2, rfl, hr2, hb12⟩
      have HB12 := Lib.hid (HB3.out.trans (hb12.mono HB3.out.size))
      have hr := hr2.2 rfl
      subst hr
      clear hr2 hb12
      go_wp2
      go_ret
      exact ⟨rfl, HB2.out.trans (HB12.out.mono HB2.out.size)⟩
    · have e0 : ((ls.length : Int) == 0) = false := by simp [hl0]
      have hlp : 0 < ls.length := by omega
      obtain ⟨b, off, rfl, hblt, hcell⟩ := hel (by omega)
      clear hel hl0
      go_wp2_with (fail)
      refine ((at_any A2 n2 c2 0 (ls.length : Int) w2 (HBY.out w2 H2.out) (by omega) (by omega) (by omega))).mono ?_
      rintro e w4 ⟨x4, hx0, hx1, rfl, q4, rfl⟩
      have HB4 := Lib.hid (below_drewN H2.out q4)
      generalize w2.drewN q4 = w4 at *
      obtain ⟨k, rfl⟩ : ∃ k : Nat, x4 = (k : Int) := ⟨x4.toNat, by omega⟩
      have hkl : k < ls.length := by omega
      have hget : ls[k]? = some ls[k] := List.getElem?_eq_getElem hkl
      obtain ⟨pv, c0, _, _, _⟩ := hcell k _ hget
      have hao := okActa_iff.1 (okActs_at HP.out hget)
      obtain ⟨a, ha⟩ : ∃ a, a = ls[k] := ⟨_, rfl⟩
      rw [← ha] at hget c0 hao
      have HKK := Lib.hid hget
      have a0 := hao.b0
      have a1 := hao.b1
      have HC0 := Lib.hid c0
      have x0 := (HB4.out.cell (p := ⟨b, off + k * 3, none⟩) hblt).trans HC0.out
      clear hcell hget hao c0 ha
      obtain ⟨x5, hy0, hy1, hv5⟩ := at_val A2 n2 c2 1 6 w4 (HBY.out w4 HB4.out) (by omega) (by omega) (by omega)
      have HV5 := Lib.hid hv5
      have s1 : IntKind.i64.wrap (a.beg + 1) = a.beg + 1 := by rw [IntKind.wrap_i64]; omega
      have s2 : IntKind.i64.wrap (a.beg + 1 + x5) = a.beg + 1 + x5 := by rw [IntKind.wrap_i64]; omega
      clear hv5
      go_wp2_with (fail)
      go_quiet ((go_at_call 18; exact quiet_q (HV5.out _)))
      have HB5 := Lib.hid (below_drewN HB4.out nq)
      generalize w4.drewN nq = w5 at *
      generalize hday : a.beg + 1 + x5 = day at *
      go_wp2_with (fail)
      refine (end2_any S ls k a day w5 _ _ (HES.out w5 HB5.out) (HEA.out w5 HB5.out) HOK.out HP.out HKK.out).mono ?_
      rintro e w6 ⟨v6, r6, rfl, hr6, hE6, ⟨A6, n6, c6, rfl⟩, hb6⟩
      have HB6 := Lib.hid (HB5.out.trans (hb6.mono HB5.out.size))
      have HR6 := Lib.hid hr6
      have HE6 := Lib.hid (fun h => hE6 h)
      clear hr6 hE6 hb6
      go_wp2_with (fail)
      refine (end1_any S ls k a day w6 _ _ (HES.out w6 HB6.out) (HEA.out w6 HB6.out) HOK.out HP.out HKK.out).mono ?_
      rintro e w7 ⟨v7, r7, rfl, hr7, _, ⟨A7, n7, c7, rfl⟩, hb7⟩
      have HB7 := Lib.hid (HB6.out.trans (hb7.mono HB6.out.size))
      have HB67 := Lib.hid hb7
      have h67 : r7 = r6 := by
        have h1 := HR6.out
        rw [← hr7] at h1
        cases r6 <;> cases r7 <;> simp_all
      subst h67
      clear hr7 hb7
      cases r7 with
      | false =>
        go_wp2
        go_ret
        exact ⟨rfl, HB2.out.trans (HB7.out.mono HB2.out.size)⟩
      | true =>
        have HEND := Lib.hid (HR6.out.1 rfl)
        have HALL := Lib.hid HEND.out.2.2.2
        have HE7 := Lib.hid ((HE6.out rfl).on HB67.out HB67.out.size)
        have HOKE := Lib.hid (okActs_end HP.out HKK.out HEND.out.2.1 HEND.out.2.2.1)
        clear HR6 HE6
        go_wp2_with (fail)
        refine ((at_any A2 n2 c2 2 40 w7 (HBY.out w7 HB7.out) (by omega) (by omega) (by omega))).mono ?_
        rintro e w7' ⟨d, hd0, hd1, rfl, q7, rfl⟩
        have HB7' := Lib.hid (below_drewN HB7.out q7)
        have hbd := below_drewN (Below.refl w7.heap.size w7) q7
        have HE7' := Lib.hid (HE7.out.on hbd hbd.size)
        clear hbd
        generalize w7.drewN q7 = w7' at *
        go_wp2_with (fail)
        refine (TextOn2_any S (endL ls k a day) d w7' _ _ (HES.out w7' HB7'.out) HE7'.out HOK.out HOKE.out (inB_true (by omega) (by omega))).mono ?_
        rintro e w8 ⟨v8, rfl, hX, ⟨Av8, nv8, cv8, rfl⟩, hb'⟩
        have HX := Lib.hid hX
        have HB8 := Lib.hid (HB7'.out.trans (hb'.mono HB7'.out.size))
        have hsome : (onO S (endL ls k a day) d).isSome = true := some_all HALL.out (by omega) (by omega)
        rw [hsome]
        clear hsome hX hb'
        have hbl : Below w8.heap.size w8 (w8.alloc (.cells #[] 49)) := (Below.refl _ _).alloc (Nat.le_refl _) _
        have HBL := Lib.hid hbl
        obtain ⟨L, hLM, hSL, hED⟩ := acts_sub (HEA.out w8 HB8.out)
        have hLl : L.length = ls.length := by rw [← hLM, List.length_map]
        have HLM := Lib.hid hLM
        have HLL := Lib.hid hLl
        have HMN : Hid (min k L.length = k) := Lib.hid (by omega)
        have HED := Lib.hid hED
        have HLT : Hid ((L.take k).length = k) := Lib.hid (by rw [List.length_take]; omega)
        have HLD : Hid ((L.drop (k + 1)).length = ls.length - (k + 1)) := Lib.hid (by rw [List.length_drop, hLl])
        have HST := Lib.hid (SlR.on (hSL.take k (by omega)) (Pl.stays _) hbl hbl.size)
        have HSD0 := Lib.hid (hSL.drop (k + 1) (by omega))
        have HSDN : Hid (∀ A c, k + 1 = ls.length → c ≤ maxLen → SlR (Pl fS) 3 w8 w8.heap.size (.slice A 0 c) (L.drop (k + 1))) := Lib.hid (fun A c h hc => by rw [List.drop_of_length_le (by omega)]; exact SlR.nil _ _ _ _ _ _ hc)
        have hown1 : (w8.alloc (.cells #[] 49)).ownsRow w8.heap.size 49 3 (.slice (some ⟨w8.heap.size, 0, none⟩) 0 0) 0 [] := by simpa using World.ownsRow_made w8 #[] 0 (Nat.le_refl _) (Nat.zero_le _) rfl
        have HOWN1 := Lib.hid hown1
        clear hLM hED hSL hown1 hbl hLl
        by_cases hcap : t2 = k + 1
        · subst hcap
          go_wp2_with (at_builtin; refine wpList_append_slR fS rfl _ _ 38 rfl w8.heap.size 49 i0 (.agg #[.int .i64 0, .int .i64 0, .slice none 0 0]) 3 40 Try.underlying38 hi hz0 hz1' hz2 rfl (by decide) _ _ _ rfl HOWN1.out _ (L.take k) _ rfl HST.out (fun _ => rfl) (fun y u hu => sub_one hu) ?c3 ?c4 (base_le (Nat.le_refl _)) ?_)
          case c3 => rw [HLT.out]; unfold maxLen; omega
          case c4 => rw [HLT.out]; omega
          intro v9 w9 hown9 hgrow9 hnn9
          have HB9 : Hid (Below w8.heap.size w8 w9) := Lib.hid (HBL.out.grown hgrow9 HBL.out.size (fun j hj => (HOWN1.out.lt j hj).1))
          have HSD := Lib.hid (SlR.on (HSDN.out (some ⟨b, off, none⟩) 0 (by omega) (by unfold maxLen; omega)) (Pl.stays _) HB9.out HB9.out.size)
          obtain ⟨g9, cap9, rfl, hdc9, hcm9⟩ := own_some hown9 (by simpa using hnn9)
          simp only [HMN.out] at hown9 hdc9 ⊢
          have HOWN9 := Lib.hid hown9
          clear hown9 hgrow9 hnn9
          unfold maxLen at hcm9
          go_wp2_with (at_builtin; refine wpList_append_slR fS rfl _ _ 38 rfl w8.heap.size 49 i0 (.agg #[.int .i64 0, .int .i64 0, .slice none 0 0]) 3 40 Try.underlying38 hi hz0 hz1' hz2 rfl (by decide) _ _ _ rfl HOWN9.out _ (L.drop (k + 1)) _ rfl HSD.out (fun _ => rfl) (fun y u hu => sub_one hu) ?c3 ?c4 HB9.out.size ?_)
          case c3 => rw [HLD.out]; unfold maxLen; omega
          case c4 => rw [HLD.out]; omega
          intro v10 w10 hown10 hgrow10 hnn10
          have HB10' : Hid (Below w8.heap.size w8 w10) := Lib.hid (HB9.out.grown hgrow10 HB9.out.size (fun j hj => (HOWN9.out.lt j hj).1))
          have HB10 := Lib.hid (HB8.out.trans (HB10'.out.mono HB8.out.size))
          obtain ⟨g10, cap10, rfl, hdc10, hcm10⟩ := own_some hown10 (by simpa using hnn10)
          simp only [HLL.out] at hown10 hdc10 ⊢
          have HACR : Hid (Acts w10 w10.heap.size (.slice (some ⟨g10, 0, none⟩) (k + (ls.length - (k + 1))) cap10) (restL' ls k)) := Lib.hid (by
            rw [← rest_map k HLM.out]
            refine acts_own (base := w8.heap.size) ?_ (fun x hx => SlR.on (HED.out x ?_) (Pl.stays _) HB10'.out HB10'.out.size)
            · rw [List.length_append, HLT.out, HLD.out, List.flatMap_append]
              exact hown10
            · rcases List.mem_append.1 hx with hx | hx
              · exact List.mem_of_mem_take hx
              · exact List.mem_of_mem_drop hx)
          have HACR : Hid (Acts w10 w10.heap.size (.slice (some ⟨g10, 0, none⟩) k cap10) (restL' ls k)) := Lib.hid (by
            have h0 := HACR.out
            rw [show k + (ls.length - (k + 1)) = k by omega] at h0
            exact h0)
          have HX10 := Lib.hid (fun R h => (HX.out R h).1.on HB10'.out)
          clear hown10 hgrow10 hnn10 hdc10 hcm10
          go_wp2_with (fail)
          refine (TextOn2_any S (restL' ls k) d w10 _ _ (HES.out w10 HB10.out) HACR.out HOK.out (okActs_rest k HP.out) (inB_true (by omega) (by omega))).mono ?_
          rintro e w11 ⟨v11, rfl, hY0, ⟨Av11, nv11, cv11, rfl⟩, hb'⟩
          have HY0 := Lib.hid hY0
          have HB11 := Lib.hid (HB10.out.trans (hb'.mono HB10.out.size))
          by_cases hdd : d < day
          · have HEQ := Lib.hid (on_before (S := S) HKK.out hdd HEND.out.2.2.1)
            generalize (onO S (restL' ls k) d).isSome = z1
            have HX11 := Lib.hid (fun R h => (HX10.out R h).on hb')
            clear hb' hY0 HY0
            go_wp2_with (fail)
            refine (TextOn2_any S ls d w11 _ _ (HES.out w11 HB11.out) (HEA.out w11 HB11.out) HOK.out HP.out (inB_true (by omega) (by omega))).mono ?_
            rintro e w13 ⟨v13, rfl, hY, ⟨Av13, nv13, cv13, rfl⟩, hb'⟩
            have HY := Lib.hid hY
            have HB13 := Lib.hid (HB11.out.trans (hb'.mono HB11.out.size))
            have HBX := Lib.hid hb'
            clear HX
            have HX := Lib.hid (fun R h => And.intro (HX11.out R h) trivial)
            clear hb'
            obtain ⟨R, hR⟩ : ∃ R, onO S ls d = some R := by
              cases h : onO S ls d with
              | none => exact absurd (HEQ.out.trans h) (HALL.out d (by omega) (by omega))
              | some R => exact ⟨R, rfl⟩
            have hRX : onO S (endL ls k a day) d = some R := HEQ.out.trans hR
            have hX := (HX.out R hRX).1
            have hY := (HY.out R hR).1
            rw [hR]
            have HX9 := Lib.hid (hX.on HBX.out)
            have HY9 := Lib.hid hY
            have HSA := Lib.hid (sameArts_any R R w13 _ _ ((hX.on HBX.out).slR (size := 2) (fun _ => rfl)) (hY.slR (size := 2) (fun _ => rfl)))
            obtain ⟨q6, p6, hv6, _⟩ := hX
            injection hv6 with y1 y2 y3
            subst y1 y2 y3
            obtain ⟨q7, p7, hv7, _⟩ := hY
            injection hv7 with y1 y2 y3
            subst y1 y2 y3
            clear hR hRX
            go_wp2_with (fail)
            refine (HSA.out).mono ?_
            rintro e w12 ⟨r2, rfl, hr2, hb12⟩
            have HB12 := Lib.hid (HB13.out.trans (hb12.mono HB13.out.size))
            have hr := hr2.2 rfl
            subst hr
            clear hr2 hb12
            go_wp2
            go_ret
            exact ⟨rfl, HB2.out.trans (HB12.out.mono HB2.out.size)⟩
          · have HEQ := Lib.hid (on_behind (S := S) HKK.out (by omega : day ≤ d))
            have HBX := Lib.hid hb'
            have HY := HY0
            clear HX
            have HX := Lib.hid (fun R h => And.intro (HX10.out R h) trivial)
            clear hb'
            obtain ⟨R, hR⟩ : ∃ R, onO S (restL' ls k) d = some R := by
              cases h : onO S (restL' ls k) d with
              | none => exact absurd (HEQ.out.trans h) (HALL.out d (by omega) (by omega))
              | some R => exact ⟨R, rfl⟩
            have hRX : onO S (endL ls k a day) d = some R := HEQ.out.trans hR
            have hX := (HX.out R hRX).1
            have hY := (HY.out R hR).1
            rw [hR]
            have HX9 := Lib.hid (hX.on HBX.out)
            have HY9 := Lib.hid hY
            have HSA := Lib.hid (sameArts_any R R w11 _ _ ((hX.on HBX.out).slR (size := 2) (fun _ => rfl)) (hY.slR (size := 2) (fun _ => rfl)))
            obtain ⟨q6, p6, hv6, _⟩ := hX
            injection hv6 with y1 y2 y3
            subst y1 y2 y3
            obtain ⟨q7, p7, hv7, _⟩ := hY
            injection hv7 with y1 y2 y3
            subst y1 y2 y3
            clear hR hRX
            go_wp2_with (fail)
            refine (HSA.out).mono ?_
            rintro e w12 ⟨r2, rfl, hr2, hb12⟩
            have HB12 := Lib.hid (HB11.out.trans (hb12.mono HB11.out.size))
            have hr := hr2.2 rfl
            subst hr
            clear hr2 hb12
            go_wp2
            go_ret
            exact ⟨rfl, HB2.out.trans (HB12.out.mono HB2.out.size)⟩
        · go_wp2_with (at_builtin; refine wpList_append_slR fS rfl _ _ 38 rfl w8.heap.size 49 i0 (.agg #[.int .i64 0, .int .i64 0, .slice none 0 0]) 3 40 Try.underlying38 hi hz0 hz1' hz2 rfl (by decide) _ _ _ rfl HOWN1.out _ (L.take k) _ rfl HST.out (fun _ => rfl) (fun y u hu => sub_one hu) ?c3 ?c4 (base_le (Nat.le_refl _)) ?_)
          case c3 => rw [HLT.out]; unfold maxLen; omega
          case c4 => rw [HLT.out]; omega
          intro v9 w9 hown9 hgrow9 hnn9
          have HB9 : Hid (Below w8.heap.size w8 w9) := Lib.hid (HBL.out.grown hgrow9 HBL.out.size (fun j hj => (HOWN1.out.lt j hj).1))
          have HSD := Lib.hid (SlR.on HSD0.out (Pl.stays _) HB9.out HB9.out.size)
          obtain ⟨g9, cap9, rfl, hdc9, hcm9⟩ := own_some hown9 (by simpa using hnn9)
          simp only [HMN.out] at hown9 hdc9 ⊢
          have HOWN9 := Lib.hid hown9
          clear hown9 hgrow9 hnn9
          unfold maxLen at hcm9
          go_wp2_with (at_builtin; refine wpList_append_slR fS rfl _ _ 38 rfl w8.heap.size 49 i0 (.agg #[.int .i64 0, .int .i64 0, .slice none 0 0]) 3 40 Try.underlying38 hi hz0 hz1' hz2 rfl (by decide) _ _ _ rfl HOWN9.out _ (L.drop (k + 1)) _ rfl HSD.out (fun _ => rfl) (fun y u hu => sub_one hu) ?c3 ?c4 HB9.out.size ?_)
          case c3 => rw [HLD.out]; unfold maxLen; omega
          case c4 => rw [HLD.out]; omega
          intro v10 w10 hown10 hgrow10 hnn10
          have HB10' : Hid (Below w8.heap.size w8 w10) := Lib.hid (HB9.out.grown hgrow10 HB9.out.size (fun j hj => (HOWN9.out.lt j hj).1))
          have HB10 := Lib.hid (HB8.out.trans (HB10'.out.mono HB8.out.size))
          obtain ⟨g10, cap10, rfl, hdc10, hcm10⟩ := own_some hown10 (by simpa using hnn10)
          simp only [HLL.out] at hown10 hdc10 ⊢
          have HACR : Hid (Acts w10 w10.heap.size (.slice (some ⟨g10, 0, none⟩) (k + (ls.length - (k + 1))) cap10) (restL' ls k)) := Lib.hid (by
            rw [← rest_map k HLM.out]
            refine acts_own (base := w8.heap.size) ?_ (fun x hx => SlR.on (HED.out x ?_) (Pl.stays _) HB10'.out HB10'.out.size)
            · rw [List.length_append, HLT.out, HLD.out, List.flatMap_append]
              exact hown10
            · rcases List.mem_append.1 hx with hx | hx
              · exact List.mem_of_mem_take hx
              · exact List.mem_of_mem_drop hx)
          have HACR : Hid (Acts w10 w10.heap.size (.slice (some ⟨g10, 0, none⟩) (k + (ls.length - (k + 1))) cap10) (restL' ls k)) := Lib.hid (by
            have h0 := HACR.out
            rw [show k + (ls.length - (k + 1)) = (k + (ls.length - (k + 1))) by omega] at h0
            exact h0)
          have HX10 := Lib.hid (fun R h => (HX.out R h).1.on HB10'.out)
          clear hown10 hgrow10 hnn10 hdc10 hcm10
          go_wp2_with (fail)
          refine (TextOn2_any S (restL' ls k) d w10 _ _ (HES.out w10 HB10.out) HACR.out HOK.out (okActs_rest k HP.out) (inB_true (by omega) (by omega))).mono ?_
          rintro e w11 ⟨v11, rfl, hY0, ⟨Av11, nv11, cv11, rfl⟩, hb'⟩
          have HY0 := Lib.hid hY0
          have HB11 := Lib.hid (HB10.out.trans (hb'.mono HB10.out.size))
          by_cases hdd : d < day
          · have HEQ := Lib.hid (on_before (S := S) HKK.out hdd HEND.out.2.2.1)
            generalize (onO S (restL' ls k) d).isSome = z1
            have HX11 := Lib.hid (fun R h => (HX10.out R h).on hb')
            clear hb' hY0 HY0
            go_wp2_with (fail)
            refine (TextOn2_any S ls d w11 _ _ (HES.out w11 HB11.out) (HEA.out w11 HB11.out) HOK.out HP.out (inB_true (by omega) (by omega))).mono ?_
            rintro e w13 ⟨v13, rfl, hY, ⟨Av13, nv13, cv13, rfl⟩, hb'⟩
            have HY := Lib.hid hY
            have HB13 := Lib.hid (HB11.out.trans (hb'.mono HB11.out.size))
            have HBX := Lib.hid hb'
            clear HX
            have HX := Lib.hid (fun R h => And.intro (HX11.out R h) trivial)
            clear hb'
            obtain ⟨R, hR⟩ : ∃ R, onO S ls d = some R := by
              cases h : onO S ls d with
              | none => exact absurd (HEQ.out.trans h) (HALL.out d (by omega) (by omega))
              | some R => exact ⟨R, rfl⟩
            have hRX : onO S (endL ls k a day) d = some R := HEQ.out.trans hR
            have hX := (HX.out R hRX).1
            have hY := (HY.out R hR).1
            rw [hR]
            have HX9 := Lib.hid (hX.on HBX.out)
            have HY9 := Lib.hid hY
            have HSA := Lib.hid (sameArts_any R R w13 _ _ ((hX.on HBX.out).slR (size := 2) (fun _ => rfl)) (hY.slR (size := 2) (fun _ => rfl)))
            obtain ⟨q6, p6, hv6, _⟩ := hX
            injection hv6 with y1 y2 y3
            subst y1 y2 y3
            obtain ⟨q7, p7, hv7, _⟩ := hY
            injection hv7 with y1 y2 y3
            subst y1 y2 y3
            clear hR hRX
            go_wp2_with (fail)
            refine (HSA.out).mono ?_
            rintro e w12 ⟨r2, rfl, hr2, hb12⟩
            have HB12 := Lib.hid (HB13.out.trans (hb12.mono HB13.out.size))
            have hr := hr2.2 rfl
            subst hr
            clear hr2 hb12
            go_wp2
            go_ret
            exact ⟨rfl, HB2.out.trans (HB12.out.mono HB2.out.size)⟩
          · have HEQ := Lib.hid (on_behind (S := S) HKK.out (by omega : day ≤ d))
            have HBX := Lib.hid hb'
            have HY := HY0
            clear HX
            have HX := Lib.hid (fun R h => And.intro (HX10.out R h) trivial)
            clear hb'
            obtain ⟨R, hR⟩ : ∃ R, onO S (restL' ls k) d = some R := by
              cases h : onO S (restL' ls k) d with
              | none => exact absurd (HEQ.out.trans h) (HALL.out d (by omega) (by omega))
              | some R => exact ⟨R, rfl⟩
            have hRX : onO S (endL ls k a day) d = some R := HEQ.out.trans hR
            have hX := (HX.out R hRX).1
            have hY := (HY.out R hR).1
            rw [hR]
            have HX9 := Lib.hid (hX.on HBX.out)
            have HY9 := Lib.hid hY
            have HSA := Lib.hid (sameArts_any R R w11 _ _ ((hX.on HBX.out).slR (size := 2) (fun _ => rfl)) (hY.slR (size := 2) (fun _ => rfl)))
            obtain ⟨q6, p6, hv6, _⟩ := hX
            injection hv6 with y1 y2 y3
            subst y1 y2 y3
            obtain ⟨q7, p7, hv7, _⟩ := hY
            injection hv7 with y1 y2 y3
            subst y1 y2 y3
            clear hR hRX
            go_wp2_with (fail)
            refine (HSA.out).mono ?_
            rintro e w12 ⟨r2, rfl, hr2, hb12⟩
            have HB12 := Lib.hid (HB11.out.trans (hb12.mono HB11.out.size))
            have hr := hr2.2 rfl
            subst hr
            clear hr2 hb12
            go_wp2
            go_ret
            exact ⟨rfl, HB2.out.trans (HB12.out.mono HB2.out.size)⟩
  · have HL := Lib.hid (long_yes A1 n1 c1 A2 n2 c2 w hl)
    clear hl
    go_enter Try.func5, Try.ntmps5
    go_wp2_with (fail)
    refine (HL.out).mono ?_
    rintro e w1 ⟨rfl, m1, rfl⟩
    go_wp2
    go_ret
    exact ⟨rfl, below_drewN (Below.refl w.heap.size w) m1⟩
end Go.Proofs.Ytmgdodgofpapgaa
