/- A statute and two patches drawn that fit it, walked: the reference's. -/
import Derived.Test.YtmgdodgofpapgaaDoorDf
import Derived.OwnWalk
namespace Go.Proofs.YtmgdodgofpapgaaDoor
open Go.RowKit Go.Lib

/-- A patch that fits a statute. -/
structure Fits (S : List Art) (P : List Edit) : Prop where
  ok : okPatch P = true
  old : ∀ e ∈ P, (findA S e.id).toList = e.old.toList
  room : S.length + (P.filter (fun e => decide (e.kind = 1))).length ≤ 8
theorem Fits.of {S : List Art} {P : List Edit} (h : okPatch P = true) (h8 : S.length ≤ 8) : Fits S (fitF S S.length P) :=
  ⟨sub_ok h (fitF_sub S P _), fitF_old S P _, fitF_room S P _ h8⟩
def mixE (P : List Edit) (e : Edit) : Edit := if (editOf P e.id).kind = 0 then e else editOf P e.id
theorem kind_old {e : Edit} (h : okEdit e = true) : e.kind = 1 ↔ e.old.toList = [] := by
  obtain ⟨_, _, hk⟩ := okEdit_kinds h
  rcases hk with ⟨k, ho, _⟩ | ⟨k, ho, _⟩ | ⟨k, ho, _⟩
  · rw [ho, ByteArray.toList_eq]; simp [k]
  · have : e.old.toList ≠ [] := by intro h0; rw [h0] at ho; revert ho; decide
    simp [k, this]
  · have : e.old.toList ≠ [] := by intro h0; rw [h0] at ho; revert ho; decide
    simp [k, this]
theorem mixE_facts {S : List Art} {P Q : List Edit} (hP : Fits S P) (hQ : Fits S Q) {e : Edit} (he : e ∈ Q) : okEdit (mixE P e) = true ∧ (mixE P e).id = e.id ∧ (findA S e.id).toList = (mixE P e).old.toList := by
  have h1 := ((okPatch_iff Q).1 hQ.ok).1 e he
  unfold mixE
  split
  · exact ⟨h1, rfl, hQ.old e he⟩
  · rename_i hk
    rcases editOf_cases P e.id with ⟨hm, hi⟩ | ⟨hn, _⟩
    · refine ⟨((okPatch_iff P).1 hP.ok).1 _ hm, hi, ?_⟩
      have := hP.old _ hm
      rw [hi] at this
      exact this
    · rw [hn] at hk
      exact absurd rfl hk
theorem Fits.mix {S : List Art} {P Q : List Edit} (hP : Fits S P) (hQ : Fits S Q) : Fits S (Q.map (mixE P)) where
  ok := by
    have hq := (okPatch_iff Q).1 hQ.ok
    rw [okPatch_iff]
    refine ⟨fun a ha => ?_, ?_, by rw [List.length_map]; exact hq.2.2⟩
    · obtain ⟨e, he, rfl⟩ := List.mem_map.1 ha
      exact (mixE_facts hP hQ he).1
    · have hr := hq.2.1
      unfold RiseE at *
      rw [List.pairwise_map]
      exact hr.imp_of_mem (fun {a c} ha hc h => by rw [(mixE_facts hP hQ ha).2.1, (mixE_facts hP hQ hc).2.1]; exact h)
  old := fun a ha => by
    obtain ⟨e, he, rfl⟩ := List.mem_map.1 ha
    have := mixE_facts hP hQ he
    rw [this.2.1]
    exact this.2.2
  room := by
    have h := hQ.room
    have hq := (okPatch_iff Q).1 hQ.ok
    rw [List.filter_map, List.length_map]
    have : Q.filter ((fun e => decide (e.kind = 1)) ∘ mixE P) = Q.filter (fun e => decide (e.kind = 1)) := List.filter_congr (fun e he => by
      obtain ⟨h1, h2, h3⟩ := mixE_facts hP hQ he
      have a := kind_old h1
      have b := kind_old (hq.1 e he)
      rw [← h3] at a
      rw [← hQ.old e he] at b
      show decide ((mixE P e).kind = 1) = decide (e.kind = 1)
      rw [decide_eq_decide, a, b])
    rw [this]
    exact h

def StatutePost (w : World) (e : Ending) (w' : World) : Prop :=
  ∃ v1 v2 v3 S P Q, e = .returned (.tuple #[v1, v2, v3]) ∧ OwnL artCells S w.heap.size w' v1 ∧ OwnL editCells P w.heap.size w' v2 ∧ OwnL editCells Q w.heap.size w' v3 ∧ okStat S = true ∧ Fits S P ∧ Fits S Q ∧ Below w.heap.size w w'

theorem own_same {α : Type} {f : α → List Value} {xs : List α} {base b : Nat} {w w' : World} {v : Value} (h : OwnL f xs base w v) (ho : Only b w w') (hb : b < base) (h0 : b ≤ base) : OwnL f xs b w' v := (h.only hb ho).less h0

set_option maxRecDepth 100000 in
set_option maxHeartbeats 4000000 in
theorem statute_any (A : Option Addr) (n c : Nat) (w : World) (h : BytesAt w w.heap.size A n) :
    Calls Tryd.prog 5 #[.slice A n c] w (StatutePost w) := by
  have HF := Lib.hid (from_any A n c w h)
  clear h
  obtain ⟨i0, hi, hz0, hz1, hz2⟩ := info_parts Tryd.infoE
  go_enter Tryd.func5, Tryd.ntmps5
  go_wp2_with (fail)
  refine (HF.out).mono ?_
  rintro e w1 ⟨rfl, hs1, hb1⟩
  have HS1 := Lib.hid hs1
  have HB1 := Lib.hid hb1
  have hlt1 := hs1.lt.1
  clear hs1 hb1 HF
  go_wp2_with (fail)
  refine (drawOk_any w.heap.size w.heap.size 0 w1 HS1.out (by omega)).mono ?_
  rintro e w2 ⟨v1, S, rfl, hS, hokS, hs2, ho2⟩
  have HOKS := Lib.hid hokS
  have HS8 := Lib.hid (okStat_len hokS)
  have HB2 := Lib.hid (HB1.out.trans (only_below ho2 (Nat.le_refl _) (by omega)))
  have HT2 := Lib.hid hS
  have HS2 := Lib.hid hs2
  have hz2' := ho2.size
  obtain ⟨T1, t1, rfl, _⟩ := hS
  clear hokS hs2 ho2
  go_wp2_with (fail)
  refine (drawFor_any w.heap.size w.heap.size _ w1.heap.size S _ w2 HS2.out (by omega) HT2.out hlt1 HOKS.out).mono ?_
  rintro e w3 ⟨vp, P0, rfl, hP, hokP, hs3, ho3⟩
  have HOKP := Lib.hid hokP
  have hz3' := ho3.size
  have HT3 := Lib.hid (HT2.out.only hlt1 ho3)
  have HB3 := Lib.hid (HB2.out.trans (only_below ho3 (Nat.le_refl _) (by omega)))
  have HP3 := Lib.hid hP
  have HS3 := Lib.hid hs3
  obtain ⟨T2, t2, rfl, _⟩ := hP
  clear hokP hs3 ho3
  go_wp2_with (fail)
  refine (fit1_any S P0 w3 _ _ (HT3.out.slR (size := 2) (fun _ => rfl)) (HP3.out.slR (size := 4) (fun _ => rfl)) HS8.out (by have := okPatch_len HOKP.out; omega)).mono ?_
  rintro e w4 ⟨v2, rfl, hP4, hb4⟩
  have hz4' := hb4.size
  have HFP := Lib.hid (Fits.of HOKP.out HS8.out)
  generalize fitF S S.length P0 = P at hP4 HFP
  have HP4 := Lib.hid hP4
  have HT4 := Lib.hid (HT3.out.on hb4)
  have HB4 := Lib.hid (HB3.out.trans (hb4.mono (by omega)))
  have HS4 := Lib.hid (HS3.out.below hb4 (by omega))
  obtain ⟨T3, t3, rfl, _⟩ := hP4
  clear hb4 HP3
  go_wp2_with (fail)
  refine (drawFor_any w.heap.size w.heap.size _ w1.heap.size S _ w4 HS4.out (by omega) HT4.out hlt1 HOKS.out).mono ?_
  rintro e w5 ⟨vq, Q0, rfl, hQ, hokQ, hs5, ho5⟩
  have HOKQ := Lib.hid hokQ
  have hz5' := ho5.size
  have HT5 := Lib.hid (HT4.out.only hlt1 ho5)
  have HP5 := Lib.hid (HP4.out.only (by omega) ho5)
  have HB5 := Lib.hid (HB4.out.trans (only_below ho5 (Nat.le_refl _) (by omega)))
  have HQ5 := Lib.hid hQ
  have HS5 := Lib.hid hs5
  obtain ⟨T4, t4, rfl, _⟩ := hQ
  clear hokQ hs5 ho5
  go_wp2_with (fail)
  refine (fit1_any S Q0 w5 _ _ (HT5.out.slR (size := 2) (fun _ => rfl)) (HQ5.out.slR (size := 4) (fun _ => rfl)) HS8.out (by have := okPatch_len HOKQ.out; omega)).mono ?_
  rintro e w6 ⟨v3, rfl, hQ6, hb6⟩
  have hz6' := hb6.size
  have HFQ := Lib.hid (Fits.of HOKQ.out HS8.out)
  generalize fitF S S.length Q0 = Q at hQ6 HFQ
  have HQ6 := Lib.hid hQ6
  have HT6 := Lib.hid (HT5.out.on hb6)
  have HP6 := Lib.hid (HP5.out.on hb6)
  have HB6 := Lib.hid (HB5.out.trans (hb6.mono (by omega)))
  have HS6 := Lib.hid (HS5.out.below hb6 (by omega))
  obtain ⟨T5, t5, rfl, hq1, hq2, _⟩ := hQ6
  unfold maxLen at hq2
  clear hb6 HQ5
  go_wp2_with (fail)
  refine (one_any w.heap.size w.heap.size _ 2 w6 HS6.out (by omega) (by omega) (by omega)).mono ?_
  rintro e w7 ⟨x7, rfl, hs7, ho7⟩
  have hz7' := ho7.size
  have HT7 := Lib.hid (HT6.out.only hlt1 ho7)
  have HP7 := Lib.hid (HP6.out.only (by omega) ho7)
  have HQ7 := Lib.hid (HQ6.out.only (by omega) ho7)
  have HB7 := Lib.hid (HB6.out.trans (only_below ho7 (Nat.le_refl _) (by omega)))
  clear hs7 ho7
  cases x7 with
  | false =>
    go_wp2
    go_ret3
    exact ⟨_, _, _, S, P, Q, rfl, HT7.out.less (by omega), HP7.out.less (by omega), HQ7.out.less (by omega), HOKS.out, HFP.out, HFQ.out, HB7.out⟩
  | true =>
    have hown0 : (w7.alloc (.cells #[] 44)).ownsRow w7.heap.size 44 4 (.slice (some ⟨w7.heap.size, 0, none⟩) 0 0) 0 [] := by simpa using World.ownsRow_made w7 #[] 0 (Nat.le_refl _) (Nat.zero_le _) rfl
    have HOWN0 := Lib.hid hown0
    have HB0 : Hid (Below w7.heap.size w7 (w7.alloc (.cells #[] 44))) := Lib.hid ((Below.refl _ _).alloc (Nat.le_refl _) _)
    have HFK := Lib.hid (Fits.mix HFP.out HFQ.out)
    have HKM : Hid (∀ m, (h : m < Q.length) → (Q.map (mixE P))[m]? = some (mixE P Q[m])) := Lib.hid (fun m h => by rw [List.getElem?_map, List.getElem?_eq_getElem h]; rfl)
    have HKL : Hid ((Q.map (mixE P)).length = Q.length) := Lib.hid (List.length_map _)
    have hQ16 := okPatch_len HFQ.out.ok
    generalize Q.map (mixE P) = K at HFK HKM HKL
    clear hown0
    go_wp2
    go_loopw [9, 10] (fun o i wr => ∃ (m : Nat), wr.ownsRow w7.heap.size 44 4 o m ((K.take m).flatMap editCells) ∧ i = .int .i64 (m : Int) ∧ m ≤ Q.length ∧ o ≠ .slice none 0 0 ∧ Below w7.heap.size w7 wr) (fun _ i _ => Q.length - (RowKit.intOf i).toNat)
    case atStart => exact ⟨0, HOWN0.out, rfl, by omega, by simp, HB0.out⟩
    case round =>
      obtain ⟨m, hown, rfl, hm, hnn, hb⟩ := hrel
      obtain ⟨g, cap, rfl, hdc, hcm⟩ := own_some hown hnn
      unfold maxLen at hcm
      have HOWN := Lib.hid hown
      have HB := Lib.hid hb
      clear hown hnn hb
      by_cases hlt : m < Q.length
      · obtain ⟨A', c', hv, hc1, hc2, hel⟩ := HQ7.out.slR (size := 4) (fun _ => rfl)
        injection hv with hv1 hv2 hv3
        subst hv1 hv3
        obtain ⟨qb, off, hA', hblt, hcell⟩ := hel (by omega)
        subst hA'
        have hget : Q[m]? = some Q[m] := List.getElem?_eq_getElem hlt
        obtain ⟨c0, c1, c2, c3⟩ := edits_at hcell hget
        have x0 := (HB.out.cell (p := ⟨qb, off + m * 4, none⟩) hblt).trans c0
        have x1 := (HB.out.cell (p := ⟨qb, off + m * 4 + 1, none⟩) hblt).trans c1
        have x2 := (HB.out.cell (p := ⟨qb, off + m * 4 + 2, none⟩) hblt).trans c2
        have x3 := (HB.out.cell (p := ⟨qb, off + m * 4 + 3, none⟩) hblt).trans c3
        have HKT := Lib.hid (take_edits editCells (HKM.out m hlt))
        clear hget hcell c0 c1 c2 c3 hel hv2 hc1 hc2
        have HMX : Hid (mixE P Q[m] = if (editOf P Q[m].id).kind = 0 then Q[m] else editOf P Q[m].id) := Lib.hid rfl
        generalize mixE P Q[m] = M at HKT HMX
        have HED : Hid (Calls Tryd.prog 17 #[.slice T3 P.length t3, .int .i64 Q[m].id] wr (RetB (.agg #[.int .i64 (editOf P Q[m].id).kind, .int .i64 (editOf P Q[m].id).id, .string (editOf P Q[m].id).old, .string (editOf P Q[m].id).new]) wr)) := Lib.hid (editOf1_any P _ wr _ ((HP7.out.on HB.out).slR (size := 4) (fun _ => rfl)))
        generalize editOf P Q[m].id = F at HMX HED
        generalize Q[m] = q at *
        generalize (K.take m).flatMap editCells = L at *
        go_wp2_with (fail)
        refine (HED.out).mono ?_
        rintro e w8 ⟨rfl, hb8⟩
        have hown8 := own_below HOWN.out hb8
        have hbb8 := HB.out.trans (hb8.mono HB.out.size)
        have hsz8 := hbb8.size
        have hqb := World.block_lt_of_cell? wr ⟨qb, off + m * 4, none⟩ x0
        have y0 := (hb8.cell (p := ⟨qb, off + m * 4, none⟩) hqb).trans x0
        have y1 := (hb8.cell (p := ⟨qb, off + m * 4 + 1, none⟩) hqb).trans x1
        have y2 := (hb8.cell (p := ⟨qb, off + m * 4 + 2, none⟩) hqb).trans x2
        have y3 := (hb8.cell (p := ⟨qb, off + m * 4 + 3, none⟩) hqb).trans x3
        clear x0 x1 x2 x3 hb8
        by_cases hk0 : F.kind = 0
        · have e0 : (F.kind == 0) = true := by simp [hk0]
          have HM : Hid (M = q) := Lib.hid (by rw [HMX.out, if_pos hk0])
          have hal := (Below.refl w8.heap.size w8).alloc (Nat.le_refl _) (.cells #[.int .i64 F.kind, .int .i64 F.id, .string F.old, .string F.new] 44)
          have hq8 := World.block_lt_of_cell? w8 ⟨qb, off + m * 4, none⟩ y0
          have z0 := (hal.cell (p := ⟨qb, off + m * 4, none⟩) hq8).trans y0
          have z1 := (hal.cell (p := ⟨qb, off + m * 4 + 1, none⟩) hq8).trans y1
          have z2 := (hal.cell (p := ⟨qb, off + m * 4 + 2, none⟩) hq8).trans y2
          have z3 := (hal.cell (p := ⟨qb, off + m * 4 + 3, none⟩) hq8).trans y3
          clear hk0 hal y0 y1 y2 y3
          go_wp2_with (at_builtin; refine wpList_append_own _ rfl _ _ 25 rfl w7.heap.size 44 i0 (.agg #[.int .i64 0, .int .i64 0, .string ⟨#[]⟩, .string ⟨#[]⟩]) 4 48 Tryd.underlying25 hi hz0 hz1 hz2 rfl (by decide) _ _ _ rfl ((hown8.alloc _).alloc _) ⟨w8.heap.size + 1, 0, none⟩ 1 1 (editCells q) rfl rfl (fun j u hj => new_at2 hj) (fun u hu => edit_one hu) ?c3 ?c4 (base_le (base_le hsz8)) ?_)
          case c3 => unfold maxLen; omega
          case c4 => omega
          · intro v' w9 hown' hgrow hiff
            have hnn' : v' ≠ .slice none 0 0 := by simpa using hiff
            have hb9 := ((hbb8.alloc hsz8 _).alloc (base_le hsz8) _).grown hgrow (base_le (base_le hsz8)) (fun j hj => (hown8.lt j hj).1)
            clear hgrow hiff hown8
            go_wp2
            go_roundw
            case rel => exact ⟨m + 1, by rw [HKT.out, HM.out]; exact hown', by go_num, by omega, hnn', hb9⟩
            case measure => simp [RowKit.intOf]; omega
        · have e0 : (F.kind == 0) = false := by simp [hk0]
          have HM : Hid (M = F) := Lib.hid (by rw [HMX.out, if_neg hk0])
          clear hk0
          go_wp2_with (at_builtin; refine wpList_append_own _ rfl _ _ 25 rfl w7.heap.size 44 i0 (.agg #[.int .i64 0, .int .i64 0, .string ⟨#[]⟩, .string ⟨#[]⟩]) 4 48 Tryd.underlying25 hi hz0 hz1 hz2 rfl (by decide) _ _ _ rfl ((hown8.alloc _).alloc _) ⟨w8.heap.size + 1, 0, none⟩ 1 1 (editCells F) rfl rfl (fun j u hj => new_at2 hj) (fun u hu => edit_one hu) ?c3 ?c4 (base_le (base_le hsz8)) ?_)
          case c3 => unfold maxLen; omega
          case c4 => omega
          · intro v' w9 hown' hgrow hiff
            have hnn' : v' ≠ .slice none 0 0 := by simpa using hiff
            have hb9 := ((hbb8.alloc hsz8 _).alloc (base_le hsz8) _).grown hgrow (base_le (base_le hsz8)) (fun j hj => (hown8.lt j hj).1)
            clear hgrow hiff hown8
            go_wp2
            go_roundw
            case rel => exact ⟨m + 1, by rw [HKT.out, HM.out]; exact hown', by go_num, by omega, hnn', hb9⟩
            case measure => simp [RowKit.intOf]; omega
      · have hge : ¬ (m : Int) < (Q.length : Int) := by omega
        have hKL := HKL.out
        have hmk : m = K.length := by omega
        have hown := HOWN.out
        rw [List.take_of_length_le (by omega)] at hown
        have HOL : Hid (OwnL editCells K w7.heap.size wr (.slice (some ⟨g, 0, none⟩) m cap)) := Lib.hid (by rw [hmk]; exact OwnL.of_own editCells (size := 4) (fun _ => rfl) (by rw [← hmk]; exact hown))
        clear hown hmk hKL
        go_wp2
        go_ret3
        exact ⟨_, _, _, S, P, K, rfl, (HT7.out.on HB.out).less (by omega), (HP7.out.on HB.out).less (by omega), HOL.out.less (by omega), HOKS.out, HFP.out, HFK.out, HB7.out.trans (HB.out.mono (by omega))⟩
end Go.Proofs.YtmgdodgofpapgaaDoor
